/-
  The document's zones: Lost comes to lostL.
-/
import Derived.Test.YtojceddgmmapdaaZQ6
namespace Go.Proofs.Ytojceddgmmapdaa
open Go.RowKit

def RLostPost (bm bz : Nat) (m : Mc) (ls : List Int) (w : World) (e : Ending) (w' : World) : Prop :=
  e = .returned (.tuple #[]) ∧ IsM RM RZ w' bm bz { m with zs := lostL ls m.zs } ∧ Mod [bz] w w'

theorem setCell_drewN (w : World) (n : Nat) (a : Addr) (v : Value) : (w.drewN n).setCell a v = (w.setCell a v).drewN n := rfl
theorem alloc_drewN (w : World) (n : Nat) (o : Obj) : (w.drewN n).alloc o = (w.alloc o).drewN n := rfl
attribute [local go_sem] setCell_drewN alloc_drewN

set_option maxHeartbeats 2000000 in
set_option maxRecDepth 100000 in
theorem rlost_any (bm bz : Nat) (m : Mc) (v : Value) (ls : List Int) (b : Nat) (w : World) (hI : IsM RM RZ w bm bz m) (hn : m.zs.length ≤ 64) (hv : IntsAt w v ls b) (hb : b ≠ bz) (hls : ls.length ≤ 9223372036854775807) :
    Calls Try.prog 24 #[.pointer (some ⟨bm, 0, none⟩), v] w (RLostPost bm bz m ls w) := by
  have hlt := hI.lt
  obtain ⟨hlm, hlz⟩ := hlt
  obtain ⟨a, c, rfl, ha⟩ := hv
  have HI := Lib.hid hI; clear hI
  have hne : bm ≠ bz := HI.out.ne
  have Ha := Lib.hid ha; clear ha
  go_enter Try.func24, Try.ntmps24
  go_wp2_with fail
  go_loopw [4] (fun i wr => ∃ k : Nat, k ≤ m.zs.length ∧ i = .int .i64 k ∧ IsM RM RZ wr bm bz { m with zs := lostK ls m.zs k } ∧ Mod [bz] w wr) (fun i _ => m.zs.length - (intOf i).toNat)
  case atStart => exact ⟨0, Nat.zero_le _, rfl, by rw [lostK_zero]; exact HI.out, Mod.refl _ _⟩
  case round =>
    obtain ⟨k, hk, rfl, hIr, hmr⟩ := hrel
    have HIr := Lib.hid hIr; clear hIr
    have Hmr := Lib.hid hmr; clear hmr
    obtain ⟨cap2, hmz⟩ := HIr.out.cellZ
    have hmz' : wr.cell? ⟨bm, 0, none⟩ = some (.slice (some ⟨bz, 0, none⟩) m.zs.length cap2) := by rw [hmz]; show some (Value.slice _ (lostK ls m.zs k).length _) = _; rw [lostK_len _ _ _ hk]
    clear hmz
    have hsz := Hmr.out.size
    have hlmr : bm < wr.heap.size := by omega
    have hlzr : bz < wr.heap.size := by omega
    by_cases hlt : k < m.zs.length
    · have hlt' : k < ({ m with zs := lostK ls m.zs k } : Mc).zs.length := by show k < (lostK ls m.zs k).length; rw [lostK_len _ _ _ hk]; exact hlt
      have k0 := HIr.out.cellSt hlt'
      have k1 := HIr.out.cellLn hlt'
      have kf := HIr.out.frozen
      have hat := lostK_at ls m.zs k hlt
      have e0 : ({ m with zs := lostK ls m.zs k } : Mc).st k = stOf m.zs k := hat.1
      have e1 : ({ m with zs := lostK ls m.zs k } : Mc).ln k = lnOf m.zs k := hat.2
      rw [e0] at k0
      rw [e1] at k1
      clear hat e0 e1
      have hgr : ∀ (s x : Int), lostZ ls[k]? (stOf m.zs k, lnOf m.zs k) = (s, x) → ∀ W, IsM RM RZ W bm bz { m with zs := lostK ls m.zs k } → IsM RM RZ ((W.setCell ⟨bz, k * 2, none⟩ (.int .i64 s)).setCell ⟨bz, k * 2 + 1, none⟩ (.int .i64 x)) bm bz { m with zs := lostK ls m.zs (k + 1) } := by
        intro s x hp W hW
        have := (hW.setSt hlt' s).setLn (i := k) (by simpa using hlt') x
        have e : ((({ m with zs := lostK ls m.zs k } : Mc).setSt k s).setLn k x) = { m with zs := lostK ls m.zs (k + 1) } := by
          rw [lostK_succ _ _ _ hlt, hp]
          simp only [Mc.setLn]; rw [Mc.st_setSt _ _ hlt', if_pos rfl]; simp [Mc.setSt]
        rwa [e] at this
      have Hgr := Lib.hid hgr; clear hgr
      generalize hst : stOf m.zs k = st at *
      generalize hln : lnOf m.zs k = ln at *
      have Hst := Lib.hid hst; clear hst
      have Hln := Lib.hid hln; clear hln
      by_cases hkl : k < ls.length
      · obtain ⟨off, rfl, hbs, hcs⟩ := Ha.out (by omega)
        have hx : wr.cell? ⟨b, off + k, none⟩ = some (.int .i64 (ls.getD k 0)) := (Hmr.out.cell hbs (by simpa using hb)).trans (hcs k hkl)
        have hget : Hid (ls[k]? = some (ls.getD k 0)) := by show ls[k]? = _; simp [List.getD_eq_getElem?_getD, List.getElem?_eq_getElem hkl]
        have hblr : b < wr.heap.size := by omega
        clear hcs
        generalize ls.getD k 0 = x at *
        by_cases h1 : 0 ≤ x
        · by_cases h2 : x < ln
          · by_cases h4 : st = 4
            · have h4b : (st == 4) = true := by simpa using h4
              have hsh : Hid (lostZ ls[k]? (st, ln) = (restF x, x)) := by show lostZ ls[k]? (st, ln) = _; rw [hget.out]; simp [lostZ, h1, h2]
              clear h4
              by_cases h0 : x = 0
              · have Hp : Hid (lostZ ls[k]? (st, ln) = (0, x)) := by show lostZ ls[k]? (st, ln) = (0, x); rw [hsh.out]; rw [show restF x = 0 from if_pos h0]
                have hb0 : (x == 0) = true := by simpa using h0
                clear h0
                go_wp2_with (first | go_quiet (fail) | go_region)
                go_roundw
                case rel => exact ⟨k + 1, by omega, by go_num, (by repeat (first | exact Hgr.out 0 x Hp.out _ HIr.out | apply IsM.drewN | apply IsM.drew | apply IsM.alloc)), (by repeat (first | exact Hmr.out | apply Mod.drewN | apply Mod.drew | apply Mod.alloc | (refine Mod.set ?_ (.inl (by simp)) _)))⟩
                case measure => simp [intOf]; omega
              · have Hp : Hid (lostZ ls[k]? (st, ln) = (3, x)) := by show lostZ ls[k]? (st, ln) = (3, x); rw [hsh.out]; rw [show restF x = 3 from if_neg h0]
                have hb0 : (x == 0) = false := by simpa using h0
                clear h0
                go_wp2_with (first | go_quiet (fail) | go_region)
                go_roundw
                case rel => exact ⟨k + 1, by omega, by go_num, (by repeat (first | exact Hgr.out 3 x Hp.out _ HIr.out | apply IsM.drewN | apply IsM.drew | apply IsM.alloc)), (by repeat (first | exact Hmr.out | apply Mod.drewN | apply Mod.drew | apply Mod.alloc | (refine Mod.set ?_ (.inl (by simp)) _)))⟩
                case measure => simp [intOf]; omega
            · have h4b : (st == 4) = false := by simpa using h4
              have hsh : Hid (lostZ ls[k]? (st, ln) = (restF x, x)) := by show lostZ ls[k]? (st, ln) = _; rw [hget.out]; simp [lostZ, h1, h2]
              clear h4
              by_cases h0 : x = 0
              · have Hp : Hid (lostZ ls[k]? (st, ln) = (0, x)) := by show lostZ ls[k]? (st, ln) = (0, x); rw [hsh.out]; rw [show restF x = 0 from if_pos h0]
                have hb0 : (x == 0) = true := by simpa using h0
                clear h0
                go_wp2_with (first | go_quiet (fail) | go_region)
                go_roundw
                case rel => exact ⟨k + 1, by omega, by go_num, (by repeat (first | exact Hgr.out 0 x Hp.out _ HIr.out | apply IsM.drewN | apply IsM.drew | apply IsM.alloc)), (by repeat (first | exact Hmr.out | apply Mod.drewN | apply Mod.drew | apply Mod.alloc | (refine Mod.set ?_ (.inl (by simp)) _)))⟩
                case measure => simp [intOf]; omega
              · have Hp : Hid (lostZ ls[k]? (st, ln) = (3, x)) := by show lostZ ls[k]? (st, ln) = (3, x); rw [hsh.out]; rw [show restF x = 3 from if_neg h0]
                have hb0 : (x == 0) = false := by simpa using h0
                clear h0
                go_wp2_with (first | go_quiet (fail) | go_region)
                go_roundw
                case rel => exact ⟨k + 1, by omega, by go_num, (by repeat (first | exact Hgr.out 3 x Hp.out _ HIr.out | apply IsM.drewN | apply IsM.drew | apply IsM.alloc)), (by repeat (first | exact Hmr.out | apply Mod.drewN | apply Mod.drew | apply Mod.alloc | (refine Mod.set ?_ (.inl (by simp)) _)))⟩
                case measure => simp [intOf]; omega
          · have hd2 : decide (x < ln) = false := by simp; omega
            by_cases h4 : st = 4
            · subst h4
              have Hp : Hid (lostZ ls[k]? (4, ln) = (4, ln)) := by show lostZ ls[k]? (4, ln) = (4, ln); rw [hget.out]; simp only [lostZ]; rw [if_neg (by omega)]; exact if_pos trivial
              go_wp2_with (first | go_quiet (fail) | go_region)
              go_roundw
              case rel => exact ⟨k + 1, by omega, by go_num, (by repeat (first | exact Hgr.out 4 ln Hp.out _ HIr.out | apply IsM.drewN | apply IsM.drew | apply IsM.alloc)), (by repeat (first | exact Hmr.out | apply Mod.drewN | apply Mod.drew | apply Mod.alloc | (refine Mod.set ?_ (.inl (by simp)) _)))⟩
              case measure => simp [intOf]; omega
            · have h4b : (st == 4) = false := by simpa using h4
              have H4 := Lib.hid h4; clear h4
              by_cases h0 : ln = 0
              · have Hp : Hid (lostZ ls[k]? (st, ln) = (0, ln)) := by show lostZ ls[k]? (st, ln) = (0, ln); rw [hget.out]; simp only [lostZ]; rw [if_neg (by omega)]; rw [if_neg H4.out]; rw [show restF ln = 0 from if_pos h0]
                have hb0 : (ln == 0) = true := by simpa using h0
                clear h0
                go_wp2_with (first | go_quiet (fail) | go_region)
                go_roundw
                case rel => exact ⟨k + 1, by omega, by go_num, (by repeat (first | exact Hgr.out 0 ln Hp.out _ HIr.out | apply IsM.drewN | apply IsM.drew | apply IsM.alloc)), (by repeat (first | exact Hmr.out | apply Mod.drewN | apply Mod.drew | apply Mod.alloc | (refine Mod.set ?_ (.inl (by simp)) _)))⟩
                case measure => simp [intOf]; omega
              · have Hp : Hid (lostZ ls[k]? (st, ln) = (3, ln)) := by show lostZ ls[k]? (st, ln) = (3, ln); rw [hget.out]; simp only [lostZ]; rw [if_neg (by omega)]; rw [if_neg H4.out]; rw [show restF ln = 3 from if_neg h0]
                have hb0 : (ln == 0) = false := by simpa using h0
                clear h0
                go_wp2_with (first | go_quiet (fail) | go_region)
                go_roundw
                case rel => exact ⟨k + 1, by omega, by go_num, (by repeat (first | exact Hgr.out 3 ln Hp.out _ HIr.out | apply IsM.drewN | apply IsM.drew | apply IsM.alloc)), (by repeat (first | exact Hmr.out | apply Mod.drewN | apply Mod.drew | apply Mod.alloc | (refine Mod.set ?_ (.inl (by simp)) _)))⟩
                case measure => simp [intOf]; omega
        · have hd1 : decide (0 ≤ x) = false := by simp; omega
          by_cases h4 : st = 4
          · subst h4
            have Hp : Hid (lostZ ls[k]? (4, ln) = (4, ln)) := by show lostZ ls[k]? (4, ln) = (4, ln); rw [hget.out]; simp only [lostZ]; rw [if_neg (by omega)]; exact if_pos trivial
            go_wp2_with (first | go_quiet (fail) | go_region)
            go_roundw
            case rel => exact ⟨k + 1, by omega, by go_num, (by repeat (first | exact Hgr.out 4 ln Hp.out _ HIr.out | apply IsM.drewN | apply IsM.drew | apply IsM.alloc)), (by repeat (first | exact Hmr.out | apply Mod.drewN | apply Mod.drew | apply Mod.alloc | (refine Mod.set ?_ (.inl (by simp)) _)))⟩
            case measure => simp [intOf]; omega
          · have h4b : (st == 4) = false := by simpa using h4
            have H4 := Lib.hid h4; clear h4
            by_cases h0 : ln = 0
            · have Hp : Hid (lostZ ls[k]? (st, ln) = (0, ln)) := by show lostZ ls[k]? (st, ln) = (0, ln); rw [hget.out]; simp only [lostZ]; rw [if_neg (by omega)]; rw [if_neg H4.out]; rw [show restF ln = 0 from if_pos h0]
              have hb0 : (ln == 0) = true := by simpa using h0
              clear h0
              go_wp2_with (first | go_quiet (fail) | go_region)
              go_roundw
              case rel => exact ⟨k + 1, by omega, by go_num, (by repeat (first | exact Hgr.out 0 ln Hp.out _ HIr.out | apply IsM.drewN | apply IsM.drew | apply IsM.alloc)), (by repeat (first | exact Hmr.out | apply Mod.drewN | apply Mod.drew | apply Mod.alloc | (refine Mod.set ?_ (.inl (by simp)) _)))⟩
              case measure => simp [intOf]; omega
            · have Hp : Hid (lostZ ls[k]? (st, ln) = (3, ln)) := by show lostZ ls[k]? (st, ln) = (3, ln); rw [hget.out]; simp only [lostZ]; rw [if_neg (by omega)]; rw [if_neg H4.out]; rw [show restF ln = 3 from if_neg h0]
              have hb0 : (ln == 0) = false := by simpa using h0
              clear h0
              go_wp2_with (first | go_quiet (fail) | go_region)
              go_roundw
              case rel => exact ⟨k + 1, by omega, by go_num, (by repeat (first | exact Hgr.out 3 ln Hp.out _ HIr.out | apply IsM.drewN | apply IsM.drew | apply IsM.alloc)), (by repeat (first | exact Hmr.out | apply Mod.drewN | apply Mod.drew | apply Mod.alloc | (refine Mod.set ?_ (.inl (by simp)) _)))⟩
              case measure => simp [intOf]; omega
      · have hkd : decide (k < ls.length) = false := by simpa using hkl
        have hget : Hid (ls[k]? = none) := by show ls[k]? = none; simp; omega
        by_cases h4 : st = 4
        · subst h4
          have Hp : Hid (lostZ ls[k]? (4, ln) = (4, ln)) := by show lostZ ls[k]? (4, ln) = (4, ln); rw [hget.out]; simp only [lostZ]; exact if_pos trivial
          go_wp2_with (first | go_quiet (fail) | go_region)
          go_roundw
          case rel => exact ⟨k + 1, by omega, by go_num, (by repeat (first | exact Hgr.out 4 ln Hp.out _ HIr.out | apply IsM.drewN | apply IsM.drew | apply IsM.alloc)), (by repeat (first | exact Hmr.out | apply Mod.drewN | apply Mod.drew | apply Mod.alloc | (refine Mod.set ?_ (.inl (by simp)) _)))⟩
          case measure => simp [intOf]; omega
        · have h4b : (st == 4) = false := by simpa using h4
          have H4 := Lib.hid h4; clear h4
          by_cases h0 : ln = 0
          · have Hp : Hid (lostZ ls[k]? (st, ln) = (0, ln)) := by show lostZ ls[k]? (st, ln) = (0, ln); rw [hget.out]; simp only [lostZ]; rw [if_neg H4.out]; rw [show restF ln = 0 from if_pos h0]
            have hb0 : (ln == 0) = true := by simpa using h0
            clear h0
            go_wp2_with (first | go_quiet (fail) | go_region)
            go_roundw
            case rel => exact ⟨k + 1, by omega, by go_num, (by repeat (first | exact Hgr.out 0 ln Hp.out _ HIr.out | apply IsM.drewN | apply IsM.drew | apply IsM.alloc)), (by repeat (first | exact Hmr.out | apply Mod.drewN | apply Mod.drew | apply Mod.alloc | (refine Mod.set ?_ (.inl (by simp)) _)))⟩
            case measure => simp [intOf]; omega
          · have Hp : Hid (lostZ ls[k]? (st, ln) = (3, ln)) := by show lostZ ls[k]? (st, ln) = (3, ln); rw [hget.out]; simp only [lostZ]; rw [if_neg H4.out]; rw [show restF ln = 3 from if_neg h0]
            have hb0 : (ln == 0) = false := by simpa using h0
            clear h0
            go_wp2_with (first | go_quiet (fail) | go_region)
            go_roundw
            case rel => exact ⟨k + 1, by omega, by go_num, (by repeat (first | exact Hgr.out 3 ln Hp.out _ HIr.out | apply IsM.drewN | apply IsM.drew | apply IsM.alloc)), (by repeat (first | exact Hmr.out | apply Mod.drewN | apply Mod.drew | apply Mod.alloc | (refine Mod.set ?_ (.inl (by simp)) _)))⟩
            case measure => simp [intOf]; omega
    · have hd : decide (k < m.zs.length) = false := by simpa using hlt
      have hke : Hid (k = m.zs.length) := by show k = m.zs.length; omega
      go_wp2_with fail
      go_end0
      exact ⟨rfl, by have h := HIr.out; rw [hke.out, lostK_end] at h; exact h, Hmr.out⟩

/-! ### What holds behind a loss. -/
theorem lostL_at (ls : List Int) (zs : List (Int × Int)) (i : Nat) (hi : i < zs.length) : stOf (lostL ls zs) i = (lostZ ls[i]? (stOf zs i, lnOf zs i)).1 ∧ lnOf (lostL ls zs) i = (lostZ ls[i]? (stOf zs i, lnOf zs i)).2 := by
  have e : (lostL ls zs)[i]? = some (lostZ ls[i]? zs[i]) := by simp [lostL, hi]
  simp only [stOf, lnOf, List.getD_eq_getElem?_getD, e, List.getElem?_eq_getElem hi, Option.getD_some]
  exact ⟨trivial, trivial⟩

theorem lostZ_bounds (l : Option Int) (s n b : Int) (h : 0 ≤ s ∧ s ≤ 4 ∧ 0 ≤ n ∧ n ≤ b) :
    (0 ≤ (lostZ l (s, n)).1 ∧ (lostZ l (s, n)).1 ≤ 4 ∧ 0 ≤ (lostZ l (s, n)).2 ∧ (lostZ l (s, n)).2 ≤ b) ∧ ((lostZ l (s, n)).1 = 1 ∨ (lostZ l (s, n)).1 = 3 → 1 ≤ (lostZ l (s, n)).2) := by
  unfold lostZ restF
  cases l with
  | none =>
    simp only
    split
    · rename_i h4; simp only at h4 ⊢; omega
    · split
      · simp only at *; omega
      · simp only at *; omega
  | some x =>
    simp only
    split
    · split
      · simp only at *; omega
      · simp only at *; omega
    · split
      · rename_i h4; simp only at h4 ⊢; omega
      · split
        · simp only at *; omega
        · simp only at *; omega

theorem ok_lost {m : Mc} (h : m.ok) (ls : List Int) : ({ m with zs := lostL ls m.zs } : Mc).ok := by
  refine ⟨by simpa [lostL_len] using h.n1, by simpa [lostL_len] using h.n2, h.b1, h.b2, h.o1, h.o2, by simpa [lostL_len] using h.a2, fun i hi => ?_⟩
  have hi' : i < m.zs.length := by simpa [lostL_len] using hi
  have e := lostL_at ls m.zs i hi'
  show 0 ≤ stOf (lostL ls m.zs) i ∧ stOf (lostL ls m.zs) i ≤ 4 ∧ 0 ≤ lnOf (lostL ls m.zs) i ∧ lnOf (lostL ls m.zs) i ≤ m.bl
  rw [e.1, e.2]
  exact (lostZ_bounds ls[i]? _ _ m.bl (h.each i hi')).1

theorem held_lost {m : Mc} (h : m.ok) (ls : List Int) : ({ m with zs := lostL ls m.zs } : Mc).held := by
  intro i hi
  have hi' : i < m.zs.length := by simpa [lostL_len] using hi
  have e := lostL_at ls m.zs i hi'
  show stOf (lostL ls m.zs) i = 1 ∨ stOf (lostL ls m.zs) i = 3 → 1 ≤ lnOf (lostL ls m.zs) i
  rw [e.1, e.2]
  exact (lostZ_bounds ls[i]? _ _ m.bl (h.each i hi')).2

end Go.Proofs.Ytojceddgmmapdaa
