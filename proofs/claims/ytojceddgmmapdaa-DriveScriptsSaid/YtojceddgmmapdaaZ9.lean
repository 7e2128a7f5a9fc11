/-
  Walks: Lost of the zones' machine.
-/
import Derived.Test.YtojceddgmmapdaaZ8
namespace Go.Proofs.Ytojceddgmmapdaa
open Go.RowKit

/-- The slice value v reads as the numbers ls; its cells lie in block b (where there are any). -/
def IntsAt (w : World) (v : Value) (ls : List Int) (b : Nat) : Prop :=
  ∃ (a : Option Addr) (c : Nat), v = .slice a ls.length c ∧ (0 < ls.length → ∃ off, a = some ⟨b, off, none⟩ ∧ b < w.heap.size ∧ ∀ j, j < ls.length → w.cell? ⟨b, off + j, none⟩ = some (.int .i64 (ls.getD j 0)))

theorem IntsAt.mod {w w' : World} {v : Value} {ls : List Int} {b : Nat} {S : List Nat} (h : IntsAt w v ls b) (hm : Mod S w w') (hb : b ∉ S) : IntsAt w' v ls b := by
  obtain ⟨a, c, hv, h⟩ := h
  refine ⟨a, c, hv, fun h0 => ?_⟩
  obtain ⟨off, ha, hlt, hc⟩ := h h0
  exact ⟨off, ha, Nat.lt_of_lt_of_le hlt hm.size, fun j hj => (hm.cell hlt hb).trans (hc j hj)⟩

def lostK (ls : List Int) (zs : List (Int × Int)) (k : Nat) : List (Int × Int) := (lostL ls zs).take k ++ zs.drop k

theorem lostL_len (ls : List Int) (zs : List (Int × Int)) : (lostL ls zs).length = zs.length := by simp [lostL]
theorem lostK_len (ls : List Int) (zs : List (Int × Int)) (k : Nat) (hk : k ≤ zs.length) : (lostK ls zs k).length = zs.length := by
  simp [lostK, lostL_len]; omega
theorem lostK_zero (ls : List Int) (zs : List (Int × Int)) : lostK ls zs 0 = zs := by simp [lostK]
theorem lostK_end (ls : List Int) (zs : List (Int × Int)) : lostK ls zs zs.length = lostL ls zs := by
  simp only [lostK, List.drop_length, List.append_nil]; rw [← lostL_len ls zs, List.take_length]
theorem lostK_at (ls : List Int) (zs : List (Int × Int)) (k : Nat) (hk : k < zs.length) : stOf (lostK ls zs k) k = stOf zs k ∧ lnOf (lostK ls zs k) k = lnOf zs k := by
  have e : (lostK ls zs k)[k]? = zs[k]? := by
    simp only [lostK]
    rw [List.getElem?_append_right (by simp [lostL_len]; omega)]
    simp [lostL_len, Nat.min_eq_left (Nat.le_of_lt hk)]
  simp only [stOf, lnOf, List.getD_eq_getElem?_getD, e]; exact ⟨trivial, trivial⟩
theorem lostK_succ (ls : List Int) (zs : List (Int × Int)) (k : Nat) (hk : k < zs.length) : lostK ls zs (k + 1) = (lostK ls zs k).set k (lostZ ls[k]? (stOf zs k, lnOf zs k)) := by
  apply List.ext_getElem?
  intro j
  rw [List.getElem?_set, lostK_len _ _ _ (Nat.le_of_lt hk)]
  have hl := lostL_len ls zs
  simp only [lostK]
  by_cases h : j < k
  · rw [List.getElem?_append_left (by simp; omega), List.getElem?_append_left (by simp; omega), if_neg (by omega)]
    simp [h, Nat.lt_succ_of_lt h]
  · by_cases h' : j = k
    · subst h'
      rw [List.getElem?_append_left (by simp; omega), if_pos rfl]
      simp [hk, lostL, stOf, lnOf, List.getD_eq_getElem?_getD]
    · rw [List.getElem?_append_right (by simp; omega), List.getElem?_append_right (by simp; omega), if_neg (by omega)]
      simp only [List.length_take, hl, List.getElem?_drop]
      congr 1
      omega

theorem set_set_st (zs : List (Int × Int)) (k : Nat) (hk : k < zs.length) (x s : Int) : (({ zs := zs, bl := 0, op := 0, ac := 0 : Mc}.setLn k x).setSt k s).zs = zs.set k (s, x) := by
  simp only [Mc.setSt]
  rw [Mc.ln_setLn _ _ hk]; simp [Mc.setLn]

theorem lost_none (v : Value) (w : World) : Calls Try.prog 23 #[.pointer none, v] w fun e w' => e = .returned (.tuple #[]) ∧ w = w' := by
  go_enter Try.func23, Try.ntmps23
  go_wp2
  exact bodyPost_ret (results_none rfl _ _ _) rfl ⟨rfl, rfl⟩

/-- What Lost leaves. -/
def LostPost (bm bz : Nat) (m : Mc) (ls : List Int) (w : World) (e : Ending) (w' : World) : Prop :=
  e = .returned (.tuple #[]) ∧ IsM TM TZ w' bm bz { m with zs := lostL ls m.zs } ∧ Mod [bz] w w'

set_option maxHeartbeats 2000000 in
set_option maxRecDepth 100000 in
theorem lost_any (bm bz : Nat) (m : Mc) (v : Value) (ls : List Int) (b : Nat) (w : World) (hI : IsM TM TZ w bm bz m) (hn : m.zs.length ≤ 64) (hv : IntsAt w v ls b) (hb : b ≠ bz) (hls : ls.length ≤ 9223372036854775807) :
    Calls Try.prog 23 #[.pointer (some ⟨bm, 0, none⟩), v] w (LostPost bm bz m ls w) := by
  have hlt := hI.lt
  obtain ⟨hlm, hlz⟩ := hlt
  obtain ⟨⟨cap, hm⟩, ⟨r, hz⟩, hne⟩ := hI
  have c0 := hm.cell (i := 0) rfl
  obtain ⟨a, c, rfl, ha⟩ := hv
  have HI : Hid (IsM TM TZ w bm bz m) := ⟨⟨cap, hm⟩, ⟨r, hz⟩, hne⟩
  clear hm hz
  have Ha := Lib.hid ha; clear ha
  go_enter Try.func23, Try.ntmps23
  go_wp2_with fail
  go_loopw [14] (fun i wr => ∃ k : Nat, k ≤ m.zs.length ∧ i = .int .i64 k ∧ IsM TM TZ wr bm bz { m with zs := lostK ls m.zs k } ∧ Mod [bz] w wr) (fun i _ => m.zs.length - (intOf i).toNat)
  case atStart => exact ⟨0, Nat.zero_le _, rfl, by rw [lostK_zero]; exact HI.out, Mod.refl _ _⟩
  case round =>
    obtain ⟨k, hk, rfl, hIr, hmr⟩ := hrel
    have HIr := Lib.hid hIr; clear hIr
    have Hmr := Lib.hid hmr; clear hmr
    by_cases hlt : k < m.zs.length
    · have hlt' : k < ({ m with zs := lostK ls m.zs k } : Mc).zs.length := by show k < (lostK ls m.zs k).length; rw [lostK_len _ _ _ hk]; exact hlt
      have k0 := HIr.out.cellSt hlt'
      have k1 := HIr.out.cellLn hlt'
      have kf := HIr.out.frozen
      have hat := lostK_at ls m.zs k hlt
      have e0 : ({ m with zs := lostK ls m.zs k } : Mc).st k = stOf m.zs k := hat.1
      have e1 : ({ m with zs := lostK ls m.zs k } : Mc).ln k = lnOf m.zs k := hat.2
      rw [e0] at k0
      rw [e1] at k1
      obtain ⟨cap2, hmz⟩ := HIr.out.cellZ
      have hmz' : wr.cell? ⟨bm, 0, none⟩ = some (.slice (some ⟨bz, 0, none⟩) m.zs.length cap2) := by rw [hmz]; show some (Value.slice _ (lostK ls m.zs k).length _) = _; rw [lostK_len _ _ _ hk]
      clear hmz hat e0 e1
      have hsz := Hmr.out.size
      have hup : ∀ (p : Int × Int), lostZ ls[k]? (stOf m.zs k, lnOf m.zs k) = p → ∀ W, IsM TM TZ W bm bz { m with zs := (lostK ls m.zs k).set k p } → IsM TM TZ W bm bz { m with zs := lostK ls m.zs (k + 1) } := by
        intro p hp W hW; rw [lostK_succ _ _ _ hlt, hp]; exact hW
      have Hup := Lib.hid hup; clear hup
      have hgr : ∀ (W : World), IsM TM TZ W bm bz { m with zs := lostK ls m.zs k } → ∀ x s, IsM TM TZ ((W.setCell ⟨bz, k * 2 + 1, none⟩ (.int .i64 x)).setCell ⟨bz, k * 2, none⟩ (.int .i64 s)) bm bz { m with zs := (lostK ls m.zs k).set k (s, x) } := by
        intro W hW x s
        have := (hW.setLn hlt' x).setSt (i := k) (by simpa using hlt') s
        have e : ((({ m with zs := lostK ls m.zs k } : Mc).setLn k x).setSt k s) = { m with zs := (lostK ls m.zs k).set k (s, x) } := by
          simp only [Mc.setSt]; rw [Mc.ln_setLn _ _ hlt']; simp [Mc.setLn]
        rwa [e] at this
      have Hgr := Lib.hid hgr; clear hgr
      have hgs : ∀ (W : World), IsM TM TZ W bm bz { m with zs := lostK ls m.zs k } → ∀ s, IsM TM TZ (W.setCell ⟨bz, k * 2, none⟩ (.int .i64 s)) bm bz { m with zs := (lostK ls m.zs k).set k (s, lnOf m.zs k) } := by
        intro W hW s
        have := hW.setSt hlt' s
        simp only [Mc.setSt] at this
        have e : ({ m with zs := lostK ls m.zs k } : Mc).ln k = lnOf m.zs k := (lostK_at ls m.zs k hlt).2
        rwa [e] at this
      have Hgs := Lib.hid hgs; clear hgs
      have hid : (lostK ls m.zs k).set k (stOf m.zs k, lnOf m.zs k) = lostK ls m.zs k := by
        apply List.ext_getElem?
        intro j
        rw [List.getElem?_set]
        split
        · rename_i hkj
          subst hkj
          have hl : k < (lostK ls m.zs k).length := hlt'
          have h2 := lostK_at ls m.zs k hlt
          have e1 := stOf_eq _ _ hl
          have e2 := lnOf_eq _ _ hl
          rw [List.getElem?_eq_getElem hl]
          exact congrArg some (Prod.ext (h2.1.symm.trans e1) (h2.2.symm.trans e2))
        · rfl
      have Hid' := Lib.hid hid; clear hid
      generalize hst : stOf m.zs k = st at *
      generalize hln : lnOf m.zs k = ln at *
      have Hst := Lib.hid hst; clear hst
      have Hln := Lib.hid hln; clear hln
      by_cases hkl : k < ls.length
      · obtain ⟨off, rfl, hbs, hcs⟩ := Ha.out (by omega)
        have hx : wr.cell? ⟨b, off + k, none⟩ = some (.int .i64 (ls.getD k 0)) := (Hmr.out.cell hbs (by simpa using hb)).trans (hcs k hkl)
        have hget : Hid (ls[k]? = some (ls.getD k 0)) := by show ls[k]? = _; simp [List.getD_eq_getElem?_getD, List.getElem?_eq_getElem hkl]
        clear hcs
        generalize ls.getD k 0 = x at *
        by_cases h1 : 0 ≤ x
        · by_cases h2 : x < ln
          · have Hp : Hid (lostZ ls[k]? (st, ln) = (restF x, x)) := by show lostZ ls[k]? (st, ln) = _; rw [hget.out]; simp [lostZ, h1, h2]
            by_cases h4 : st = 4
            · have h4b : (st != 4) = false := by simpa using h4
              clear h4
              go_wp2_with (first | go_quiet (fail) | (go_at_call 45; refine (rest_any _ _).mono ?_; rintro e w' ⟨rfl, rfl⟩))
              go_roundw
              case rel => exact ⟨k + 1, by omega, by go_num, Hup.out (restF x, x) Hp.out _ (by have h := Hgr.out _ (HIr.out.drewN (nq)) x (restF x); first | exact h | exact h.drewN _ | go_show), (by repeat (first | exact Hmr.out | apply Mod.drewN | apply Mod.drew | (refine Mod.set ?_ (.inl (by simp)) _)))⟩
              case measure => simp [intOf]; omega
            · have h4b : (st != 4) = true := by simpa using h4
              clear h4
              go_wp2_with (first | go_quiet (fail) | (go_at_call 45; refine (rest_any _ _).mono ?_; rintro e w' ⟨rfl, rfl⟩))
              go_roundw
              case rel => exact ⟨k + 1, by omega, by go_num, Hup.out (restF x, x) Hp.out _ (by have h := Hgr.out _ (HIr.out.drewN (nq)) x (restF x); first | exact h | exact h.drewN _ | go_show), (by repeat (first | exact Hmr.out | apply Mod.drewN | apply Mod.drew | (refine Mod.set ?_ (.inl (by simp)) _)))⟩
              case measure => simp [intOf]; omega
          · have hd2 : decide (x < ln) = false := by simp; omega
            by_cases h4 : st = 4
            · subst h4
              have Hp : Hid (lostZ ls[k]? (4, ln) = (4, ln)) := by show lostZ ls[k]? (4, ln) = (4, ln); rw [hget.out]; simp only [lostZ]; rw [if_neg (by omega)]; exact if_pos trivial
              go_wp2_with (first | go_quiet (fail) | (go_at_call 45; refine (rest_any _ _).mono ?_; rintro e w' ⟨rfl, rfl⟩))
              go_roundw
              case rel => exact ⟨k + 1, by omega, by go_num, Hup.out (4, ln) Hp.out _ (by rw [Hid'.out]; repeat (first | exact HIr.out | apply IsM.drewN | apply IsM.drew)), (by repeat (first | exact Hmr.out | apply Mod.drewN | apply Mod.drew | (refine Mod.set ?_ (.inl (by simp)) _)))⟩
              case measure => simp [intOf]; omega
            · have h4b : (st != 4) = true := by simpa using h4
              have Hp : Hid (lostZ ls[k]? (st, ln) = (restF ln, ln)) := by show lostZ ls[k]? (st, ln) = (restF ln, ln); rw [hget.out]; simp only [lostZ]; rw [if_neg (by omega)]; rw [if_neg h4]
              clear h4
              go_wp2_with (first | go_quiet (fail) | (go_at_call 45; refine (rest_any _ _).mono ?_; rintro e w' ⟨rfl, rfl⟩))
              go_roundw
              case rel => exact ⟨k + 1, by omega, by go_num, Hup.out (restF ln, ln) Hp.out _ (by have h := Hgs.out _ (HIr.out.drewN (nq)) (restF ln); first | exact h | exact h.drewN _ | go_show), (by repeat (first | exact Hmr.out | apply Mod.drewN | apply Mod.drew | (refine Mod.set ?_ (.inl (by simp)) _)))⟩
              case measure => simp [intOf]; omega
        · have hd1 : decide (0 ≤ x) = false := by simp; omega
          by_cases h4 : st = 4
          · subst h4
            have Hp : Hid (lostZ ls[k]? (4, ln) = (4, ln)) := by show lostZ ls[k]? (4, ln) = (4, ln); rw [hget.out]; simp only [lostZ]; rw [if_neg (by omega)]; exact if_pos trivial
            go_wp2_with (first | go_quiet (fail) | (go_at_call 45; refine (rest_any _ _).mono ?_; rintro e w' ⟨rfl, rfl⟩))
            go_roundw
            case rel => exact ⟨k + 1, by omega, by go_num, Hup.out (4, ln) Hp.out _ (by rw [Hid'.out]; repeat (first | exact HIr.out | apply IsM.drewN | apply IsM.drew)), (by repeat (first | exact Hmr.out | apply Mod.drewN | apply Mod.drew | (refine Mod.set ?_ (.inl (by simp)) _)))⟩
            case measure => simp [intOf]; omega
          · have h4b : (st != 4) = true := by simpa using h4
            have Hp : Hid (lostZ ls[k]? (st, ln) = (restF ln, ln)) := by show lostZ ls[k]? (st, ln) = (restF ln, ln); rw [hget.out]; simp only [lostZ]; rw [if_neg (by omega)]; rw [if_neg h4]
            clear h4
            go_wp2_with (first | go_quiet (fail) | (go_at_call 45; refine (rest_any _ _).mono ?_; rintro e w' ⟨rfl, rfl⟩))
            go_roundw
            case rel => exact ⟨k + 1, by omega, by go_num, Hup.out (restF ln, ln) Hp.out _ (by have h := Hgs.out _ (HIr.out.drewN (nq)) (restF ln); first | exact h | exact h.drewN _ | go_show), (by repeat (first | exact Hmr.out | apply Mod.drewN | apply Mod.drew | (refine Mod.set ?_ (.inl (by simp)) _)))⟩
            case measure => simp [intOf]; omega
      · have hkd : decide (k < ls.length) = false := by simpa using hkl
        have hget : Hid (ls[k]? = none) := by show ls[k]? = none; simp; omega
        by_cases h4 : st = 4
        · subst h4
          have Hp : Hid (lostZ ls[k]? (4, ln) = (4, ln)) := by show lostZ ls[k]? (4, ln) = (4, ln); rw [hget.out]; simp only [lostZ]; exact if_pos trivial
          go_wp2_with (first | go_quiet (fail) | (go_at_call 45; refine (rest_any _ _).mono ?_; rintro e w' ⟨rfl, rfl⟩))
          go_roundw
          case rel => exact ⟨k + 1, by omega, by go_num, Hup.out (4, ln) Hp.out _ (by rw [Hid'.out]; repeat (first | exact HIr.out | apply IsM.drewN | apply IsM.drew)), (by repeat (first | exact Hmr.out | apply Mod.drewN | apply Mod.drew | (refine Mod.set ?_ (.inl (by simp)) _)))⟩
          case measure => simp [intOf]; omega
        · have h4b : (st != 4) = true := by simpa using h4
          have Hp : Hid (lostZ ls[k]? (st, ln) = (restF ln, ln)) := by show lostZ ls[k]? (st, ln) = (restF ln, ln); rw [hget.out]; simp only [lostZ]; rw [if_neg h4]
          clear h4
          go_wp2_with (first | go_quiet (fail) | (go_at_call 45; refine (rest_any _ _).mono ?_; rintro e w' ⟨rfl, rfl⟩))
          go_roundw
          case rel => exact ⟨k + 1, by omega, by go_num, Hup.out (restF ln, ln) Hp.out _ (by have h := Hgs.out _ (HIr.out.drewN (nq)) (restF ln); first | exact h | exact h.drewN _ | go_show), (by repeat (first | exact Hmr.out | apply Mod.drewN | apply Mod.drew | (refine Mod.set ?_ (.inl (by simp)) _)))⟩
          case measure => simp [intOf]; omega
    · have hd : decide (k < m.zs.length) = false := by simpa using hlt
      have hke : Hid (k = m.zs.length) := by show k = m.zs.length; omega
      go_wp2_with fail
      go_end0
      exact ⟨rfl, by have h := HIr.out; rw [hke.out, lostK_end] at h; exact h, Hmr.out⟩

end Go.Proofs.Ytojceddgmmapdaa
