/-
  The document's zones: open.
-/
import Derived.Test.YtojceddgmmapdaaZQ1
namespace Go.Proofs.Ytojceddgmmapdaa
open Go.RowKit

set_option maxHeartbeats 2000000 in
set_option maxRecDepth 100000 in
theorem ropen_any (bm bz : Nat) (m : Mc) (i : Nat) (s : Int) (hs : s = 1 ∨ s = 2) (w : World) (hI : IsM RM RZ w bm bz m) (hn : m.zs.length ≤ 64) (hi : i < m.zs.length) :
    Calls Try.prog 43 #[.pointer (some ⟨bm, 0, none⟩), .int .i64 i, .int .i64 s] w fun e w' =>
      e = .returned (.int .i64 (enterF m i s).1) ∧ IsM RM RZ w' bm bz (enterF m i s).2 ∧ Mod [bz] w w' := by
  have HI := Lib.hid hI; clear hI
  have hcs := HI.out.cellSt hi
  have hfz := HI.out.frozen
  have hbz : bz < w.heap.size := HI.out.lt.2
  have hne : bm ≠ bz := HI.out.ne
  have hcO := HI.out.cellO
  have hcA := HI.out.cellA
  obtain ⟨cap, hcz⟩ := HI.out.cellZ
  have hcnt : ∀ (f t : Int) (W : World), IsM RM RZ W bm bz m → Calls Try.prog 44 #[.pointer (some ⟨bm, 0, none⟩), .int .i64 f, .int .i64 t] W fun e w' => e = .returned (.int .i64 (cntR f t m.zs)) ∧ W = w' := fun f t W h => rcount_any bm bz m f t W h hn
  have Hcnt := Lib.hid hcnt; clear hcnt
  by_cases ho : isOp (m.st i) = true
  · rcases hs with rfl | rfl
    · have hfin : enterF m i 1 = (0, m) := by
        rw [isOp_iff] at ho
        unfold enterF; rw [if_pos (by rw [isOp_iff]; exact ho), if_neg (by omega), setSt_self m i hi]
      have Hfin := Lib.hid hfin; clear hfin
      rw [isOp_iff] at ho
      rcases ho with ho | ho
      · rw [ho] at hcs; clear ho
        go_enter Try.func43, Try.ntmps43
        go_wp2_with fail
        go_ret
        rw [Hfin.out]
        exact ⟨rfl, HI.out, Mod.refl _ _⟩
      · rw [ho] at hcs; clear ho
        go_enter Try.func43, Try.ntmps43
        go_wp2_with fail
        go_ret
        rw [Hfin.out]
        exact ⟨rfl, HI.out, Mod.refl _ _⟩
    · have hfin : enterF m i 2 = (0, m.setSt i 2) := by
        rw [isOp_iff] at ho
        unfold enterF; rw [if_pos (by rw [isOp_iff]; exact ho)]
        split
        · rfl
        · have : m.st i = 2 := by omega
          rw [this]
      have Hfin := Lib.hid hfin; clear hfin
      have Hup := Lib.hid (HI.out.setSt hi 2)
      rw [isOp_iff] at ho
      rcases ho with ho | ho
      · rw [ho] at hcs; clear ho
        go_enter Try.func43, Try.ntmps43
        go_wp2_with fail
        go_ret
        rw [Hfin.out]
        exact ⟨rfl, Hup.out, (Mod.refl _ _).set (by simp) _⟩
      · rw [ho] at hcs; clear ho
        go_enter Try.func43, Try.ntmps43
        go_wp2_with fail
        go_ret
        rw [Hfin.out]
        exact ⟨rfl, Hup.out, (Mod.refl _ _).set (by simp) _⟩
  · have ho' : isOp (m.st i) = false := by simpa using ho
    have hb1 : (m.st i == 1) = false := by simp [isOp] at ho; simpa using ho.1
    have hb2 : (m.st i == 2) = false := by simp [isOp] at ho; simpa using ho.2
    clear ho
    by_cases hA : m.st i = 0 ∧ m.ac ≤ cntA m.zs
    · have hfin : enterF m i s = (5, m) := by unfold enterF; rw [if_neg (by simp [ho']), if_pos hA]
      have Hfin := Lib.hid hfin; clear hfin
      obtain ⟨h0, hA⟩ := hA
      rw [h0] at hcs ho'
      clear h0 hb1 hb2
      rw [← cntR_A] at hA
      go_enter Try.func43, Try.ntmps43
      go_wp2_with (first | go_quiet ((go_at_call 44; exact quietW (Hcnt.out 1 3 _ (HI.out.drewN _)))) | go_quiet (fail))
      go_ret
      rw [Hfin.out]
      exact ⟨rfl, HI.out.drewN _, (Mod.refl _ _).drewN _⟩
    · by_cases hO : m.op ≤ cntO m.zs
      · have hS : ∀ k, k < m.zs.length → ∀ nq, (w.drewN nq).cell? ⟨bz, k * 2, none⟩ = some (.int .i64 (stOf m.zs k)) := fun k hk nq => (HI.out.drewN nq).cellSt hk
        have HS := Lib.hid hS; clear hS
        have HnA := Lib.hid hA
        have HhO := Lib.hid hO
        rw [← cntR_O] at hO
        rw [← cntR_A] at hA
        have Ho := Lib.hid ho'
        by_cases h0 : m.st i = 0
        · have hcs0 := hcs
          rw [h0] at hcs
          have hA' : cntR 1 3 m.zs < m.ac := by omega
          clear hA hcs0 hb1 hb2 h0
          go_enter Try.func43, Try.ntmps43
          go_wp2_with (first | go_quiet ((first | (go_at_call 44; exact quietW (Hcnt.out _ _ _ (HI.out.drewN _))))) | go_quiet (fail))
          go_loopw [8, 9] (fun l j wr => ∃ (x : Int) (q : Int), l = .int .i64 x ∧ j = .int .i64 q ∧ -1 ≤ q ∧ q < m.zs.length ∧ Least m.zs q x ∧ ∃ nq, wr = w.drewN nq) (fun _ j _ => (intOf j + 1).toNat)
          case atStart => exact ⟨-1, _, rfl, rfl, by omega, by omega, .inl ⟨rfl, fun j a b => by omega⟩, _, rfl⟩
          case round =>
            obtain ⟨x, q, rfl, rfl, hq1, hq2, hle, nw, rfl⟩ := hrel
            have Hle := Lib.hid hle; clear hle
            by_cases hq : 0 ≤ q
            · obtain ⟨p, rfl⟩ := Int.eq_ofNat_of_zero_le hq
              have hp : p < m.zs.length := by omega
              have hcp := HS.out p hp nw
              by_cases h1 : stOf m.zs p = 1
              · have Hst := Lib.hid h1
                rw [h1] at hcp
                clear h1
                go_wp2_with fail
                go_roundw
                case rel => exact ⟨p, _, rfl, rfl, by omega, by omega, least_hit hp Hst.out, _, rfl⟩
                case measure => first | (simp [intOf]; done) | (simp [intOf]; omega)
              · have Hst := Lib.hid h1
                have hb : (stOf m.zs p == 1) = false := by simpa using h1
                clear h1
                go_wp2_with fail
                go_roundw
                case rel => exact ⟨x, _, rfl, rfl, by omega, by omega, least_miss Hst.out Hle.out, _, rfl⟩
                case measure => first | (simp [intOf]; done) | (simp [intOf]; omega)
            · have hqe : q = -1 := by omega
              subst hqe
              have hd : decide ((0 : Int) ≤ -1) = false := by decide
              have hx := least_end Hle.out
              rcases fidx_cases m.zs with ⟨hf, _⟩ | ⟨j, hj, hf, hj1, _⟩
              · have hfin : enterF m i s = (5, m) := by unfold enterF; rw [if_neg (by simp [ho']), if_neg HnA.out, if_pos HhO.out, hf]; rfl
                have Hfin := Lib.hid hfin; clear hfin
                rw [hf] at hx
                subst hx
                go_wp2_with fail
                go_ret
                rw [Hfin.out]
                exact ⟨rfl, HI.out.drewN _, (Mod.refl _ _).drewN _⟩
              · have hfin : enterF m i s = (0, (m.setSt j 3).setSt i s) := by
                  unfold enterF; rw [if_neg (by simp [ho']), if_neg HnA.out, if_pos HhO.out, if_neg (by omega), hf]; rfl
                have hji : j ≠ i := by rintro rfl; have e : m.st j = 1 := hj1; rw [e] at ho'; exact absurd ho' (by decide)
                have hcj := HS.out j hj nw
                have hcj' : w.cell? ⟨bz, j * 2, none⟩ = some (.int .i64 (stOf m.zs j)) := HI.out.cellSt hj
                have Hfin := Lib.hid hfin; clear hfin hj1
                have Hup := Lib.hid (((HI.out.drewN nw).setSt hj 3).setSt (i := i) (by simpa using hi) s)
                rw [hf] at hx
                subst hx
                go_wp2_with fail
                go_ret
                rw [Hfin.out]
                exact ⟨rfl, Hup.out, (((Mod.refl _ _).drewN _).set (by simp) _).set (by simp) _⟩
        · have hb0 : (m.st i == 0) = false := by simpa using h0
          clear hA h0
          go_enter Try.func43, Try.ntmps43
          go_wp2_with (first | go_quiet ((first | (go_at_call 44; exact quietW (Hcnt.out _ _ _ (HI.out.drewN _))))) | go_quiet (fail))
          go_loopw [8, 9] (fun l j wr => ∃ (x : Int) (q : Int), l = .int .i64 x ∧ j = .int .i64 q ∧ -1 ≤ q ∧ q < m.zs.length ∧ Least m.zs q x ∧ ∃ nq, wr = w.drewN nq) (fun _ j _ => (intOf j + 1).toNat)
          case atStart => exact ⟨-1, _, rfl, rfl, by omega, by omega, .inl ⟨rfl, fun j a b => by omega⟩, _, rfl⟩
          case round =>
            obtain ⟨x, q, rfl, rfl, hq1, hq2, hle, nw, rfl⟩ := hrel
            have Hle := Lib.hid hle; clear hle
            by_cases hq : 0 ≤ q
            · obtain ⟨p, rfl⟩ := Int.eq_ofNat_of_zero_le hq
              have hp : p < m.zs.length := by omega
              have hcp := HS.out p hp nw
              by_cases h1 : stOf m.zs p = 1
              · have Hst := Lib.hid h1
                rw [h1] at hcp
                clear h1
                go_wp2_with fail
                go_roundw
                case rel => exact ⟨p, _, rfl, rfl, by omega, by omega, least_hit hp Hst.out, _, rfl⟩
                case measure => first | (simp [intOf]; done) | (simp [intOf]; omega)
              · have Hst := Lib.hid h1
                have hb : (stOf m.zs p == 1) = false := by simpa using h1
                clear h1
                go_wp2_with fail
                go_roundw
                case rel => exact ⟨x, _, rfl, rfl, by omega, by omega, least_miss Hst.out Hle.out, _, rfl⟩
                case measure => first | (simp [intOf]; done) | (simp [intOf]; omega)
            · have hqe : q = -1 := by omega
              subst hqe
              have hd : decide ((0 : Int) ≤ -1) = false := by decide
              have hx := least_end Hle.out
              rcases fidx_cases m.zs with ⟨hf, _⟩ | ⟨j, hj, hf, hj1, _⟩
              · have hfin : enterF m i s = (5, m) := by unfold enterF; rw [if_neg (by simp [ho']), if_neg HnA.out, if_pos HhO.out, hf]; rfl
                have Hfin := Lib.hid hfin; clear hfin
                rw [hf] at hx
                subst hx
                go_wp2_with fail
                go_ret
                rw [Hfin.out]
                exact ⟨rfl, HI.out.drewN _, (Mod.refl _ _).drewN _⟩
              · have hfin : enterF m i s = (0, (m.setSt j 3).setSt i s) := by
                  unfold enterF; rw [if_neg (by simp [ho']), if_neg HnA.out, if_pos HhO.out, if_neg (by omega), hf]; rfl
                have hji : j ≠ i := by rintro rfl; have e : m.st j = 1 := hj1; rw [e] at ho'; exact absurd ho' (by decide)
                have hcj := HS.out j hj nw
                have hcj' : w.cell? ⟨bz, j * 2, none⟩ = some (.int .i64 (stOf m.zs j)) := HI.out.cellSt hj
                have Hfin := Lib.hid hfin; clear hfin hj1
                have Hup := Lib.hid (((HI.out.drewN nw).setSt hj 3).setSt (i := i) (by simpa using hi) s)
                rw [hf] at hx
                subst hx
                go_wp2_with fail
                go_ret
                rw [Hfin.out]
                exact ⟨rfl, Hup.out, (((Mod.refl _ _).drewN _).set (by simp) _).set (by simp) _⟩
      · have hfin : enterF m i s = (0, m.setSt i s) := by unfold enterF; rw [if_neg (by simp [ho']), if_neg hA, if_neg hO]
        have Hfin := Lib.hid hfin; clear hfin
        have Hup := Lib.hid (fun n : Nat => (HI.out.drewN n).setSt hi s)
        rw [← cntR_O] at hO
        rw [← cntR_A] at hA
        have hO' : cntR 1 2 m.zs < m.op := by omega
        clear hO
        by_cases h0 : m.st i = 0
        · rw [h0] at hcs
          have hA' : cntR 1 3 m.zs < m.ac := by omega
          clear hA h0 hb1 hb2 ho'
          go_enter Try.func43, Try.ntmps43
          go_wp2_with (first | go_quiet ((first | (go_at_call 44; exact quietW (Hcnt.out _ _ _ (HI.out.drewN _))))) | go_quiet (fail))
          go_ret
          rw [Hfin.out]
          exact ⟨rfl, by first | exact Hup.out _ | go_show, by first | exact ((Mod.refl _ _).set (by simp) _).drewN _ | go_show⟩
        · have hb0 : (m.st i == 0) = false := by simpa using h0
          clear hA h0
          go_enter Try.func43, Try.ntmps43
          go_wp2_with (first | go_quiet ((first | (go_at_call 44; exact quietW (Hcnt.out _ _ _ (HI.out.drewN _))))) | go_quiet (fail))
          go_ret
          rw [Hfin.out]
          exact ⟨rfl, by first | exact Hup.out _ | go_show, by first | exact ((Mod.refl _ _).set (by simp) _).drewN _ | go_show⟩

end Go.Proofs.Ytojceddgmmapdaa
