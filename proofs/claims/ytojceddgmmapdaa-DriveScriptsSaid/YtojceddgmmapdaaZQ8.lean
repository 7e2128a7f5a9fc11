/-
  Walk of the law's own function 'same': both machines show the same.
-/
import Derived.Test.YtojceddgmmapdaaZQ7
namespace Go.Proofs.Ytojceddgmmapdaa
open Go.RowKit

theorem bdrewN {B : Nat} {a w : World} (h : Below B a w) (n : Nat) : Below B a (w.drewN n) := ⟨h.os, h.tape, h.output, h.size, h.block⟩

set_option maxHeartbeats 2000000 in
set_option maxRecDepth 100000 in
theorem same05_any (bm bz rm rz : Nat) (m : Mc) (w : World) (hI : IsM TM TZ w bm bz m) (hR : IsM RM RZ w rm rz m) (hn : m.zs.length ≤ 64) :
    Calls Try.prog 22 #[.pointer (some ⟨bm, 0, none⟩), .pointer (some ⟨rm, 0, none⟩)] w fun e w' => e = .returned (.bool true) ∧ Below w.heap.size w w' := by
  have HI := Lib.hid hI; have HR := Lib.hid hR; clear hI hR
  have hlm := HI.out.lt
  have hlr := HR.out.lt
  obtain ⟨cap, hcz⟩ := HR.out.cellZ
  have hF : ∀ W, Below w.heap.size w W → W.cell? ⟨rm, 0, none⟩ = some (.slice (some ⟨rz, 0, none⟩) m.zs.length cap) := fun W hb => (hb.cell (p := ⟨rm, 0, none⟩) HR.out.lt.1).trans hcz
  have HF := Lib.hid hF; clear hF
  go_enter Try.func22, Try.ntmps22
  go_wp2_with fail
  go_loopw [5] (fun i wr => ∃ q : Int, i = .int .i64 q ∧ -1 ≤ q ∧ q ≤ m.zs.length + 1 ∧ Below w.heap.size w wr) (fun i _ => (66 - intOf i).toNat)
  case atStart => exact ⟨-1, rfl, by omega, by omega, Below.refl _ _⟩
  case round =>
    obtain ⟨q, rfl, hq1, hq2, hb⟩ := hrel
    have Hb := Lib.hid hb; clear hb
    have hsz := Hb.out.size
    have hz0 := HF.out _ Hb.out
    by_cases hle : q ≤ m.zs.length
    · have HIr := Lib.hid (HI.out.below Hb.out)
      go_wp2_with fail
      refine (get_any bm bz m q _ HIr.out).mono ?_
      rintro e w1 ⟨rfl, hb1⟩
      have Hb1 := Lib.hid (Hb.out.trans (hb1.mono hsz))
      have hsz1 := Hb1.out.size
      have hz1 := HF.out _ Hb1.out
      have hlrz : rz < w1.heap.size := by omega
      have hlrm : rm < w1.heap.size := by omega
      clear hb1 hz0
      by_cases hq0 : q < 0
      · have hg : getF m q = ((0, 0), false) := by unfold getF; rw [if_neg (by omega)]
        rw [hg]; clear hg
        go_wp2_with fail
        go_roundw
        case rel => exact ⟨q + 1, by go_num, by omega, by omega, Below.alloc Hb1.out hsz1 _⟩
        case measure => simp [intOf]; omega
      · obtain ⟨p, rfl⟩ := Int.eq_ofNat_of_zero_le (show 0 ≤ q by omega)
        by_cases hqe : p = m.zs.length
        · have hg : getF m p = ((0, 0), false) := by unfold getF; rw [if_neg (by omega)]
          rw [hg]; clear hg
          have hbe : ((p : Int) == (m.zs.length : Int)) = true := by rw [beq_iff_eq]; omega
          have hbe' : (p == m.zs.length) = true := by rw [beq_iff_eq]; omega
          have hd0 : decide ((p : Int) < 0) = false := decide_eq_false (by omega)
          clear hqe
          go_wp2_with fail
          go_roundw
          case rel => exact ⟨p + 1, by go_num, by omega, by omega, Below.alloc Hb1.out hsz1 _⟩
          case measure => simp [intOf]; omega
        · have hp : p < m.zs.length := by omega
          have hg : getF m p = ((m.st p, m.ln p), true) := by unfold getF; rw [if_pos (by omega)]; rfl
          rw [hg]; clear hg
          have hbe : ((p : Int) == (m.zs.length : Int)) = false := beq_eq_false_iff_ne.2 (by omega)
          have hbe' : (p == m.zs.length) = false := beq_eq_false_iff_ne.2 (by omega)
          have hd0 : decide ((p : Int) < 0) = false := decide_eq_false (by omega)
          have HRr := HR.out.below Hb1.out
          have k0 := HRr.cellSt hp
          have k1 := HRr.cellLn hp
          clear HRr hqe
          go_wp2_with (first | go_quiet (fail))
          go_roundw
          case rel => exact ⟨p + 1, by go_num, by omega, by omega, (by repeat (first | exact Hb1.out | apply bdrewN | apply Below.drew | (refine Below.alloc ?_ hsz1 _)))⟩
          case measure => simp [intOf]; omega
    · have hd : decide (q ≤ m.zs.length) = false := by simpa using hle
      have HIr := Lib.hid (HI.out.below Hb.out)
      have HRr := Lib.hid (HR.out.below Hb.out)
      go_wp2_with fail
      refine (counts_any TM TZ bm bz m _ HIr.out hn).mono ?_
      rintro e w1 ⟨rfl, hb1⟩
      have Hb1 := Lib.hid (Hb.out.trans (hb1.mono hsz))
      have HR1 := Lib.hid (HR.out.below Hb1.out)
      clear hb1
      rw [← cntR_O, ← cntR_A]
      go_wp2_with (go_at_call 44; refine (rcount_any rm rz m _ _ _ HR1.out hn).mono ?_; rintro e w' ⟨rfl, rfl⟩)
      go_ret
      exact ⟨rfl, Hb1.out⟩

end Go.Proofs.Ytojceddgmmapdaa
