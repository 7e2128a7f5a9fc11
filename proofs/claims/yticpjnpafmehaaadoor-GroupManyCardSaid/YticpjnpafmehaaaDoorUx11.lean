-- printed by a program of a session (wip/tools/printx.py) over the kit's print; not typed by hand
import Derived.Test.YticpjnpafmehaaaDoorUx0
import Derived.Test.YticpjnpafmehaaaDoorUx1
import Derived.Test.YticpjnpafmehaaaDoorUx4
import Derived.Test.YticpjnpafmehaaaDoorUM
import Derived.Test.YticpjnpafmehaaaDoorUx9
namespace Go.Proofs.YticpjnpafmehaaaDoor.U
open Go.RowKit Go.Proofs.YticpjnpafmehaaaDoorW.PrintWords Go.Proofs.YticpjnpafmehaaaDoorW.PrintLast Go.Proofs.YticpjnpafmehaaaDoorW.PrintMore
open Go.Proofs.YticpjnpafmehaaaDoorW.PrintWords.Kd renaming R_alloc → rA, R_drewN → rN
open Go.Proofs.YticpjnpafmehaaaDoorW.PrintWords renaming pw_below_drewN → pN, below_alloc → bA, below_drew1 → bD, below_set → bS, blk_drewN → kN, blk_alloc → kA, below_size → bZ, blk_below → kB
attribute [local go_sem] max2_int min2_int max_two min_two max_three min_three max_four min_four   -- for this text's walks alone
set_option linter.unusedVariables false
set_option linter.unusedSimpArgs false

attribute [local go_sem high] eqA62
/-! ### corbellaw18_GroupMany: function 12 -/
mutual
def corbellaw18_GroupMany.l0 : Nat → List (S39) → ByteArray → List (S42) → List Int → Int → Option (Bool)
 | 0, _, _, _, _, _ => none
 | k + 1, x0, x3, x4, x5, x6 => if x6 < (x0.length : Int) then (corbellaw18_GroupMany.j1 k x0 x3 x4 x5 x6 (decide (x6 < 20))) else (corbellaw18_GroupMany.j1 k x0 x3 x4 x5 x6 false)
def corbellaw18_GroupMany.j1 : Nat → List (S39) → ByteArray → List (S42) → List Int → Int → Bool → Option (Bool)
 | 0, _, _, _, _, _, _ => none
 | k + 1, x0, x3, x4, x5, x6, x24 => if x24 = true then (if 0 ≤ x6 then (if x6 < (x0.length : Int) then ((corbellaw18_given.f ((rd_T39 x0 x6).f0) ((rd_T39 x0 x6).f1) ((rd_T39 x0 x6).f2) ((rd_T39 x0 x6).f3)).bind fun bt301 => ((group_Encode.f k bt301.1 bt301.2.1 bt301.2.2.1).bind fun bt320 => (if bt320.2 = 0 then (if x4.length < 2513169434916 then (if x5.length < 17592186044416 then (if x3.size + bt320.1.size ≤ 9223372036854775807 then (corbellaw18_GroupMany.l0 k x0 (x3 ++ bt320.1) (x4 ++ [(⟨bt301.1, bt301.2.1, bt301.2.2.1⟩ : S42)]) (x5 ++ [wrap64 ((x3.size : Int) / 64)]) (wrap64 (x6 + 1))) else (none)) else (none)) else (none)) else (corbellaw18_GroupMany.l0 k x0 x3 x4 x5 (wrap64 (x6 + 1)))))) else (none)) else (none)) else ((group_Scan.f k x3).bind fun bt328 => (if (bt328.1.length : Int) = (x4.length : Int) then (corbellaw18_GroupMany.j2 k x4 x5 bt328.1 bt328.2 ((bt328.2.length : Int) != (x5.length : Int))) else (corbellaw18_GroupMany.j2 k x4 x5 bt328.1 bt328.2 true)))
def corbellaw18_GroupMany.j2 : Nat → List (S42) → List Int → List (S42) → List Int → Bool → Option (Bool)
 | 0, _, _, _, _, _ => none
 | k + 1, x4, x5, x11, x12, x71 => if x71 = true then (some false) else (corbellaw18_GroupMany.l1 k x4 x5 x11 x12 0)
def corbellaw18_GroupMany.l1 : Nat → List (S42) → List Int → List (S42) → List Int → Int → Option (Bool)
 | 0, _, _, _, _, _ => none
 | k + 1, x4, x5, x11, x12, x13 => if x13 < (x4.length : Int) then (if 0 ≤ x13 then (if x13 < (x11.length : Int) then (if ((rd_T42 x11 x13).f0) = ((rd_T42 x4 x13).f0) then (if x13 < (x12.length : Int) then (if x13 < (x5.length : Int) then (if (rd x12 x13) = (rd x5 x13) then (corbellaw18_GroupMany.j4 k x4 x5 x11 x12 x13 ((((rd_T42 x11 x13).f1).length : Int) != (((rd_T42 x4 x13).f1).length : Int))) else (corbellaw18_GroupMany.j4 k x4 x5 x11 x12 x13 true)) else (none)) else (none)) else (corbellaw18_GroupMany.j4 k x4 x5 x11 x12 x13 true)) else (none)) else (none)) else (some true)
def corbellaw18_GroupMany.j4 : Nat → List (S42) → List Int → List (S42) → List Int → Int → Bool → Option (Bool)
 | 0, _, _, _, _, _, _ => none
 | k + 1, x4, x5, x11, x12, x13, x114 => if x114 = true then (some false) else (corbellaw18_GroupMany.l2 k x4 x5 x11 x12 x13 0)
def corbellaw18_GroupMany.l2 : Nat → List (S42) → List Int → List (S42) → List Int → Int → Int → Option (Bool)
 | 0, _, _, _, _, _, _ => none
 | k + 1, x4, x5, x11, x12, x13, x14 => if 0 ≤ x13 then (if x13 < (x4.length : Int) then (if x14 < (((rd_T42 x4 x13).f1).length : Int) then (if x13 < (x11.length : Int) then (if 0 ≤ x14 then (if x14 < (((rd_T42 x11 x13).f1).length : Int) then (if (!(((rd_T62 ((rd_T42 x11 x13).f1) x14).f0) == ((rd_T62 ((rd_T42 x4 x13).f1) x14).f0)) || (!(((rd_T62 ((rd_T42 x11 x13).f1) x14).f1) == ((rd_T62 ((rd_T42 x4 x13).f1) x14).f1)))) = true then (some false) else (if x14 < (((rd_T42 x11 x13).f2).length : Int) then (if x14 < (((rd_T42 x4 x13).f2).length : Int) then (if (rdOf ByteArray.empty ((rd_T42 x11 x13).f2) x14).toList = (rdOf ByteArray.empty ((rd_T42 x4 x13).f2) x14).toList then (corbellaw18_GroupMany.l2 k x4 x5 x11 x12 x13 (wrap64 (x14 + 1))) else (some false)) else (none)) else (none))) else (none)) else (none)) else (none)) else (corbellaw18_GroupMany.l1 k x4 x5 x11 x12 (wrap64 (x13 + 1)))) else (none)) else (none)
end
def corbellaw18_GroupMany.f (k : Nat) (l0 : List (S39)) : Option (Bool) := (corbellaw18_speaks.f k).bind fun t299 => (if t299 = true then (corbellaw18_GroupMany.l0 k l0 (⟨#[]⟩ : ByteArray) ([] : List (S42)) ([] : List Int) 0) else (some false))
theorem corbellaw18_GroupMany.mono_l : ∀ k, (∀ y0 y1 y2 y3 y4, LeO (corbellaw18_GroupMany.l0 k y0 y1 y2 y3 y4) (corbellaw18_GroupMany.l0 (k + 1) y0 y1 y2 y3 y4)) ∧ (∀ y0 y1 y2 y3 y4 y5, LeO (corbellaw18_GroupMany.j1 k y0 y1 y2 y3 y4 y5) (corbellaw18_GroupMany.j1 (k + 1) y0 y1 y2 y3 y4 y5)) ∧ (∀ y0 y1 y2 y3 y4, LeO (corbellaw18_GroupMany.j2 k y0 y1 y2 y3 y4) (corbellaw18_GroupMany.j2 (k + 1) y0 y1 y2 y3 y4)) ∧ (∀ y0 y1 y2 y3 y4, LeO (corbellaw18_GroupMany.l1 k y0 y1 y2 y3 y4) (corbellaw18_GroupMany.l1 (k + 1) y0 y1 y2 y3 y4)) ∧ (∀ y0 y1 y2 y3 y4 y5, LeO (corbellaw18_GroupMany.j4 k y0 y1 y2 y3 y4 y5) (corbellaw18_GroupMany.j4 (k + 1) y0 y1 y2 y3 y4 y5)) ∧ (∀ y0 y1 y2 y3 y4 y5, LeO (corbellaw18_GroupMany.l2 k y0 y1 y2 y3 y4 y5) (corbellaw18_GroupMany.l2 (k + 1) y0 y1 y2 y3 y4 y5))
 | 0 => ⟨fun _ _ _ _ _ r h => by simp [corbellaw18_GroupMany.l0] at h, fun _ _ _ _ _ _ r h => by simp [corbellaw18_GroupMany.j1] at h, fun _ _ _ _ _ r h => by simp [corbellaw18_GroupMany.j2] at h, fun _ _ _ _ _ r h => by simp [corbellaw18_GroupMany.l1] at h, fun _ _ _ _ _ _ r h => by simp [corbellaw18_GroupMany.j4] at h, fun _ _ _ _ _ _ r h => by simp [corbellaw18_GroupMany.l2] at h⟩
 | k + 1 => by
  obtain ⟨ih0, ih1, ih2, ih3, ih4, ih5⟩ := corbellaw18_GroupMany.mono_l k
  refine ⟨?_, ?_, ?_, ?_, ?_, ?_⟩
  ·intro y0 y1 y2 y3 y4
   unfold corbellaw18_GroupMany.l0
   repeat' first
   | (with_reducible exact ih0 _ _ _ _ _)
   | (with_reducible exact ih1 _ _ _ _ _ _)
   | (with_reducible exact ih2 _ _ _ _ _)
   | (with_reducible exact ih3 _ _ _ _ _)
   | (with_reducible exact ih4 _ _ _ _ _ _)
   | (with_reducible exact ih5 _ _ _ _ _ _)
   | (with_reducible exact corbellaw18_speaks.mono _)
   | (with_reducible exact group_Encode.mono _ _ _ _)
   | (with_reducible exact group_Scan.mono _ _)
   | (with_reducible exact LeO.refl _)
   | (with_reducible exact LeO.none _)
   | (with_reducible refine LeO.ite ?_ ?_)
   | (with_reducible refine LeO.bind ?_ (fun _ => ?_))
   | exact ih0 _ _ _ _ _
   | exact ih1 _ _ _ _ _ _
   | exact ih2 _ _ _ _ _
   | exact ih3 _ _ _ _ _
   | exact ih4 _ _ _ _ _ _
   | exact ih5 _ _ _ _ _ _
   | exact corbellaw18_speaks.mono _
   | exact group_Encode.mono _ _ _ _
   | exact group_Scan.mono _ _
   | exact LeO.none _
   | refine LeO.ite ?_ ?_
   | refine LeO.bind ?_ (fun _ => ?_)
  ·intro y0 y1 y2 y3 y4 y5
   unfold corbellaw18_GroupMany.j1
   repeat' first
   | (with_reducible exact ih0 _ _ _ _ _)
   | (with_reducible exact ih1 _ _ _ _ _ _)
   | (with_reducible exact ih2 _ _ _ _ _)
   | (with_reducible exact ih3 _ _ _ _ _)
   | (with_reducible exact ih4 _ _ _ _ _ _)
   | (with_reducible exact ih5 _ _ _ _ _ _)
   | (with_reducible exact corbellaw18_speaks.mono _)
   | (with_reducible exact group_Encode.mono _ _ _ _)
   | (with_reducible exact group_Scan.mono _ _)
   | (with_reducible exact LeO.refl _)
   | (with_reducible exact LeO.none _)
   | (with_reducible refine LeO.ite ?_ ?_)
   | (with_reducible refine LeO.bind ?_ (fun _ => ?_))
   | exact ih0 _ _ _ _ _
   | exact ih1 _ _ _ _ _ _
   | exact ih2 _ _ _ _ _
   | exact ih3 _ _ _ _ _
   | exact ih4 _ _ _ _ _ _
   | exact ih5 _ _ _ _ _ _
   | exact corbellaw18_speaks.mono _
   | exact group_Encode.mono _ _ _ _
   | exact group_Scan.mono _ _
   | exact LeO.none _
   | refine LeO.ite ?_ ?_
   | refine LeO.bind ?_ (fun _ => ?_)
  ·intro y0 y1 y2 y3 y4
   unfold corbellaw18_GroupMany.j2
   repeat' first
   | (with_reducible exact ih0 _ _ _ _ _)
   | (with_reducible exact ih1 _ _ _ _ _ _)
   | (with_reducible exact ih2 _ _ _ _ _)
   | (with_reducible exact ih3 _ _ _ _ _)
   | (with_reducible exact ih4 _ _ _ _ _ _)
   | (with_reducible exact ih5 _ _ _ _ _ _)
   | (with_reducible exact corbellaw18_speaks.mono _)
   | (with_reducible exact group_Encode.mono _ _ _ _)
   | (with_reducible exact group_Scan.mono _ _)
   | (with_reducible exact LeO.refl _)
   | (with_reducible exact LeO.none _)
   | (with_reducible refine LeO.ite ?_ ?_)
   | (with_reducible refine LeO.bind ?_ (fun _ => ?_))
   | exact ih0 _ _ _ _ _
   | exact ih1 _ _ _ _ _ _
   | exact ih2 _ _ _ _ _
   | exact ih3 _ _ _ _ _
   | exact ih4 _ _ _ _ _ _
   | exact ih5 _ _ _ _ _ _
   | exact corbellaw18_speaks.mono _
   | exact group_Encode.mono _ _ _ _
   | exact group_Scan.mono _ _
   | exact LeO.none _
   | refine LeO.ite ?_ ?_
   | refine LeO.bind ?_ (fun _ => ?_)
  ·intro y0 y1 y2 y3 y4
   unfold corbellaw18_GroupMany.l1
   repeat' first
   | (with_reducible exact ih0 _ _ _ _ _)
   | (with_reducible exact ih1 _ _ _ _ _ _)
   | (with_reducible exact ih2 _ _ _ _ _)
   | (with_reducible exact ih3 _ _ _ _ _)
   | (with_reducible exact ih4 _ _ _ _ _ _)
   | (with_reducible exact ih5 _ _ _ _ _ _)
   | (with_reducible exact corbellaw18_speaks.mono _)
   | (with_reducible exact group_Encode.mono _ _ _ _)
   | (with_reducible exact group_Scan.mono _ _)
   | (with_reducible exact LeO.refl _)
   | (with_reducible exact LeO.none _)
   | (with_reducible refine LeO.ite ?_ ?_)
   | (with_reducible refine LeO.bind ?_ (fun _ => ?_))
   | exact ih0 _ _ _ _ _
   | exact ih1 _ _ _ _ _ _
   | exact ih2 _ _ _ _ _
   | exact ih3 _ _ _ _ _
   | exact ih4 _ _ _ _ _ _
   | exact ih5 _ _ _ _ _ _
   | exact corbellaw18_speaks.mono _
   | exact group_Encode.mono _ _ _ _
   | exact group_Scan.mono _ _
   | exact LeO.none _
   | refine LeO.ite ?_ ?_
   | refine LeO.bind ?_ (fun _ => ?_)
  ·intro y0 y1 y2 y3 y4 y5
   unfold corbellaw18_GroupMany.j4
   repeat' first
   | (with_reducible exact ih0 _ _ _ _ _)
   | (with_reducible exact ih1 _ _ _ _ _ _)
   | (with_reducible exact ih2 _ _ _ _ _)
   | (with_reducible exact ih3 _ _ _ _ _)
   | (with_reducible exact ih4 _ _ _ _ _ _)
   | (with_reducible exact ih5 _ _ _ _ _ _)
   | (with_reducible exact corbellaw18_speaks.mono _)
   | (with_reducible exact group_Encode.mono _ _ _ _)
   | (with_reducible exact group_Scan.mono _ _)
   | (with_reducible exact LeO.refl _)
   | (with_reducible exact LeO.none _)
   | (with_reducible refine LeO.ite ?_ ?_)
   | (with_reducible refine LeO.bind ?_ (fun _ => ?_))
   | exact ih0 _ _ _ _ _
   | exact ih1 _ _ _ _ _ _
   | exact ih2 _ _ _ _ _
   | exact ih3 _ _ _ _ _
   | exact ih4 _ _ _ _ _ _
   | exact ih5 _ _ _ _ _ _
   | exact corbellaw18_speaks.mono _
   | exact group_Encode.mono _ _ _ _
   | exact group_Scan.mono _ _
   | exact LeO.none _
   | refine LeO.ite ?_ ?_
   | refine LeO.bind ?_ (fun _ => ?_)
  ·intro y0 y1 y2 y3 y4 y5
   unfold corbellaw18_GroupMany.l2
   repeat' first
   | (with_reducible exact ih0 _ _ _ _ _)
   | (with_reducible exact ih1 _ _ _ _ _ _)
   | (with_reducible exact ih2 _ _ _ _ _)
   | (with_reducible exact ih3 _ _ _ _ _)
   | (with_reducible exact ih4 _ _ _ _ _ _)
   | (with_reducible exact ih5 _ _ _ _ _ _)
   | (with_reducible exact corbellaw18_speaks.mono _)
   | (with_reducible exact group_Encode.mono _ _ _ _)
   | (with_reducible exact group_Scan.mono _ _)
   | (with_reducible exact LeO.refl _)
   | (with_reducible exact LeO.none _)
   | (with_reducible refine LeO.ite ?_ ?_)
   | (with_reducible refine LeO.bind ?_ (fun _ => ?_))
   | exact ih0 _ _ _ _ _
   | exact ih1 _ _ _ _ _ _
   | exact ih2 _ _ _ _ _
   | exact ih3 _ _ _ _ _
   | exact ih4 _ _ _ _ _ _
   | exact ih5 _ _ _ _ _ _
   | exact corbellaw18_speaks.mono _
   | exact group_Encode.mono _ _ _ _
   | exact group_Scan.mono _ _
   | exact LeO.none _
   | refine LeO.ite ?_ ?_
   | refine LeO.bind ?_ (fun _ => ?_)
theorem corbellaw18_GroupMany.mono : ∀ a0 k, LeO (corbellaw18_GroupMany.f k a0) (corbellaw18_GroupMany.f (k + 1) a0) := by
 intro a0 k
 obtain ⟨ih0, ih1, ih2, ih3, ih4, ih5⟩ := corbellaw18_GroupMany.mono_l k
 unfold corbellaw18_GroupMany.f
 repeat' first
   | (with_reducible exact ih0 _ _ _ _ _)
   | (with_reducible exact ih1 _ _ _ _ _ _)
   | (with_reducible exact ih2 _ _ _ _ _)
   | (with_reducible exact ih3 _ _ _ _ _)
   | (with_reducible exact ih4 _ _ _ _ _ _)
   | (with_reducible exact ih5 _ _ _ _ _ _)
   | (with_reducible exact corbellaw18_speaks.mono _)
   | (with_reducible exact group_Encode.mono _ _ _ _)
   | (with_reducible exact group_Scan.mono _ _)
   | (with_reducible exact LeO.refl _)
   | (with_reducible exact LeO.none _)
   | (with_reducible refine LeO.ite ?_ ?_)
   | (with_reducible refine LeO.bind ?_ (fun _ => ?_))
   | exact ih0 _ _ _ _ _
   | exact ih1 _ _ _ _ _ _
   | exact ih2 _ _ _ _ _
   | exact ih3 _ _ _ _ _
   | exact ih4 _ _ _ _ _ _
   | exact ih5 _ _ _ _ _ _
   | exact corbellaw18_speaks.mono _
   | exact group_Encode.mono _ _ _ _
   | exact group_Scan.mono _ _
   | exact LeO.none _
   | refine LeO.ite ?_ ?_
   | refine LeO.bind ?_ (fun _ => ?_)
set_option maxHeartbeats 8000000 in
set_option maxRecDepth 100000 in
theorem corbellaw18_GroupMany.calls (k : Nat) (A0 : Option Addr) (c0 : Nat) (l0 : List (S39)) (r : Bool) (w : World) (hr0 : Kd.C k39 w A0 l0.length l0) (hc0 : l0.length ≤ c0) (h : corbellaw18_GroupMany.f k l0 = some r) (hN : TabIn w) :
  Calls Tryd.prog 12 #[.slice A0 l0.length c0] w fun e w' => e = .returned (.bool r) ∧ Below w.heap.size w w' := by
 have hu39 := Tryd.underlying39
 have hu42 := Tryd.underlying42
 have hu43 := Tryd.underlying43
 have hu62 := Tryd.underlying62
 have HR0 := Aside0.mk hr0
 have HC0 := Aside0.mk hc0
 clear hr0 hc0
 have HB := Aside0.mk (Below.refl w.heap.size w)
 have HN := Aside0.mk hN
 clear hN
 have H : ((corbellaw18_speaks.f k).bind fun t299 => (if t299 = true then (corbellaw18_GroupMany.l0 k l0 (⟨#[]⟩ : ByteArray) ([] : List (S42)) ([] : List Int) 0) else (some false))) = some r := h
 clear h
 replace H := Option.bind_eq_some_iff.mp H
 obtain ⟨t299, A20, H⟩ := H
 replace H : (if t299 = true then (corbellaw18_GroupMany.l0 k l0 (⟨#[]⟩ : ByteArray) ([] : List (S42)) ([] : List Int) 0) else (some false)) = some r := H
 have A2 := Aside0.mk A20
 clear A20
 by_cases c3 : t299 = true
 ·subst c3
  have H1 : (corbellaw18_GroupMany.l0 k l0 (⟨#[]⟩ : ByteArray) ([] : List (S42)) ([] : List Int) 0) = some r := by rw [if_pos rfl] at H; exact H
  clear H
  have H := H1
  clear H1
  have H' := Aside0.mk H
  clear H
  go_enter Tryd.func12, Tryd.ntmps12
  go_wp2_with (first | (go_at_call 22; (with_reducible refine (corbellaw18_speaks.calls k  true _ A2.out (HN.out.below (by repeat (first | (with_reducible first | exact HB.out | apply bA | apply pN | apply bD | refine bS ?_ GE318.out | refine bS ?_ GE319.out) | exact HB.out)) (Nat.lt_of_lt_of_le HN.out.lt (Nat.le_refl _)))).mono ?_); rintro e w4 ⟨rfl, hb⟩; have n0_ := Aside0.mk (below_step (by repeat (first | (with_reducible first | exact HB.out | apply bA | apply pN | apply bD) | exact HB.out)) hb); clear HB; have HB := n0_; clear n0_; (try clear hb); (try clear hb2); (try clear hk); (try clear hi)))
  go_loopg [3, 4, 5, 6] k (fun kq v3 v4 v5 v6 w' => ∃ (x3_1 : ByteArray) (x4_1 : List (S42)) (x5_1 : List Int) (x6_1 : Int), v3 = .string x3_1 ∧ v6 = .int .i64 x6_1 ∧ Aside0 (corbellaw18_GroupMany.l0 kq l0 x3_1 x4_1 x5_1 x6_1 = some r) ∧ Aside0 (kq ≤ k) ∧ Aside0 (Kd.S k42 42 w' w.heap.size (fun _ => True) v4 x4_1) ∧ Aside0 (Kd.R (Kd.int .i64) 3 w' w.heap.size (fun _ => True) v5 x5_1) ∧ Aside0 (Below w.heap.size w w'))
  case atStart => exact ⟨((⟨#[]⟩ : ByteArray)), (([] : List (S42))), (([] : List Int)), (0), (by first | rfl | (simp; done) | (simp [*]; done)), (by first | rfl | (simp; done) | (simp [*]; done)), H', ⟨Nat.le_refl _⟩, ⟨by first | exact Kd.S_nil _ _ _ _ _ | exact Kd.N_nil _ _ _ _ _ | exact Kd.V_nil _ _ _ _ _ | exact Kd.Q_nil _ _ _ _ _ | exact Kd.R_nil _ _ _ _ _⟩, ⟨by first | exact Kd.R_nil _ _ _ _ _ | exact Kd.N_nil _ _ _ _ _ | exact Kd.V_nil _ _ _ _ _ | exact Kd.Q_nil _ _ _ _ _ | exact Kd.S_nil _ _ _ _ _⟩, ⟨by repeat (first | (with_reducible first | exact HB.out | apply bA | apply pN | apply bD) | exact HB.out)⟩⟩
  case round =>
   clear H'
   try clear c1
   try clear p2
   try clear c3
   obtain ⟨x3_1, x4_1, x5_1, x6_1, rfl, rfl, HA, HK1, HO_4, HO_5, HB⟩ := hrel
   cases gk with
   | zero => exact absurd HA.out (by simp [corbellaw18_GroupMany.l0])
   | succ k1 =>
    have H := HA.out
    clear HA
    simp only [corbellaw18_GroupMany.l0] at H
    have HC5 := Aside0.mk H
    clear H
    go_upto_region 7 with (fail)
    go_cut [24] (fun v24 wc => ∃ (kq : Nat) (x24_4 : Bool), v24 = .bool x24_4 ∧ Aside0 (corbellaw18_GroupMany.j1 kq l0 x3_1 x4_1 x5_1 x6_1 x24_4 = some r) ∧ Aside0 (kq ≤ k1) ∧ Aside0 (Kd.S k42 42 wc w.heap.size (fun _ => True) u4 x4_1) ∧ Aside0 (Kd.R (Kd.int .i64) 3 wc w.heap.size (fun _ => True) u5 x5_1) ∧ Aside0 (Below w.heap.size w wc))
    case first =>
     have H := HC5.out
     clear HC5
     by_cases c6 : x6_1 < (l0.length : Int)
     ·rw [if_pos c6] at H
      have c6b0 : decide (x6_1 < (l0.length : Int)) = true := decide_eq_true c6
      clear c6
      (first | rw [c6b0] | (simp only [i64_w, i32_w]; rw [c6b0]) | skip)
      have H' := Aside0.mk H
      clear H
      go_wp2
      go_meet
      case rel => exact ⟨_, (decide (x6_1 < 20)), (by first | rfl | (simp; done) | (simp [*]; done)), H', ⟨by have := HK1.out; first | omega | exact Nat.le_refl _⟩, ⟨by (with_reducible repeat (first | apply Kd.S_alloc | apply Kd.S_drewN | apply Kd.S_drew)); exact HO_4.out⟩, ⟨by (with_reducible repeat (first | apply rA | apply rN | apply Kd.R_drew)); exact HO_5.out⟩, ⟨by repeat (first | (with_reducible first | exact HB.out | apply bA | apply pN | apply bD) | exact HB.out)⟩⟩
     ·rw [if_neg c6] at H
      have c6b0 : decide (x6_1 < (l0.length : Int)) = false := decide_eq_false c6
      clear c6
      (first | rw [c6b0] | (simp only [i64_w, i32_w]; rw [c6b0]) | skip)
      have H' := Aside0.mk H
      clear H
      go_wp2
      go_meet
      case rel => exact ⟨_, (false), (by first | rfl | (simp; done) | (simp [*]; done)), H', ⟨by have := HK1.out; first | omega | exact Nat.le_refl _⟩, ⟨by (with_reducible repeat (first | apply Kd.S_alloc | apply Kd.S_drewN | apply Kd.S_drew)); exact HO_4.out⟩, ⟨by (with_reducible repeat (first | apply rA | apply rN | apply Kd.R_drew)); exact HO_5.out⟩, ⟨by repeat (first | (with_reducible first | exact HB.out | apply bA | apply pN | apply bD) | exact HB.out)⟩⟩
    case rest =>
     clear HC5
     try clear c1
     try clear p2
     try clear c3
     try clear c6
     try clear c6b0
     try clear p2
     obtain ⟨kq, x24_4, rfl, HA, HJ4, HO_4, HO_5, HB⟩ := hcut
     cases kq with
     | zero => exact absurd HA.out (by simp [corbellaw18_GroupMany.j1])
     | succ kj4 =>
      have H := HA.out
      clear HA
      simp only [corbellaw18_GroupMany.j1] at H
      by_cases c7 : x24_4 = true
      ·subst c7
       have H1 : (if 0 ≤ x6_1 then (if x6_1 < (l0.length : Int) then ((corbellaw18_given.f ((rd_T39 l0 x6_1).f0) ((rd_T39 l0 x6_1).f1) ((rd_T39 l0 x6_1).f2) ((rd_T39 l0 x6_1).f3)).bind fun bt301 => ((group_Encode.f kj4 bt301.1 bt301.2.1 bt301.2.2.1).bind fun bt320 => (if bt320.2 = 0 then (if x4_1.length < 2513169434916 then (if x5_1.length < 17592186044416 then (if x3_1.size + bt320.1.size ≤ 9223372036854775807 then (corbellaw18_GroupMany.l0 kj4 l0 (x3_1 ++ bt320.1) (x4_1 ++ [(⟨bt301.1, bt301.2.1, bt301.2.2.1⟩ : S42)]) (x5_1 ++ [wrap64 ((x3_1.size : Int) / 64)]) (wrap64 (x6_1 + 1))) else (none)) else (none)) else (none)) else (corbellaw18_GroupMany.l0 kj4 l0 x3_1 x4_1 x5_1 (wrap64 (x6_1 + 1)))))) else (none)) else (none)) = some r := by rw [if_pos rfl] at H; exact H
       clear H
       have H := H1
       clear H1
       by_cases c8 : 0 ≤ x6_1
       ·rw [if_pos c8] at H
        have c8b0 : decide (0 ≤ x6_1) = true := decide_eq_true c8
        clear c8
        by_cases c9 : x6_1 < (l0.length : Int)
        ·rw [if_pos c9] at H
         have c9b0 : decide (x6_1 < (l0.length : Int)) = true := decide_eq_true c9
         clear c9
         replace H := Option.bind_eq_some_iff.mp H
         obtain ⟨⟨t301, t302, t305, t308, t309, t312, t315⟩, A100, H⟩ := H
         replace H : ((group_Encode.f kj4 t301 t302 t305).bind fun bt320 => (if bt320.2 = 0 then (if x4_1.length < 2513169434916 then (if x5_1.length < 17592186044416 then (if x3_1.size + bt320.1.size ≤ 9223372036854775807 then (corbellaw18_GroupMany.l0 kj4 l0 (x3_1 ++ bt320.1) (x4_1 ++ [(⟨t301, t302, t305⟩ : S42)]) (x5_1 ++ [wrap64 ((x3_1.size : Int) / 64)]) (wrap64 (x6_1 + 1))) else (none)) else (none)) else (none)) else (corbellaw18_GroupMany.l0 kj4 l0 x3_1 x4_1 x5_1 (wrap64 (x6_1 + 1))))) = some r := H
         have A10 := Aside0.mk A100
         clear A100
         replace H := Option.bind_eq_some_iff.mp H
         obtain ⟨⟨t320, t321⟩, A110, H⟩ := H
         replace H : (if t321 = 0 then (if x4_1.length < 2513169434916 then (if x5_1.length < 17592186044416 then (if x3_1.size + t320.size ≤ 9223372036854775807 then (corbellaw18_GroupMany.l0 kj4 l0 (x3_1 ++ t320) (x4_1 ++ [(⟨t301, t302, t305⟩ : S42)]) (x5_1 ++ [wrap64 ((x3_1.size : Int) / 64)]) (wrap64 (x6_1 + 1))) else (none)) else (none)) else (none)) else (corbellaw18_GroupMany.l0 kj4 l0 x3_1 x4_1 x5_1 (wrap64 (x6_1 + 1)))) = some r := H
         have A11 := Aside0.mk A110
         clear A110
         by_cases c12 : t321 = 0
         ·rw [if_pos c12] at H
          have c12b0 : (t321 == 0) = true := beq_iff_eq.mpr c12
          have c12b1 : (t321 != 0) = false := bne_eq_false_iff_eq.mpr c12
          clear c12
          by_cases c13 : x4_1.length < 2513169434916
          ·rw [if_pos c13] at H
           have LMc13 := Aside0.mk c13
           clear c13
           obtain ⟨y322, hy322⟩ : ∃ y_ : List (S42), y_ = (x4_1 ++ [(⟨t301, t302, t305⟩ : S42)]) := ⟨_, rfl⟩
           replace H : (if x5_1.length < 17592186044416 then (if x3_1.size + t320.size ≤ 9223372036854775807 then (corbellaw18_GroupMany.l0 kj4 l0 (x3_1 ++ t320) y322 (x5_1 ++ [wrap64 ((x3_1.size : Int) / 64)]) (wrap64 (x6_1 + 1))) else (none)) else (none)) = some r := by first | (rw [hy322]; with_reducible exact H) | (have H2_ := (Option.bind_some _ _).symm.trans H; rw [hy322]; with_reducible exact H2_) | (have H2_ := (Option.bind_some _ _).symm.trans H; with_reducible exact H2_) | with_reducible exact H | (rw [hy322]; exact H) | exact H
           have Ny322 := Aside0.mk hy322
           clear hy322
           by_cases c14 : x5_1.length < 17592186044416
           ·rw [if_pos c14] at H
            have LMc14 := Aside0.mk c14
            clear c14
            obtain ⟨y325, hy325⟩ : ∃ y_ : List Int, y_ = (x5_1 ++ [wrap64 ((x3_1.size : Int) / 64)]) := ⟨_, rfl⟩
            replace H : (if x3_1.size + t320.size ≤ 9223372036854775807 then (corbellaw18_GroupMany.l0 kj4 l0 (x3_1 ++ t320) y322 y325 (wrap64 (x6_1 + 1))) else (none)) = some r := by first | (rw [hy325]; with_reducible exact H) | (have H2_ := (Option.bind_some _ _).symm.trans H; rw [hy325]; with_reducible exact H2_) | (have H2_ := (Option.bind_some _ _).symm.trans H; with_reducible exact H2_) | with_reducible exact H | (rw [hy325]; exact H) | exact H
            have Ny325 := Aside0.mk hy325
            clear hy325
            by_cases c15 : x3_1.size + t320.size ≤ 9223372036854775807
            ·rw [if_pos c15] at H
             have c15b0 := eq_true c15
             have c15b1 : decide (x3_1.size + t320.size ≤ 9223372036854775807) = true := decide_eq_true c15
             try have c15b2 : (9223372036854775807 < x3_1.size + t320.size) = False := eq_false (Nat.not_lt.2 c15)
             have H' := Aside0.mk H
             clear H
             have p300 : 0 ≤ (x6_1 : Int) := of_decide_eq_true (by first | (with_reducible assumption) | assumption)
             have q300 : x6_1 < (l0.length : Int) := of_decide_eq_true (by first | (with_reducible assumption) | assumption)
             obtain ⟨ad300, A300_1, c300_1, A300_2, c300_2, A300_3, c300_3, e300, hx300_0, hx300_1, hx300_2, hx300_3, hl300_1, hi300_1, hl300_2, hi300_2, hl300_3, hi300_3⟩ := at_T39 HR0.out x6_1 p300 q300
             cases e300
             replace hx300_0 := (HB.out.cell (World.block_lt_of_cell? w _ hx300_0)).trans hx300_0
             replace hx300_1 := (HB.out.cell (World.block_lt_of_cell? w _ hx300_1)).trans hx300_1
             replace hx300_2 := (HB.out.cell (World.block_lt_of_cell? w _ hx300_2)).trans hx300_2
             replace hx300_3 := (HB.out.cell (World.block_lt_of_cell? w _ hx300_3)).trans hx300_3
             have HR300_1 := Aside0.mk hi300_1
             have HC300_1 := Aside0.mk hl300_1
             clear hi300_1 hl300_1
             have HR300_2 := Aside0.mk hi300_2
             have HC300_2 := Aside0.mk hl300_2
             clear hi300_2 hl300_2
             have HR300_3 := Aside0.mk hi300_3
             have HC300_3 := Aside0.mk hl300_3
             clear hi300_3 hl300_3
             replace p300 := eq_true p300
             replace q300 := eq_true q300
             go_wp2_with (first | (go_at_call 23; (with_reducible refine (corbellaw18_given.calls ((rd_T39 l0 x6_1).f0) _ _ ((rd_T39 l0 x6_1).f1) _ _ ((rd_T39 l0 x6_1).f2) _ _ ((rd_T39 l0 x6_1).f3) t301 t302 t305 t308 t309 t312 t315 _ ?side1 ?side2 ?side3 ?side4 ?side5 ?side6 A10.out).mono ?_); (case side1 => repeat (first | exact (Kd.C_below HR300_1.out HB.out) | (with_reducible refine Kd.C_alloc ?_ _) | (with_reducible refine Kd.C_drewN ?_ _) | (with_reducible refine Kd.C_drew ?_))); (case side2 => exact HC300_1.out); (case side3 => repeat (first | exact (Kd.C_below HR300_2.out HB.out) | (with_reducible refine Kd.C_alloc ?_ _) | (with_reducible refine Kd.C_drewN ?_ _) | (with_reducible refine Kd.C_drew ?_))); (case side4 => exact HC300_2.out); (case side5 => repeat (first | exact (Kd.C_below HR300_3.out HB.out) | (with_reducible refine Kd.C_alloc ?_ _) | (with_reducible refine Kd.C_drewN ?_ _) | (with_reducible refine Kd.C_drew ?_))); (case side6 => exact HC300_3.out); rintro e w16 ⟨v303, v306, v310, v313, v316, rfl, ho0, ho1, ho2, ho3, ho4, hb⟩; have n0_ := Aside0.mk (Kd.S_mono (Kd.S_told (Kd.S_told (Kd.S_told (Kd.S_old (by (with_reducible repeat (first | apply Kd.S_alloc | apply Kd.S_drewN | apply Kd.S_drew)); exact HO_4.out) hb) (Kd.R_base ho0)) (Kd.R_base ho1)) (Kd.R_base ho4)) (fun _ h_ => h_.1)); have n1_ := Aside0.mk (Kd.R_elder' (by (with_reducible repeat (first | apply rA | apply rN | apply Kd.R_drew)); exact HO_5.out) (Kd.R_base ho2) hb); have n2_ := Aside0.mk (Kd.R_lower ho0 (bZ (by repeat (first | (with_reducible first | exact HB.out | apply bA | apply pN | apply bD) | exact HB.out)))); have n3_ := Aside0.mk (Kd.R_lower ho1 (bZ (by repeat (first | (with_reducible first | exact HB.out | apply bA | apply pN | apply bD) | exact HB.out)))); have n4_ := Aside0.mk (Kd.R_lower (Kd.R_new' ho2 (Kd.R_lt (by (with_reducible repeat (first | apply rA | apply rN | apply Kd.R_drew)); exact HO_5.out))) (bZ (by repeat (first | (with_reducible first | exact HB.out | apply bA | apply pN | apply bD) | exact HB.out)))); have n5_ := Aside0.mk (Kd.R_lower ho3 (bZ (by repeat (first | (with_reducible first | exact HB.out | apply bA | apply pN | apply bD) | exact HB.out)))); have n6_ := Aside0.mk (Kd.R_lower ho4 (bZ (by repeat (first | (with_reducible first | exact HB.out | apply bA | apply pN | apply bD) | exact HB.out)))); have n7_ := Aside0.mk (below_step (by repeat (first | (with_reducible first | exact HB.out | apply bA | apply pN | apply bD) | exact HB.out)) hb); clear HO_4; clear HO_5; clear HB; have HO_4 := n0_; have HO_5 := n1_; have HO304 := n2_; have HO307 := n3_; have HO311 := n4_; have HO314 := n5_; have HO317 := n6_; have HB := n7_; clear n0_ n1_ n2_ n3_ n4_ n5_ n6_ n7_; (try clear hb); (try clear hb2); (try clear hk); (try clear hi); (try clear ho0); (try clear ho1); (try clear ho2); (try clear ho3); (try clear ho4)) | ((with_reducible refine gate_dst (N := 7) rfl ?_); (try (refine gate_guard (by rfl) ?_; dsimp only)); refine box_event ?hg (N := 7) ?hd (cs := #[.int .i64 0, .slice none 0 0, .slice none 0 0]) (t := 42) ?hr ?_; (case hd => rfl); (case hg => rfl); (case hr => first | (go_simp; done) | (go_simp; rfl)); intro gb318 hg w17 hbox hb; have n0_ := Aside0.mk (Kd.S_below (Kd.S_elderB (by (with_reducible repeat (first | apply Kd.S_alloc | apply Kd.S_drewN | apply Kd.S_drew)); exact HO_4.out) gb318 (Nat.le_of_eq hg.symm)) hb); have n1_ := Aside0.mk (Kd.R_below (by (with_reducible repeat (first | apply rA | apply rN | apply Kd.R_drew)); exact HO_5.out) hb); have n2_ := Aside0.mk (Kd.R_below (by (with_reducible repeat (first | apply rA | apply rN | apply Kd.R_drew)); exact HO304.out) hb); have n3_ := Aside0.mk (Kd.R_below (by (with_reducible repeat (first | apply rA | apply rN | apply Kd.R_drew)); exact HO307.out) hb); have n4_ := Aside0.mk (Kd.R_below (by (with_reducible repeat (first | apply rA | apply rN | apply Kd.R_drew)); exact HO311.out) hb); have n5_ := Aside0.mk (Kd.R_below (by (with_reducible repeat (first | apply rA | apply rN | apply Kd.R_drew)); exact HO314.out) hb); have n6_ := Aside0.mk (Kd.R_below (by (with_reducible repeat (first | apply rA | apply rN | apply Kd.R_drew)); exact HO317.out) hb); have n7_ := Aside0.mk (below_step (by repeat (first | (with_reducible first | exact HB.out | apply bA | apply pN | apply bD) | exact HB.out)) hb); have n8_ := Aside0.mk (hbox); have n9_ := Aside0.mk ((by rw [hg]; exact (bZ (by repeat (first | (with_reducible first | exact HB.out | apply bA | apply pN | apply bD) | exact HB.out))) : w.heap.size ≤ gb318)); have n10_ := Aside0.mk ((by rw [hg]; exact (bZ (by repeat (first | (with_reducible first | exact HB.out | apply bA | apply pN | apply bD) | exact HB.out))) : w.heap.size ≤ gb318)); clear HO_4; clear HO_5; clear HO304; clear HO307; clear HO311; clear HO314; clear HO317; clear HB; have HO_4 := n0_; have HO_5 := n1_; have HO304 := n2_; have HO307 := n3_; have HO311 := n4_; have HO314 := n5_; have HO317 := n6_; have HB := n7_; have BK318 := n8_; have GW318 := n9_; have GE318 := n10_; clear n0_ n1_ n2_ n3_ n4_ n5_ n6_ n7_ n8_ n9_ n10_; clear hb hbox hg) | ((with_reducible refine gate_dst (N := 8) rfl ?_); (try (refine gate_guard (by rfl) ?_; dsimp only)); refine box_event ?hg (N := 8) ?hd (cs := #[.int .i64 0, .slice none 0 0, .slice none 0 0, .slice none 0 0]) (t := 43) ?hr ?_; (case hd => rfl); (case hg => rfl); (case hr => first | (go_simp; done) | (go_simp; rfl)); intro gb319 hg w18 hbox hb; have n0_ := Aside0.mk (Kd.S_below (by (with_reducible repeat (first | apply Kd.S_alloc | apply Kd.S_drewN | apply Kd.S_drew)); exact HO_4.out) hb); have n1_ := Aside0.mk (Kd.R_below (by (with_reducible repeat (first | apply rA | apply rN | apply Kd.R_drew)); exact HO_5.out) hb); have n2_ := Aside0.mk (Kd.R_below (by (with_reducible repeat (first | apply rA | apply rN | apply Kd.R_drew)); exact HO304.out) hb); have n3_ := Aside0.mk (Kd.R_below (by (with_reducible repeat (first | apply rA | apply rN | apply Kd.R_drew)); exact HO307.out) hb); have n4_ := Aside0.mk (Kd.R_below (by (with_reducible repeat (first | apply rA | apply rN | apply Kd.R_drew)); exact HO311.out) hb); have n5_ := Aside0.mk (Kd.R_below (by (with_reducible repeat (first | apply rA | apply rN | apply Kd.R_drew)); exact HO314.out) hb); have n6_ := Aside0.mk (Kd.R_below (by (with_reducible repeat (first | apply rA | apply rN | apply Kd.R_drew)); exact HO317.out) hb); have n7_ := Aside0.mk (kB (g := gb318) (o := .cells #[.int .i64 0, .slice none 0 0, .slice none 0 0] 42 (0, 0)) (by (with_reducible repeat (first | refine kN ?_ _ | refine blk_drew ?_ | refine kA ?_ _)); exact BK318.out) hb); have n8_ := Aside0.mk (below_step (by repeat (first | (with_reducible first | exact HB.out | apply bA | apply pN | apply bD | refine bS ?_ GE318.out) | exact HB.out)) hb); have n9_ := Aside0.mk (hbox); have n10_ := Aside0.mk ((by rw [hg]; exact (bZ (by repeat (first | (with_reducible first | exact HB.out | apply bA | apply pN | apply bD | refine bS ?_ GE318.out) | exact HB.out))) : w.heap.size ≤ gb319)); have n11_ := Aside0.mk ((by rw [hg]; exact (bZ (by repeat (first | (with_reducible first | exact HB.out | apply bA | apply pN | apply bD | refine bS ?_ GE318.out) | exact HB.out))) : w.heap.size ≤ gb319)); have n12_ := Aside0.mk ((by rw [hg]; exact Nat.ne_of_lt (blk_lt (g := gb318) (o := .cells #[.int .i64 0, .slice none 0 0, .slice none 0 0] 42 (0, 0)) (by (with_reducible repeat (first | refine kN ?_ _ | refine blk_drew ?_ | refine kA ?_ _)); exact BK318.out)) : gb318 ≠ gb319)); have n13_ := Aside0.mk ((by rw [hg]; exact Nat.ne_of_gt (blk_lt (g := gb318) (o := .cells #[.int .i64 0, .slice none 0 0, .slice none 0 0] 42 (0, 0)) (by (with_reducible repeat (first | refine kN ?_ _ | refine blk_drew ?_ | refine kA ?_ _)); exact BK318.out)) : gb319 ≠ gb318)); clear HO_4; clear HO_5; clear HO304; clear HO307; clear HO311; clear HO314; clear HO317; clear BK318; clear HB; have HO_4 := n0_; have HO_5 := n1_; have HO304 := n2_; have HO307 := n3_; have HO311 := n4_; have HO314 := n5_; have HO317 := n6_; have BK318 := n7_; have HB := n8_; have BK319 := n9_; have GW319 := n10_; have GE319 := n11_; have NB318_319 := n12_; have NB319_318 := n13_; clear n0_ n1_ n2_ n3_ n4_ n5_ n6_ n7_ n8_ n9_ n10_ n11_ n12_ n13_; clear hb hbox hg; have hnb19 := NB318_319.out; have hnc19 := NB319_318.out; have hcz20_0 : w18.cell? ⟨gb318, 0, none⟩ = some (.int .i64 0) := (blk_cell BK318.out 0).trans rfl; have hcz20_1 : w18.cell? ⟨gb318, 1, none⟩ = some (.slice none 0 0) := (blk_cell BK318.out 1).trans rfl; have hcz20_2 : w18.cell? ⟨gb318, 2, none⟩ = some (.slice none 0 0) := (blk_cell BK318.out 2).trans rfl; have hfz20_0 := blk_frozen BK318.out 0; have hfz20_1 := blk_frozen BK318.out 1; have hfz20_2 := blk_frozen BK318.out 2; obtain ⟨Ao21, co21, eo21⟩ := Kd.R_slice HO304.out; subst eo21; obtain ⟨Ao22, co22, eo22⟩ := Kd.R_slice HO307.out; subst eo22; have hcz23_0 : w18.cell? ⟨gb319, 0, none⟩ = some (.int .i64 0) := (blk_cell BK319.out 0).trans rfl; have hcz23_1 : w18.cell? ⟨gb319, 1, none⟩ = some (.slice none 0 0) := (blk_cell BK319.out 1).trans rfl; have hcz23_2 : w18.cell? ⟨gb319, 2, none⟩ = some (.slice none 0 0) := (blk_cell BK319.out 2).trans rfl; have hcz23_3 : w18.cell? ⟨gb319, 3, none⟩ = some (.slice none 0 0) := (blk_cell BK319.out 3).trans rfl; have hfz23_0 := blk_frozen BK319.out 0; have hfz23_1 := blk_frozen BK319.out 1; have hfz23_2 := blk_frozen BK319.out 2; have hfz23_3 := blk_frozen BK319.out 3; obtain ⟨Ao24, co24, eo24⟩ := Kd.R_slice HO311.out; subst eo24; obtain ⟨Ao25, co25, eo25⟩ := Kd.R_slice HO314.out; subst eo25; obtain ⟨Ao26, co26, eo26⟩ := Kd.R_slice HO317.out; subst eo26) | (go_at_call 24; (with_reducible refine (group_Encode.calls kj4 t301 _ _ t302 _ _ t305 t320 t321 _ ?side1 ?side2 ?side3 ?side4 A11.out (HN.out.below (by repeat (first | (with_reducible first | exact HB.out | apply bA | apply pN | apply bD | refine bS ?_ GE318.out | refine bS ?_ GE319.out) | exact HB.out)) (Nat.lt_of_lt_of_le HN.out.lt (Nat.le_refl _)))).mono ?_); (case side1 => refine (Kd.R_reads' (e := 62) (base := w.heap.size) (ok := fun k_ => True) (n := t302.length) (c := co21) ?_).2.2; exact (by (with_reducible repeat (first | apply rA | apply rN | apply Kd.R_drew)); exact (Kd.R_mono (Kd.R_mono (Kd.R_far (p := ⟨gb319, 3, none⟩) (Kd.R_far (p := ⟨gb319, 2, none⟩) (Kd.R_far (p := ⟨gb319, 1, none⟩) (Kd.R_far (p := ⟨gb319, 0, none⟩) (Kd.R_far (p := ⟨gb318, 2, none⟩) (Kd.R_far (p := ⟨gb318, 1, none⟩) (Kd.R_far (p := ⟨gb318, 0, none⟩) (Kd.R_types (Kd.R_types HO304.out BK318.out (by decide)) BK319.out (by decide)) (fun _ hk => hk.1.2) (.int .i64 t301)) (fun _ hk => hk.1.2) (.slice Ao21 t302.length co21)) (fun _ hk => hk.1.2) (.slice Ao22 t305.length co22)) (fun _ hk => hk.2) (.int .i64 t308)) (fun _ hk => hk.2) (.slice Ao24 t309.length co24)) (fun _ hk => hk.2) (.slice Ao25 t312.length co25)) (fun _ hk => hk.2) (.slice Ao26 t315.length co26)) (fun _ h_ => h_.1)) (fun _ h_ => h_.1)))); (case side2 => exact (Kd.R_reads' HO304.out).2.1); (case side3 => refine (Kd.R_reads' (e := 9) (base := w.heap.size) (ok := fun k_ => some k_ ≠ (.slice Ao26 t315.length co26 : Value).ownBlock) (n := t305.length) (c := co22) ?_).2.2; exact (by (with_reducible repeat (first | apply rA | apply rN | apply Kd.R_drew)); exact (Kd.R_mono (Kd.R_mono (Kd.R_far (p := ⟨gb319, 3, none⟩) (Kd.R_far (p := ⟨gb319, 2, none⟩) (Kd.R_far (p := ⟨gb319, 1, none⟩) (Kd.R_far (p := ⟨gb319, 0, none⟩) (Kd.R_far (p := ⟨gb318, 2, none⟩) (Kd.R_far (p := ⟨gb318, 1, none⟩) (Kd.R_far (p := ⟨gb318, 0, none⟩) (Kd.R_types (Kd.R_types HO307.out BK318.out (by decide)) BK319.out (by decide)) (fun _ hk => hk.1.2) (.int .i64 t301)) (fun _ hk => hk.1.2) (.slice Ao21 t302.length co21)) (fun _ hk => hk.1.2) (.slice Ao22 t305.length co22)) (fun _ hk => hk.2) (.int .i64 t308)) (fun _ hk => hk.2) (.slice Ao24 t309.length co24)) (fun _ hk => hk.2) (.slice Ao25 t312.length co25)) (fun _ hk => hk.2) (.slice Ao26 t315.length co26)) (fun _ h_ => h_.1)) (fun _ h_ => h_.1)))); (case side4 => exact (Kd.R_reads' HO307.out).2.1); rintro e w27 ⟨rfl, hb⟩; have n0_ := Aside0.mk (Kd.S_below (by (with_reducible repeat (first | apply Kd.S_alloc | apply Kd.S_drewN | apply Kd.S_drew)); exact (Kd.S_mono (Kd.S_mono (Kd.S_far (p := ⟨gb319, 3, none⟩) (Kd.S_far (p := ⟨gb319, 2, none⟩) (Kd.S_far (p := ⟨gb319, 1, none⟩) (Kd.S_far (p := ⟨gb319, 0, none⟩) (Kd.S_far (p := ⟨gb318, 2, none⟩) (Kd.S_far (p := ⟨gb318, 1, none⟩) (Kd.S_far (p := ⟨gb318, 0, none⟩) (Kd.S_types (Kd.S_mono HO_4.out (fun k_ hk => (⟨hk, hk.2⟩ : _ ∧ k_ ≠ gb318))) BK319.out (by decide)) (fun _ hk => hk.1.2) (.int .i64 t301)) (fun _ hk => hk.1.2) (.slice Ao21 t302.length co21)) (fun _ hk => hk.1.2) (.slice Ao22 t305.length co22)) (fun _ hk => hk.2) (.int .i64 t308)) (fun _ hk => hk.2) (.slice Ao24 t309.length co24)) (fun _ hk => hk.2) (.slice Ao25 t312.length co25)) (fun _ hk => hk.2) (.slice Ao26 t315.length co26)) (fun _ h_ => h_.1)) (fun _ h_ => h_.1))) hb); have n1_ := Aside0.mk (Kd.R_below (by (with_reducible repeat (first | apply rA | apply rN | apply Kd.R_drew)); exact (Kd.R_mono (Kd.R_mono (Kd.R_far (p := ⟨gb319, 3, none⟩) (Kd.R_far (p := ⟨gb319, 2, none⟩) (Kd.R_far (p := ⟨gb319, 1, none⟩) (Kd.R_far (p := ⟨gb319, 0, none⟩) (Kd.R_far (p := ⟨gb318, 2, none⟩) (Kd.R_far (p := ⟨gb318, 1, none⟩) (Kd.R_far (p := ⟨gb318, 0, none⟩) (Kd.R_types (Kd.R_types HO_5.out BK318.out (by decide)) BK319.out (by decide)) (fun _ hk => hk.1.2) (.int .i64 t301)) (fun _ hk => hk.1.2) (.slice Ao21 t302.length co21)) (fun _ hk => hk.1.2) (.slice Ao22 t305.length co22)) (fun _ hk => hk.2) (.int .i64 t308)) (fun _ hk => hk.2) (.slice Ao24 t309.length co24)) (fun _ hk => hk.2) (.slice Ao25 t312.length co25)) (fun _ hk => hk.2) (.slice Ao26 t315.length co26)) (fun _ h_ => h_.1)) (fun _ h_ => h_.1))) hb); have n2_ := Aside0.mk (Kd.R_below (by (with_reducible repeat (first | apply rA | apply rN | apply Kd.R_drew)); exact (Kd.R_mono (Kd.R_mono (Kd.R_far (p := ⟨gb319, 3, none⟩) (Kd.R_far (p := ⟨gb319, 2, none⟩) (Kd.R_far (p := ⟨gb319, 1, none⟩) (Kd.R_far (p := ⟨gb319, 0, none⟩) (Kd.R_far (p := ⟨gb318, 2, none⟩) (Kd.R_far (p := ⟨gb318, 1, none⟩) (Kd.R_far (p := ⟨gb318, 0, none⟩) (Kd.R_types (Kd.R_types HO304.out BK318.out (by decide)) BK319.out (by decide)) (fun _ hk => hk.1.2) (.int .i64 t301)) (fun _ hk => hk.1.2) (.slice Ao21 t302.length co21)) (fun _ hk => hk.1.2) (.slice Ao22 t305.length co22)) (fun _ hk => hk.2) (.int .i64 t308)) (fun _ hk => hk.2) (.slice Ao24 t309.length co24)) (fun _ hk => hk.2) (.slice Ao25 t312.length co25)) (fun _ hk => hk.2) (.slice Ao26 t315.length co26)) (fun _ h_ => h_.1)) (fun _ h_ => h_.1))) hb); have n3_ := Aside0.mk (Kd.R_below (by (with_reducible repeat (first | apply rA | apply rN | apply Kd.R_drew)); exact (Kd.R_mono (Kd.R_mono (Kd.R_far (p := ⟨gb319, 3, none⟩) (Kd.R_far (p := ⟨gb319, 2, none⟩) (Kd.R_far (p := ⟨gb319, 1, none⟩) (Kd.R_far (p := ⟨gb319, 0, none⟩) (Kd.R_far (p := ⟨gb318, 2, none⟩) (Kd.R_far (p := ⟨gb318, 1, none⟩) (Kd.R_far (p := ⟨gb318, 0, none⟩) (Kd.R_types (Kd.R_types HO307.out BK318.out (by decide)) BK319.out (by decide)) (fun _ hk => hk.1.2) (.int .i64 t301)) (fun _ hk => hk.1.2) (.slice Ao21 t302.length co21)) (fun _ hk => hk.1.2) (.slice Ao22 t305.length co22)) (fun _ hk => hk.2) (.int .i64 t308)) (fun _ hk => hk.2) (.slice Ao24 t309.length co24)) (fun _ hk => hk.2) (.slice Ao25 t312.length co25)) (fun _ hk => hk.2) (.slice Ao26 t315.length co26)) (fun _ h_ => h_.1)) (fun _ h_ => h_.1))) hb); have n4_ := Aside0.mk (Kd.R_below (by (with_reducible repeat (first | apply rA | apply rN | apply Kd.R_drew)); exact (Kd.R_mono (Kd.R_mono (Kd.R_far (p := ⟨gb319, 3, none⟩) (Kd.R_far (p := ⟨gb319, 2, none⟩) (Kd.R_far (p := ⟨gb319, 1, none⟩) (Kd.R_far (p := ⟨gb319, 0, none⟩) (Kd.R_far (p := ⟨gb318, 2, none⟩) (Kd.R_far (p := ⟨gb318, 1, none⟩) (Kd.R_far (p := ⟨gb318, 0, none⟩) (Kd.R_types (Kd.R_types HO311.out BK318.out (by decide)) BK319.out (by decide)) (fun _ hk => hk.1.2) (.int .i64 t301)) (fun _ hk => hk.1.2) (.slice Ao21 t302.length co21)) (fun _ hk => hk.1.2) (.slice Ao22 t305.length co22)) (fun _ hk => hk.2) (.int .i64 t308)) (fun _ hk => hk.2) (.slice Ao24 t309.length co24)) (fun _ hk => hk.2) (.slice Ao25 t312.length co25)) (fun _ hk => hk.2) (.slice Ao26 t315.length co26)) (fun _ h_ => h_.1)) (fun _ h_ => h_.1))) hb); have n5_ := Aside0.mk (Kd.R_below (by (with_reducible repeat (first | apply rA | apply rN | apply Kd.R_drew)); exact (Kd.R_mono (Kd.R_mono (Kd.R_far (p := ⟨gb319, 3, none⟩) (Kd.R_far (p := ⟨gb319, 2, none⟩) (Kd.R_far (p := ⟨gb319, 1, none⟩) (Kd.R_far (p := ⟨gb319, 0, none⟩) (Kd.R_far (p := ⟨gb318, 2, none⟩) (Kd.R_far (p := ⟨gb318, 1, none⟩) (Kd.R_far (p := ⟨gb318, 0, none⟩) (Kd.R_types (Kd.R_types HO314.out BK318.out (by decide)) BK319.out (by decide)) (fun _ hk => hk.1.2) (.int .i64 t301)) (fun _ hk => hk.1.2) (.slice Ao21 t302.length co21)) (fun _ hk => hk.1.2) (.slice Ao22 t305.length co22)) (fun _ hk => hk.2) (.int .i64 t308)) (fun _ hk => hk.2) (.slice Ao24 t309.length co24)) (fun _ hk => hk.2) (.slice Ao25 t312.length co25)) (fun _ hk => hk.2) (.slice Ao26 t315.length co26)) (fun _ h_ => h_.1)) (fun _ h_ => h_.1))) hb); have n6_ := Aside0.mk (Kd.R_below (by (with_reducible repeat (first | apply rA | apply rN | apply Kd.R_drew)); exact (Kd.R_mono (Kd.R_mono (Kd.R_far (p := ⟨gb319, 3, none⟩) (Kd.R_far (p := ⟨gb319, 2, none⟩) (Kd.R_far (p := ⟨gb319, 1, none⟩) (Kd.R_far (p := ⟨gb319, 0, none⟩) (Kd.R_far (p := ⟨gb318, 2, none⟩) (Kd.R_far (p := ⟨gb318, 1, none⟩) (Kd.R_far (p := ⟨gb318, 0, none⟩) (Kd.R_types (Kd.R_types HO317.out BK318.out (by decide)) BK319.out (by decide)) (fun _ hk => hk.1.2) (.int .i64 t301)) (fun _ hk => hk.1.2) (.slice Ao21 t302.length co21)) (fun _ hk => hk.1.2) (.slice Ao22 t305.length co22)) (fun _ hk => hk.2) (.int .i64 t308)) (fun _ hk => hk.2) (.slice Ao24 t309.length co24)) (fun _ hk => hk.2) (.slice Ao25 t312.length co25)) (fun _ hk => hk.2) (.slice Ao26 t315.length co26)) (fun _ h_ => h_.1)) (fun _ h_ => h_.1))) hb); have n7_ := Aside0.mk (kB (g := gb318) (o := .cells #[.int .i64 t301, .slice Ao21 t302.length co21, .slice Ao22 t305.length co22] 42 (0, 0)) (by (with_reducible repeat (first | refine kN ?_ _ | refine blk_drew ?_ | refine kA ?_ _)); refine blk_far ?_ NB318_319.out _; (with_reducible repeat (first | refine kN ?_ _ | refine blk_drew ?_ | refine kA ?_ _)); refine blk_far ?_ NB318_319.out _; (with_reducible repeat (first | refine kN ?_ _ | refine blk_drew ?_ | refine kA ?_ _)); refine blk_far ?_ NB318_319.out _; (with_reducible repeat (first | refine kN ?_ _ | refine blk_drew ?_ | refine kA ?_ _)); refine blk_far ?_ NB318_319.out _; (with_reducible repeat (first | refine kN ?_ _ | refine blk_drew ?_ | refine kA ?_ _)); refine blk_put (cs := #[.int .i64 t301, .slice Ao21 t302.length co21, .slice none 0 0]) ?_ 2 _ rfl; (with_reducible repeat (first | refine kN ?_ _ | refine blk_drew ?_ | refine kA ?_ _)); refine blk_put (cs := #[.int .i64 t301, .slice none 0 0, .slice none 0 0]) ?_ 1 _ rfl; (with_reducible repeat (first | refine kN ?_ _ | refine blk_drew ?_ | refine kA ?_ _)); refine blk_put (cs := #[.int .i64 0, .slice none 0 0, .slice none 0 0]) ?_ 0 _ rfl; (with_reducible repeat (first | refine kN ?_ _ | refine blk_drew ?_ | refine kA ?_ _)); exact BK318.out) hb); have n8_ := Aside0.mk (kB (g := gb319) (o := .cells #[.int .i64 t308, .slice Ao24 t309.length co24, .slice Ao25 t312.length co25, .slice Ao26 t315.length co26] 43 (0, 0)) (by (with_reducible repeat (first | refine kN ?_ _ | refine blk_drew ?_ | refine kA ?_ _)); refine blk_put (cs := #[.int .i64 t308, .slice Ao24 t309.length co24, .slice Ao25 t312.length co25, .slice none 0 0]) ?_ 3 _ rfl; (with_reducible repeat (first | refine kN ?_ _ | refine blk_drew ?_ | refine kA ?_ _)); refine blk_put (cs := #[.int .i64 t308, .slice Ao24 t309.length co24, .slice none 0 0, .slice none 0 0]) ?_ 2 _ rfl; (with_reducible repeat (first | refine kN ?_ _ | refine blk_drew ?_ | refine kA ?_ _)); refine blk_put (cs := #[.int .i64 t308, .slice none 0 0, .slice none 0 0, .slice none 0 0]) ?_ 1 _ rfl; (with_reducible repeat (first | refine kN ?_ _ | refine blk_drew ?_ | refine kA ?_ _)); refine blk_put (cs := #[.int .i64 0, .slice none 0 0, .slice none 0 0, .slice none 0 0]) ?_ 0 _ rfl; (with_reducible repeat (first | refine kN ?_ _ | refine blk_drew ?_ | refine kA ?_ _)); refine blk_far ?_ NB319_318.out _; (with_reducible repeat (first | refine kN ?_ _ | refine blk_drew ?_ | refine kA ?_ _)); refine blk_far ?_ NB319_318.out _; (with_reducible repeat (first | refine kN ?_ _ | refine blk_drew ?_ | refine kA ?_ _)); refine blk_far ?_ NB319_318.out _; (with_reducible repeat (first | refine kN ?_ _ | refine blk_drew ?_ | refine kA ?_ _)); exact BK319.out) hb); have n9_ := Aside0.mk (below_step (by repeat (first | (with_reducible first | exact HB.out | apply bA | apply pN | apply bD | refine bS ?_ GE318.out | refine bS ?_ GE319.out) | exact HB.out)) hb); clear HO_4; clear HO_5; clear HO304; clear HO307; clear HO311; clear HO314; clear HO317; clear BK318; clear BK319; clear HB; have HO_4 := n0_; have HO_5 := n1_; have HO304 := n2_; have HO307 := n3_; have HO311 := n4_; have HO314 := n5_; have HO317 := n6_; have BK318 := n7_; have BK319 := n8_; have HB := n9_; clear n0_ n1_ n2_ n3_ n4_ n5_ n6_ n7_ n8_ n9_; (try clear hb); (try clear hb2); (try clear hk); (try clear hi); have hcz28_0 : w27.cell? ⟨gb318, 0, none⟩ = some (.int .i64 t301) := (blk_cell BK318.out 0).trans rfl; have hcz28_1 : w27.cell? ⟨gb318, 1, none⟩ = some (.slice Ao21 t302.length co21) := (blk_cell BK318.out 1).trans rfl; have hcz28_2 : w27.cell? ⟨gb318, 2, none⟩ = some (.slice Ao22 t305.length co22) := (blk_cell BK318.out 2).trans rfl; have hfz28_0 := blk_frozen BK318.out 0; have hfz28_1 := blk_frozen BK318.out 1; have hfz28_2 := blk_frozen BK318.out 2) | ((with_reducible refine gate_builtin (b := .append) (xs := #[.tmp 42, .tmp 44]) rfl ?_); (try (refine gate_guard (by rfl) ?_; dsimp only)); at_builtin; refine Kd.S_append k42 (w0 := w) w.heap.size rfl (.tmp 42) (.tmp 44) 57 42 (.agg #[(.int .i64 0), (.slice none 0 0), (.slice none 0 0)]) 56 rfl Tryd.underlying57 info42 rfl (by decide) (by omega) u4 x4_1 (⟨t301, t302, t305⟩ : S42) [.int .i64 t301, .slice Ao21 t302.length co21, .slice Ao22 t305.length co22] (fun k_ => some k_ ≠ (.slice Ao26 t315.length co26 : Value).ownBlock ∧ k_ ≠ gb318) (fun k_ => some k_ = (.slice Ao21 t302.length co21 : Value).ownBlock ∨ some k_ = (.slice Ao22 t305.length co22 : Value).ownBlock) rfl rfl ?aP (fun k_ hk_ => hk_.elim (fun h_ => ((Kd.R_mono (ok' := fun k_ => ((fun k_ => some k_ ≠ (.slice Ao26 t315.length co26 : Value).ownBlock ∧ k_ ≠ gb318)) k_ ∧ some k_ ≠ (u4 : Value).ownBlock) (Kd.R_types (Kd.R_apart' (Kd.R_apart' (HO304.out) (Kd.R_typed HO317.out) (by decide)) (Kd.S_typed HO_4.out) (by decide)) BK318.out (by decide)) (fun k_ hk => ⟨⟨hk.1.1.2, hk.2⟩, hk.1.2⟩))).1 k_ h_.symm) (fun h_ => ((Kd.R_mono (ok' := fun k_ => ((fun k_ => some k_ ≠ (.slice Ao26 t315.length co26 : Value).ownBlock ∧ k_ ≠ gb318)) k_ ∧ some k_ ≠ (u4 : Value).ownBlock) (Kd.R_types (Kd.R_apart' (HO307.out) (Kd.S_typed HO_4.out) (by decide)) BK318.out (by decide)) (fun k_ hk => ⟨⟨hk.1.1, hk.2⟩, hk.1.2⟩))).1 k_ h_.symm)) ?aF ?aO ?aB ?aS ?aL ?_; (case aP => exact k42_mkM _ _ _ (⟨t301, t302, t305⟩ : S42) (Kd.R_mono (Kd.R_tight rfl (Kd.R_mono (ok' := fun k_ => ((fun k_ => some k_ ≠ (.slice Ao26 t315.length co26 : Value).ownBlock ∧ k_ ≠ gb318)) k_ ∧ some k_ ≠ (u4 : Value).ownBlock) (Kd.R_types (Kd.R_apart' (Kd.R_apart' (HO304.out) (Kd.R_typed HO317.out) (by decide)) (Kd.S_typed HO_4.out) (by decide)) BK318.out (by decide)) (fun k_ hk => ⟨⟨hk.1.1.2, hk.2⟩, hk.1.2⟩))) (fun _ h_ => Or.inl h_)) (Kd.R_mono (Kd.R_tight rfl (Kd.R_mono (ok' := fun k_ => ((fun k_ => some k_ ≠ (.slice Ao26 t315.length co26 : Value).ownBlock ∧ k_ ≠ gb318)) k_ ∧ some k_ ≠ (u4 : Value).ownBlock) (Kd.R_types (Kd.R_apart' (HO307.out) (Kd.S_typed HO_4.out) (by decide)) BK318.out (by decide)) (fun k_ hk => ⟨⟨hk.1.1, hk.2⟩, hk.1.2⟩))) (fun _ h_ => Or.inr (h_)))); (case aB => exact (by repeat (first | (with_reducible first | exact HB.out | apply bA | apply pN | apply bD | refine bS ?_ GE318.out | refine bS ?_ GE319.out) | exact HB.out))); (case aF => exact (fun k_ hk => ⟨Kd.fresh' (Kd.R_lt (by (with_reducible repeat (first | apply rA | apply rN | apply Kd.R_drew)); exact HO317.out)) k_ hk, Kd.freshB (g := gb318) (o := .cells #[.int .i64 t301, .slice Ao21 t302.length co21, .slice Ao22 t305.length co22] 42 (0, 0)) (by (with_reducible repeat (first | refine kN ?_ _ | refine blk_drew ?_ | refine kA ?_ _)); exact BK318.out) k_ hk⟩)); (case aO => exact (by (with_reducible repeat (first | apply Kd.S_alloc | apply Kd.S_drewN | apply Kd.S_drew)); exact Kd.S_mono HO_4.out (fun k_ hk => ⟨⟨hk.1.2, hk.2⟩, fun e_ => e_.elim (fun h_ => hk.1.1.1.2 h_) (fun h_ => hk.1.1.2 h_)⟩))); (case aS => exact (bZ (by repeat (first | (with_reducible first | exact HB.out | apply bA | apply pN | apply bD | refine bS ?_ GE318.out | refine bS ?_ GE319.out) | exact HB.out)))); (case aL => have := LMc13.out; omega); intro v323 w29 ho hb hg hat; rw [← Ny322.out] at ho; have n0_ := Aside0.mk (Kd.R_over' (by (with_reducible repeat (first | apply rA | apply rN | apply Kd.R_drew)); exact HO_5.out) (Kd.S_typed (by (with_reducible repeat (first | apply Kd.S_alloc | apply Kd.S_drewN | apply Kd.S_drew)); exact HO_4.out)) (by decide) hg); have n1_ := Aside0.mk (Kd.R_over' (by (with_reducible repeat (first | apply rA | apply rN | apply Kd.R_drew)); exact HO311.out) (Kd.S_typed (by (with_reducible repeat (first | apply Kd.S_alloc | apply Kd.S_drewN | apply Kd.S_drew)); exact HO_4.out)) (by decide) hg); have n2_ := Aside0.mk (Kd.R_over' (by (with_reducible repeat (first | apply rA | apply rN | apply Kd.R_drew)); exact HO314.out) (Kd.S_typed (by (with_reducible repeat (first | apply Kd.S_alloc | apply Kd.S_drewN | apply Kd.S_drew)); exact HO_4.out)) (by decide) hg); have n3_ := Aside0.mk (Kd.R_over' (by (with_reducible repeat (first | apply rA | apply rN | apply Kd.R_drew)); exact HO317.out) (Kd.S_typed (by (with_reducible repeat (first | apply Kd.S_alloc | apply Kd.S_drewN | apply Kd.S_drew)); exact HO_4.out)) (by decide) hg); have n4_ := Aside0.mk (blk_grown (g := gb318) (o := .cells #[.int .i64 t301, .slice Ao21 t302.length co21, .slice Ao22 t305.length co22] 42 (0, 0)) (by (with_reducible repeat (first | refine kN ?_ _ | refine blk_drew ?_ | refine kA ?_ _)); exact BK318.out) hg (Kd.S_away HO_4.out (fun _ hk => hk.2))); have n5_ := Aside0.mk (blk_grown (g := gb319) (o := .cells #[.int .i64 t308, .slice Ao24 t309.length co24, .slice Ao25 t312.length co25, .slice Ao26 t315.length co26] 43 (0, 0)) (by (with_reducible repeat (first | refine kN ?_ _ | refine blk_drew ?_ | refine kA ?_ _)); exact BK319.out) hg (Kd.S_ne HO_4.out BK319.out (by decide))); have n6_ := Aside0.mk (hb); have n7_ := Aside0.mk (ho); clear HO_5; clear HO311; clear HO314; clear HO317; clear BK318; clear BK319; clear HB; clear HO_4; clear HO304; clear HO307; have HO_5 := n0_; have HO311 := n1_; have HO314 := n2_; have HO317 := n3_; have BK318 := n4_; have BK319 := n5_; have HB := n6_; have HO324 := n7_; clear n0_ n1_ n2_ n3_ n4_ n5_ n6_ n7_; clear ho hb hg hat) | ((with_reducible refine gate_builtin (b := .append) (xs := #[.tmp 46, .tmp 50]) rfl ?_); (try (refine gate_guard (by rfl) ?_; dsimp only)); at_builtin; refine Kd.R_append (Kd.int .i64) (w0 := w) w.heap.size rfl (.tmp 46) (.tmp 50) 36 3 (.int .i64 0) 8 rfl Tryd.underlying36 info3 rfl (by decide) (by omega) u5 x5_1 ((x3_1.size : Int) / 64) [.int .i64 ((x3_1.size : Int) / 64)] (fun k_ => some k_ ≠ (.slice Ao24 t309.length co24 : Value).ownBlock) (fun _ => False) rfl rfl ?aP (fun _ hk => hk.elim) ?aF ?aO ?aB ?aS ?aL ?_; (case aP => exact rfl); (case aB => exact (by repeat (first | (with_reducible first | exact HB.out | apply bA | apply pN | apply bD | refine bS ?_ GE318.out | refine bS ?_ GE319.out) | exact HB.out))); (case aF => exact (fun k_ hk => Kd.fresh' (Kd.R_lt (by (with_reducible repeat (first | apply rA | apply rN | apply Kd.R_drew)); exact HO311.out)) k_ hk)); (case aO => exact (by (with_reducible repeat (first | apply rA | apply rN | apply Kd.R_drew)); exact Kd.R_mono HO_5.out (fun _ hk => hk.2))); (case aS => exact (bZ (by repeat (first | (with_reducible first | exact HB.out | apply bA | apply pN | apply bD | refine bS ?_ GE318.out | refine bS ?_ GE319.out) | exact HB.out)))); (case aL => have := LMc14.out; omega); intro v326 w30 ho hb hg hat; have hsj_ : (x3_1.size : Int) / 64 = wrap64 ((x3_1.size : Int) / 64) := (by unfold wrap64; omega); rw [hsj_, ← Ny325.out] at ho; clear hsj_; have n0_ := Aside0.mk (Kd.R_after (ok := (fun _ => True)) (by (with_reducible repeat (first | apply rA | apply rN | apply Kd.R_drew)); exact HO311.out) hg hat); have n1_ := Aside0.mk (Kd.R_over' (by (with_reducible repeat (first | apply rA | apply rN | apply Kd.R_drew)); exact HO314.out) (Kd.R_typed (by (with_reducible repeat (first | apply rA | apply rN | apply Kd.R_drew)); exact HO_5.out)) (by decide) hg); have n2_ := Aside0.mk (Kd.R_over' (by (with_reducible repeat (first | apply rA | apply rN | apply Kd.R_drew)); exact HO317.out) (Kd.R_typed (by (with_reducible repeat (first | apply rA | apply rN | apply Kd.R_drew)); exact HO_5.out)) (by decide) hg); have n3_ := Aside0.mk (blk_grown (g := gb318) (o := .cells #[.int .i64 t301, .slice Ao21 t302.length co21, .slice Ao22 t305.length co22] 42 (0, 0)) (by (with_reducible repeat (first | refine kN ?_ _ | refine blk_drew ?_ | refine kA ?_ _)); exact BK318.out) hg (Kd.R_ne HO_5.out BK318.out (by decide))); have n4_ := Aside0.mk (blk_grown (g := gb319) (o := .cells #[.int .i64 t308, .slice Ao24 t309.length co24, .slice Ao25 t312.length co25, .slice Ao26 t315.length co26] 43 (0, 0)) (by (with_reducible repeat (first | refine kN ?_ _ | refine blk_drew ?_ | refine kA ?_ _)); exact BK319.out) hg (Kd.R_ne HO_5.out BK319.out (by decide))); have n5_ := Aside0.mk (Kd.S_over' (by (with_reducible repeat (first | apply Kd.S_alloc | apply Kd.S_drewN | apply Kd.S_drew)); exact HO324.out) (Kd.R_typed (by (with_reducible repeat (first | apply rA | apply rN | apply Kd.R_drew)); exact HO_5.out)) (by decide) hg); have n6_ := Aside0.mk (hb); have n7_ := Aside0.mk (ho); clear HO311; clear HO314; clear HO317; clear BK318; clear BK319; clear HO324; clear HB; clear HO_5; have HO311 := n0_; have HO314 := n1_; have HO317 := n2_; have BK318 := n3_; have BK319 := n4_; have HO324 := n5_; have HB := n6_; have HO327 := n7_; clear n0_ n1_ n2_ n3_ n4_ n5_ n6_ n7_; clear ho hb hg hat))
             go_roundg kj4
             case measure => have := HK1.out; have := HJ4.out; omega
             case rel => exact ⟨(x3_1 ++ t320), (y322), (y325), (wrap64 (x6_1 + 1)), (by first | rfl | (simp; done) | (simp [*]; done)), (by first | rfl | (simp; done) | (simp [*]; done)), H', ⟨by have := HK1.out; have := HJ4.out; omega⟩, ⟨by (with_reducible repeat (first | apply Kd.S_alloc | apply Kd.S_drewN | apply Kd.S_drew)); exact Kd.S_mono HO324.out (fun _ hk => trivial)⟩, ⟨by (with_reducible repeat (first | apply rA | apply rN | apply Kd.R_drew)); exact Kd.R_mono HO327.out (fun _ hk => trivial)⟩, ⟨by repeat (first | (with_reducible first | exact HB.out | apply bA | apply pN | apply bD | refine bS ?_ GE318.out | refine bS ?_ GE319.out) | exact HB.out)⟩⟩
            ·rw [if_neg c15] at H
             exact absurd H (by simp)
           ·rw [if_neg c14] at H
            exact absurd H (by simp)
          ·rw [if_neg c13] at H
           exact absurd H (by simp)
         ·rw [if_neg c12] at H
          have c12b0 : (t321 == 0) = false := beq_eq_false_iff_ne.mpr c12
          have c12b1 : (t321 != 0) = true := bne_iff_ne.mpr c12
          have H' := Aside0.mk H
          clear H
          have p300 : 0 ≤ (x6_1 : Int) := of_decide_eq_true (by first | (with_reducible assumption) | assumption)
          have q300 : x6_1 < (l0.length : Int) := of_decide_eq_true (by first | (with_reducible assumption) | assumption)
          obtain ⟨ad300, A300_1, c300_1, A300_2, c300_2, A300_3, c300_3, e300, hx300_0, hx300_1, hx300_2, hx300_3, hl300_1, hi300_1, hl300_2, hi300_2, hl300_3, hi300_3⟩ := at_T39 HR0.out x6_1 p300 q300
          cases e300
          replace hx300_0 := (HB.out.cell (World.block_lt_of_cell? w _ hx300_0)).trans hx300_0
          replace hx300_1 := (HB.out.cell (World.block_lt_of_cell? w _ hx300_1)).trans hx300_1
          replace hx300_2 := (HB.out.cell (World.block_lt_of_cell? w _ hx300_2)).trans hx300_2
          replace hx300_3 := (HB.out.cell (World.block_lt_of_cell? w _ hx300_3)).trans hx300_3
          have HR300_1 := Aside0.mk hi300_1
          have HC300_1 := Aside0.mk hl300_1
          clear hi300_1 hl300_1
          have HR300_2 := Aside0.mk hi300_2
          have HC300_2 := Aside0.mk hl300_2
          clear hi300_2 hl300_2
          have HR300_3 := Aside0.mk hi300_3
          have HC300_3 := Aside0.mk hl300_3
          clear hi300_3 hl300_3
          replace p300 := eq_true p300
          replace q300 := eq_true q300
          go_wp2_with (first | (go_at_call 23; (with_reducible refine (corbellaw18_given.calls ((rd_T39 l0 x6_1).f0) _ _ ((rd_T39 l0 x6_1).f1) _ _ ((rd_T39 l0 x6_1).f2) _ _ ((rd_T39 l0 x6_1).f3) t301 t302 t305 t308 t309 t312 t315 _ ?side1 ?side2 ?side3 ?side4 ?side5 ?side6 A10.out).mono ?_); (case side1 => repeat (first | exact (Kd.C_below HR300_1.out HB.out) | (with_reducible refine Kd.C_alloc ?_ _) | (with_reducible refine Kd.C_drewN ?_ _) | (with_reducible refine Kd.C_drew ?_))); (case side2 => exact HC300_1.out); (case side3 => repeat (first | exact (Kd.C_below HR300_2.out HB.out) | (with_reducible refine Kd.C_alloc ?_ _) | (with_reducible refine Kd.C_drewN ?_ _) | (with_reducible refine Kd.C_drew ?_))); (case side4 => exact HC300_2.out); (case side5 => repeat (first | exact (Kd.C_below HR300_3.out HB.out) | (with_reducible refine Kd.C_alloc ?_ _) | (with_reducible refine Kd.C_drewN ?_ _) | (with_reducible refine Kd.C_drew ?_))); (case side6 => exact HC300_3.out); rintro e w31 ⟨v303, v306, v310, v313, v316, rfl, ho0, ho1, ho2, ho3, ho4, hb⟩; have n0_ := Aside0.mk (Kd.S_mono (Kd.S_told (Kd.S_told (Kd.S_told (Kd.S_old (by (with_reducible repeat (first | apply Kd.S_alloc | apply Kd.S_drewN | apply Kd.S_drew)); exact HO_4.out) hb) (Kd.R_base ho0)) (Kd.R_base ho1)) (Kd.R_base ho4)) (fun _ h_ => h_.1)); have n1_ := Aside0.mk (Kd.R_elder' (by (with_reducible repeat (first | apply rA | apply rN | apply Kd.R_drew)); exact HO_5.out) (Kd.R_base ho2) hb); have n2_ := Aside0.mk (Kd.R_lower ho0 (bZ (by repeat (first | (with_reducible first | exact HB.out | apply bA | apply pN | apply bD) | exact HB.out)))); have n3_ := Aside0.mk (Kd.R_lower ho1 (bZ (by repeat (first | (with_reducible first | exact HB.out | apply bA | apply pN | apply bD) | exact HB.out)))); have n4_ := Aside0.mk (Kd.R_lower (Kd.R_new' ho2 (Kd.R_lt (by (with_reducible repeat (first | apply rA | apply rN | apply Kd.R_drew)); exact HO_5.out))) (bZ (by repeat (first | (with_reducible first | exact HB.out | apply bA | apply pN | apply bD) | exact HB.out)))); have n5_ := Aside0.mk (Kd.R_lower ho3 (bZ (by repeat (first | (with_reducible first | exact HB.out | apply bA | apply pN | apply bD) | exact HB.out)))); have n6_ := Aside0.mk (Kd.R_lower ho4 (bZ (by repeat (first | (with_reducible first | exact HB.out | apply bA | apply pN | apply bD) | exact HB.out)))); have n7_ := Aside0.mk (below_step (by repeat (first | (with_reducible first | exact HB.out | apply bA | apply pN | apply bD) | exact HB.out)) hb); clear HO_4; clear HO_5; clear HB; have HO_4 := n0_; have HO_5 := n1_; have HO304 := n2_; have HO307 := n3_; have HO311 := n4_; have HO314 := n5_; have HO317 := n6_; have HB := n7_; clear n0_ n1_ n2_ n3_ n4_ n5_ n6_ n7_; (try clear hb); (try clear hb2); (try clear hk); (try clear hi); (try clear ho0); (try clear ho1); (try clear ho2); (try clear ho3); (try clear ho4)) | ((with_reducible refine gate_dst (N := 7) rfl ?_); (try (refine gate_guard (by rfl) ?_; dsimp only)); refine box_event ?hg (N := 7) ?hd (cs := #[.int .i64 0, .slice none 0 0, .slice none 0 0]) (t := 42) ?hr ?_; (case hd => rfl); (case hg => rfl); (case hr => first | (go_simp; done) | (go_simp; rfl)); intro gb318 hg w32 hbox hb; have n0_ := Aside0.mk (Kd.S_below (Kd.S_elderB (by (with_reducible repeat (first | apply Kd.S_alloc | apply Kd.S_drewN | apply Kd.S_drew)); exact HO_4.out) gb318 (Nat.le_of_eq hg.symm)) hb); have n1_ := Aside0.mk (Kd.R_below (by (with_reducible repeat (first | apply rA | apply rN | apply Kd.R_drew)); exact HO_5.out) hb); have n2_ := Aside0.mk (Kd.R_below (by (with_reducible repeat (first | apply rA | apply rN | apply Kd.R_drew)); exact HO304.out) hb); have n3_ := Aside0.mk (Kd.R_below (by (with_reducible repeat (first | apply rA | apply rN | apply Kd.R_drew)); exact HO307.out) hb); have n4_ := Aside0.mk (Kd.R_below (by (with_reducible repeat (first | apply rA | apply rN | apply Kd.R_drew)); exact HO311.out) hb); have n5_ := Aside0.mk (Kd.R_below (by (with_reducible repeat (first | apply rA | apply rN | apply Kd.R_drew)); exact HO314.out) hb); have n6_ := Aside0.mk (Kd.R_below (by (with_reducible repeat (first | apply rA | apply rN | apply Kd.R_drew)); exact HO317.out) hb); have n7_ := Aside0.mk (below_step (by repeat (first | (with_reducible first | exact HB.out | apply bA | apply pN | apply bD) | exact HB.out)) hb); have n8_ := Aside0.mk (hbox); have n9_ := Aside0.mk ((by rw [hg]; exact (bZ (by repeat (first | (with_reducible first | exact HB.out | apply bA | apply pN | apply bD) | exact HB.out))) : w.heap.size ≤ gb318)); have n10_ := Aside0.mk ((by rw [hg]; exact (bZ (by repeat (first | (with_reducible first | exact HB.out | apply bA | apply pN | apply bD) | exact HB.out))) : w.heap.size ≤ gb318)); clear HO_4; clear HO_5; clear HO304; clear HO307; clear HO311; clear HO314; clear HO317; clear HB; have HO_4 := n0_; have HO_5 := n1_; have HO304 := n2_; have HO307 := n3_; have HO311 := n4_; have HO314 := n5_; have HO317 := n6_; have HB := n7_; have BK318 := n8_; have GW318 := n9_; have GE318 := n10_; clear n0_ n1_ n2_ n3_ n4_ n5_ n6_ n7_ n8_ n9_ n10_; clear hb hbox hg) | ((with_reducible refine gate_dst (N := 8) rfl ?_); (try (refine gate_guard (by rfl) ?_; dsimp only)); refine box_event ?hg (N := 8) ?hd (cs := #[.int .i64 0, .slice none 0 0, .slice none 0 0, .slice none 0 0]) (t := 43) ?hr ?_; (case hd => rfl); (case hg => rfl); (case hr => first | (go_simp; done) | (go_simp; rfl)); intro gb319 hg w33 hbox hb; have n0_ := Aside0.mk (Kd.S_below (by (with_reducible repeat (first | apply Kd.S_alloc | apply Kd.S_drewN | apply Kd.S_drew)); exact HO_4.out) hb); have n1_ := Aside0.mk (Kd.R_below (by (with_reducible repeat (first | apply rA | apply rN | apply Kd.R_drew)); exact HO_5.out) hb); have n2_ := Aside0.mk (Kd.R_below (by (with_reducible repeat (first | apply rA | apply rN | apply Kd.R_drew)); exact HO304.out) hb); have n3_ := Aside0.mk (Kd.R_below (by (with_reducible repeat (first | apply rA | apply rN | apply Kd.R_drew)); exact HO307.out) hb); have n4_ := Aside0.mk (Kd.R_below (by (with_reducible repeat (first | apply rA | apply rN | apply Kd.R_drew)); exact HO311.out) hb); have n5_ := Aside0.mk (Kd.R_below (by (with_reducible repeat (first | apply rA | apply rN | apply Kd.R_drew)); exact HO314.out) hb); have n6_ := Aside0.mk (Kd.R_below (by (with_reducible repeat (first | apply rA | apply rN | apply Kd.R_drew)); exact HO317.out) hb); have n7_ := Aside0.mk (kB (g := gb318) (o := .cells #[.int .i64 0, .slice none 0 0, .slice none 0 0] 42 (0, 0)) (by (with_reducible repeat (first | refine kN ?_ _ | refine blk_drew ?_ | refine kA ?_ _)); exact BK318.out) hb); have n8_ := Aside0.mk (below_step (by repeat (first | (with_reducible first | exact HB.out | apply bA | apply pN | apply bD | refine bS ?_ GE318.out) | exact HB.out)) hb); have n9_ := Aside0.mk (hbox); have n10_ := Aside0.mk ((by rw [hg]; exact (bZ (by repeat (first | (with_reducible first | exact HB.out | apply bA | apply pN | apply bD | refine bS ?_ GE318.out) | exact HB.out))) : w.heap.size ≤ gb319)); have n11_ := Aside0.mk ((by rw [hg]; exact (bZ (by repeat (first | (with_reducible first | exact HB.out | apply bA | apply pN | apply bD | refine bS ?_ GE318.out) | exact HB.out))) : w.heap.size ≤ gb319)); have n12_ := Aside0.mk ((by rw [hg]; exact Nat.ne_of_lt (blk_lt (g := gb318) (o := .cells #[.int .i64 0, .slice none 0 0, .slice none 0 0] 42 (0, 0)) (by (with_reducible repeat (first | refine kN ?_ _ | refine blk_drew ?_ | refine kA ?_ _)); exact BK318.out)) : gb318 ≠ gb319)); have n13_ := Aside0.mk ((by rw [hg]; exact Nat.ne_of_gt (blk_lt (g := gb318) (o := .cells #[.int .i64 0, .slice none 0 0, .slice none 0 0] 42 (0, 0)) (by (with_reducible repeat (first | refine kN ?_ _ | refine blk_drew ?_ | refine kA ?_ _)); exact BK318.out)) : gb319 ≠ gb318)); clear HO_4; clear HO_5; clear HO304; clear HO307; clear HO311; clear HO314; clear HO317; clear BK318; clear HB; have HO_4 := n0_; have HO_5 := n1_; have HO304 := n2_; have HO307 := n3_; have HO311 := n4_; have HO314 := n5_; have HO317 := n6_; have BK318 := n7_; have HB := n8_; have BK319 := n9_; have GW319 := n10_; have GE319 := n11_; have NB318_319 := n12_; have NB319_318 := n13_; clear n0_ n1_ n2_ n3_ n4_ n5_ n6_ n7_ n8_ n9_ n10_ n11_ n12_ n13_; clear hb hbox hg; have hnb34 := NB318_319.out; have hnc34 := NB319_318.out; have hcz35_0 : w33.cell? ⟨gb318, 0, none⟩ = some (.int .i64 0) := (blk_cell BK318.out 0).trans rfl; have hcz35_1 : w33.cell? ⟨gb318, 1, none⟩ = some (.slice none 0 0) := (blk_cell BK318.out 1).trans rfl; have hcz35_2 : w33.cell? ⟨gb318, 2, none⟩ = some (.slice none 0 0) := (blk_cell BK318.out 2).trans rfl; have hfz35_0 := blk_frozen BK318.out 0; have hfz35_1 := blk_frozen BK318.out 1; have hfz35_2 := blk_frozen BK318.out 2; obtain ⟨Ao36, co36, eo36⟩ := Kd.R_slice HO304.out; subst eo36; obtain ⟨Ao37, co37, eo37⟩ := Kd.R_slice HO307.out; subst eo37; have hcz38_0 : w33.cell? ⟨gb319, 0, none⟩ = some (.int .i64 0) := (blk_cell BK319.out 0).trans rfl; have hcz38_1 : w33.cell? ⟨gb319, 1, none⟩ = some (.slice none 0 0) := (blk_cell BK319.out 1).trans rfl; have hcz38_2 : w33.cell? ⟨gb319, 2, none⟩ = some (.slice none 0 0) := (blk_cell BK319.out 2).trans rfl; have hcz38_3 : w33.cell? ⟨gb319, 3, none⟩ = some (.slice none 0 0) := (blk_cell BK319.out 3).trans rfl; have hfz38_0 := blk_frozen BK319.out 0; have hfz38_1 := blk_frozen BK319.out 1; have hfz38_2 := blk_frozen BK319.out 2; have hfz38_3 := blk_frozen BK319.out 3; obtain ⟨Ao39, co39, eo39⟩ := Kd.R_slice HO311.out; subst eo39; obtain ⟨Ao40, co40, eo40⟩ := Kd.R_slice HO314.out; subst eo40; obtain ⟨Ao41, co41, eo41⟩ := Kd.R_slice HO317.out; subst eo41) | (go_at_call 24; (with_reducible refine (group_Encode.calls kj4 t301 _ _ t302 _ _ t305 t320 t321 _ ?side1 ?side2 ?side3 ?side4 A11.out (HN.out.below (by repeat (first | (with_reducible first | exact HB.out | apply bA | apply pN | apply bD | refine bS ?_ GE318.out | refine bS ?_ GE319.out) | exact HB.out)) (Nat.lt_of_lt_of_le HN.out.lt (Nat.le_refl _)))).mono ?_); (case side1 => refine (Kd.R_reads' (e := 62) (base := w.heap.size) (ok := fun k_ => True) (n := t302.length) (c := co36) ?_).2.2; exact (by (with_reducible repeat (first | apply rA | apply rN | apply Kd.R_drew)); exact (Kd.R_mono (Kd.R_mono (Kd.R_far (p := ⟨gb319, 3, none⟩) (Kd.R_far (p := ⟨gb319, 2, none⟩) (Kd.R_far (p := ⟨gb319, 1, none⟩) (Kd.R_far (p := ⟨gb319, 0, none⟩) (Kd.R_far (p := ⟨gb318, 2, none⟩) (Kd.R_far (p := ⟨gb318, 1, none⟩) (Kd.R_far (p := ⟨gb318, 0, none⟩) (Kd.R_types (Kd.R_types HO304.out BK318.out (by decide)) BK319.out (by decide)) (fun _ hk => hk.1.2) (.int .i64 t301)) (fun _ hk => hk.1.2) (.slice Ao36 t302.length co36)) (fun _ hk => hk.1.2) (.slice Ao37 t305.length co37)) (fun _ hk => hk.2) (.int .i64 t308)) (fun _ hk => hk.2) (.slice Ao39 t309.length co39)) (fun _ hk => hk.2) (.slice Ao40 t312.length co40)) (fun _ hk => hk.2) (.slice Ao41 t315.length co41)) (fun _ h_ => h_.1)) (fun _ h_ => h_.1)))); (case side2 => exact (Kd.R_reads' HO304.out).2.1); (case side3 => refine (Kd.R_reads' (e := 9) (base := w.heap.size) (ok := fun k_ => some k_ ≠ (.slice Ao41 t315.length co41 : Value).ownBlock) (n := t305.length) (c := co37) ?_).2.2; exact (by (with_reducible repeat (first | apply rA | apply rN | apply Kd.R_drew)); exact (Kd.R_mono (Kd.R_mono (Kd.R_far (p := ⟨gb319, 3, none⟩) (Kd.R_far (p := ⟨gb319, 2, none⟩) (Kd.R_far (p := ⟨gb319, 1, none⟩) (Kd.R_far (p := ⟨gb319, 0, none⟩) (Kd.R_far (p := ⟨gb318, 2, none⟩) (Kd.R_far (p := ⟨gb318, 1, none⟩) (Kd.R_far (p := ⟨gb318, 0, none⟩) (Kd.R_types (Kd.R_types HO307.out BK318.out (by decide)) BK319.out (by decide)) (fun _ hk => hk.1.2) (.int .i64 t301)) (fun _ hk => hk.1.2) (.slice Ao36 t302.length co36)) (fun _ hk => hk.1.2) (.slice Ao37 t305.length co37)) (fun _ hk => hk.2) (.int .i64 t308)) (fun _ hk => hk.2) (.slice Ao39 t309.length co39)) (fun _ hk => hk.2) (.slice Ao40 t312.length co40)) (fun _ hk => hk.2) (.slice Ao41 t315.length co41)) (fun _ h_ => h_.1)) (fun _ h_ => h_.1)))); (case side4 => exact (Kd.R_reads' HO307.out).2.1); rintro e w42 ⟨rfl, hb⟩; have n0_ := Aside0.mk (Kd.S_below (by (with_reducible repeat (first | apply Kd.S_alloc | apply Kd.S_drewN | apply Kd.S_drew)); exact (Kd.S_mono (Kd.S_mono (Kd.S_far (p := ⟨gb319, 3, none⟩) (Kd.S_far (p := ⟨gb319, 2, none⟩) (Kd.S_far (p := ⟨gb319, 1, none⟩) (Kd.S_far (p := ⟨gb319, 0, none⟩) (Kd.S_far (p := ⟨gb318, 2, none⟩) (Kd.S_far (p := ⟨gb318, 1, none⟩) (Kd.S_far (p := ⟨gb318, 0, none⟩) (Kd.S_types (Kd.S_mono HO_4.out (fun k_ hk => (⟨hk, hk.2⟩ : _ ∧ k_ ≠ gb318))) BK319.out (by decide)) (fun _ hk => hk.1.2) (.int .i64 t301)) (fun _ hk => hk.1.2) (.slice Ao36 t302.length co36)) (fun _ hk => hk.1.2) (.slice Ao37 t305.length co37)) (fun _ hk => hk.2) (.int .i64 t308)) (fun _ hk => hk.2) (.slice Ao39 t309.length co39)) (fun _ hk => hk.2) (.slice Ao40 t312.length co40)) (fun _ hk => hk.2) (.slice Ao41 t315.length co41)) (fun _ h_ => h_.1)) (fun _ h_ => h_.1))) hb); have n1_ := Aside0.mk (Kd.R_below (by (with_reducible repeat (first | apply rA | apply rN | apply Kd.R_drew)); exact (Kd.R_mono (Kd.R_mono (Kd.R_far (p := ⟨gb319, 3, none⟩) (Kd.R_far (p := ⟨gb319, 2, none⟩) (Kd.R_far (p := ⟨gb319, 1, none⟩) (Kd.R_far (p := ⟨gb319, 0, none⟩) (Kd.R_far (p := ⟨gb318, 2, none⟩) (Kd.R_far (p := ⟨gb318, 1, none⟩) (Kd.R_far (p := ⟨gb318, 0, none⟩) (Kd.R_types (Kd.R_types HO_5.out BK318.out (by decide)) BK319.out (by decide)) (fun _ hk => hk.1.2) (.int .i64 t301)) (fun _ hk => hk.1.2) (.slice Ao36 t302.length co36)) (fun _ hk => hk.1.2) (.slice Ao37 t305.length co37)) (fun _ hk => hk.2) (.int .i64 t308)) (fun _ hk => hk.2) (.slice Ao39 t309.length co39)) (fun _ hk => hk.2) (.slice Ao40 t312.length co40)) (fun _ hk => hk.2) (.slice Ao41 t315.length co41)) (fun _ h_ => h_.1)) (fun _ h_ => h_.1))) hb); have n2_ := Aside0.mk (Kd.R_below (by (with_reducible repeat (first | apply rA | apply rN | apply Kd.R_drew)); exact (Kd.R_mono (Kd.R_mono (Kd.R_far (p := ⟨gb319, 3, none⟩) (Kd.R_far (p := ⟨gb319, 2, none⟩) (Kd.R_far (p := ⟨gb319, 1, none⟩) (Kd.R_far (p := ⟨gb319, 0, none⟩) (Kd.R_far (p := ⟨gb318, 2, none⟩) (Kd.R_far (p := ⟨gb318, 1, none⟩) (Kd.R_far (p := ⟨gb318, 0, none⟩) (Kd.R_types (Kd.R_types HO304.out BK318.out (by decide)) BK319.out (by decide)) (fun _ hk => hk.1.2) (.int .i64 t301)) (fun _ hk => hk.1.2) (.slice Ao36 t302.length co36)) (fun _ hk => hk.1.2) (.slice Ao37 t305.length co37)) (fun _ hk => hk.2) (.int .i64 t308)) (fun _ hk => hk.2) (.slice Ao39 t309.length co39)) (fun _ hk => hk.2) (.slice Ao40 t312.length co40)) (fun _ hk => hk.2) (.slice Ao41 t315.length co41)) (fun _ h_ => h_.1)) (fun _ h_ => h_.1))) hb); have n3_ := Aside0.mk (Kd.R_below (by (with_reducible repeat (first | apply rA | apply rN | apply Kd.R_drew)); exact (Kd.R_mono (Kd.R_mono (Kd.R_far (p := ⟨gb319, 3, none⟩) (Kd.R_far (p := ⟨gb319, 2, none⟩) (Kd.R_far (p := ⟨gb319, 1, none⟩) (Kd.R_far (p := ⟨gb319, 0, none⟩) (Kd.R_far (p := ⟨gb318, 2, none⟩) (Kd.R_far (p := ⟨gb318, 1, none⟩) (Kd.R_far (p := ⟨gb318, 0, none⟩) (Kd.R_types (Kd.R_types HO307.out BK318.out (by decide)) BK319.out (by decide)) (fun _ hk => hk.1.2) (.int .i64 t301)) (fun _ hk => hk.1.2) (.slice Ao36 t302.length co36)) (fun _ hk => hk.1.2) (.slice Ao37 t305.length co37)) (fun _ hk => hk.2) (.int .i64 t308)) (fun _ hk => hk.2) (.slice Ao39 t309.length co39)) (fun _ hk => hk.2) (.slice Ao40 t312.length co40)) (fun _ hk => hk.2) (.slice Ao41 t315.length co41)) (fun _ h_ => h_.1)) (fun _ h_ => h_.1))) hb); have n4_ := Aside0.mk (Kd.R_below (by (with_reducible repeat (first | apply rA | apply rN | apply Kd.R_drew)); exact (Kd.R_mono (Kd.R_mono (Kd.R_far (p := ⟨gb319, 3, none⟩) (Kd.R_far (p := ⟨gb319, 2, none⟩) (Kd.R_far (p := ⟨gb319, 1, none⟩) (Kd.R_far (p := ⟨gb319, 0, none⟩) (Kd.R_far (p := ⟨gb318, 2, none⟩) (Kd.R_far (p := ⟨gb318, 1, none⟩) (Kd.R_far (p := ⟨gb318, 0, none⟩) (Kd.R_types (Kd.R_types HO311.out BK318.out (by decide)) BK319.out (by decide)) (fun _ hk => hk.1.2) (.int .i64 t301)) (fun _ hk => hk.1.2) (.slice Ao36 t302.length co36)) (fun _ hk => hk.1.2) (.slice Ao37 t305.length co37)) (fun _ hk => hk.2) (.int .i64 t308)) (fun _ hk => hk.2) (.slice Ao39 t309.length co39)) (fun _ hk => hk.2) (.slice Ao40 t312.length co40)) (fun _ hk => hk.2) (.slice Ao41 t315.length co41)) (fun _ h_ => h_.1)) (fun _ h_ => h_.1))) hb); have n5_ := Aside0.mk (Kd.R_below (by (with_reducible repeat (first | apply rA | apply rN | apply Kd.R_drew)); exact (Kd.R_mono (Kd.R_mono (Kd.R_far (p := ⟨gb319, 3, none⟩) (Kd.R_far (p := ⟨gb319, 2, none⟩) (Kd.R_far (p := ⟨gb319, 1, none⟩) (Kd.R_far (p := ⟨gb319, 0, none⟩) (Kd.R_far (p := ⟨gb318, 2, none⟩) (Kd.R_far (p := ⟨gb318, 1, none⟩) (Kd.R_far (p := ⟨gb318, 0, none⟩) (Kd.R_types (Kd.R_types HO314.out BK318.out (by decide)) BK319.out (by decide)) (fun _ hk => hk.1.2) (.int .i64 t301)) (fun _ hk => hk.1.2) (.slice Ao36 t302.length co36)) (fun _ hk => hk.1.2) (.slice Ao37 t305.length co37)) (fun _ hk => hk.2) (.int .i64 t308)) (fun _ hk => hk.2) (.slice Ao39 t309.length co39)) (fun _ hk => hk.2) (.slice Ao40 t312.length co40)) (fun _ hk => hk.2) (.slice Ao41 t315.length co41)) (fun _ h_ => h_.1)) (fun _ h_ => h_.1))) hb); have n6_ := Aside0.mk (Kd.R_below (by (with_reducible repeat (first | apply rA | apply rN | apply Kd.R_drew)); exact (Kd.R_mono (Kd.R_mono (Kd.R_far (p := ⟨gb319, 3, none⟩) (Kd.R_far (p := ⟨gb319, 2, none⟩) (Kd.R_far (p := ⟨gb319, 1, none⟩) (Kd.R_far (p := ⟨gb319, 0, none⟩) (Kd.R_far (p := ⟨gb318, 2, none⟩) (Kd.R_far (p := ⟨gb318, 1, none⟩) (Kd.R_far (p := ⟨gb318, 0, none⟩) (Kd.R_types (Kd.R_types HO317.out BK318.out (by decide)) BK319.out (by decide)) (fun _ hk => hk.1.2) (.int .i64 t301)) (fun _ hk => hk.1.2) (.slice Ao36 t302.length co36)) (fun _ hk => hk.1.2) (.slice Ao37 t305.length co37)) (fun _ hk => hk.2) (.int .i64 t308)) (fun _ hk => hk.2) (.slice Ao39 t309.length co39)) (fun _ hk => hk.2) (.slice Ao40 t312.length co40)) (fun _ hk => hk.2) (.slice Ao41 t315.length co41)) (fun _ h_ => h_.1)) (fun _ h_ => h_.1))) hb); have n7_ := Aside0.mk (kB (g := gb318) (o := .cells #[.int .i64 t301, .slice Ao36 t302.length co36, .slice Ao37 t305.length co37] 42 (0, 0)) (by (with_reducible repeat (first | refine kN ?_ _ | refine blk_drew ?_ | refine kA ?_ _)); refine blk_far ?_ NB318_319.out _; (with_reducible repeat (first | refine kN ?_ _ | refine blk_drew ?_ | refine kA ?_ _)); refine blk_far ?_ NB318_319.out _; (with_reducible repeat (first | refine kN ?_ _ | refine blk_drew ?_ | refine kA ?_ _)); refine blk_far ?_ NB318_319.out _; (with_reducible repeat (first | refine kN ?_ _ | refine blk_drew ?_ | refine kA ?_ _)); refine blk_far ?_ NB318_319.out _; (with_reducible repeat (first | refine kN ?_ _ | refine blk_drew ?_ | refine kA ?_ _)); refine blk_put (cs := #[.int .i64 t301, .slice Ao36 t302.length co36, .slice none 0 0]) ?_ 2 _ rfl; (with_reducible repeat (first | refine kN ?_ _ | refine blk_drew ?_ | refine kA ?_ _)); refine blk_put (cs := #[.int .i64 t301, .slice none 0 0, .slice none 0 0]) ?_ 1 _ rfl; (with_reducible repeat (first | refine kN ?_ _ | refine blk_drew ?_ | refine kA ?_ _)); refine blk_put (cs := #[.int .i64 0, .slice none 0 0, .slice none 0 0]) ?_ 0 _ rfl; (with_reducible repeat (first | refine kN ?_ _ | refine blk_drew ?_ | refine kA ?_ _)); exact BK318.out) hb); have n8_ := Aside0.mk (kB (g := gb319) (o := .cells #[.int .i64 t308, .slice Ao39 t309.length co39, .slice Ao40 t312.length co40, .slice Ao41 t315.length co41] 43 (0, 0)) (by (with_reducible repeat (first | refine kN ?_ _ | refine blk_drew ?_ | refine kA ?_ _)); refine blk_put (cs := #[.int .i64 t308, .slice Ao39 t309.length co39, .slice Ao40 t312.length co40, .slice none 0 0]) ?_ 3 _ rfl; (with_reducible repeat (first | refine kN ?_ _ | refine blk_drew ?_ | refine kA ?_ _)); refine blk_put (cs := #[.int .i64 t308, .slice Ao39 t309.length co39, .slice none 0 0, .slice none 0 0]) ?_ 2 _ rfl; (with_reducible repeat (first | refine kN ?_ _ | refine blk_drew ?_ | refine kA ?_ _)); refine blk_put (cs := #[.int .i64 t308, .slice none 0 0, .slice none 0 0, .slice none 0 0]) ?_ 1 _ rfl; (with_reducible repeat (first | refine kN ?_ _ | refine blk_drew ?_ | refine kA ?_ _)); refine blk_put (cs := #[.int .i64 0, .slice none 0 0, .slice none 0 0, .slice none 0 0]) ?_ 0 _ rfl; (with_reducible repeat (first | refine kN ?_ _ | refine blk_drew ?_ | refine kA ?_ _)); refine blk_far ?_ NB319_318.out _; (with_reducible repeat (first | refine kN ?_ _ | refine blk_drew ?_ | refine kA ?_ _)); refine blk_far ?_ NB319_318.out _; (with_reducible repeat (first | refine kN ?_ _ | refine blk_drew ?_ | refine kA ?_ _)); refine blk_far ?_ NB319_318.out _; (with_reducible repeat (first | refine kN ?_ _ | refine blk_drew ?_ | refine kA ?_ _)); exact BK319.out) hb); have n9_ := Aside0.mk (below_step (by repeat (first | (with_reducible first | exact HB.out | apply bA | apply pN | apply bD | refine bS ?_ GE318.out | refine bS ?_ GE319.out) | exact HB.out)) hb); clear HO_4; clear HO_5; clear HO304; clear HO307; clear HO311; clear HO314; clear HO317; clear BK318; clear BK319; clear HB; have HO_4 := n0_; have HO_5 := n1_; have HO304 := n2_; have HO307 := n3_; have HO311 := n4_; have HO314 := n5_; have HO317 := n6_; have BK318 := n7_; have BK319 := n8_; have HB := n9_; clear n0_ n1_ n2_ n3_ n4_ n5_ n6_ n7_ n8_ n9_; (try clear hb); (try clear hb2); (try clear hk); (try clear hi)))
          go_roundg kj4
          case measure => have := HK1.out; have := HJ4.out; omega
          case rel => exact ⟨(x3_1), (x4_1), (x5_1), (wrap64 (x6_1 + 1)), (by first | rfl | (simp; done) | (simp [*]; done)), (by first | rfl | (simp; done) | (simp [*]; done)), H', ⟨by have := HK1.out; have := HJ4.out; omega⟩, ⟨by (with_reducible repeat (first | apply Kd.S_alloc | apply Kd.S_drewN | apply Kd.S_drew)); exact Kd.S_mono HO_4.out (fun _ hk => trivial)⟩, ⟨by (with_reducible repeat (first | apply rA | apply rN | apply Kd.R_drew)); exact Kd.R_mono HO_5.out (fun _ hk => trivial)⟩, ⟨by repeat (first | (with_reducible first | exact HB.out | apply bA | apply pN | apply bD | refine bS ?_ GE318.out | refine bS ?_ GE319.out) | exact HB.out)⟩⟩
        ·rw [if_neg c9] at H
         exact absurd H (by simp)
       ·rw [if_neg c8] at H
        exact absurd H (by simp)
      ·replace c7 := Bool.eq_false_iff.mpr c7
       subst c7
       have H1 : ((group_Scan.f kj4 x3_1).bind fun bt328 => (if (bt328.1.length : Int) = (x4_1.length : Int) then (corbellaw18_GroupMany.j2 kj4 x4_1 x5_1 bt328.1 bt328.2 ((bt328.2.length : Int) != (x5_1.length : Int))) else (corbellaw18_GroupMany.j2 kj4 x4_1 x5_1 bt328.1 bt328.2 true))) = some r := by rw [if_neg (show ¬ (false = true) by decide)] at H; exact H
       clear H
       have H := H1
       clear H1
       replace H := Option.bind_eq_some_iff.mp H
       obtain ⟨⟨t328, t329⟩, A430, H⟩ := H
       replace H : (if (t328.length : Int) = (x4_1.length : Int) then (corbellaw18_GroupMany.j2 kj4 x4_1 x5_1 t328 t329 ((t329.length : Int) != (x5_1.length : Int))) else (corbellaw18_GroupMany.j2 kj4 x4_1 x5_1 t328 t329 true)) = some r := H
       have A43 := Aside0.mk A430
       clear A430
       have HC44 := Aside0.mk H
       clear H
       go_upto_region 15 with (first | (go_at_call 28; (with_reducible refine (group_Scan.calls kj4 x3_1 t328 t329 _ A43.out (HN.out.below (by repeat (first | (with_reducible first | exact HB.out | apply bA | apply pN | apply bD | refine bS ?_ GE318.out | refine bS ?_ GE319.out) | exact HB.out)) (Nat.lt_of_lt_of_le HN.out.lt (Nat.le_refl _)))).mono ?_); rintro e w45 ⟨v330, v332, rfl, ho0, ho1, hb⟩; have n0_ := Aside0.mk (Kd.S_elder' (by (with_reducible repeat (first | apply Kd.S_alloc | apply Kd.S_drewN | apply Kd.S_drew)); exact HO_4.out) (Kd.S_base ho0) hb); have n1_ := Aside0.mk (Kd.R_elder' (by (with_reducible repeat (first | apply rA | apply rN | apply Kd.R_drew)); exact HO_5.out) (Kd.R_base ho1) hb); have n2_ := Aside0.mk (Kd.S_lower (Kd.S_new' ho0 (Kd.S_lt (by (with_reducible repeat (first | apply Kd.S_alloc | apply Kd.S_drewN | apply Kd.S_drew)); exact HO_4.out))) (bZ (by repeat (first | (with_reducible first | exact HB.out | apply bA | apply pN | apply bD) | exact HB.out)))); have n3_ := Aside0.mk (Kd.R_lower (Kd.R_new' ho1 (Kd.R_lt (by (with_reducible repeat (first | apply rA | apply rN | apply Kd.R_drew)); exact HO_5.out))) (bZ (by repeat (first | (with_reducible first | exact HB.out | apply bA | apply pN | apply bD) | exact HB.out)))); have n4_ := Aside0.mk (below_step (by repeat (first | (with_reducible first | exact HB.out | apply bA | apply pN | apply bD) | exact HB.out)) hb); clear HO_4; clear HO_5; clear HB; have HO_4 := n0_; have HO_5 := n1_; have HO331 := n2_; have HO333 := n3_; have HB := n4_; clear n0_ n1_ n2_ n3_ n4_; (try clear hb); (try clear hb2); (try clear hk); (try clear hi); (try clear ho0); (try clear ho1)))
       (try simp only [Act.put, List.setIfInBounds_toArray, List.set_cons_zero, List.set_cons_succ])
       go_cut [71] (fun v71 wc => ∃ (kq : Nat) (x71_43 : Bool), v71 = .bool x71_43 ∧ Aside0 (corbellaw18_GroupMany.j2 kq x4_1 x5_1 t328 t329 x71_43 = some r) ∧ Aside0 (kq ≤ kj4) ∧ Aside0 (Kd.S k42 42 wc w.heap.size (fun k_ => some k_ ≠ (v330 : Value).ownBlock) u4 x4_1) ∧ Aside0 (Kd.R (Kd.int .i64) 3 wc w.heap.size (fun k_ => some k_ ≠ (v332 : Value).ownBlock) u5 x5_1) ∧ Aside0 (Kd.S k42 42 wc w.heap.size (fun k_ => some k_ ≠ (u4 : Value).ownBlock) v330 t328) ∧ Aside0 (Kd.R (Kd.int .i64) 3 wc w.heap.size (fun k_ => some k_ ≠ (u5 : Value).ownBlock) v332 t329) ∧ Aside0 (Below w.heap.size w wc))
       case first =>
        have H := HC44.out
        clear HC44
        by_cases c46 : (t328.length : Int) = (x4_1.length : Int)
        ·rw [if_pos c46] at H
         have c46b0 : ((t328.length : Int) == (x4_1.length : Int)) = true := beq_iff_eq.mpr c46
         have c46b1 : ((t328.length : Int) != (x4_1.length : Int)) = false := bne_eq_false_iff_eq.mpr c46
         have c46b2 : (t328.length == x4_1.length) = true := by first | simpa using c46 | (simp at c46 ⊢; omega)
         clear c46
         (first | rw [c46b0] | (simp only [i64_w, i32_w]; rw [c46b0]) | skip)
         (try rw [c46b1])
         have H' := Aside0.mk H
         clear H
         obtain ⟨Ao47, co47, eo47⟩ := Kd.S_slice HO331.out
         subst eo47
         obtain ⟨Ao48, co48, eo48⟩ := Kd.S_slice HO_4.out
         subst eo48
         obtain ⟨Ao49, co49, eo49⟩ := Kd.R_slice HO333.out
         subst eo49
         obtain ⟨Ao50, co50, eo50⟩ := Kd.R_slice HO_5.out
         subst eo50
         go_wp2
         go_meet
         case rel => exact ⟨_, (((t329.length : Int) != (x5_1.length : Int))), (by first | rfl | (simp; done) | (simp [*]; done)), H', ⟨by have := HK1.out; have := HJ4.out; first | omega | exact Nat.le_refl _⟩, ⟨by (with_reducible repeat (first | apply Kd.S_alloc | apply Kd.S_drewN | apply Kd.S_drew)); exact Kd.S_mono HO_4.out (fun _ hk => hk.2)⟩, ⟨by (with_reducible repeat (first | apply rA | apply rN | apply Kd.R_drew)); exact Kd.R_mono HO_5.out (fun _ hk => hk.2)⟩, ⟨by (with_reducible repeat (first | apply Kd.S_alloc | apply Kd.S_drewN | apply Kd.S_drew)); exact Kd.S_mono HO331.out (fun _ hk => hk.2)⟩, ⟨by (with_reducible repeat (first | apply rA | apply rN | apply Kd.R_drew)); exact Kd.R_mono HO333.out (fun _ hk => hk.2)⟩, ⟨by repeat (first | (with_reducible first | exact HB.out | apply bA | apply pN | apply bD) | exact HB.out)⟩⟩
        ·rw [if_neg c46] at H
         have c46b0 : ((t328.length : Int) == (x4_1.length : Int)) = false := beq_eq_false_iff_ne.mpr c46
         have c46b1 : ((t328.length : Int) != (x4_1.length : Int)) = true := bne_iff_ne.mpr c46
         have c46b2 : (t328.length == x4_1.length) = false := by first | simpa using c46 | (simp at c46 ⊢; omega)
         (first | rw [c46b0] | (simp only [i64_w, i32_w]; rw [c46b0]) | skip)
         (try rw [c46b1])
         have H' := Aside0.mk H
         clear H
         obtain ⟨Ao51, co51, eo51⟩ := Kd.S_slice HO331.out
         subst eo51
         obtain ⟨Ao52, co52, eo52⟩ := Kd.S_slice HO_4.out
         subst eo52
         go_wp2
         go_meet
         case rel => exact ⟨_, (true), (by first | rfl | (simp; done) | (simp [*]; done)), H', ⟨by have := HK1.out; have := HJ4.out; first | omega | exact Nat.le_refl _⟩, ⟨by (with_reducible repeat (first | apply Kd.S_alloc | apply Kd.S_drewN | apply Kd.S_drew)); exact Kd.S_mono HO_4.out (fun _ hk => hk.2)⟩, ⟨by (with_reducible repeat (first | apply rA | apply rN | apply Kd.R_drew)); exact Kd.R_mono HO_5.out (fun _ hk => hk.2)⟩, ⟨by (with_reducible repeat (first | apply Kd.S_alloc | apply Kd.S_drewN | apply Kd.S_drew)); exact Kd.S_mono HO331.out (fun _ hk => hk.2)⟩, ⟨by (with_reducible repeat (first | apply rA | apply rN | apply Kd.R_drew)); exact Kd.R_mono HO333.out (fun _ hk => hk.2)⟩, ⟨by repeat (first | (with_reducible first | exact HB.out | apply bA | apply pN | apply bD) | exact HB.out)⟩⟩
       case rest =>
        clear HC44
        try clear c1
        try clear p2
        try clear c3
        try clear p3
        try clear q3
        try clear hx3
        try clear c4
        try clear c6
        try clear c6b0
        try clear p6
        try clear c7
        try clear c8
        try clear c8b0
        try clear c9
        try clear c9b0
        try clear c12
        try clear c12b0
        try clear c12b1
        try clear c13
        try clear c14
        try clear c15
        try clear c15b0
        try clear c15b1
        try clear c15b2
        try clear c19
        try clear c30
        try clear p30
        try clear q30
        try clear hx30
        try clear c34
        try clear c46
        try clear c46b0
        try clear c46b1
        try clear c46b2
        try clear hcz20_0
        try clear hcz20_1
        try clear hcz20_2
        try clear hcz23_0
        try clear hcz23_1
        try clear hcz23_2
        try clear hcz23_3
        try clear hcz28_0
        try clear hcz28_1
        try clear hcz28_2
        try clear hcz35_0
        try clear hcz35_1
        try clear hcz35_2
        try clear hcz38_0
        try clear hcz38_1
        try clear hcz38_2
        try clear hcz38_3
        try clear hfz20_0
        try clear hfz20_1
        try clear hfz20_2
        try clear hfz23_0
        try clear hfz23_1
        try clear hfz23_2
        try clear hfz23_3
        try clear hfz28_0
        try clear hfz28_1
        try clear hfz28_2
        try clear hfz35_0
        try clear hfz35_1
        try clear hfz35_2
        try clear hfz38_0
        try clear hfz38_1
        try clear hfz38_2
        try clear hfz38_3
        try clear hx300_0
        try clear hx300_1
        try clear hx300_2
        try clear hx300_3
        try clear p2
        try clear p300
        try clear q300
        obtain ⟨kq, x71_43, rfl, HA, HJ43, HO_4, HO_5, HO_11, HO_12, HB⟩ := hcut
        cases kq with
        | zero => exact absurd HA.out (by simp [corbellaw18_GroupMany.j2])
        | succ kj43 =>
         have H := HA.out
         clear HA
         simp only [corbellaw18_GroupMany.j2] at H
         by_cases c53 : x71_43 = true
         ·subst c53
          have H1 : (some false) = some r := by rw [if_pos rfl] at H; exact H
          clear H
          have H := H1
          clear H1
          obtain rfl := Option.some.inj H
          go_wp2
          go_ret
          exact ⟨by first | rfl | (simp [errW_none, errW_some] <;> rfl) | (simp [*, errW_none, errW_some] <;> rfl), by repeat (first | (with_reducible first | exact HB.out | apply bA | apply pN | apply bD) | exact HB.out)⟩
         ·replace c53 := Bool.eq_false_iff.mpr c53
          subst c53
          have H1 : (corbellaw18_GroupMany.l1 kj43 x4_1 x5_1 t328 t329 0) = some r := by rw [if_neg (show ¬ (false = true) by decide)] at H; exact H
          clear H
          have H := H1
          clear H1
          have H' := Aside0.mk H
          clear H
          go_wp2
          go_loopg [13] kj43 (fun kq v13 w' => ∃ (x13_4 : Int), v13 = .int .i64 x13_4 ∧ Aside0 (corbellaw18_GroupMany.l1 kq x4_1 x5_1 t328 t329 x13_4 = some r) ∧ Aside0 (kq ≤ kj43) ∧ Aside0 (Kd.S k42 42 w' w.heap.size (fun k_ => some k_ ≠ (v330 : Value).ownBlock) u4 x4_1) ∧ Aside0 (Kd.R (Kd.int .i64) 3 w' w.heap.size (fun k_ => some k_ ≠ (v332 : Value).ownBlock) u5 x5_1) ∧ Aside0 (Kd.S k42 42 w' w.heap.size (fun k_ => some k_ ≠ (u4 : Value).ownBlock) v330 t328) ∧ Aside0 (Kd.R (Kd.int .i64) 3 w' w.heap.size (fun k_ => some k_ ≠ (u5 : Value).ownBlock) v332 t329) ∧ Aside0 (Below w.heap.size w w'))
          case atStart => exact ⟨(0), (by first | rfl | (simp; done) | (simp [*]; done)), H', ⟨Nat.le_refl _⟩, ⟨by (with_reducible repeat (first | apply Kd.S_alloc | apply Kd.S_drewN | apply Kd.S_drew)); exact HO_4.out⟩, ⟨by (with_reducible repeat (first | apply rA | apply rN | apply Kd.R_drew)); exact HO_5.out⟩, ⟨by (with_reducible repeat (first | apply Kd.S_alloc | apply Kd.S_drewN | apply Kd.S_drew)); exact HO_11.out⟩, ⟨by (with_reducible repeat (first | apply rA | apply rN | apply Kd.R_drew)); exact HO_12.out⟩, ⟨by repeat (first | (with_reducible first | exact HB.out | apply bA | apply pN | apply bD) | exact HB.out)⟩⟩
          case round =>
           clear H'
           try clear c1
           try clear p2
           try clear c3
           try clear p3
           try clear q3
           try clear hx3
           try clear c4
           try clear c5
           try clear c6
           try clear c6b0
           try clear p6
           try clear c7
           try clear c8
           try clear c8b0
           try clear c9
           try clear c9b0
           try clear c12
           try clear c12b0
           try clear c12b1
           try clear c13
           try clear c14
           try clear c15
           try clear c15b0
           try clear c15b1
           try clear c15b2
           try clear c19
           try clear c30
           try clear p30
           try clear q30
           try clear hx30
           try clear c34
           try clear c46
           try clear c46b0
           try clear c46b1
           try clear c46b2
           try clear c53
           try clear hcz20_0
           try clear hcz20_1
           try clear hcz20_2
           try clear hcz23_0
           try clear hcz23_1
           try clear hcz23_2
           try clear hcz23_3
           try clear hcz28_0
           try clear hcz28_1
           try clear hcz28_2
           try clear hcz35_0
           try clear hcz35_1
           try clear hcz35_2
           try clear hcz38_0
           try clear hcz38_1
           try clear hcz38_2
           try clear hcz38_3
           try clear hfz20_0
           try clear hfz20_1
           try clear hfz20_2
           try clear hfz23_0
           try clear hfz23_1
           try clear hfz23_2
           try clear hfz23_3
           try clear hfz28_0
           try clear hfz28_1
           try clear hfz28_2
           try clear hfz35_0
           try clear hfz35_1
           try clear hfz35_2
           try clear hfz38_0
           try clear hfz38_1
           try clear hfz38_2
           try clear hfz38_3
           try clear hx300_0
           try clear hx300_1
           try clear hx300_2
           try clear hx300_3
           try clear p2
           try clear p3
           try clear p30
           try clear p300
           try clear p6
           try clear q3
           try clear q30
           try clear q300
           obtain ⟨x13_4, rfl, HA, HK4, HO_4, HO_5, HO_11, HO_12, HB⟩ := hrel
           cases gk with
           | zero => exact absurd HA.out (by simp [corbellaw18_GroupMany.l1])
           | succ k4 =>
            have H := HA.out
            clear HA
            simp only [corbellaw18_GroupMany.l1] at H
            by_cases c54 : x13_4 < (x4_1.length : Int)
            ·rw [if_pos c54] at H
             have c54b0 : decide (x13_4 < (x4_1.length : Int)) = true := decide_eq_true c54
             clear c54
             have HC55 := Aside0.mk H
             clear H
             obtain ⟨Ao56, co56, eo56⟩ := Kd.S_slice HO_4.out
             subst eo56
             go_upto_region 20 with (fail)
             go_cut [114] (fun v114 wc => ∃ (kq : Nat) (x114_54 : Bool), v114 = .bool x114_54 ∧ Aside0 (corbellaw18_GroupMany.j4 kq x4_1 x5_1 t328 t329 x13_4 x114_54 = some r) ∧ Aside0 (kq ≤ k4) ∧ Aside0 (Kd.S k42 42 wc w.heap.size (fun k_ => some k_ ≠ (v330 : Value).ownBlock) (.slice Ao56 x4_1.length co56) x4_1) ∧ Aside0 (Kd.R (Kd.int .i64) 3 wc w.heap.size (fun k_ => some k_ ≠ (v332 : Value).ownBlock) u5 x5_1) ∧ Aside0 (Kd.S k42 42 wc w.heap.size (fun k_ => some k_ ≠ ((.slice Ao56 x4_1.length co56) : Value).ownBlock) v330 t328) ∧ Aside0 (Kd.R (Kd.int .i64) 3 wc w.heap.size (fun k_ => some k_ ≠ (u5 : Value).ownBlock) v332 t329) ∧ Aside0 (Below w.heap.size w wc))
             case first =>
              have H := HC55.out
              clear HC55
              by_cases c57 : 0 ≤ x13_4
              ·rw [if_pos c57] at H
               have c57b0 : decide (0 ≤ x13_4) = true := decide_eq_true c57
               clear c57
               (first | rw [c57b0] | (simp only [i64_w, i32_w]; rw [c57b0]) | skip)
               by_cases c58 : x13_4 < (t328.length : Int)
               ·rw [if_pos c58] at H
                have c58b0 : decide (x13_4 < (t328.length : Int)) = true := decide_eq_true c58
                clear c58
                by_cases c59 : ((rd_T42 t328 x13_4).f0) = ((rd_T42 x4_1 x13_4).f0)
                ·rw [if_pos c59] at H
                 have c59b0 : (((rd_T42 t328 x13_4).f0) == ((rd_T42 x4_1 x13_4).f0)) = true := beq_iff_eq.mpr c59
                 have c59b1 : (((rd_T42 t328 x13_4).f0) != ((rd_T42 x4_1 x13_4).f0)) = false := bne_eq_false_iff_eq.mpr c59
                 clear c59
                 by_cases c60 : x13_4 < (t329.length : Int)
                 ·rw [if_pos c60] at H
                  have c60b0 : decide (x13_4 < (t329.length : Int)) = true := decide_eq_true c60
                  clear c60
                  by_cases c61 : x13_4 < (x5_1.length : Int)
                  ·rw [if_pos c61] at H
                   have c61b0 : decide (x13_4 < (x5_1.length : Int)) = true := decide_eq_true c61
                   clear c61
                   by_cases c62 : (rd t329 x13_4) = (rd x5_1 x13_4)
                   ·rw [if_pos c62] at H
                    have c62b0 : ((rd t329 x13_4) == (rd x5_1 x13_4)) = true := beq_iff_eq.mpr c62
                    have c62b1 : ((rd t329 x13_4) != (rd x5_1 x13_4)) = false := bne_eq_false_iff_eq.mpr c62
                    clear c62
                    have H' := Aside0.mk H
                    clear H
                    obtain ⟨Ao63, co63, eo63⟩ := Kd.S_slice HO_11.out
                    subst eo63
                    have p334 : 0 ≤ (x13_4 : Int) := of_decide_eq_true (by first | (with_reducible assumption) | assumption)
                    have q334 : x13_4 < (t328.length : Int) := of_decide_eq_true (by first | (with_reducible assumption) | assumption)
                    obtain ⟨ad334, A334_1, c334_1, A334_2, c334_2, e334, hx334_0, hx334_1, hx334_2, hl334_1, hi334_1, hl334_2, hi334_2⟩ := at_T42 (Kd.S_reads' HO_11.out).2.2 x13_4 p334 q334
                    cases e334
                    obtain ⟨ce334, hce334, hMe334, hcc334⟩ := Kd.S_get HO_11.out z42 x13_4 p334 (by first | exact q334 | exact of_decide_eq_true (by first | (with_reducible assumption) | assumption) | (have e_ := (Kd.S_reads' HO_11.out).1; omega))
                    obtain ⟨ve334_1, ve334_2, rfl, ge334_1, ge334_2⟩ := k42_openM hMe334
                    have hv334_1 := hcc334 1 _ rfl
                    rw [add_field _ _ 1 (by omega)] at hv334_1
                    replace hv334_1 := Option.some.inj (hv334_1.symm.trans hx334_1)
                    rw [hv334_1] at ge334_1
                    have HL334_1 := Aside0.mk (show Kd.R k62 62 _ _ _ _ ((rd_T42 t328 x13_4).f1) from ge334_1)
                    clear hv334_1 ge334_1
                    have hv334_2 := hcc334 2 _ rfl
                    rw [add_field _ _ 2 (by omega)] at hv334_2
                    replace hv334_2 := Option.some.inj (hv334_2.symm.trans hx334_2)
                    rw [hv334_2] at ge334_2
                    have HL334_2 := Aside0.mk (show Kd.R Kd.string 9 _ _ _ _ ((rd_T42 t328 x13_4).f2) from ge334_2)
                    clear hv334_2 ge334_2
                    clear hcc334 hce334
                    have HR334_1 := Aside0.mk hi334_1
                    have HC334_1 := Aside0.mk hl334_1
                    clear hi334_1 hl334_1
                    have HR334_2 := Aside0.mk hi334_2
                    have HC334_2 := Aside0.mk hl334_2
                    clear hi334_2 hl334_2
                    replace p334 := eq_true p334
                    replace q334 := eq_true q334
                    have p335 : 0 ≤ (x13_4 : Int) := of_decide_eq_true (by first | (with_reducible assumption) | assumption)
                    have q335 : x13_4 < (x4_1.length : Int) := of_decide_eq_true (by first | (with_reducible assumption) | assumption)
                    obtain ⟨ad335, A335_1, c335_1, A335_2, c335_2, e335, hx335_0, hx335_1, hx335_2, hl335_1, hi335_1, hl335_2, hi335_2⟩ := at_T42 (Kd.S_reads' HO_4.out).2.2 x13_4 p335 q335
                    cases e335
                    obtain ⟨ce335, hce335, hMe335, hcc335⟩ := Kd.S_get HO_4.out z42 x13_4 p335 (by first | exact q335 | exact of_decide_eq_true (by first | (with_reducible assumption) | assumption) | (have e_ := (Kd.S_reads' HO_4.out).1; omega))
                    obtain ⟨ve335_1, ve335_2, rfl, ge335_1, ge335_2⟩ := k42_openM hMe335
                    have hv335_1 := hcc335 1 _ rfl
                    rw [add_field _ _ 1 (by omega)] at hv335_1
                    replace hv335_1 := Option.some.inj (hv335_1.symm.trans hx335_1)
                    rw [hv335_1] at ge335_1
                    have HL335_1 := Aside0.mk (show Kd.R k62 62 _ _ _ _ ((rd_T42 x4_1 x13_4).f1) from ge335_1)
                    clear hv335_1 ge335_1
                    have hv335_2 := hcc335 2 _ rfl
                    rw [add_field _ _ 2 (by omega)] at hv335_2
                    replace hv335_2 := Option.some.inj (hv335_2.symm.trans hx335_2)
                    rw [hv335_2] at ge335_2
                    have HL335_2 := Aside0.mk (show Kd.R Kd.string 9 _ _ _ _ ((rd_T42 x4_1 x13_4).f2) from ge335_2)
                    clear hv335_2 ge335_2
                    clear hcc335 hce335
                    have HR335_1 := Aside0.mk hi335_1
                    have HC335_1 := Aside0.mk hl335_1
                    clear hi335_1 hl335_1
                    have HR335_2 := Aside0.mk hi335_2
                    have HC335_2 := Aside0.mk hl335_2
                    clear hi335_2 hl335_2
                    replace p335 := eq_true p335
                    replace q335 := eq_true q335
                    obtain ⟨Ao64, co64, eo64⟩ := Kd.R_slice HO_12.out
                    subst eo64
                    have p336 : 0 ≤ (x13_4 : Int) := of_decide_eq_true (by first | (with_reducible assumption) | assumption)
                    have q336 : x13_4 < (t329.length : Int) := of_decide_eq_true (by first | (with_reducible assumption) | assumption)
                    obtain ⟨ad336, e336, hx336_0⟩ := Kd.at_int (Kd.R_reads' HO_12.out).2.2 x13_4 p336 q336
                    cases e336
                    replace p336 := eq_true p336
                    replace q336 := eq_true q336
                    obtain ⟨Ao65, co65, eo65⟩ := Kd.R_slice HO_5.out
                    subst eo65
                    have p337 : 0 ≤ (x13_4 : Int) := of_decide_eq_true (by first | (with_reducible assumption) | assumption)
                    have q337 : x13_4 < (x5_1.length : Int) := of_decide_eq_true (by first | (with_reducible assumption) | assumption)
                    obtain ⟨ad337, e337, hx337_0⟩ := Kd.at_int (Kd.R_reads' HO_5.out).2.2 x13_4 p337 q337
                    cases e337
                    replace p337 := eq_true p337
                    replace q337 := eq_true q337
                    have p338 : 0 ≤ (x13_4 : Int) := of_decide_eq_true (by first | (with_reducible assumption) | assumption)
                    have q338 : x13_4 < (t328.length : Int) := of_decide_eq_true (by first | (with_reducible assumption) | assumption)
                    obtain ⟨ad338, A338_1, c338_1, A338_2, c338_2, e338, hx338_0, hx338_1, hx338_2, hl338_1, hi338_1, hl338_2, hi338_2⟩ := at_T42 (Kd.S_reads' HO_11.out).2.2 x13_4 p338 q338
                    obtain rfl : ad334 = ad338 := (by injection e338)
                    obtain ⟨ce338, hce338, hMe338, hcc338⟩ := Kd.S_get HO_11.out z42 x13_4 p338 (by first | exact q338 | exact of_decide_eq_true (by first | (with_reducible assumption) | assumption) | (have e_ := (Kd.S_reads' HO_11.out).1; omega))
                    obtain ⟨ve338_1, ve338_2, rfl, ge338_1, ge338_2⟩ := k42_openM hMe338
                    have hv338_1 := hcc338 1 _ rfl
                    rw [add_field _ _ 1 (by omega)] at hv338_1
                    replace hv338_1 := Option.some.inj (hv338_1.symm.trans hx338_1)
                    rw [hv338_1] at ge338_1
                    have HL338_1 := Aside0.mk (show Kd.R k62 62 _ _ _ _ ((rd_T42 t328 x13_4).f1) from ge338_1)
                    clear hv338_1 ge338_1
                    have hv338_2 := hcc338 2 _ rfl
                    rw [add_field _ _ 2 (by omega)] at hv338_2
                    replace hv338_2 := Option.some.inj (hv338_2.symm.trans hx338_2)
                    rw [hv338_2] at ge338_2
                    have HL338_2 := Aside0.mk (show Kd.R Kd.string 9 _ _ _ _ ((rd_T42 t328 x13_4).f2) from ge338_2)
                    clear hv338_2 ge338_2
                    clear hcc338 hce338
                    have HR338_1 := Aside0.mk hi338_1
                    have HC338_1 := Aside0.mk hl338_1
                    clear hi338_1 hl338_1
                    have HR338_2 := Aside0.mk hi338_2
                    have HC338_2 := Aside0.mk hl338_2
                    clear hi338_2 hl338_2
                    replace p338 := eq_true p338
                    replace q338 := eq_true q338
                    have ea_ := Option.some.inj (hx334_1.symm.trans hx338_1)
                    injection ea_ with ea_ en_ ec_
                    subst ea_
                    subst ec_
                    clear en_
                    have ea_ := Option.some.inj (hx334_2.symm.trans hx338_2)
                    injection ea_ with ea_ en_ ec_
                    subst ea_
                    subst ec_
                    clear en_
                    have p339 : 0 ≤ (x13_4 : Int) := of_decide_eq_true (by first | (with_reducible assumption) | assumption)
                    have q339 : x13_4 < (x4_1.length : Int) := of_decide_eq_true (by first | (with_reducible assumption) | assumption)
                    obtain ⟨ad339, A339_1, c339_1, A339_2, c339_2, e339, hx339_0, hx339_1, hx339_2, hl339_1, hi339_1, hl339_2, hi339_2⟩ := at_T42 (Kd.S_reads' HO_4.out).2.2 x13_4 p339 q339
                    obtain rfl : ad335 = ad339 := (by injection e339)
                    obtain ⟨ce339, hce339, hMe339, hcc339⟩ := Kd.S_get HO_4.out z42 x13_4 p339 (by first | exact q339 | exact of_decide_eq_true (by first | (with_reducible assumption) | assumption) | (have e_ := (Kd.S_reads' HO_4.out).1; omega))
                    obtain ⟨ve339_1, ve339_2, rfl, ge339_1, ge339_2⟩ := k42_openM hMe339
                    have hv339_1 := hcc339 1 _ rfl
                    rw [add_field _ _ 1 (by omega)] at hv339_1
                    replace hv339_1 := Option.some.inj (hv339_1.symm.trans hx339_1)
                    rw [hv339_1] at ge339_1
                    have HL339_1 := Aside0.mk (show Kd.R k62 62 _ _ _ _ ((rd_T42 x4_1 x13_4).f1) from ge339_1)
                    clear hv339_1 ge339_1
                    have hv339_2 := hcc339 2 _ rfl
                    rw [add_field _ _ 2 (by omega)] at hv339_2
                    replace hv339_2 := Option.some.inj (hv339_2.symm.trans hx339_2)
                    rw [hv339_2] at ge339_2
                    have HL339_2 := Aside0.mk (show Kd.R Kd.string 9 _ _ _ _ ((rd_T42 x4_1 x13_4).f2) from ge339_2)
                    clear hv339_2 ge339_2
                    clear hcc339 hce339
                    have HR339_1 := Aside0.mk hi339_1
                    have HC339_1 := Aside0.mk hl339_1
                    clear hi339_1 hl339_1
                    have HR339_2 := Aside0.mk hi339_2
                    have HC339_2 := Aside0.mk hl339_2
                    clear hi339_2 hl339_2
                    replace p339 := eq_true p339
                    replace q339 := eq_true q339
                    have ea_ := Option.some.inj (hx335_1.symm.trans hx339_1)
                    injection ea_ with ea_ en_ ec_
                    subst ea_
                    subst ec_
                    clear en_
                    have ea_ := Option.some.inj (hx335_2.symm.trans hx339_2)
                    injection ea_ with ea_ en_ ec_
                    subst ea_
                    subst ec_
                    clear en_
                    go_wp2
                    repeat (go_quiet (fail); try go_wp2_with fail)
                    go_meet
                    case rel => exact ⟨_, (((((rd_T42 t328 x13_4).f1).length : Int) != (((rd_T42 x4_1 x13_4).f1).length : Int))), (by first | rfl | (simp; done) | (simp [*]; done)), H', ⟨by have := HK1.out; have := HJ4.out; have := HJ43.out; have := HK4.out; first | omega | exact Nat.le_refl _⟩, ⟨by (with_reducible repeat (first | apply Kd.S_alloc | apply Kd.S_drewN | apply Kd.S_drew)); exact HO_4.out⟩, ⟨by (with_reducible repeat (first | apply rA | apply rN | apply Kd.R_drew)); exact HO_5.out⟩, ⟨by (with_reducible repeat (first | apply Kd.S_alloc | apply Kd.S_drewN | apply Kd.S_drew)); exact HO_11.out⟩, ⟨by (with_reducible repeat (first | apply rA | apply rN | apply Kd.R_drew)); exact HO_12.out⟩, ⟨by repeat (first | (with_reducible first | exact HB.out | apply bA | apply pN | apply bD) | exact HB.out)⟩⟩
                   ·rw [if_neg c62] at H
                    have c62b0 : ((rd t329 x13_4) == (rd x5_1 x13_4)) = false := beq_eq_false_iff_ne.mpr c62
                    have c62b1 : ((rd t329 x13_4) != (rd x5_1 x13_4)) = true := bne_iff_ne.mpr c62
                    have H' := Aside0.mk H
                    clear H
                    obtain ⟨Ao66, co66, eo66⟩ := Kd.S_slice HO_11.out
                    subst eo66
                    have p334 : 0 ≤ (x13_4 : Int) := of_decide_eq_true (by first | (with_reducible assumption) | assumption)
                    have q334 : x13_4 < (t328.length : Int) := of_decide_eq_true (by first | (with_reducible assumption) | assumption)
                    obtain ⟨ad334, A334_1, c334_1, A334_2, c334_2, e334, hx334_0, hx334_1, hx334_2, hl334_1, hi334_1, hl334_2, hi334_2⟩ := at_T42 (Kd.S_reads' HO_11.out).2.2 x13_4 p334 q334
                    cases e334
                    obtain ⟨ce334, hce334, hMe334, hcc334⟩ := Kd.S_get HO_11.out z42 x13_4 p334 (by first | exact q334 | exact of_decide_eq_true (by first | (with_reducible assumption) | assumption) | (have e_ := (Kd.S_reads' HO_11.out).1; omega))
                    obtain ⟨ve334_1, ve334_2, rfl, ge334_1, ge334_2⟩ := k42_openM hMe334
                    have hv334_1 := hcc334 1 _ rfl
                    rw [add_field _ _ 1 (by omega)] at hv334_1
                    replace hv334_1 := Option.some.inj (hv334_1.symm.trans hx334_1)
                    rw [hv334_1] at ge334_1
                    have HL334_1 := Aside0.mk (show Kd.R k62 62 _ _ _ _ ((rd_T42 t328 x13_4).f1) from ge334_1)
                    clear hv334_1 ge334_1
                    have hv334_2 := hcc334 2 _ rfl
                    rw [add_field _ _ 2 (by omega)] at hv334_2
                    replace hv334_2 := Option.some.inj (hv334_2.symm.trans hx334_2)
                    rw [hv334_2] at ge334_2
                    have HL334_2 := Aside0.mk (show Kd.R Kd.string 9 _ _ _ _ ((rd_T42 t328 x13_4).f2) from ge334_2)
                    clear hv334_2 ge334_2
                    clear hcc334 hce334
                    have HR334_1 := Aside0.mk hi334_1
                    have HC334_1 := Aside0.mk hl334_1
                    clear hi334_1 hl334_1
                    have HR334_2 := Aside0.mk hi334_2
                    have HC334_2 := Aside0.mk hl334_2
                    clear hi334_2 hl334_2
                    replace p334 := eq_true p334
                    replace q334 := eq_true q334
                    have p335 : 0 ≤ (x13_4 : Int) := of_decide_eq_true (by first | (with_reducible assumption) | assumption)
                    have q335 : x13_4 < (x4_1.length : Int) := of_decide_eq_true (by first | (with_reducible assumption) | assumption)
                    obtain ⟨ad335, A335_1, c335_1, A335_2, c335_2, e335, hx335_0, hx335_1, hx335_2, hl335_1, hi335_1, hl335_2, hi335_2⟩ := at_T42 (Kd.S_reads' HO_4.out).2.2 x13_4 p335 q335
                    cases e335
                    obtain ⟨ce335, hce335, hMe335, hcc335⟩ := Kd.S_get HO_4.out z42 x13_4 p335 (by first | exact q335 | exact of_decide_eq_true (by first | (with_reducible assumption) | assumption) | (have e_ := (Kd.S_reads' HO_4.out).1; omega))
                    obtain ⟨ve335_1, ve335_2, rfl, ge335_1, ge335_2⟩ := k42_openM hMe335
                    have hv335_1 := hcc335 1 _ rfl
                    rw [add_field _ _ 1 (by omega)] at hv335_1
                    replace hv335_1 := Option.some.inj (hv335_1.symm.trans hx335_1)
                    rw [hv335_1] at ge335_1
                    have HL335_1 := Aside0.mk (show Kd.R k62 62 _ _ _ _ ((rd_T42 x4_1 x13_4).f1) from ge335_1)
                    clear hv335_1 ge335_1
                    have hv335_2 := hcc335 2 _ rfl
                    rw [add_field _ _ 2 (by omega)] at hv335_2
                    replace hv335_2 := Option.some.inj (hv335_2.symm.trans hx335_2)
                    rw [hv335_2] at ge335_2
                    have HL335_2 := Aside0.mk (show Kd.R Kd.string 9 _ _ _ _ ((rd_T42 x4_1 x13_4).f2) from ge335_2)
                    clear hv335_2 ge335_2
                    clear hcc335 hce335
                    have HR335_1 := Aside0.mk hi335_1
                    have HC335_1 := Aside0.mk hl335_1
                    clear hi335_1 hl335_1
                    have HR335_2 := Aside0.mk hi335_2
                    have HC335_2 := Aside0.mk hl335_2
                    clear hi335_2 hl335_2
                    replace p335 := eq_true p335
                    replace q335 := eq_true q335
                    obtain ⟨Ao67, co67, eo67⟩ := Kd.R_slice HO_12.out
                    subst eo67
                    have p336 : 0 ≤ (x13_4 : Int) := of_decide_eq_true (by first | (with_reducible assumption) | assumption)
                    have q336 : x13_4 < (t329.length : Int) := of_decide_eq_true (by first | (with_reducible assumption) | assumption)
                    obtain ⟨ad336, e336, hx336_0⟩ := Kd.at_int (Kd.R_reads' HO_12.out).2.2 x13_4 p336 q336
                    cases e336
                    replace p336 := eq_true p336
                    replace q336 := eq_true q336
                    obtain ⟨Ao68, co68, eo68⟩ := Kd.R_slice HO_5.out
                    subst eo68
                    have p337 : 0 ≤ (x13_4 : Int) := of_decide_eq_true (by first | (with_reducible assumption) | assumption)
                    have q337 : x13_4 < (x5_1.length : Int) := of_decide_eq_true (by first | (with_reducible assumption) | assumption)
                    obtain ⟨ad337, e337, hx337_0⟩ := Kd.at_int (Kd.R_reads' HO_5.out).2.2 x13_4 p337 q337
                    cases e337
                    replace p337 := eq_true p337
                    replace q337 := eq_true q337
                    go_wp2
                    repeat (go_quiet (fail); try go_wp2_with fail)
                    go_meet
                    case rel => exact ⟨_, (true), (by first | rfl | (simp; done) | (simp [*]; done)), H', ⟨by have := HK1.out; have := HJ4.out; have := HJ43.out; have := HK4.out; first | omega | exact Nat.le_refl _⟩, ⟨by (with_reducible repeat (first | apply Kd.S_alloc | apply Kd.S_drewN | apply Kd.S_drew)); exact HO_4.out⟩, ⟨by (with_reducible repeat (first | apply rA | apply rN | apply Kd.R_drew)); exact HO_5.out⟩, ⟨by (with_reducible repeat (first | apply Kd.S_alloc | apply Kd.S_drewN | apply Kd.S_drew)); exact HO_11.out⟩, ⟨by (with_reducible repeat (first | apply rA | apply rN | apply Kd.R_drew)); exact HO_12.out⟩, ⟨by repeat (first | (with_reducible first | exact HB.out | apply bA | apply pN | apply bD) | exact HB.out)⟩⟩
                  ·rw [if_neg c61] at H
                   exact absurd H (by simp)
                 ·rw [if_neg c60] at H
                  exact absurd H (by simp)
                ·rw [if_neg c59] at H
                 have c59b0 : (((rd_T42 t328 x13_4).f0) == ((rd_T42 x4_1 x13_4).f0)) = false := beq_eq_false_iff_ne.mpr c59
                 have c59b1 : (((rd_T42 t328 x13_4).f0) != ((rd_T42 x4_1 x13_4).f0)) = true := bne_iff_ne.mpr c59
                 have H' := Aside0.mk H
                 clear H
                 obtain ⟨Ao69, co69, eo69⟩ := Kd.S_slice HO_11.out
                 subst eo69
                 have p334 : 0 ≤ (x13_4 : Int) := of_decide_eq_true (by first | (with_reducible assumption) | assumption)
                 have q334 : x13_4 < (t328.length : Int) := of_decide_eq_true (by first | (with_reducible assumption) | assumption)
                 obtain ⟨ad334, A334_1, c334_1, A334_2, c334_2, e334, hx334_0, hx334_1, hx334_2, hl334_1, hi334_1, hl334_2, hi334_2⟩ := at_T42 (Kd.S_reads' HO_11.out).2.2 x13_4 p334 q334
                 cases e334
                 obtain ⟨ce334, hce334, hMe334, hcc334⟩ := Kd.S_get HO_11.out z42 x13_4 p334 (by first | exact q334 | exact of_decide_eq_true (by first | (with_reducible assumption) | assumption) | (have e_ := (Kd.S_reads' HO_11.out).1; omega))
                 obtain ⟨ve334_1, ve334_2, rfl, ge334_1, ge334_2⟩ := k42_openM hMe334
                 have hv334_1 := hcc334 1 _ rfl
                 rw [add_field _ _ 1 (by omega)] at hv334_1
                 replace hv334_1 := Option.some.inj (hv334_1.symm.trans hx334_1)
                 rw [hv334_1] at ge334_1
                 have HL334_1 := Aside0.mk (show Kd.R k62 62 _ _ _ _ ((rd_T42 t328 x13_4).f1) from ge334_1)
                 clear hv334_1 ge334_1
                 have hv334_2 := hcc334 2 _ rfl
                 rw [add_field _ _ 2 (by omega)] at hv334_2
                 replace hv334_2 := Option.some.inj (hv334_2.symm.trans hx334_2)
                 rw [hv334_2] at ge334_2
                 have HL334_2 := Aside0.mk (show Kd.R Kd.string 9 _ _ _ _ ((rd_T42 t328 x13_4).f2) from ge334_2)
                 clear hv334_2 ge334_2
                 clear hcc334 hce334
                 have HR334_1 := Aside0.mk hi334_1
                 have HC334_1 := Aside0.mk hl334_1
                 clear hi334_1 hl334_1
                 have HR334_2 := Aside0.mk hi334_2
                 have HC334_2 := Aside0.mk hl334_2
                 clear hi334_2 hl334_2
                 replace p334 := eq_true p334
                 replace q334 := eq_true q334
                 have p335 : 0 ≤ (x13_4 : Int) := of_decide_eq_true (by first | (with_reducible assumption) | assumption)
                 have q335 : x13_4 < (x4_1.length : Int) := of_decide_eq_true (by first | (with_reducible assumption) | assumption)
                 obtain ⟨ad335, A335_1, c335_1, A335_2, c335_2, e335, hx335_0, hx335_1, hx335_2, hl335_1, hi335_1, hl335_2, hi335_2⟩ := at_T42 (Kd.S_reads' HO_4.out).2.2 x13_4 p335 q335
                 cases e335
                 obtain ⟨ce335, hce335, hMe335, hcc335⟩ := Kd.S_get HO_4.out z42 x13_4 p335 (by first | exact q335 | exact of_decide_eq_true (by first | (with_reducible assumption) | assumption) | (have e_ := (Kd.S_reads' HO_4.out).1; omega))
                 obtain ⟨ve335_1, ve335_2, rfl, ge335_1, ge335_2⟩ := k42_openM hMe335
                 have hv335_1 := hcc335 1 _ rfl
                 rw [add_field _ _ 1 (by omega)] at hv335_1
                 replace hv335_1 := Option.some.inj (hv335_1.symm.trans hx335_1)
                 rw [hv335_1] at ge335_1
                 have HL335_1 := Aside0.mk (show Kd.R k62 62 _ _ _ _ ((rd_T42 x4_1 x13_4).f1) from ge335_1)
                 clear hv335_1 ge335_1
                 have hv335_2 := hcc335 2 _ rfl
                 rw [add_field _ _ 2 (by omega)] at hv335_2
                 replace hv335_2 := Option.some.inj (hv335_2.symm.trans hx335_2)
                 rw [hv335_2] at ge335_2
                 have HL335_2 := Aside0.mk (show Kd.R Kd.string 9 _ _ _ _ ((rd_T42 x4_1 x13_4).f2) from ge335_2)
                 clear hv335_2 ge335_2
                 clear hcc335 hce335
                 have HR335_1 := Aside0.mk hi335_1
                 have HC335_1 := Aside0.mk hl335_1
                 clear hi335_1 hl335_1
                 have HR335_2 := Aside0.mk hi335_2
                 have HC335_2 := Aside0.mk hl335_2
                 clear hi335_2 hl335_2
                 replace p335 := eq_true p335
                 replace q335 := eq_true q335
                 go_wp2
                 repeat (go_quiet (fail); try go_wp2_with fail)
                 go_meet
                 case rel => exact ⟨_, (true), (by first | rfl | (simp; done) | (simp [*]; done)), H', ⟨by have := HK1.out; have := HJ4.out; have := HJ43.out; have := HK4.out; first | omega | exact Nat.le_refl _⟩, ⟨by (with_reducible repeat (first | apply Kd.S_alloc | apply Kd.S_drewN | apply Kd.S_drew)); exact HO_4.out⟩, ⟨by (with_reducible repeat (first | apply rA | apply rN | apply Kd.R_drew)); exact HO_5.out⟩, ⟨by (with_reducible repeat (first | apply Kd.S_alloc | apply Kd.S_drewN | apply Kd.S_drew)); exact HO_11.out⟩, ⟨by (with_reducible repeat (first | apply rA | apply rN | apply Kd.R_drew)); exact HO_12.out⟩, ⟨by repeat (first | (with_reducible first | exact HB.out | apply bA | apply pN | apply bD) | exact HB.out)⟩⟩
               ·rw [if_neg c58] at H
                exact absurd H (by simp)
              ·rw [if_neg c57] at H
               exact absurd H (by simp)
             case rest =>
              clear HC55
              try clear c1
              try clear p2
              try clear c3
              try clear p3
              try clear q3
              try clear hx3
              try clear c4
              try clear c5
              try clear c6
              try clear c6b0
              try clear p6
              try clear c7
              try clear c8
              try clear c8b0
              try clear c9
              try clear c9b0
              try clear c12
              try clear c12b0
              try clear c12b1
              try clear c13
              try clear c14
              try clear c15
              try clear c15b0
              try clear c15b1
              try clear c15b2
              try clear c19
              try clear c30
              try clear p30
              try clear q30
              try clear hx30
              try clear c33
              try clear p33
              try clear q33
              try clear hx33
              try clear c34
              try clear c46
              try clear c46b0
              try clear c46b1
              try clear c46b2
              try clear c53
              try clear c54
              try clear c54b0
              try clear c57
              try clear c57b0
              try clear c58
              try clear c58b0
              try clear c59
              try clear c59b0
              try clear c59b1
              try clear c60
              try clear c60b0
              try clear c61
              try clear c61b0
              try clear c62
              try clear c62b0
              try clear c62b1
              try clear hcz20_0
              try clear hcz20_1
              try clear hcz20_2
              try clear hcz23_0
              try clear hcz23_1
              try clear hcz23_2
              try clear hcz23_3
              try clear hcz28_0
              try clear hcz28_1
              try clear hcz28_2
              try clear hcz35_0
              try clear hcz35_1
              try clear hcz35_2
              try clear hcz38_0
              try clear hcz38_1
              try clear hcz38_2
              try clear hcz38_3
              try clear hfz20_0
              try clear hfz20_1
              try clear hfz20_2
              try clear hfz23_0
              try clear hfz23_1
              try clear hfz23_2
              try clear hfz23_3
              try clear hfz28_0
              try clear hfz28_1
              try clear hfz28_2
              try clear hfz35_0
              try clear hfz35_1
              try clear hfz35_2
              try clear hfz38_0
              try clear hfz38_1
              try clear hfz38_2
              try clear hfz38_3
              try clear hx300_0
              try clear hx300_1
              try clear hx300_2
              try clear hx300_3
              try clear hx334_0
              try clear hx334_1
              try clear hx334_2
              try clear hx335_0
              try clear hx335_1
              try clear hx335_2
              try clear hx336_0
              try clear hx337_0
              try clear hx338_0
              try clear hx338_1
              try clear hx338_2
              try clear hx339_0
              try clear hx339_1
              try clear hx339_2
              try clear p2
              try clear p3
              try clear p30
              try clear p300
              try clear p334
              try clear p335
              try clear p336
              try clear p337
              try clear p338
              try clear p339
              try clear p6
              try clear q3
              try clear q30
              try clear q300
              try clear q334
              try clear q335
              try clear q336
              try clear q337
              try clear q338
              try clear q339
              obtain ⟨kq, x114_54, rfl, HA, HJ54, HO_4, HO_5, HO_11, HO_12, HB⟩ := hcut
              cases kq with
              | zero => exact absurd HA.out (by simp [corbellaw18_GroupMany.j4])
              | succ kj54 =>
               have H := HA.out
               clear HA
               simp only [corbellaw18_GroupMany.j4] at H
               by_cases c70 : x114_54 = true
               ·subst c70
                have H1 : (some false) = some r := by rw [if_pos rfl] at H; exact H
                clear H
                have H := H1
                clear H1
                obtain rfl := Option.some.inj H
                go_wp2
                go_ret
                exact ⟨by first | rfl | (simp [errW_none, errW_some] <;> rfl) | (simp [*, errW_none, errW_some] <;> rfl), by repeat (first | (with_reducible first | exact HB.out | apply bA | apply pN | apply bD) | exact HB.out)⟩
               ·replace c70 := Bool.eq_false_iff.mpr c70
                subst c70
                have H1 : (corbellaw18_GroupMany.l2 kj54 x4_1 x5_1 t328 t329 x13_4 0) = some r := by rw [if_neg (show ¬ (false = true) by decide)] at H; exact H
                clear H
                have H := H1
                clear H1
                have H' := Aside0.mk H
                clear H
                go_wp2
                go_loopg [14] kj54 (fun kq v14 w' => ∃ (x14_6 : Int), v14 = .int .i64 x14_6 ∧ Aside0 (corbellaw18_GroupMany.l2 kq x4_1 x5_1 t328 t329 x13_4 x14_6 = some r) ∧ Aside0 (kq ≤ kj54) ∧ Aside0 (Kd.S k42 42 w' w.heap.size (fun k_ => some k_ ≠ (v330 : Value).ownBlock) (.slice Ao56 x4_1.length co56) x4_1) ∧ Aside0 (Kd.R (Kd.int .i64) 3 w' w.heap.size (fun k_ => some k_ ≠ (v332 : Value).ownBlock) u5 x5_1) ∧ Aside0 (Kd.S k42 42 w' w.heap.size (fun k_ => some k_ ≠ ((.slice Ao56 x4_1.length co56) : Value).ownBlock) v330 t328) ∧ Aside0 (Kd.R (Kd.int .i64) 3 w' w.heap.size (fun k_ => some k_ ≠ (u5 : Value).ownBlock) v332 t329) ∧ Aside0 (Below w.heap.size w w'))
                case atStart => exact ⟨(0), (by first | rfl | (simp; done) | (simp [*]; done)), H', ⟨Nat.le_refl _⟩, ⟨by (with_reducible repeat (first | apply Kd.S_alloc | apply Kd.S_drewN | apply Kd.S_drew)); exact HO_4.out⟩, ⟨by (with_reducible repeat (first | apply rA | apply rN | apply Kd.R_drew)); exact HO_5.out⟩, ⟨by (with_reducible repeat (first | apply Kd.S_alloc | apply Kd.S_drewN | apply Kd.S_drew)); exact HO_11.out⟩, ⟨by (with_reducible repeat (first | apply rA | apply rN | apply Kd.R_drew)); exact HO_12.out⟩, ⟨by repeat (first | (with_reducible first | exact HB.out | apply bA | apply pN | apply bD) | exact HB.out)⟩⟩
                case round =>
                 clear H'
                 try clear c1
                 try clear p2
                 try clear c3
                 try clear p3
                 try clear q3
                 try clear hx3
                 try clear c4
                 try clear c5
                 try clear c6
                 try clear c6b0
                 try clear p6
                 try clear c7
                 try clear c8
                 try clear c8b0
                 try clear c9
                 try clear c9b0
                 try clear c12
                 try clear c12b0
                 try clear c12b1
                 try clear c13
                 try clear c14
                 try clear c15
                 try clear c15b0
                 try clear c15b1
                 try clear c15b2
                 try clear c19
                 try clear c30
                 try clear p30
                 try clear q30
                 try clear hx30
                 try clear c33
                 try clear p33
                 try clear q33
                 try clear hx33
                 try clear c34
                 try clear c46
                 try clear c46b0
                 try clear c46b1
                 try clear c46b2
                 try clear c53
                 try clear c54
                 try clear c54b0
                 try clear c57
                 try clear c57b0
                 try clear c58
                 try clear c58b0
                 try clear c59
                 try clear c59b0
                 try clear c59b1
                 try clear c60
                 try clear c60b0
                 try clear c61
                 try clear c61b0
                 try clear c62
                 try clear c62b0
                 try clear c62b1
                 try clear c70
                 try clear hcz20_0
                 try clear hcz20_1
                 try clear hcz20_2
                 try clear hcz23_0
                 try clear hcz23_1
                 try clear hcz23_2
                 try clear hcz23_3
                 try clear hcz28_0
                 try clear hcz28_1
                 try clear hcz28_2
                 try clear hcz35_0
                 try clear hcz35_1
                 try clear hcz35_2
                 try clear hcz38_0
                 try clear hcz38_1
                 try clear hcz38_2
                 try clear hcz38_3
                 try clear hfz20_0
                 try clear hfz20_1
                 try clear hfz20_2
                 try clear hfz23_0
                 try clear hfz23_1
                 try clear hfz23_2
                 try clear hfz23_3
                 try clear hfz28_0
                 try clear hfz28_1
                 try clear hfz28_2
                 try clear hfz35_0
                 try clear hfz35_1
                 try clear hfz35_2
                 try clear hfz38_0
                 try clear hfz38_1
                 try clear hfz38_2
                 try clear hfz38_3
                 try clear hx300_0
                 try clear hx300_1
                 try clear hx300_2
                 try clear hx300_3
                 try clear hx334_0
                 try clear hx334_1
                 try clear hx334_2
                 try clear hx335_0
                 try clear hx335_1
                 try clear hx335_2
                 try clear hx336_0
                 try clear hx337_0
                 try clear hx338_0
                 try clear hx338_1
                 try clear hx338_2
                 try clear hx339_0
                 try clear hx339_1
                 try clear hx339_2
                 try clear p2
                 try clear p3
                 try clear p30
                 try clear p300
                 try clear p33
                 try clear p334
                 try clear p335
                 try clear p336
                 try clear p337
                 try clear p338
                 try clear p339
                 try clear p6
                 try clear q3
                 try clear q30
                 try clear q300
                 try clear q33
                 try clear q334
                 try clear q335
                 try clear q336
                 try clear q337
                 try clear q338
                 try clear q339
                 obtain ⟨x14_6, rfl, HA, HK6, HO_4, HO_5, HO_11, HO_12, HB⟩ := hrel
                 cases gk with
                 | zero => exact absurd HA.out (by simp [corbellaw18_GroupMany.l2])
                 | succ k6 =>
                  have H := HA.out
                  clear HA
                  simp only [corbellaw18_GroupMany.l2] at H
                  by_cases c71 : 0 ≤ x13_4
                  ·rw [if_pos c71] at H
                   have c71b0 : decide (0 ≤ x13_4) = true := decide_eq_true c71
                   clear c71
                   by_cases c72 : x13_4 < (x4_1.length : Int)
                   ·rw [if_pos c72] at H
                    have c72b0 : decide (x13_4 < (x4_1.length : Int)) = true := decide_eq_true c72
                    clear c72
                    by_cases c73 : x14_6 < (((rd_T42 x4_1 x13_4).f1).length : Int)
                    ·rw [if_pos c73] at H
                     have c73b0 : decide (x14_6 < (((rd_T42 x4_1 x13_4).f1).length : Int)) = true := decide_eq_true c73
                     clear c73
                     by_cases c74 : x13_4 < (t328.length : Int)
                     ·rw [if_pos c74] at H
                      have c74b0 : decide (x13_4 < (t328.length : Int)) = true := decide_eq_true c74
                      clear c74
                      by_cases c75 : 0 ≤ x14_6
                      ·rw [if_pos c75] at H
                       have c75b0 : decide (0 ≤ x14_6) = true := decide_eq_true c75
                       clear c75
                       by_cases c76 : x14_6 < (((rd_T42 t328 x13_4).f1).length : Int)
                       ·rw [if_pos c76] at H
                        have c76b0 : decide (x14_6 < (((rd_T42 t328 x13_4).f1).length : Int)) = true := decide_eq_true c76
                        clear c76
                        by_cases c77 : (!(((rd_T62 ((rd_T42 t328 x13_4).f1) x14_6).f0) == ((rd_T62 ((rd_T42 x4_1 x13_4).f1) x14_6).f0)) || (!(((rd_T62 ((rd_T42 t328 x13_4).f1) x14_6).f1) == ((rd_T62 ((rd_T42 x4_1 x13_4).f1) x14_6).f1)))) = true
                        ·rw [if_pos c77] at H
                         have c77b0 : (!(((rd_T62 ((rd_T42 t328 x13_4).f1) x14_6).f0) == ((rd_T62 ((rd_T42 x4_1 x13_4).f1) x14_6).f0)) || (!(((rd_T62 ((rd_T42 t328 x13_4).f1) x14_6).f1) == ((rd_T62 ((rd_T42 x4_1 x13_4).f1) x14_6).f1)))) = true := c77
                         clear c77
                         obtain rfl := Option.some.inj H
                         have p340 : 0 ≤ (x13_4 : Int) := of_decide_eq_true (by first | (with_reducible assumption) | assumption)
                         have q340 : x13_4 < (x4_1.length : Int) := of_decide_eq_true (by first | (with_reducible assumption) | assumption)
                         obtain ⟨ad340, A340_1, c340_1, A340_2, c340_2, e340, hx340_0, hx340_1, hx340_2, hl340_1, hi340_1, hl340_2, hi340_2⟩ := at_T42 (Kd.S_reads' HO_4.out).2.2 x13_4 p340 q340
                         cases e340
                         obtain ⟨ce340, hce340, hMe340, hcc340⟩ := Kd.S_get HO_4.out z42 x13_4 p340 (by first | exact q340 | exact of_decide_eq_true (by first | (with_reducible assumption) | assumption) | (have e_ := (Kd.S_reads' HO_4.out).1; omega))
                         obtain ⟨ve340_1, ve340_2, rfl, ge340_1, ge340_2⟩ := k42_openM hMe340
                         have hv340_1 := hcc340 1 _ rfl
                         rw [add_field _ _ 1 (by omega)] at hv340_1
                         replace hv340_1 := Option.some.inj (hv340_1.symm.trans hx340_1)
                         rw [hv340_1] at ge340_1
                         have HL340_1 := Aside0.mk (show Kd.R k62 62 _ _ _ _ ((rd_T42 x4_1 x13_4).f1) from ge340_1)
                         clear hv340_1 ge340_1
                         have hv340_2 := hcc340 2 _ rfl
                         rw [add_field _ _ 2 (by omega)] at hv340_2
                         replace hv340_2 := Option.some.inj (hv340_2.symm.trans hx340_2)
                         rw [hv340_2] at ge340_2
                         have HL340_2 := Aside0.mk (show Kd.R Kd.string 9 _ _ _ _ ((rd_T42 x4_1 x13_4).f2) from ge340_2)
                         clear hv340_2 ge340_2
                         clear hcc340 hce340
                         have HR340_1 := Aside0.mk hi340_1
                         have HC340_1 := Aside0.mk hl340_1
                         clear hi340_1 hl340_1
                         have HR340_2 := Aside0.mk hi340_2
                         have HC340_2 := Aside0.mk hl340_2
                         clear hi340_2 hl340_2
                         replace p340 := eq_true p340
                         replace q340 := eq_true q340
                         obtain ⟨Ao78, co78, eo78⟩ := Kd.S_slice HO_11.out
                         subst eo78
                         have p341 : 0 ≤ (x13_4 : Int) := of_decide_eq_true (by first | (with_reducible assumption) | assumption)
                         have q341 : x13_4 < (t328.length : Int) := of_decide_eq_true (by first | (with_reducible assumption) | assumption)
                         obtain ⟨ad341, A341_1, c341_1, A341_2, c341_2, e341, hx341_0, hx341_1, hx341_2, hl341_1, hi341_1, hl341_2, hi341_2⟩ := at_T42 (Kd.S_reads' HO_11.out).2.2 x13_4 p341 q341
                         cases e341
                         obtain ⟨ce341, hce341, hMe341, hcc341⟩ := Kd.S_get HO_11.out z42 x13_4 p341 (by first | exact q341 | exact of_decide_eq_true (by first | (with_reducible assumption) | assumption) | (have e_ := (Kd.S_reads' HO_11.out).1; omega))
                         obtain ⟨ve341_1, ve341_2, rfl, ge341_1, ge341_2⟩ := k42_openM hMe341
                         have hv341_1 := hcc341 1 _ rfl
                         rw [add_field _ _ 1 (by omega)] at hv341_1
                         replace hv341_1 := Option.some.inj (hv341_1.symm.trans hx341_1)
                         rw [hv341_1] at ge341_1
                         have HL341_1 := Aside0.mk (show Kd.R k62 62 _ _ _ _ ((rd_T42 t328 x13_4).f1) from ge341_1)
                         clear hv341_1 ge341_1
                         have hv341_2 := hcc341 2 _ rfl
                         rw [add_field _ _ 2 (by omega)] at hv341_2
                         replace hv341_2 := Option.some.inj (hv341_2.symm.trans hx341_2)
                         rw [hv341_2] at ge341_2
                         have HL341_2 := Aside0.mk (show Kd.R Kd.string 9 _ _ _ _ ((rd_T42 t328 x13_4).f2) from ge341_2)
                         clear hv341_2 ge341_2
                         clear hcc341 hce341
                         have HR341_1 := Aside0.mk hi341_1
                         have HC341_1 := Aside0.mk hl341_1
                         clear hi341_1 hl341_1
                         have HR341_2 := Aside0.mk hi341_2
                         have HC341_2 := Aside0.mk hl341_2
                         clear hi341_2 hl341_2
                         replace p341 := eq_true p341
                         replace q341 := eq_true q341
                         have p342 : 0 ≤ (x14_6 : Int) := of_decide_eq_true (by first | (with_reducible assumption) | assumption)
                         have q342 : x14_6 < (((rd_T42 t328 x13_4).f1).length : Int) := of_decide_eq_true (by first | (with_reducible assumption) | assumption)
                         obtain ⟨ad342, e342, hx342_0, hx342_1⟩ := at_T62 (by repeat (first | (with_reducible exact HR341_1.out) | (with_reducible refine Kd.C_alloc ?_ _) | (with_reducible refine Kd.C_drewN ?_ _) | (with_reducible refine Kd.C_drew ?_) | exact HR341_1.out)) x14_6 p342 q342
                         cases e342
                         replace p342 := eq_true p342
                         replace q342 := eq_true q342
                         have p343 : 0 ≤ (x13_4 : Int) := of_decide_eq_true (by first | (with_reducible assumption) | assumption)
                         have q343 : x13_4 < (x4_1.length : Int) := of_decide_eq_true (by first | (with_reducible assumption) | assumption)
                         obtain ⟨ad343, A343_1, c343_1, A343_2, c343_2, e343, hx343_0, hx343_1, hx343_2, hl343_1, hi343_1, hl343_2, hi343_2⟩ := at_T42 (Kd.S_reads' HO_4.out).2.2 x13_4 p343 q343
                         obtain rfl : ad340 = ad343 := (by injection e343)
                         obtain ⟨ce343, hce343, hMe343, hcc343⟩ := Kd.S_get HO_4.out z42 x13_4 p343 (by first | exact q343 | exact of_decide_eq_true (by first | (with_reducible assumption) | assumption) | (have e_ := (Kd.S_reads' HO_4.out).1; omega))
                         obtain ⟨ve343_1, ve343_2, rfl, ge343_1, ge343_2⟩ := k42_openM hMe343
                         have hv343_1 := hcc343 1 _ rfl
                         rw [add_field _ _ 1 (by omega)] at hv343_1
                         replace hv343_1 := Option.some.inj (hv343_1.symm.trans hx343_1)
                         rw [hv343_1] at ge343_1
                         have HL343_1 := Aside0.mk (show Kd.R k62 62 _ _ _ _ ((rd_T42 x4_1 x13_4).f1) from ge343_1)
                         clear hv343_1 ge343_1
                         have hv343_2 := hcc343 2 _ rfl
                         rw [add_field _ _ 2 (by omega)] at hv343_2
                         replace hv343_2 := Option.some.inj (hv343_2.symm.trans hx343_2)
                         rw [hv343_2] at ge343_2
                         have HL343_2 := Aside0.mk (show Kd.R Kd.string 9 _ _ _ _ ((rd_T42 x4_1 x13_4).f2) from ge343_2)
                         clear hv343_2 ge343_2
                         clear hcc343 hce343
                         have HR343_1 := Aside0.mk hi343_1
                         have HC343_1 := Aside0.mk hl343_1
                         clear hi343_1 hl343_1
                         have HR343_2 := Aside0.mk hi343_2
                         have HC343_2 := Aside0.mk hl343_2
                         clear hi343_2 hl343_2
                         replace p343 := eq_true p343
                         replace q343 := eq_true q343
                         have ea_ := Option.some.inj (hx340_1.symm.trans hx343_1)
                         injection ea_ with ea_ en_ ec_
                         subst ea_
                         subst ec_
                         clear en_
                         have ea_ := Option.some.inj (hx340_2.symm.trans hx343_2)
                         injection ea_ with ea_ en_ ec_
                         subst ea_
                         subst ec_
                         clear en_
                         have p344 : 0 ≤ (x14_6 : Int) := of_decide_eq_true (by first | (with_reducible assumption) | assumption)
                         have q344 : x14_6 < (((rd_T42 x4_1 x13_4).f1).length : Int) := of_decide_eq_true (by first | (with_reducible assumption) | assumption)
                         obtain ⟨ad344, e344, hx344_0, hx344_1⟩ := at_T62 (by repeat (first | (with_reducible exact HR343_1.out) | (with_reducible refine Kd.C_alloc ?_ _) | (with_reducible refine Kd.C_drewN ?_ _) | (with_reducible refine Kd.C_drew ?_) | exact HR343_1.out)) x14_6 p344 q344
                         cases e344
                         replace p344 := eq_true p344
                         replace q344 := eq_true q344
                         go_wp2
                         repeat (go_quiet (fail); try go_wp2_with fail)
                         go_ret
                         exact ⟨by first | rfl | (simp [errW_none, errW_some] <;> rfl) | (simp [*, errW_none, errW_some] <;> rfl), by repeat (first | (with_reducible first | exact HB.out | apply bA | apply pN | apply bD) | exact HB.out)⟩
                        ·rw [if_neg c77] at H
                         have c77b0 : (!(((rd_T62 ((rd_T42 t328 x13_4).f1) x14_6).f0) == ((rd_T62 ((rd_T42 x4_1 x13_4).f1) x14_6).f0)) || (!(((rd_T62 ((rd_T42 t328 x13_4).f1) x14_6).f1) == ((rd_T62 ((rd_T42 x4_1 x13_4).f1) x14_6).f1)))) = false := by simpa using c77
                         clear c77
                         by_cases c79 : x14_6 < (((rd_T42 t328 x13_4).f2).length : Int)
                         ·rw [if_pos c79] at H
                          have c79b0 : decide (x14_6 < (((rd_T42 t328 x13_4).f2).length : Int)) = true := decide_eq_true c79
                          clear c79
                          by_cases c80 : x14_6 < (((rd_T42 x4_1 x13_4).f2).length : Int)
                          ·rw [if_pos c80] at H
                           have c80b0 : decide (x14_6 < (((rd_T42 x4_1 x13_4).f2).length : Int)) = true := decide_eq_true c80
                           clear c80
                           by_cases c81 : (rdOf ByteArray.empty ((rd_T42 t328 x13_4).f2) x14_6).toList = (rdOf ByteArray.empty ((rd_T42 x4_1 x13_4).f2) x14_6).toList
                           ·rw [if_pos c81] at H
                            have c81b0 : ((rdOf ByteArray.empty ((rd_T42 t328 x13_4).f2) x14_6).toList == (rdOf ByteArray.empty ((rd_T42 x4_1 x13_4).f2) x14_6).toList) = true := beq_iff_eq.mpr c81
                            have c81b1 : ((rdOf ByteArray.empty ((rd_T42 t328 x13_4).f2) x14_6).toList != (rdOf ByteArray.empty ((rd_T42 x4_1 x13_4).f2) x14_6).toList) = false := bne_eq_false_iff_eq.mpr c81
                            clear c81
                            have H' := Aside0.mk H
                            clear H
                            have p340 : 0 ≤ (x13_4 : Int) := of_decide_eq_true (by first | (with_reducible assumption) | assumption)
                            have q340 : x13_4 < (x4_1.length : Int) := of_decide_eq_true (by first | (with_reducible assumption) | assumption)
                            obtain ⟨ad340, A340_1, c340_1, A340_2, c340_2, e340, hx340_0, hx340_1, hx340_2, hl340_1, hi340_1, hl340_2, hi340_2⟩ := at_T42 (Kd.S_reads' HO_4.out).2.2 x13_4 p340 q340
                            cases e340
                            obtain ⟨ce340, hce340, hMe340, hcc340⟩ := Kd.S_get HO_4.out z42 x13_4 p340 (by first | exact q340 | exact of_decide_eq_true (by first | (with_reducible assumption) | assumption) | (have e_ := (Kd.S_reads' HO_4.out).1; omega))
                            obtain ⟨ve340_1, ve340_2, rfl, ge340_1, ge340_2⟩ := k42_openM hMe340
                            have hv340_1 := hcc340 1 _ rfl
                            rw [add_field _ _ 1 (by omega)] at hv340_1
                            replace hv340_1 := Option.some.inj (hv340_1.symm.trans hx340_1)
                            rw [hv340_1] at ge340_1
                            have HL340_1 := Aside0.mk (show Kd.R k62 62 _ _ _ _ ((rd_T42 x4_1 x13_4).f1) from ge340_1)
                            clear hv340_1 ge340_1
                            have hv340_2 := hcc340 2 _ rfl
                            rw [add_field _ _ 2 (by omega)] at hv340_2
                            replace hv340_2 := Option.some.inj (hv340_2.symm.trans hx340_2)
                            rw [hv340_2] at ge340_2
                            have HL340_2 := Aside0.mk (show Kd.R Kd.string 9 _ _ _ _ ((rd_T42 x4_1 x13_4).f2) from ge340_2)
                            clear hv340_2 ge340_2
                            clear hcc340 hce340
                            have HR340_1 := Aside0.mk hi340_1
                            have HC340_1 := Aside0.mk hl340_1
                            clear hi340_1 hl340_1
                            have HR340_2 := Aside0.mk hi340_2
                            have HC340_2 := Aside0.mk hl340_2
                            clear hi340_2 hl340_2
                            replace p340 := eq_true p340
                            replace q340 := eq_true q340
                            obtain ⟨Ao82, co82, eo82⟩ := Kd.S_slice HO_11.out
                            subst eo82
                            have p341 : 0 ≤ (x13_4 : Int) := of_decide_eq_true (by first | (with_reducible assumption) | assumption)
                            have q341 : x13_4 < (t328.length : Int) := of_decide_eq_true (by first | (with_reducible assumption) | assumption)
                            obtain ⟨ad341, A341_1, c341_1, A341_2, c341_2, e341, hx341_0, hx341_1, hx341_2, hl341_1, hi341_1, hl341_2, hi341_2⟩ := at_T42 (Kd.S_reads' HO_11.out).2.2 x13_4 p341 q341
                            cases e341
                            obtain ⟨ce341, hce341, hMe341, hcc341⟩ := Kd.S_get HO_11.out z42 x13_4 p341 (by first | exact q341 | exact of_decide_eq_true (by first | (with_reducible assumption) | assumption) | (have e_ := (Kd.S_reads' HO_11.out).1; omega))
                            obtain ⟨ve341_1, ve341_2, rfl, ge341_1, ge341_2⟩ := k42_openM hMe341
                            have hv341_1 := hcc341 1 _ rfl
                            rw [add_field _ _ 1 (by omega)] at hv341_1
                            replace hv341_1 := Option.some.inj (hv341_1.symm.trans hx341_1)
                            rw [hv341_1] at ge341_1
                            have HL341_1 := Aside0.mk (show Kd.R k62 62 _ _ _ _ ((rd_T42 t328 x13_4).f1) from ge341_1)
                            clear hv341_1 ge341_1
                            have hv341_2 := hcc341 2 _ rfl
                            rw [add_field _ _ 2 (by omega)] at hv341_2
                            replace hv341_2 := Option.some.inj (hv341_2.symm.trans hx341_2)
                            rw [hv341_2] at ge341_2
                            have HL341_2 := Aside0.mk (show Kd.R Kd.string 9 _ _ _ _ ((rd_T42 t328 x13_4).f2) from ge341_2)
                            clear hv341_2 ge341_2
                            clear hcc341 hce341
                            have HR341_1 := Aside0.mk hi341_1
                            have HC341_1 := Aside0.mk hl341_1
                            clear hi341_1 hl341_1
                            have HR341_2 := Aside0.mk hi341_2
                            have HC341_2 := Aside0.mk hl341_2
                            clear hi341_2 hl341_2
                            replace p341 := eq_true p341
                            replace q341 := eq_true q341
                            have p342 : 0 ≤ (x14_6 : Int) := of_decide_eq_true (by first | (with_reducible assumption) | assumption)
                            have q342 : x14_6 < (((rd_T42 t328 x13_4).f1).length : Int) := of_decide_eq_true (by first | (with_reducible assumption) | assumption)
                            obtain ⟨ad342, e342, hx342_0, hx342_1⟩ := at_T62 (by repeat (first | (with_reducible exact HR341_1.out) | (with_reducible refine Kd.C_alloc ?_ _) | (with_reducible refine Kd.C_drewN ?_ _) | (with_reducible refine Kd.C_drew ?_) | exact HR341_1.out)) x14_6 p342 q342
                            cases e342
                            replace p342 := eq_true p342
                            replace q342 := eq_true q342
                            have p343 : 0 ≤ (x13_4 : Int) := of_decide_eq_true (by first | (with_reducible assumption) | assumption)
                            have q343 : x13_4 < (x4_1.length : Int) := of_decide_eq_true (by first | (with_reducible assumption) | assumption)
                            obtain ⟨ad343, A343_1, c343_1, A343_2, c343_2, e343, hx343_0, hx343_1, hx343_2, hl343_1, hi343_1, hl343_2, hi343_2⟩ := at_T42 (Kd.S_reads' HO_4.out).2.2 x13_4 p343 q343
                            obtain rfl : ad340 = ad343 := (by injection e343)
                            obtain ⟨ce343, hce343, hMe343, hcc343⟩ := Kd.S_get HO_4.out z42 x13_4 p343 (by first | exact q343 | exact of_decide_eq_true (by first | (with_reducible assumption) | assumption) | (have e_ := (Kd.S_reads' HO_4.out).1; omega))
                            obtain ⟨ve343_1, ve343_2, rfl, ge343_1, ge343_2⟩ := k42_openM hMe343
                            have hv343_1 := hcc343 1 _ rfl
                            rw [add_field _ _ 1 (by omega)] at hv343_1
                            replace hv343_1 := Option.some.inj (hv343_1.symm.trans hx343_1)
                            rw [hv343_1] at ge343_1
                            have HL343_1 := Aside0.mk (show Kd.R k62 62 _ _ _ _ ((rd_T42 x4_1 x13_4).f1) from ge343_1)
                            clear hv343_1 ge343_1
                            have hv343_2 := hcc343 2 _ rfl
                            rw [add_field _ _ 2 (by omega)] at hv343_2
                            replace hv343_2 := Option.some.inj (hv343_2.symm.trans hx343_2)
                            rw [hv343_2] at ge343_2
                            have HL343_2 := Aside0.mk (show Kd.R Kd.string 9 _ _ _ _ ((rd_T42 x4_1 x13_4).f2) from ge343_2)
                            clear hv343_2 ge343_2
                            clear hcc343 hce343
                            have HR343_1 := Aside0.mk hi343_1
                            have HC343_1 := Aside0.mk hl343_1
                            clear hi343_1 hl343_1
                            have HR343_2 := Aside0.mk hi343_2
                            have HC343_2 := Aside0.mk hl343_2
                            clear hi343_2 hl343_2
                            replace p343 := eq_true p343
                            replace q343 := eq_true q343
                            have ea_ := Option.some.inj (hx340_1.symm.trans hx343_1)
                            injection ea_ with ea_ en_ ec_
                            subst ea_
                            subst ec_
                            clear en_
                            have ea_ := Option.some.inj (hx340_2.symm.trans hx343_2)
                            injection ea_ with ea_ en_ ec_
                            subst ea_
                            subst ec_
                            clear en_
                            have p344 : 0 ≤ (x14_6 : Int) := of_decide_eq_true (by first | (with_reducible assumption) | assumption)
                            have q344 : x14_6 < (((rd_T42 x4_1 x13_4).f1).length : Int) := of_decide_eq_true (by first | (with_reducible assumption) | assumption)
                            obtain ⟨ad344, e344, hx344_0, hx344_1⟩ := at_T62 (by repeat (first | (with_reducible exact HR343_1.out) | (with_reducible refine Kd.C_alloc ?_ _) | (with_reducible refine Kd.C_drewN ?_ _) | (with_reducible refine Kd.C_drew ?_) | exact HR343_1.out)) x14_6 p344 q344
                            cases e344
                            replace p344 := eq_true p344
                            replace q344 := eq_true q344
                            have p345 : 0 ≤ (x13_4 : Int) := of_decide_eq_true (by first | (with_reducible assumption) | assumption)
                            have q345 : x13_4 < (t328.length : Int) := of_decide_eq_true (by first | (with_reducible assumption) | assumption)
                            obtain ⟨ad345, A345_1, c345_1, A345_2, c345_2, e345, hx345_0, hx345_1, hx345_2, hl345_1, hi345_1, hl345_2, hi345_2⟩ := at_T42 (Kd.S_reads' HO_11.out).2.2 x13_4 p345 q345
                            obtain rfl : ad341 = ad345 := (by injection e345)
                            obtain ⟨ce345, hce345, hMe345, hcc345⟩ := Kd.S_get HO_11.out z42 x13_4 p345 (by first | exact q345 | exact of_decide_eq_true (by first | (with_reducible assumption) | assumption) | (have e_ := (Kd.S_reads' HO_11.out).1; omega))
                            obtain ⟨ve345_1, ve345_2, rfl, ge345_1, ge345_2⟩ := k42_openM hMe345
                            have hv345_1 := hcc345 1 _ rfl
                            rw [add_field _ _ 1 (by omega)] at hv345_1
                            replace hv345_1 := Option.some.inj (hv345_1.symm.trans hx345_1)
                            rw [hv345_1] at ge345_1
                            have HL345_1 := Aside0.mk (show Kd.R k62 62 _ _ _ _ ((rd_T42 t328 x13_4).f1) from ge345_1)
                            clear hv345_1 ge345_1
                            have hv345_2 := hcc345 2 _ rfl
                            rw [add_field _ _ 2 (by omega)] at hv345_2
                            replace hv345_2 := Option.some.inj (hv345_2.symm.trans hx345_2)
                            rw [hv345_2] at ge345_2
                            have HL345_2 := Aside0.mk (show Kd.R Kd.string 9 _ _ _ _ ((rd_T42 t328 x13_4).f2) from ge345_2)
                            clear hv345_2 ge345_2
                            clear hcc345 hce345
                            have HR345_1 := Aside0.mk hi345_1
                            have HC345_1 := Aside0.mk hl345_1
                            clear hi345_1 hl345_1
                            have HR345_2 := Aside0.mk hi345_2
                            have HC345_2 := Aside0.mk hl345_2
                            clear hi345_2 hl345_2
                            replace p345 := eq_true p345
                            replace q345 := eq_true q345
                            have ea_ := Option.some.inj (hx341_1.symm.trans hx345_1)
                            injection ea_ with ea_ en_ ec_
                            subst ea_
                            subst ec_
                            clear en_
                            have ea_ := Option.some.inj (hx341_2.symm.trans hx345_2)
                            injection ea_ with ea_ en_ ec_
                            subst ea_
                            subst ec_
                            clear en_
                            have p346 : 0 ≤ (x14_6 : Int) := of_decide_eq_true (by first | (with_reducible assumption) | assumption)
                            have q346 : x14_6 < (((rd_T42 t328 x13_4).f2).length : Int) := of_decide_eq_true (by first | (with_reducible assumption) | assumption)
                            obtain ⟨ad346, e346, hx346_0⟩ := Kd.at_string (by repeat (first | (with_reducible exact HR345_2.out) | (with_reducible refine Kd.C_alloc ?_ _) | (with_reducible refine Kd.C_drewN ?_ _) | (with_reducible refine Kd.C_drew ?_) | exact HR345_2.out)) x14_6 p346 q346
                            cases e346
                            replace p346 := eq_true p346
                            replace q346 := eq_true q346
                            have p347 : 0 ≤ (x13_4 : Int) := of_decide_eq_true (by first | (with_reducible assumption) | assumption)
                            have q347 : x13_4 < (x4_1.length : Int) := of_decide_eq_true (by first | (with_reducible assumption) | assumption)
                            obtain ⟨ad347, A347_1, c347_1, A347_2, c347_2, e347, hx347_0, hx347_1, hx347_2, hl347_1, hi347_1, hl347_2, hi347_2⟩ := at_T42 (Kd.S_reads' HO_4.out).2.2 x13_4 p347 q347
                            obtain rfl : ad340 = ad347 := (by injection e347)
                            obtain ⟨ce347, hce347, hMe347, hcc347⟩ := Kd.S_get HO_4.out z42 x13_4 p347 (by first | exact q347 | exact of_decide_eq_true (by first | (with_reducible assumption) | assumption) | (have e_ := (Kd.S_reads' HO_4.out).1; omega))
                            obtain ⟨ve347_1, ve347_2, rfl, ge347_1, ge347_2⟩ := k42_openM hMe347
                            have hv347_1 := hcc347 1 _ rfl
                            rw [add_field _ _ 1 (by omega)] at hv347_1
                            replace hv347_1 := Option.some.inj (hv347_1.symm.trans hx347_1)
                            rw [hv347_1] at ge347_1
                            have HL347_1 := Aside0.mk (show Kd.R k62 62 _ _ _ _ ((rd_T42 x4_1 x13_4).f1) from ge347_1)
                            clear hv347_1 ge347_1
                            have hv347_2 := hcc347 2 _ rfl
                            rw [add_field _ _ 2 (by omega)] at hv347_2
                            replace hv347_2 := Option.some.inj (hv347_2.symm.trans hx347_2)
                            rw [hv347_2] at ge347_2
                            have HL347_2 := Aside0.mk (show Kd.R Kd.string 9 _ _ _ _ ((rd_T42 x4_1 x13_4).f2) from ge347_2)
                            clear hv347_2 ge347_2
                            clear hcc347 hce347
                            have HR347_1 := Aside0.mk hi347_1
                            have HC347_1 := Aside0.mk hl347_1
                            clear hi347_1 hl347_1
                            have HR347_2 := Aside0.mk hi347_2
                            have HC347_2 := Aside0.mk hl347_2
                            clear hi347_2 hl347_2
                            replace p347 := eq_true p347
                            replace q347 := eq_true q347
                            have ea_ := Option.some.inj (hx340_1.symm.trans hx347_1)
                            injection ea_ with ea_ en_ ec_
                            subst ea_
                            subst ec_
                            clear en_
                            have ea_ := Option.some.inj (hx340_2.symm.trans hx347_2)
                            injection ea_ with ea_ en_ ec_
                            subst ea_
                            subst ec_
                            clear en_
                            have p348 : 0 ≤ (x14_6 : Int) := of_decide_eq_true (by first | (with_reducible assumption) | assumption)
                            have q348 : x14_6 < (((rd_T42 x4_1 x13_4).f2).length : Int) := of_decide_eq_true (by first | (with_reducible assumption) | assumption)
                            obtain ⟨ad348, e348, hx348_0⟩ := Kd.at_string (by repeat (first | (with_reducible exact HR347_2.out) | (with_reducible refine Kd.C_alloc ?_ _) | (with_reducible refine Kd.C_drewN ?_ _) | (with_reducible refine Kd.C_drew ?_) | exact HR347_2.out)) x14_6 p348 q348
                            cases e348
                            replace p348 := eq_true p348
                            replace q348 := eq_true q348
                            go_wp2
                            repeat (go_quiet (fail); try go_wp2_with fail)
                            go_roundg k6
                            case measure => have := HK1.out; have := HJ4.out; have := HJ43.out; have := HK4.out; have := HJ54.out; have := HK6.out; omega
                            case rel => exact ⟨(wrap64 (x14_6 + 1)), (by first | rfl | (simp; done) | (simp [*]; done)), H', ⟨by have := HK1.out; have := HJ4.out; have := HJ43.out; have := HK4.out; have := HJ54.out; have := HK6.out; omega⟩, ⟨by (with_reducible repeat (first | apply Kd.S_alloc | apply Kd.S_drewN | apply Kd.S_drew)); exact HO_4.out⟩, ⟨by (with_reducible repeat (first | apply rA | apply rN | apply Kd.R_drew)); exact HO_5.out⟩, ⟨by (with_reducible repeat (first | apply Kd.S_alloc | apply Kd.S_drewN | apply Kd.S_drew)); exact HO_11.out⟩, ⟨by (with_reducible repeat (first | apply rA | apply rN | apply Kd.R_drew)); exact HO_12.out⟩, ⟨by repeat (first | (with_reducible first | exact HB.out | apply bA | apply pN | apply bD) | exact HB.out)⟩⟩
                           ·rw [if_neg c81] at H
                            have c81b0 : ((rdOf ByteArray.empty ((rd_T42 t328 x13_4).f2) x14_6).toList == (rdOf ByteArray.empty ((rd_T42 x4_1 x13_4).f2) x14_6).toList) = false := beq_eq_false_iff_ne.mpr c81
                            have c81b1 : ((rdOf ByteArray.empty ((rd_T42 t328 x13_4).f2) x14_6).toList != (rdOf ByteArray.empty ((rd_T42 x4_1 x13_4).f2) x14_6).toList) = true := bne_iff_ne.mpr c81
                            obtain rfl := Option.some.inj H
                            have p340 : 0 ≤ (x13_4 : Int) := of_decide_eq_true (by first | (with_reducible assumption) | assumption)
                            have q340 : x13_4 < (x4_1.length : Int) := of_decide_eq_true (by first | (with_reducible assumption) | assumption)
                            obtain ⟨ad340, A340_1, c340_1, A340_2, c340_2, e340, hx340_0, hx340_1, hx340_2, hl340_1, hi340_1, hl340_2, hi340_2⟩ := at_T42 (Kd.S_reads' HO_4.out).2.2 x13_4 p340 q340
                            cases e340
                            obtain ⟨ce340, hce340, hMe340, hcc340⟩ := Kd.S_get HO_4.out z42 x13_4 p340 (by first | exact q340 | exact of_decide_eq_true (by first | (with_reducible assumption) | assumption) | (have e_ := (Kd.S_reads' HO_4.out).1; omega))
                            obtain ⟨ve340_1, ve340_2, rfl, ge340_1, ge340_2⟩ := k42_openM hMe340
                            have hv340_1 := hcc340 1 _ rfl
                            rw [add_field _ _ 1 (by omega)] at hv340_1
                            replace hv340_1 := Option.some.inj (hv340_1.symm.trans hx340_1)
                            rw [hv340_1] at ge340_1
                            have HL340_1 := Aside0.mk (show Kd.R k62 62 _ _ _ _ ((rd_T42 x4_1 x13_4).f1) from ge340_1)
                            clear hv340_1 ge340_1
                            have hv340_2 := hcc340 2 _ rfl
                            rw [add_field _ _ 2 (by omega)] at hv340_2
                            replace hv340_2 := Option.some.inj (hv340_2.symm.trans hx340_2)
                            rw [hv340_2] at ge340_2
                            have HL340_2 := Aside0.mk (show Kd.R Kd.string 9 _ _ _ _ ((rd_T42 x4_1 x13_4).f2) from ge340_2)
                            clear hv340_2 ge340_2
                            clear hcc340 hce340
                            have HR340_1 := Aside0.mk hi340_1
                            have HC340_1 := Aside0.mk hl340_1
                            clear hi340_1 hl340_1
                            have HR340_2 := Aside0.mk hi340_2
                            have HC340_2 := Aside0.mk hl340_2
                            clear hi340_2 hl340_2
                            replace p340 := eq_true p340
                            replace q340 := eq_true q340
                            obtain ⟨Ao83, co83, eo83⟩ := Kd.S_slice HO_11.out
                            subst eo83
                            have p341 : 0 ≤ (x13_4 : Int) := of_decide_eq_true (by first | (with_reducible assumption) | assumption)
                            have q341 : x13_4 < (t328.length : Int) := of_decide_eq_true (by first | (with_reducible assumption) | assumption)
                            obtain ⟨ad341, A341_1, c341_1, A341_2, c341_2, e341, hx341_0, hx341_1, hx341_2, hl341_1, hi341_1, hl341_2, hi341_2⟩ := at_T42 (Kd.S_reads' HO_11.out).2.2 x13_4 p341 q341
                            cases e341
                            obtain ⟨ce341, hce341, hMe341, hcc341⟩ := Kd.S_get HO_11.out z42 x13_4 p341 (by first | exact q341 | exact of_decide_eq_true (by first | (with_reducible assumption) | assumption) | (have e_ := (Kd.S_reads' HO_11.out).1; omega))
                            obtain ⟨ve341_1, ve341_2, rfl, ge341_1, ge341_2⟩ := k42_openM hMe341
                            have hv341_1 := hcc341 1 _ rfl
                            rw [add_field _ _ 1 (by omega)] at hv341_1
                            replace hv341_1 := Option.some.inj (hv341_1.symm.trans hx341_1)
                            rw [hv341_1] at ge341_1
                            have HL341_1 := Aside0.mk (show Kd.R k62 62 _ _ _ _ ((rd_T42 t328 x13_4).f1) from ge341_1)
                            clear hv341_1 ge341_1
                            have hv341_2 := hcc341 2 _ rfl
                            rw [add_field _ _ 2 (by omega)] at hv341_2
                            replace hv341_2 := Option.some.inj (hv341_2.symm.trans hx341_2)
                            rw [hv341_2] at ge341_2
                            have HL341_2 := Aside0.mk (show Kd.R Kd.string 9 _ _ _ _ ((rd_T42 t328 x13_4).f2) from ge341_2)
                            clear hv341_2 ge341_2
                            clear hcc341 hce341
                            have HR341_1 := Aside0.mk hi341_1
                            have HC341_1 := Aside0.mk hl341_1
                            clear hi341_1 hl341_1
                            have HR341_2 := Aside0.mk hi341_2
                            have HC341_2 := Aside0.mk hl341_2
                            clear hi341_2 hl341_2
                            replace p341 := eq_true p341
                            replace q341 := eq_true q341
                            have p342 : 0 ≤ (x14_6 : Int) := of_decide_eq_true (by first | (with_reducible assumption) | assumption)
                            have q342 : x14_6 < (((rd_T42 t328 x13_4).f1).length : Int) := of_decide_eq_true (by first | (with_reducible assumption) | assumption)
                            obtain ⟨ad342, e342, hx342_0, hx342_1⟩ := at_T62 (by repeat (first | (with_reducible exact HR341_1.out) | (with_reducible refine Kd.C_alloc ?_ _) | (with_reducible refine Kd.C_drewN ?_ _) | (with_reducible refine Kd.C_drew ?_) | exact HR341_1.out)) x14_6 p342 q342
                            cases e342
                            replace p342 := eq_true p342
                            replace q342 := eq_true q342
                            have p343 : 0 ≤ (x13_4 : Int) := of_decide_eq_true (by first | (with_reducible assumption) | assumption)
                            have q343 : x13_4 < (x4_1.length : Int) := of_decide_eq_true (by first | (with_reducible assumption) | assumption)
                            obtain ⟨ad343, A343_1, c343_1, A343_2, c343_2, e343, hx343_0, hx343_1, hx343_2, hl343_1, hi343_1, hl343_2, hi343_2⟩ := at_T42 (Kd.S_reads' HO_4.out).2.2 x13_4 p343 q343
                            obtain rfl : ad340 = ad343 := (by injection e343)
                            obtain ⟨ce343, hce343, hMe343, hcc343⟩ := Kd.S_get HO_4.out z42 x13_4 p343 (by first | exact q343 | exact of_decide_eq_true (by first | (with_reducible assumption) | assumption) | (have e_ := (Kd.S_reads' HO_4.out).1; omega))
                            obtain ⟨ve343_1, ve343_2, rfl, ge343_1, ge343_2⟩ := k42_openM hMe343
                            have hv343_1 := hcc343 1 _ rfl
                            rw [add_field _ _ 1 (by omega)] at hv343_1
                            replace hv343_1 := Option.some.inj (hv343_1.symm.trans hx343_1)
                            rw [hv343_1] at ge343_1
                            have HL343_1 := Aside0.mk (show Kd.R k62 62 _ _ _ _ ((rd_T42 x4_1 x13_4).f1) from ge343_1)
                            clear hv343_1 ge343_1
                            have hv343_2 := hcc343 2 _ rfl
                            rw [add_field _ _ 2 (by omega)] at hv343_2
                            replace hv343_2 := Option.some.inj (hv343_2.symm.trans hx343_2)
                            rw [hv343_2] at ge343_2
                            have HL343_2 := Aside0.mk (show Kd.R Kd.string 9 _ _ _ _ ((rd_T42 x4_1 x13_4).f2) from ge343_2)
                            clear hv343_2 ge343_2
                            clear hcc343 hce343
                            have HR343_1 := Aside0.mk hi343_1
                            have HC343_1 := Aside0.mk hl343_1
                            clear hi343_1 hl343_1
                            have HR343_2 := Aside0.mk hi343_2
                            have HC343_2 := Aside0.mk hl343_2
                            clear hi343_2 hl343_2
                            replace p343 := eq_true p343
                            replace q343 := eq_true q343
                            have ea_ := Option.some.inj (hx340_1.symm.trans hx343_1)
                            injection ea_ with ea_ en_ ec_
                            subst ea_
                            subst ec_
                            clear en_
                            have ea_ := Option.some.inj (hx340_2.symm.trans hx343_2)
                            injection ea_ with ea_ en_ ec_
                            subst ea_
                            subst ec_
                            clear en_
                            have p344 : 0 ≤ (x14_6 : Int) := of_decide_eq_true (by first | (with_reducible assumption) | assumption)
                            have q344 : x14_6 < (((rd_T42 x4_1 x13_4).f1).length : Int) := of_decide_eq_true (by first | (with_reducible assumption) | assumption)
                            obtain ⟨ad344, e344, hx344_0, hx344_1⟩ := at_T62 (by repeat (first | (with_reducible exact HR343_1.out) | (with_reducible refine Kd.C_alloc ?_ _) | (with_reducible refine Kd.C_drewN ?_ _) | (with_reducible refine Kd.C_drew ?_) | exact HR343_1.out)) x14_6 p344 q344
                            cases e344
                            replace p344 := eq_true p344
                            replace q344 := eq_true q344
                            have p345 : 0 ≤ (x13_4 : Int) := of_decide_eq_true (by first | (with_reducible assumption) | assumption)
                            have q345 : x13_4 < (t328.length : Int) := of_decide_eq_true (by first | (with_reducible assumption) | assumption)
                            obtain ⟨ad345, A345_1, c345_1, A345_2, c345_2, e345, hx345_0, hx345_1, hx345_2, hl345_1, hi345_1, hl345_2, hi345_2⟩ := at_T42 (Kd.S_reads' HO_11.out).2.2 x13_4 p345 q345
                            obtain rfl : ad341 = ad345 := (by injection e345)
                            obtain ⟨ce345, hce345, hMe345, hcc345⟩ := Kd.S_get HO_11.out z42 x13_4 p345 (by first | exact q345 | exact of_decide_eq_true (by first | (with_reducible assumption) | assumption) | (have e_ := (Kd.S_reads' HO_11.out).1; omega))
                            obtain ⟨ve345_1, ve345_2, rfl, ge345_1, ge345_2⟩ := k42_openM hMe345
                            have hv345_1 := hcc345 1 _ rfl
                            rw [add_field _ _ 1 (by omega)] at hv345_1
                            replace hv345_1 := Option.some.inj (hv345_1.symm.trans hx345_1)
                            rw [hv345_1] at ge345_1
                            have HL345_1 := Aside0.mk (show Kd.R k62 62 _ _ _ _ ((rd_T42 t328 x13_4).f1) from ge345_1)
                            clear hv345_1 ge345_1
                            have hv345_2 := hcc345 2 _ rfl
                            rw [add_field _ _ 2 (by omega)] at hv345_2
                            replace hv345_2 := Option.some.inj (hv345_2.symm.trans hx345_2)
                            rw [hv345_2] at ge345_2
                            have HL345_2 := Aside0.mk (show Kd.R Kd.string 9 _ _ _ _ ((rd_T42 t328 x13_4).f2) from ge345_2)
                            clear hv345_2 ge345_2
                            clear hcc345 hce345
                            have HR345_1 := Aside0.mk hi345_1
                            have HC345_1 := Aside0.mk hl345_1
                            clear hi345_1 hl345_1
                            have HR345_2 := Aside0.mk hi345_2
                            have HC345_2 := Aside0.mk hl345_2
                            clear hi345_2 hl345_2
                            replace p345 := eq_true p345
                            replace q345 := eq_true q345
                            have ea_ := Option.some.inj (hx341_1.symm.trans hx345_1)
                            injection ea_ with ea_ en_ ec_
                            subst ea_
                            subst ec_
                            clear en_
                            have ea_ := Option.some.inj (hx341_2.symm.trans hx345_2)
                            injection ea_ with ea_ en_ ec_
                            subst ea_
                            subst ec_
                            clear en_
                            have p346 : 0 ≤ (x14_6 : Int) := of_decide_eq_true (by first | (with_reducible assumption) | assumption)
                            have q346 : x14_6 < (((rd_T42 t328 x13_4).f2).length : Int) := of_decide_eq_true (by first | (with_reducible assumption) | assumption)
                            obtain ⟨ad346, e346, hx346_0⟩ := Kd.at_string (by repeat (first | (with_reducible exact HR345_2.out) | (with_reducible refine Kd.C_alloc ?_ _) | (with_reducible refine Kd.C_drewN ?_ _) | (with_reducible refine Kd.C_drew ?_) | exact HR345_2.out)) x14_6 p346 q346
                            cases e346
                            replace p346 := eq_true p346
                            replace q346 := eq_true q346
                            have p347 : 0 ≤ (x13_4 : Int) := of_decide_eq_true (by first | (with_reducible assumption) | assumption)
                            have q347 : x13_4 < (x4_1.length : Int) := of_decide_eq_true (by first | (with_reducible assumption) | assumption)
                            obtain ⟨ad347, A347_1, c347_1, A347_2, c347_2, e347, hx347_0, hx347_1, hx347_2, hl347_1, hi347_1, hl347_2, hi347_2⟩ := at_T42 (Kd.S_reads' HO_4.out).2.2 x13_4 p347 q347
                            obtain rfl : ad340 = ad347 := (by injection e347)
                            obtain ⟨ce347, hce347, hMe347, hcc347⟩ := Kd.S_get HO_4.out z42 x13_4 p347 (by first | exact q347 | exact of_decide_eq_true (by first | (with_reducible assumption) | assumption) | (have e_ := (Kd.S_reads' HO_4.out).1; omega))
                            obtain ⟨ve347_1, ve347_2, rfl, ge347_1, ge347_2⟩ := k42_openM hMe347
                            have hv347_1 := hcc347 1 _ rfl
                            rw [add_field _ _ 1 (by omega)] at hv347_1
                            replace hv347_1 := Option.some.inj (hv347_1.symm.trans hx347_1)
                            rw [hv347_1] at ge347_1
                            have HL347_1 := Aside0.mk (show Kd.R k62 62 _ _ _ _ ((rd_T42 x4_1 x13_4).f1) from ge347_1)
                            clear hv347_1 ge347_1
                            have hv347_2 := hcc347 2 _ rfl
                            rw [add_field _ _ 2 (by omega)] at hv347_2
                            replace hv347_2 := Option.some.inj (hv347_2.symm.trans hx347_2)
                            rw [hv347_2] at ge347_2
                            have HL347_2 := Aside0.mk (show Kd.R Kd.string 9 _ _ _ _ ((rd_T42 x4_1 x13_4).f2) from ge347_2)
                            clear hv347_2 ge347_2
                            clear hcc347 hce347
                            have HR347_1 := Aside0.mk hi347_1
                            have HC347_1 := Aside0.mk hl347_1
                            clear hi347_1 hl347_1
                            have HR347_2 := Aside0.mk hi347_2
                            have HC347_2 := Aside0.mk hl347_2
                            clear hi347_2 hl347_2
                            replace p347 := eq_true p347
                            replace q347 := eq_true q347
                            have ea_ := Option.some.inj (hx340_1.symm.trans hx347_1)
                            injection ea_ with ea_ en_ ec_
                            subst ea_
                            subst ec_
                            clear en_
                            have ea_ := Option.some.inj (hx340_2.symm.trans hx347_2)
                            injection ea_ with ea_ en_ ec_
                            subst ea_
                            subst ec_
                            clear en_
                            have p348 : 0 ≤ (x14_6 : Int) := of_decide_eq_true (by first | (with_reducible assumption) | assumption)
                            have q348 : x14_6 < (((rd_T42 x4_1 x13_4).f2).length : Int) := of_decide_eq_true (by first | (with_reducible assumption) | assumption)
                            obtain ⟨ad348, e348, hx348_0⟩ := Kd.at_string (by repeat (first | (with_reducible exact HR347_2.out) | (with_reducible refine Kd.C_alloc ?_ _) | (with_reducible refine Kd.C_drewN ?_ _) | (with_reducible refine Kd.C_drew ?_) | exact HR347_2.out)) x14_6 p348 q348
                            cases e348
                            replace p348 := eq_true p348
                            replace q348 := eq_true q348
                            go_wp2
                            repeat (go_quiet (fail); try go_wp2_with fail)
                            go_ret
                            exact ⟨by first | rfl | (simp [errW_none, errW_some] <;> rfl) | (simp [*, errW_none, errW_some] <;> rfl), by repeat (first | (with_reducible first | exact HB.out | apply bA | apply pN | apply bD) | exact HB.out)⟩
                          ·rw [if_neg c80] at H
                           exact absurd H (by simp)
                         ·rw [if_neg c79] at H
                          exact absurd H (by simp)
                       ·rw [if_neg c76] at H
                        exact absurd H (by simp)
                      ·rw [if_neg c75] at H
                       exact absurd H (by simp)
                     ·rw [if_neg c74] at H
                      exact absurd H (by simp)
                    ·rw [if_neg c73] at H
                     have c73b0 : decide (x14_6 < (((rd_T42 x4_1 x13_4).f1).length : Int)) = false := decide_eq_false c73
                     clear c73
                     have H' := Aside0.mk H
                     clear H
                     have p340 : 0 ≤ (x13_4 : Int) := of_decide_eq_true (by first | (with_reducible assumption) | assumption)
                     have q340 : x13_4 < (x4_1.length : Int) := of_decide_eq_true (by first | (with_reducible assumption) | assumption)
                     obtain ⟨ad340, A340_1, c340_1, A340_2, c340_2, e340, hx340_0, hx340_1, hx340_2, hl340_1, hi340_1, hl340_2, hi340_2⟩ := at_T42 (Kd.S_reads' HO_4.out).2.2 x13_4 p340 q340
                     cases e340
                     obtain ⟨ce340, hce340, hMe340, hcc340⟩ := Kd.S_get HO_4.out z42 x13_4 p340 (by first | exact q340 | exact of_decide_eq_true (by first | (with_reducible assumption) | assumption) | (have e_ := (Kd.S_reads' HO_4.out).1; omega))
                     obtain ⟨ve340_1, ve340_2, rfl, ge340_1, ge340_2⟩ := k42_openM hMe340
                     have hv340_1 := hcc340 1 _ rfl
                     rw [add_field _ _ 1 (by omega)] at hv340_1
                     replace hv340_1 := Option.some.inj (hv340_1.symm.trans hx340_1)
                     rw [hv340_1] at ge340_1
                     have HL340_1 := Aside0.mk (show Kd.R k62 62 _ _ _ _ ((rd_T42 x4_1 x13_4).f1) from ge340_1)
                     clear hv340_1 ge340_1
                     have hv340_2 := hcc340 2 _ rfl
                     rw [add_field _ _ 2 (by omega)] at hv340_2
                     replace hv340_2 := Option.some.inj (hv340_2.symm.trans hx340_2)
                     rw [hv340_2] at ge340_2
                     have HL340_2 := Aside0.mk (show Kd.R Kd.string 9 _ _ _ _ ((rd_T42 x4_1 x13_4).f2) from ge340_2)
                     clear hv340_2 ge340_2
                     clear hcc340 hce340
                     have HR340_1 := Aside0.mk hi340_1
                     have HC340_1 := Aside0.mk hl340_1
                     clear hi340_1 hl340_1
                     have HR340_2 := Aside0.mk hi340_2
                     have HC340_2 := Aside0.mk hl340_2
                     clear hi340_2 hl340_2
                     replace p340 := eq_true p340
                     replace q340 := eq_true q340
                     go_wp2
                     go_roundg k6
                     case measure => have := HK1.out; have := HJ4.out; have := HJ43.out; have := HK4.out; have := HJ54.out; have := HK6.out; omega
                     case rel => exact ⟨(wrap64 (x13_4 + 1)), (by first | rfl | (simp; done) | (simp [*]; done)), H', ⟨by have := HK1.out; have := HJ4.out; have := HJ43.out; have := HK4.out; have := HJ54.out; have := HK6.out; omega⟩, ⟨by (with_reducible repeat (first | apply Kd.S_alloc | apply Kd.S_drewN | apply Kd.S_drew)); exact HO_4.out⟩, ⟨by (with_reducible repeat (first | apply rA | apply rN | apply Kd.R_drew)); exact HO_5.out⟩, ⟨by (with_reducible repeat (first | apply Kd.S_alloc | apply Kd.S_drewN | apply Kd.S_drew)); exact HO_11.out⟩, ⟨by (with_reducible repeat (first | apply rA | apply rN | apply Kd.R_drew)); exact HO_12.out⟩, ⟨by repeat (first | (with_reducible first | exact HB.out | apply bA | apply pN | apply bD) | exact HB.out)⟩⟩
                   ·rw [if_neg c72] at H
                    exact absurd H (by simp)
                  ·rw [if_neg c71] at H
                   exact absurd H (by simp)
            ·rw [if_neg c54] at H
             have c54b0 : decide (x13_4 < (x4_1.length : Int)) = false := decide_eq_false c54
             clear c54
             obtain rfl := Option.some.inj H
             obtain ⟨Ao84, co84, eo84⟩ := Kd.S_slice HO_4.out
             subst eo84
             go_wp2
             go_ret
             exact ⟨by first | rfl | (simp [errW_none, errW_some] <;> rfl) | (simp [*, errW_none, errW_some] <;> rfl), by repeat (first | (with_reducible first | exact HB.out | apply bA | apply pN | apply bD) | exact HB.out)⟩
 ·replace c3 := Bool.eq_false_iff.mpr c3
  subst c3
  have H1 : (some false) = some r := by rw [if_neg (show ¬ (false = true) by decide)] at H; exact H
  clear H
  have H := H1
  clear H1
  obtain rfl := Option.some.inj H
  go_enter Tryd.func12, Tryd.ntmps12
  go_wp2_with (first | (go_at_call 22; (with_reducible refine (corbellaw18_speaks.calls k  false _ A2.out (HN.out.below (by repeat (first | (with_reducible first | exact HB.out | apply bA | apply pN | apply bD | refine bS ?_ GE318.out | refine bS ?_ GE319.out) | exact HB.out)) (Nat.lt_of_lt_of_le HN.out.lt (Nat.le_refl _)))).mono ?_); rintro e w85 ⟨rfl, hb⟩; have n0_ := Aside0.mk (below_step (by repeat (first | (with_reducible first | exact HB.out | apply bA | apply pN | apply bD) | exact HB.out)) hb); clear HB; have HB := n0_; clear n0_; (try clear hb); (try clear hb2); (try clear hk); (try clear hi)))
  go_ret
  exact ⟨by first | rfl | (simp [errW_none, errW_some] <;> rfl) | (simp [*, errW_none, errW_some] <;> rfl), by repeat (first | (with_reducible first | exact HB.out | apply bA | apply pN | apply bD) | exact HB.out)⟩

end Go.Proofs.YticpjnpafmehaaaDoor.U
