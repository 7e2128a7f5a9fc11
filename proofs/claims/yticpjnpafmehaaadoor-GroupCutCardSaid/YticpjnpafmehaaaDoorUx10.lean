-- printed by a program of a session (wip/tools/printx.py) over the kit's print; not typed by hand
import Derived.Test.YticpjnpafmehaaaDoorUx0
import Derived.Test.YticpjnpafmehaaaDoorUx4
import Derived.Test.YticpjnpafmehaaaDoorUM
import Derived.Test.YticpjnpafmehaaaDoorUx9
namespace Go.Proofs.YticpjnpafmehaaaDoor.U
open Go.RowKit Go.Proofs.YticpjnpafmehaaaDoorW.PrintWords Go.Proofs.YticpjnpafmehaaaDoorW.PrintLast Go.Proofs.YticpjnpafmehaaaDoorW.PrintMore
open Go.Proofs.YticpjnpafmehaaaDoorW.PrintWords.Kd renaming R_alloc → rA, R_drewN → rN
open Go.Proofs.YticpjnpafmehaaaDoorW.PrintWords renaming pw_below_drewN → pN, below_alloc → bA, below_drew1 → bD, below_set → bS, blk_drewN → kN, blk_alloc → kA, below_size → bZ, blk_below → kB
attribute [local go_sem] max2_int min2_int max_two min_two max_three min_three max_four min_four   -- for this text's walks alone
set_option linter.unusedVariables false
set_option linter.unusedSimpArgs false

/-! ### corbellaw18_GroupCut: function 11 -/
mutual
def corbellaw18_GroupCut.l0 : Nat → List (S39) → Int → Int → ByteArray → List Int → Int → Option (Bool)
 | 0, _, _, _, _, _, _ => none
 | k + 1, x0, x1, x2, x7, x8, x9 => if x9 < (x0.length : Int) then (corbellaw18_GroupCut.j1 k x0 x1 x2 x7 x8 x9 (decide (x9 < 20))) else (corbellaw18_GroupCut.j1 k x0 x1 x2 x7 x8 x9 false)
def corbellaw18_GroupCut.j1 : Nat → List (S39) → Int → Int → ByteArray → List Int → Int → Bool → Option (Bool)
 | 0, _, _, _, _, _, _, _ => none
 | k + 1, x0, x1, x2, x7, x8, x9, x28 => if x28 = true then (if 0 ≤ x9 then (if x9 < (x0.length : Int) then ((corbellaw18_given.f ((rd_T39 x0 x9).f0) ((rd_T39 x0 x9).f1) ((rd_T39 x0 x9).f2) ((rd_T39 x0 x9).f3)).bind fun bt244 => ((group_Encode.f k bt244.1 bt244.2.1 bt244.2.2.1).bind fun bt263 => (if bt263.2 = 0 then (if x7.size + bt263.1.size ≤ 9223372036854775807 then (if x8.length < 17592186044416 then (corbellaw18_GroupCut.l0 k x0 x1 x2 (x7 ++ bt263.1) (x8 ++ [((x7 ++ bt263.1).size : Int)]) (wrap64 (x9 + 1))) else (none)) else (none)) else (corbellaw18_GroupCut.l0 k x0 x1 x2 x7 x8 (wrap64 (x9 + 1)))))) else (none)) else (none)) else (if (wrap64 ((x7.size : Int) + 1)) = 0 then (none) else (corbellaw18_GroupCut.l1 k (Int.tmod (wrap64 ((wrap64 ((Int.tmod x1 (wrap64 ((x7.size : Int) + 1))) + (x7.size : Int))) + 1)) (wrap64 ((x7.size : Int) + 1))) x2 x7 x8 0))
def corbellaw18_GroupCut.l1 : Nat → Int → Int → ByteArray → List Int → Int → Option (Bool)
 | 0, _, _, _, _, _ => none
 | k + 1, x1, x2, x7, x8, x14 => if x14 < (x8.length : Int) then (if 0 ≤ x14 then (if (rd x8 x14) ≤ x1 then (corbellaw18_GroupCut.l1 k x1 x2 x7 x8 (wrap64 (x14 + 1))) else (if 0 ≤ x1 then (if x1 ≤ (x7.size : Int) then ((group_Scan.f k (x7.extract 0 (x1 : Int).toNat)).bind fun bt269 => (if 0 ≤ (wrap64 (64 * (Go.bits .and .i64 x2 7))) then (if (wrap64 (64 * (Go.bits .and .i64 x2 7)) : Int).toNat ≤ 281474976710656 then ((some (List.replicate (wrap64 (64 * (Go.bits .and .i64 x2 7)) : Int).toNat 0 : List Int)).bind fun y275 => (if x7.size + (strOfNums y275).size ≤ 9223372036854775807 then ((group_Scan.f k (x7 ++ (strOfNums y275))).bind fun bt278 => (if (bt269.1.length : Int) = x14 then (some ((bt278.1.length : Int) == (x8.length : Int))) else (some false))) else (none))) else (none)) else (none))) else (none)) else (none))) else (none)) else (if 0 ≤ x1 then (if x1 ≤ (x7.size : Int) then ((group_Scan.f k (x7.extract 0 (x1 : Int).toNat)).bind fun bt284 => (if 0 ≤ (wrap64 (64 * (Go.bits .and .i64 x2 7))) then (if (wrap64 (64 * (Go.bits .and .i64 x2 7)) : Int).toNat ≤ 281474976710656 then ((some (List.replicate (wrap64 (64 * (Go.bits .and .i64 x2 7)) : Int).toNat 0 : List Int)).bind fun y290 => (if x7.size + (strOfNums y290).size ≤ 9223372036854775807 then ((group_Scan.f k (x7 ++ (strOfNums y290))).bind fun bt293 => (if (bt284.1.length : Int) = x14 then (some ((bt293.1.length : Int) == (x8.length : Int))) else (some false))) else (none))) else (none)) else (none))) else (none)) else (none))
end
def corbellaw18_GroupCut.f (k : Nat) (l0 : List (S39)) (a1 : Int) (a2 : Int) : Option (Bool) := (corbellaw18_speaks.f k).bind fun t242 => (if t242 = true then (corbellaw18_GroupCut.l0 k l0 a1 a2 (⟨#[]⟩ : ByteArray) ([] : List Int) 0) else (some false))
theorem corbellaw18_GroupCut.mono_l : ∀ k, (∀ y0 y1 y2 y3 y4 y5, LeO (corbellaw18_GroupCut.l0 k y0 y1 y2 y3 y4 y5) (corbellaw18_GroupCut.l0 (k + 1) y0 y1 y2 y3 y4 y5)) ∧ (∀ y0 y1 y2 y3 y4 y5 y6, LeO (corbellaw18_GroupCut.j1 k y0 y1 y2 y3 y4 y5 y6) (corbellaw18_GroupCut.j1 (k + 1) y0 y1 y2 y3 y4 y5 y6)) ∧ (∀ y0 y1 y2 y3 y4, LeO (corbellaw18_GroupCut.l1 k y0 y1 y2 y3 y4) (corbellaw18_GroupCut.l1 (k + 1) y0 y1 y2 y3 y4))
 | 0 => ⟨fun _ _ _ _ _ _ r h => by simp [corbellaw18_GroupCut.l0] at h, fun _ _ _ _ _ _ _ r h => by simp [corbellaw18_GroupCut.j1] at h, fun _ _ _ _ _ r h => by simp [corbellaw18_GroupCut.l1] at h⟩
 | k + 1 => by
  obtain ⟨ih0, ih1, ih2⟩ := corbellaw18_GroupCut.mono_l k
  refine ⟨?_, ?_, ?_⟩
  ·intro y0 y1 y2 y3 y4 y5
   unfold corbellaw18_GroupCut.l0
   repeat' first
   | (with_reducible exact ih0 _ _ _ _ _ _)
   | (with_reducible exact ih1 _ _ _ _ _ _ _)
   | (with_reducible exact ih2 _ _ _ _ _)
   | (with_reducible exact corbellaw18_speaks.mono _)
   | (with_reducible exact group_Encode.mono _ _ _ _)
   | (with_reducible exact group_Scan.mono _ _)
   | (with_reducible exact LeO.refl _)
   | (with_reducible exact LeO.none _)
   | (with_reducible refine LeO.ite ?_ ?_)
   | (with_reducible refine LeO.bind ?_ (fun _ => ?_))
   | exact ih0 _ _ _ _ _ _
   | exact ih1 _ _ _ _ _ _ _
   | exact ih2 _ _ _ _ _
   | exact corbellaw18_speaks.mono _
   | exact group_Encode.mono _ _ _ _
   | exact group_Scan.mono _ _
   | exact LeO.none _
   | refine LeO.ite ?_ ?_
   | refine LeO.bind ?_ (fun _ => ?_)
  ·intro y0 y1 y2 y3 y4 y5 y6
   unfold corbellaw18_GroupCut.j1
   repeat' first
   | (with_reducible exact ih0 _ _ _ _ _ _)
   | (with_reducible exact ih1 _ _ _ _ _ _ _)
   | (with_reducible exact ih2 _ _ _ _ _)
   | (with_reducible exact corbellaw18_speaks.mono _)
   | (with_reducible exact group_Encode.mono _ _ _ _)
   | (with_reducible exact group_Scan.mono _ _)
   | (with_reducible exact LeO.refl _)
   | (with_reducible exact LeO.none _)
   | (with_reducible refine LeO.ite ?_ ?_)
   | (with_reducible refine LeO.bind ?_ (fun _ => ?_))
   | exact ih0 _ _ _ _ _ _
   | exact ih1 _ _ _ _ _ _ _
   | exact ih2 _ _ _ _ _
   | exact corbellaw18_speaks.mono _
   | exact group_Encode.mono _ _ _ _
   | exact group_Scan.mono _ _
   | exact LeO.none _
   | refine LeO.ite ?_ ?_
   | refine LeO.bind ?_ (fun _ => ?_)
  ·intro y0 y1 y2 y3 y4
   unfold corbellaw18_GroupCut.l1
   repeat' first
   | (with_reducible exact ih0 _ _ _ _ _ _)
   | (with_reducible exact ih1 _ _ _ _ _ _ _)
   | (with_reducible exact ih2 _ _ _ _ _)
   | (with_reducible exact corbellaw18_speaks.mono _)
   | (with_reducible exact group_Encode.mono _ _ _ _)
   | (with_reducible exact group_Scan.mono _ _)
   | (with_reducible exact LeO.refl _)
   | (with_reducible exact LeO.none _)
   | (with_reducible refine LeO.ite ?_ ?_)
   | (with_reducible refine LeO.bind ?_ (fun _ => ?_))
   | exact ih0 _ _ _ _ _ _
   | exact ih1 _ _ _ _ _ _ _
   | exact ih2 _ _ _ _ _
   | exact corbellaw18_speaks.mono _
   | exact group_Encode.mono _ _ _ _
   | exact group_Scan.mono _ _
   | exact LeO.none _
   | refine LeO.ite ?_ ?_
   | refine LeO.bind ?_ (fun _ => ?_)
theorem corbellaw18_GroupCut.mono : ∀ a0 a1 a2 k, LeO (corbellaw18_GroupCut.f k a0 a1 a2) (corbellaw18_GroupCut.f (k + 1) a0 a1 a2) := by
 intro a0 a1 a2 k
 obtain ⟨ih0, ih1, ih2⟩ := corbellaw18_GroupCut.mono_l k
 unfold corbellaw18_GroupCut.f
 repeat' first
   | (with_reducible exact ih0 _ _ _ _ _ _)
   | (with_reducible exact ih1 _ _ _ _ _ _ _)
   | (with_reducible exact ih2 _ _ _ _ _)
   | (with_reducible exact corbellaw18_speaks.mono _)
   | (with_reducible exact group_Encode.mono _ _ _ _)
   | (with_reducible exact group_Scan.mono _ _)
   | (with_reducible exact LeO.refl _)
   | (with_reducible exact LeO.none _)
   | (with_reducible refine LeO.ite ?_ ?_)
   | (with_reducible refine LeO.bind ?_ (fun _ => ?_))
   | exact ih0 _ _ _ _ _ _
   | exact ih1 _ _ _ _ _ _ _
   | exact ih2 _ _ _ _ _
   | exact corbellaw18_speaks.mono _
   | exact group_Encode.mono _ _ _ _
   | exact group_Scan.mono _ _
   | exact LeO.none _
   | refine LeO.ite ?_ ?_
   | refine LeO.bind ?_ (fun _ => ?_)
set_option maxHeartbeats 8000000 in
set_option maxRecDepth 100000 in
theorem corbellaw18_GroupCut.calls (k : Nat) (A0 : Option Addr) (c0 : Nat) (l0 : List (S39)) (a1 : Int) (a2 : Int) (r : Bool) (w : World) (hr0 : Kd.C k39 w A0 l0.length l0) (hc0 : l0.length ≤ c0) (h : corbellaw18_GroupCut.f k l0 a1 a2 = some r) (hN : TabIn w) :
  Calls Tryd.prog 11 #[.slice A0 l0.length c0, .int .i64 a1, .int .i64 a2] w fun e w' => e = .returned (.bool r) ∧ Below w.heap.size w w' := by
 have hu39 := Tryd.underlying39
 have hu42 := Tryd.underlying42
 have hu43 := Tryd.underlying43
 have HR0 := Aside0.mk hr0
 have HC0 := Aside0.mk hc0
 clear hr0 hc0
 have HB := Aside0.mk (Below.refl w.heap.size w)
 have HN := Aside0.mk hN
 clear hN
 have H : ((corbellaw18_speaks.f k).bind fun t242 => (if t242 = true then (corbellaw18_GroupCut.l0 k l0 a1 a2 (⟨#[]⟩ : ByteArray) ([] : List Int) 0) else (some false))) = some r := h
 clear h
 replace H := Option.bind_eq_some_iff.mp H
 obtain ⟨t242, A40, H⟩ := H
 replace H : (if t242 = true then (corbellaw18_GroupCut.l0 k l0 a1 a2 (⟨#[]⟩ : ByteArray) ([] : List Int) 0) else (some false)) = some r := H
 have A4 := Aside0.mk A40
 clear A40
 by_cases c5 : t242 = true
 ·subst c5
  have H1 : (corbellaw18_GroupCut.l0 k l0 a1 a2 (⟨#[]⟩ : ByteArray) ([] : List Int) 0) = some r := by rw [if_pos rfl] at H; exact H
  clear H
  have H := H1
  clear H1
  have H' := Aside0.mk H
  clear H
  go_enter Tryd.func11, Tryd.ntmps11
  go_wp2_with (first | ((with_reducible refine gate_callee (f := 22) rfl ?_); refine goesL_ (some 19) rfl rfl Tryd.func22 (by kernel_rfl) rfl #[] rfl (by (try simp only [List.map_toArray, List.map_cons, List.map_nil]); first | done | rfl | (simp only [List.length_drop, List.length_take]; rfl)) ?_; (with_reducible refine (corbellaw18_speaks.calls k  true _ A4.out (HN.out.below (by repeat (first | (with_reducible first | exact HB.out | apply bA | apply pN | apply bD | refine bS ?_ GE261.out | refine bS ?_ GE262.out) | exact HB.out)) (Nat.lt_of_lt_of_le HN.out.lt (Nat.le_refl _)))).mono ?_); rintro e w6 ⟨rfl, hb⟩; refine ⟨_, rfl, ?_⟩; have n0_ := Aside0.mk (below_step (by repeat (first | (with_reducible first | exact HB.out | apply bA | apply pN | apply bD) | exact HB.out)) hb); clear HB; have HB := n0_; clear n0_; (try clear hb); (try clear hb2); (try clear hk); (try clear hi)))
  go_loopg [7, 8, 9] k (fun kq v7 v8 v9 w' => ∃ (x7_1 : ByteArray) (x8_1 : List Int) (x9_1 : Int), v7 = .string x7_1 ∧ v9 = .int .i64 x9_1 ∧ Aside0 (corbellaw18_GroupCut.l0 kq l0 a1 a2 x7_1 x8_1 x9_1 = some r) ∧ Aside0 (kq ≤ k) ∧ Aside0 (Kd.R (Kd.int .i64) 3 w' w.heap.size (fun _ => True) v8 x8_1) ∧ Aside0 (Below w.heap.size w w'))
  case atStart => exact ⟨((⟨#[]⟩ : ByteArray)), (([] : List Int)), (0), (by first | rfl | (simp; done) | (simp [*]; done)), (by first | rfl | (simp; done) | (simp [*]; done)), H', ⟨Nat.le_refl _⟩, ⟨by first | exact Kd.R_nil _ _ _ _ _ | exact Kd.N_nil _ _ _ _ _ | exact Kd.V_nil _ _ _ _ _ | exact Kd.Q_nil _ _ _ _ _ | exact Kd.S_nil _ _ _ _ _⟩, ⟨by repeat (first | (with_reducible first | exact HB.out | apply bA | apply pN | apply bD) | exact HB.out)⟩⟩
  case round =>
   clear H'
   try clear c1
   try clear c2
   try clear p2
   try clear c5
   obtain ⟨x7_1, x8_1, x9_1, rfl, rfl, HA, HK1, HO_8, HB⟩ := hrel
   cases gk with
   | zero => exact absurd HA.out (by simp [corbellaw18_GroupCut.l0])
   | succ k1 =>
    have H := HA.out
    clear HA
    simp only [corbellaw18_GroupCut.l0] at H
    have HC7 := Aside0.mk H
    clear H
    go_upto_region 6 with (fail)
    go_cut [28] (fun v28 wc => ∃ (kq : Nat) (x28_6 : Bool), v28 = .bool x28_6 ∧ Aside0 (corbellaw18_GroupCut.j1 kq l0 a1 a2 x7_1 x8_1 x9_1 x28_6 = some r) ∧ Aside0 (kq ≤ k1) ∧ Aside0 (Kd.R (Kd.int .i64) 3 wc w.heap.size (fun _ => True) u8 x8_1) ∧ Aside0 (Below w.heap.size w wc))
    case first =>
     have H := HC7.out
     clear HC7
     by_cases c8 : x9_1 < (l0.length : Int)
     ·rw [if_pos c8] at H
      have c8b0 : decide (x9_1 < (l0.length : Int)) = true := decide_eq_true c8
      clear c8
      (first | rw [c8b0] | (simp only [i64_w, i32_w]; rw [c8b0]) | skip)
      have H' := Aside0.mk H
      clear H
      go_wp2
      go_meet
      case rel => exact ⟨_, (decide (x9_1 < 20)), (by first | rfl | (simp; done) | (simp [*]; done)), H', ⟨by have := HK1.out; first | omega | exact Nat.le_refl _⟩, ⟨by (with_reducible repeat (first | apply rA | apply rN | apply Kd.R_drew)); exact HO_8.out⟩, ⟨by repeat (first | (with_reducible first | exact HB.out | apply bA | apply pN | apply bD) | exact HB.out)⟩⟩
     ·rw [if_neg c8] at H
      have c8b0 : decide (x9_1 < (l0.length : Int)) = false := decide_eq_false c8
      clear c8
      (first | rw [c8b0] | (simp only [i64_w, i32_w]; rw [c8b0]) | skip)
      have H' := Aside0.mk H
      clear H
      go_wp2
      go_meet
      case rel => exact ⟨_, (false), (by first | rfl | (simp; done) | (simp [*]; done)), H', ⟨by have := HK1.out; first | omega | exact Nat.le_refl _⟩, ⟨by (with_reducible repeat (first | apply rA | apply rN | apply Kd.R_drew)); exact HO_8.out⟩, ⟨by repeat (first | (with_reducible first | exact HB.out | apply bA | apply pN | apply bD) | exact HB.out)⟩⟩
    case rest =>
     clear HC7
     try clear c1
     try clear c2
     try clear p2
     try clear c5
     try clear c8
     try clear c8b0
     try clear p2
     obtain ⟨kq, x28_6, rfl, HA, HJ6, HO_8, HB⟩ := hcut
     cases kq with
     | zero => exact absurd HA.out (by simp [corbellaw18_GroupCut.j1])
     | succ kj6 =>
      have H := HA.out
      clear HA
      simp only [corbellaw18_GroupCut.j1] at H
      by_cases c9 : x28_6 = true
      ·subst c9
       have H1 : (if 0 ≤ x9_1 then (if x9_1 < (l0.length : Int) then ((corbellaw18_given.f ((rd_T39 l0 x9_1).f0) ((rd_T39 l0 x9_1).f1) ((rd_T39 l0 x9_1).f2) ((rd_T39 l0 x9_1).f3)).bind fun bt244 => ((group_Encode.f kj6 bt244.1 bt244.2.1 bt244.2.2.1).bind fun bt263 => (if bt263.2 = 0 then (if x7_1.size + bt263.1.size ≤ 9223372036854775807 then (if x8_1.length < 17592186044416 then (corbellaw18_GroupCut.l0 kj6 l0 a1 a2 (x7_1 ++ bt263.1) (x8_1 ++ [((x7_1 ++ bt263.1).size : Int)]) (wrap64 (x9_1 + 1))) else (none)) else (none)) else (corbellaw18_GroupCut.l0 kj6 l0 a1 a2 x7_1 x8_1 (wrap64 (x9_1 + 1)))))) else (none)) else (none)) = some r := by rw [if_pos rfl] at H; exact H
       clear H
       have H := H1
       clear H1
       by_cases c10 : 0 ≤ x9_1
       ·rw [if_pos c10] at H
        have c10b0 : decide (0 ≤ x9_1) = true := decide_eq_true c10
        clear c10
        by_cases c11 : x9_1 < (l0.length : Int)
        ·rw [if_pos c11] at H
         have c11b0 : decide (x9_1 < (l0.length : Int)) = true := decide_eq_true c11
         clear c11
         replace H := Option.bind_eq_some_iff.mp H
         obtain ⟨⟨t244, t245, t248, t251, t252, t255, t258⟩, A120, H⟩ := H
         replace H : ((group_Encode.f kj6 t244 t245 t248).bind fun bt263 => (if bt263.2 = 0 then (if x7_1.size + bt263.1.size ≤ 9223372036854775807 then (if x8_1.length < 17592186044416 then (corbellaw18_GroupCut.l0 kj6 l0 a1 a2 (x7_1 ++ bt263.1) (x8_1 ++ [((x7_1 ++ bt263.1).size : Int)]) (wrap64 (x9_1 + 1))) else (none)) else (none)) else (corbellaw18_GroupCut.l0 kj6 l0 a1 a2 x7_1 x8_1 (wrap64 (x9_1 + 1))))) = some r := H
         have A12 := Aside0.mk A120
         clear A120
         replace H := Option.bind_eq_some_iff.mp H
         obtain ⟨⟨t263, t264⟩, A130, H⟩ := H
         replace H : (if t264 = 0 then (if x7_1.size + t263.size ≤ 9223372036854775807 then (if x8_1.length < 17592186044416 then (corbellaw18_GroupCut.l0 kj6 l0 a1 a2 (x7_1 ++ t263) (x8_1 ++ [((x7_1 ++ t263).size : Int)]) (wrap64 (x9_1 + 1))) else (none)) else (none)) else (corbellaw18_GroupCut.l0 kj6 l0 a1 a2 x7_1 x8_1 (wrap64 (x9_1 + 1)))) = some r := H
         have A13 := Aside0.mk A130
         clear A130
         by_cases c14 : t264 = 0
         ·rw [if_pos c14] at H
          have c14b0 : (t264 == 0) = true := beq_iff_eq.mpr c14
          have c14b1 : (t264 != 0) = false := bne_eq_false_iff_eq.mpr c14
          clear c14
          by_cases c15 : x7_1.size + t263.size ≤ 9223372036854775807
          ·rw [if_pos c15] at H
           have c15b0 := eq_true c15
           have c15b1 : decide (x7_1.size + t263.size ≤ 9223372036854775807) = true := decide_eq_true c15
           try have c15b2 : (9223372036854775807 < x7_1.size + t263.size) = False := eq_false (Nat.not_lt.2 c15)
           by_cases c16 : x8_1.length < 17592186044416
           ·rw [if_pos c16] at H
            have LMc16 := Aside0.mk c16
            clear c16
            obtain ⟨y265, hy265⟩ : ∃ y_ : List Int, y_ = (x8_1 ++ [((x7_1 ++ t263).size : Int)]) := ⟨_, rfl⟩
            replace H : (corbellaw18_GroupCut.l0 kj6 l0 a1 a2 (x7_1 ++ t263) y265 (wrap64 (x9_1 + 1))) = some r := by first | (rw [hy265]; with_reducible exact H) | (have H2_ := (Option.bind_some _ _).symm.trans H; rw [hy265]; with_reducible exact H2_) | (have H2_ := (Option.bind_some _ _).symm.trans H; with_reducible exact H2_) | with_reducible exact H | (rw [hy265]; exact H) | exact H
            have Ny265 := Aside0.mk hy265
            clear hy265
            have H' := Aside0.mk H
            clear H
            have p243 : 0 ≤ (x9_1 : Int) := of_decide_eq_true (by first | (with_reducible assumption) | assumption)
            have q243 : x9_1 < (l0.length : Int) := of_decide_eq_true (by first | (with_reducible assumption) | assumption)
            obtain ⟨ad243, A243_1, c243_1, A243_2, c243_2, A243_3, c243_3, e243, hx243_0, hx243_1, hx243_2, hx243_3, hl243_1, hi243_1, hl243_2, hi243_2, hl243_3, hi243_3⟩ := at_T39 HR0.out x9_1 p243 q243
            cases e243
            replace hx243_0 := (HB.out.cell (World.block_lt_of_cell? w _ hx243_0)).trans hx243_0
            replace hx243_1 := (HB.out.cell (World.block_lt_of_cell? w _ hx243_1)).trans hx243_1
            replace hx243_2 := (HB.out.cell (World.block_lt_of_cell? w _ hx243_2)).trans hx243_2
            replace hx243_3 := (HB.out.cell (World.block_lt_of_cell? w _ hx243_3)).trans hx243_3
            have HR243_1 := Aside0.mk hi243_1
            have HC243_1 := Aside0.mk hl243_1
            clear hi243_1 hl243_1
            have HR243_2 := Aside0.mk hi243_2
            have HC243_2 := Aside0.mk hl243_2
            clear hi243_2 hl243_2
            have HR243_3 := Aside0.mk hi243_3
            have HC243_3 := Aside0.mk hl243_3
            clear hi243_3 hl243_3
            replace p243 := eq_true p243
            replace q243 := eq_true q243
            go_wp2_with (first | ((with_reducible refine gate_callee (f := 23) rfl ?_); refine goesL_ (some 36) rfl rfl Tryd.func23 (by kernel_rfl) rfl #[.agg #[.int .i64 ((rd_T39 l0 x9_1).f0), .slice A243_1 ((rd_T39 l0 x9_1).f1).length c243_1, .slice A243_2 ((rd_T39 l0 x9_1).f2).length c243_2, .slice A243_3 ((rd_T39 l0 x9_1).f3).length c243_3]] rfl (by (try simp only [List.map_toArray, List.map_cons, List.map_nil]); first | done | rfl | (simp only [List.length_drop, List.length_take]; rfl)) ?_; (with_reducible refine (corbellaw18_given.calls ((rd_T39 l0 x9_1).f0) _ _ ((rd_T39 l0 x9_1).f1) _ _ ((rd_T39 l0 x9_1).f2) _ _ ((rd_T39 l0 x9_1).f3) t244 t245 t248 t251 t252 t255 t258 _ ?side1 ?side2 ?side3 ?side4 ?side5 ?side6 A12.out).mono ?_); (case side1 => repeat (first | exact (Kd.C_below HR243_1.out HB.out) | (with_reducible refine Kd.C_alloc ?_ _) | (with_reducible refine Kd.C_drewN ?_ _) | (with_reducible refine Kd.C_drew ?_))); (case side2 => exact HC243_1.out); (case side3 => repeat (first | exact (Kd.C_below HR243_2.out HB.out) | (with_reducible refine Kd.C_alloc ?_ _) | (with_reducible refine Kd.C_drewN ?_ _) | (with_reducible refine Kd.C_drew ?_))); (case side4 => exact HC243_2.out); (case side5 => repeat (first | exact (Kd.C_below HR243_3.out HB.out) | (with_reducible refine Kd.C_alloc ?_ _) | (with_reducible refine Kd.C_drewN ?_ _) | (with_reducible refine Kd.C_drew ?_))); (case side6 => exact HC243_3.out); rintro e w17 ⟨v246, v249, v253, v256, v259, rfl, ho0, ho1, ho2, ho3, ho4, hb⟩; refine ⟨_, rfl, ?_⟩; have n0_ := Aside0.mk (Kd.R_elder' (by (with_reducible repeat (first | apply rA | apply rN | apply Kd.R_drew)); exact HO_8.out) (Kd.R_base ho2) hb); have n1_ := Aside0.mk (Kd.R_lower ho0 (bZ (by repeat (first | (with_reducible first | exact HB.out | apply bA | apply pN | apply bD) | exact HB.out)))); have n2_ := Aside0.mk (Kd.R_lower ho1 (bZ (by repeat (first | (with_reducible first | exact HB.out | apply bA | apply pN | apply bD) | exact HB.out)))); have n3_ := Aside0.mk (Kd.R_lower (Kd.R_new' ho2 (Kd.R_lt (by (with_reducible repeat (first | apply rA | apply rN | apply Kd.R_drew)); exact HO_8.out))) (bZ (by repeat (first | (with_reducible first | exact HB.out | apply bA | apply pN | apply bD) | exact HB.out)))); have n4_ := Aside0.mk (Kd.R_lower ho3 (bZ (by repeat (first | (with_reducible first | exact HB.out | apply bA | apply pN | apply bD) | exact HB.out)))); have n5_ := Aside0.mk (Kd.R_lower ho4 (bZ (by repeat (first | (with_reducible first | exact HB.out | apply bA | apply pN | apply bD) | exact HB.out)))); have n6_ := Aside0.mk (below_step (by repeat (first | (with_reducible first | exact HB.out | apply bA | apply pN | apply bD) | exact HB.out)) hb); clear HO_8; clear HB; have HO_8 := n0_; have HO247 := n1_; have HO250 := n2_; have HO254 := n3_; have HO257 := n4_; have HO260 := n5_; have HB := n6_; clear n0_ n1_ n2_ n3_ n4_ n5_ n6_; (try clear hb); (try clear hb2); (try clear hk); (try clear hi); (try clear ho0); (try clear ho1); (try clear ho2); (try clear ho3); (try clear ho4)) | ((with_reducible refine gate_dst (N := 10) rfl ?_); (try (refine gate_guard (by rfl) ?_; dsimp only)); refine box_event ?hg (N := 10) ?hd (cs := #[.int .i64 0, .slice none 0 0, .slice none 0 0]) (t := 42) ?hr ?_; (case hd => rfl); (case hg => rfl); (case hr => first | (go_simp; done) | (go_simp; rfl)); intro gb261 hg w18 hbox hb; have n0_ := Aside0.mk (Kd.R_below (by (with_reducible repeat (first | apply rA | apply rN | apply Kd.R_drew)); exact HO_8.out) hb); have n1_ := Aside0.mk (Kd.R_below (by (with_reducible repeat (first | apply rA | apply rN | apply Kd.R_drew)); exact HO247.out) hb); have n2_ := Aside0.mk (Kd.R_below (by (with_reducible repeat (first | apply rA | apply rN | apply Kd.R_drew)); exact HO250.out) hb); have n3_ := Aside0.mk (Kd.R_below (by (with_reducible repeat (first | apply rA | apply rN | apply Kd.R_drew)); exact HO254.out) hb); have n4_ := Aside0.mk (Kd.R_below (by (with_reducible repeat (first | apply rA | apply rN | apply Kd.R_drew)); exact HO257.out) hb); have n5_ := Aside0.mk (Kd.R_below (by (with_reducible repeat (first | apply rA | apply rN | apply Kd.R_drew)); exact HO260.out) hb); have n6_ := Aside0.mk (below_step (by repeat (first | (with_reducible first | exact HB.out | apply bA | apply pN | apply bD) | exact HB.out)) hb); have n7_ := Aside0.mk (hbox); have n8_ := Aside0.mk ((by rw [hg]; exact (bZ (by repeat (first | (with_reducible first | exact HB.out | apply bA | apply pN | apply bD) | exact HB.out))) : w.heap.size ≤ gb261)); have n9_ := Aside0.mk ((by rw [hg]; exact (bZ (by repeat (first | (with_reducible first | exact HB.out | apply bA | apply pN | apply bD) | exact HB.out))) : w.heap.size ≤ gb261)); clear HO_8; clear HO247; clear HO250; clear HO254; clear HO257; clear HO260; clear HB; have HO_8 := n0_; have HO247 := n1_; have HO250 := n2_; have HO254 := n3_; have HO257 := n4_; have HO260 := n5_; have HB := n6_; have BK261 := n7_; have GW261 := n8_; have GE261 := n9_; clear n0_ n1_ n2_ n3_ n4_ n5_ n6_ n7_ n8_ n9_; clear hb hbox hg) | ((with_reducible refine gate_dst (N := 11) rfl ?_); (try (refine gate_guard (by rfl) ?_; dsimp only)); refine box_event ?hg (N := 11) ?hd (cs := #[.int .i64 0, .slice none 0 0, .slice none 0 0, .slice none 0 0]) (t := 43) ?hr ?_; (case hd => rfl); (case hg => rfl); (case hr => first | (go_simp; done) | (go_simp; rfl)); intro gb262 hg w19 hbox hb; have n0_ := Aside0.mk (Kd.R_below (by (with_reducible repeat (first | apply rA | apply rN | apply Kd.R_drew)); exact HO_8.out) hb); have n1_ := Aside0.mk (Kd.R_below (by (with_reducible repeat (first | apply rA | apply rN | apply Kd.R_drew)); exact HO247.out) hb); have n2_ := Aside0.mk (Kd.R_below (by (with_reducible repeat (first | apply rA | apply rN | apply Kd.R_drew)); exact HO250.out) hb); have n3_ := Aside0.mk (Kd.R_below (by (with_reducible repeat (first | apply rA | apply rN | apply Kd.R_drew)); exact HO254.out) hb); have n4_ := Aside0.mk (Kd.R_below (by (with_reducible repeat (first | apply rA | apply rN | apply Kd.R_drew)); exact HO257.out) hb); have n5_ := Aside0.mk (Kd.R_below (by (with_reducible repeat (first | apply rA | apply rN | apply Kd.R_drew)); exact HO260.out) hb); have n6_ := Aside0.mk (kB (g := gb261) (o := .cells #[.int .i64 0, .slice none 0 0, .slice none 0 0] 42 (0, 0)) (by (with_reducible repeat (first | refine kN ?_ _ | refine blk_drew ?_ | refine kA ?_ _)); exact BK261.out) hb); have n7_ := Aside0.mk (below_step (by repeat (first | (with_reducible first | exact HB.out | apply bA | apply pN | apply bD | refine bS ?_ GE261.out) | exact HB.out)) hb); have n8_ := Aside0.mk (hbox); have n9_ := Aside0.mk ((by rw [hg]; exact (bZ (by repeat (first | (with_reducible first | exact HB.out | apply bA | apply pN | apply bD | refine bS ?_ GE261.out) | exact HB.out))) : w.heap.size ≤ gb262)); have n10_ := Aside0.mk ((by rw [hg]; exact (bZ (by repeat (first | (with_reducible first | exact HB.out | apply bA | apply pN | apply bD | refine bS ?_ GE261.out) | exact HB.out))) : w.heap.size ≤ gb262)); have n11_ := Aside0.mk ((by rw [hg]; exact Nat.ne_of_lt (blk_lt (g := gb261) (o := .cells #[.int .i64 0, .slice none 0 0, .slice none 0 0] 42 (0, 0)) (by (with_reducible repeat (first | refine kN ?_ _ | refine blk_drew ?_ | refine kA ?_ _)); exact BK261.out)) : gb261 ≠ gb262)); have n12_ := Aside0.mk ((by rw [hg]; exact Nat.ne_of_gt (blk_lt (g := gb261) (o := .cells #[.int .i64 0, .slice none 0 0, .slice none 0 0] 42 (0, 0)) (by (with_reducible repeat (first | refine kN ?_ _ | refine blk_drew ?_ | refine kA ?_ _)); exact BK261.out)) : gb262 ≠ gb261)); clear HO_8; clear HO247; clear HO250; clear HO254; clear HO257; clear HO260; clear BK261; clear HB; have HO_8 := n0_; have HO247 := n1_; have HO250 := n2_; have HO254 := n3_; have HO257 := n4_; have HO260 := n5_; have BK261 := n6_; have HB := n7_; have BK262 := n8_; have GW262 := n9_; have GE262 := n10_; have NB261_262 := n11_; have NB262_261 := n12_; clear n0_ n1_ n2_ n3_ n4_ n5_ n6_ n7_ n8_ n9_ n10_ n11_ n12_; clear hb hbox hg; have hnb20 := NB261_262.out; have hnc20 := NB262_261.out; have hcz21_0 : w19.cell? ⟨gb261, 0, none⟩ = some (.int .i64 0) := (blk_cell BK261.out 0).trans rfl; have hcz21_1 : w19.cell? ⟨gb261, 1, none⟩ = some (.slice none 0 0) := (blk_cell BK261.out 1).trans rfl; have hcz21_2 : w19.cell? ⟨gb261, 2, none⟩ = some (.slice none 0 0) := (blk_cell BK261.out 2).trans rfl; have hfz21_0 := blk_frozen BK261.out 0; have hfz21_1 := blk_frozen BK261.out 1; have hfz21_2 := blk_frozen BK261.out 2; obtain ⟨Ao22, co22, eo22⟩ := Kd.R_slice HO247.out; subst eo22; obtain ⟨Ao23, co23, eo23⟩ := Kd.R_slice HO250.out; subst eo23; have hcz24_0 : w19.cell? ⟨gb262, 0, none⟩ = some (.int .i64 0) := (blk_cell BK262.out 0).trans rfl; have hcz24_1 : w19.cell? ⟨gb262, 1, none⟩ = some (.slice none 0 0) := (blk_cell BK262.out 1).trans rfl; have hcz24_2 : w19.cell? ⟨gb262, 2, none⟩ = some (.slice none 0 0) := (blk_cell BK262.out 2).trans rfl; have hcz24_3 : w19.cell? ⟨gb262, 3, none⟩ = some (.slice none 0 0) := (blk_cell BK262.out 3).trans rfl; have hfz24_0 := blk_frozen BK262.out 0; have hfz24_1 := blk_frozen BK262.out 1; have hfz24_2 := blk_frozen BK262.out 2; have hfz24_3 := blk_frozen BK262.out 3; obtain ⟨Ao25, co25, eo25⟩ := Kd.R_slice HO254.out; subst eo25; obtain ⟨Ao26, co26, eo26⟩ := Kd.R_slice HO257.out; subst eo26; obtain ⟨Ao27, co27, eo27⟩ := Kd.R_slice HO260.out; subst eo27) | ((with_reducible refine gate_callee (f := 24) rfl ?_); refine goesL_ (some 41) rfl rfl Tryd.func24 (by kernel_rfl) rfl #[.agg #[.int .i64 t244, .slice Ao22 t245.length co22, .slice Ao23 t248.length co23]] rfl (by (try simp only [List.map_toArray, List.map_cons, List.map_nil]); first | done | rfl | (simp only [List.length_drop, List.length_take]; rfl)) ?_; (with_reducible refine (group_Encode.calls kj6 t244 _ _ t245 _ _ t248 t263 t264 _ ?side1 ?side2 ?side3 ?side4 A13.out (HN.out.below (by repeat (first | (with_reducible first | exact HB.out | apply bA | apply pN | apply bD | refine bS ?_ GE261.out | refine bS ?_ GE262.out) | exact HB.out)) (Nat.lt_of_lt_of_le HN.out.lt (Nat.le_refl _)))).mono ?_); (case side1 => refine (Kd.R_reads' (e := 62) (base := w.heap.size) (ok := fun k_ => True) (n := t245.length) (c := co22) ?_).2.2; exact (by (with_reducible repeat (first | apply rA | apply rN | apply Kd.R_drew)); exact (Kd.R_mono (Kd.R_mono (Kd.R_far (p := ⟨gb262, 3, none⟩) (Kd.R_far (p := ⟨gb262, 2, none⟩) (Kd.R_far (p := ⟨gb262, 1, none⟩) (Kd.R_far (p := ⟨gb262, 0, none⟩) (Kd.R_far (p := ⟨gb261, 2, none⟩) (Kd.R_far (p := ⟨gb261, 1, none⟩) (Kd.R_far (p := ⟨gb261, 0, none⟩) (Kd.R_types (Kd.R_types HO247.out BK261.out (by decide)) BK262.out (by decide)) (fun _ hk => hk.1.2) (.int .i64 t244)) (fun _ hk => hk.1.2) (.slice Ao22 t245.length co22)) (fun _ hk => hk.1.2) (.slice Ao23 t248.length co23)) (fun _ hk => hk.2) (.int .i64 t251)) (fun _ hk => hk.2) (.slice Ao25 t252.length co25)) (fun _ hk => hk.2) (.slice Ao26 t255.length co26)) (fun _ hk => hk.2) (.slice Ao27 t258.length co27)) (fun _ h_ => h_.1)) (fun _ h_ => h_.1)))); (case side2 => exact (Kd.R_reads' HO247.out).2.1); (case side3 => refine (Kd.R_reads' (e := 9) (base := w.heap.size) (ok := fun k_ => some k_ ≠ (.slice Ao27 t258.length co27 : Value).ownBlock) (n := t248.length) (c := co23) ?_).2.2; exact (by (with_reducible repeat (first | apply rA | apply rN | apply Kd.R_drew)); exact (Kd.R_mono (Kd.R_mono (Kd.R_far (p := ⟨gb262, 3, none⟩) (Kd.R_far (p := ⟨gb262, 2, none⟩) (Kd.R_far (p := ⟨gb262, 1, none⟩) (Kd.R_far (p := ⟨gb262, 0, none⟩) (Kd.R_far (p := ⟨gb261, 2, none⟩) (Kd.R_far (p := ⟨gb261, 1, none⟩) (Kd.R_far (p := ⟨gb261, 0, none⟩) (Kd.R_types (Kd.R_types HO250.out BK261.out (by decide)) BK262.out (by decide)) (fun _ hk => hk.1.2) (.int .i64 t244)) (fun _ hk => hk.1.2) (.slice Ao22 t245.length co22)) (fun _ hk => hk.1.2) (.slice Ao23 t248.length co23)) (fun _ hk => hk.2) (.int .i64 t251)) (fun _ hk => hk.2) (.slice Ao25 t252.length co25)) (fun _ hk => hk.2) (.slice Ao26 t255.length co26)) (fun _ hk => hk.2) (.slice Ao27 t258.length co27)) (fun _ h_ => h_.1)) (fun _ h_ => h_.1)))); (case side4 => exact (Kd.R_reads' HO250.out).2.1); rintro e w28 ⟨rfl, hb⟩; refine ⟨_, rfl, ?_⟩; have n0_ := Aside0.mk (Kd.R_below (by (with_reducible repeat (first | apply rA | apply rN | apply Kd.R_drew)); exact (Kd.R_mono (Kd.R_mono (Kd.R_far (p := ⟨gb262, 3, none⟩) (Kd.R_far (p := ⟨gb262, 2, none⟩) (Kd.R_far (p := ⟨gb262, 1, none⟩) (Kd.R_far (p := ⟨gb262, 0, none⟩) (Kd.R_far (p := ⟨gb261, 2, none⟩) (Kd.R_far (p := ⟨gb261, 1, none⟩) (Kd.R_far (p := ⟨gb261, 0, none⟩) (Kd.R_types (Kd.R_types HO_8.out BK261.out (by decide)) BK262.out (by decide)) (fun _ hk => hk.1.2) (.int .i64 t244)) (fun _ hk => hk.1.2) (.slice Ao22 t245.length co22)) (fun _ hk => hk.1.2) (.slice Ao23 t248.length co23)) (fun _ hk => hk.2) (.int .i64 t251)) (fun _ hk => hk.2) (.slice Ao25 t252.length co25)) (fun _ hk => hk.2) (.slice Ao26 t255.length co26)) (fun _ hk => hk.2) (.slice Ao27 t258.length co27)) (fun _ h_ => h_.1)) (fun _ h_ => h_.1))) hb); have n1_ := Aside0.mk (Kd.R_below (by (with_reducible repeat (first | apply rA | apply rN | apply Kd.R_drew)); exact (Kd.R_mono (Kd.R_mono (Kd.R_far (p := ⟨gb262, 3, none⟩) (Kd.R_far (p := ⟨gb262, 2, none⟩) (Kd.R_far (p := ⟨gb262, 1, none⟩) (Kd.R_far (p := ⟨gb262, 0, none⟩) (Kd.R_far (p := ⟨gb261, 2, none⟩) (Kd.R_far (p := ⟨gb261, 1, none⟩) (Kd.R_far (p := ⟨gb261, 0, none⟩) (Kd.R_types (Kd.R_types HO247.out BK261.out (by decide)) BK262.out (by decide)) (fun _ hk => hk.1.2) (.int .i64 t244)) (fun _ hk => hk.1.2) (.slice Ao22 t245.length co22)) (fun _ hk => hk.1.2) (.slice Ao23 t248.length co23)) (fun _ hk => hk.2) (.int .i64 t251)) (fun _ hk => hk.2) (.slice Ao25 t252.length co25)) (fun _ hk => hk.2) (.slice Ao26 t255.length co26)) (fun _ hk => hk.2) (.slice Ao27 t258.length co27)) (fun _ h_ => h_.1)) (fun _ h_ => h_.1))) hb); have n2_ := Aside0.mk (Kd.R_below (by (with_reducible repeat (first | apply rA | apply rN | apply Kd.R_drew)); exact (Kd.R_mono (Kd.R_mono (Kd.R_far (p := ⟨gb262, 3, none⟩) (Kd.R_far (p := ⟨gb262, 2, none⟩) (Kd.R_far (p := ⟨gb262, 1, none⟩) (Kd.R_far (p := ⟨gb262, 0, none⟩) (Kd.R_far (p := ⟨gb261, 2, none⟩) (Kd.R_far (p := ⟨gb261, 1, none⟩) (Kd.R_far (p := ⟨gb261, 0, none⟩) (Kd.R_types (Kd.R_types HO250.out BK261.out (by decide)) BK262.out (by decide)) (fun _ hk => hk.1.2) (.int .i64 t244)) (fun _ hk => hk.1.2) (.slice Ao22 t245.length co22)) (fun _ hk => hk.1.2) (.slice Ao23 t248.length co23)) (fun _ hk => hk.2) (.int .i64 t251)) (fun _ hk => hk.2) (.slice Ao25 t252.length co25)) (fun _ hk => hk.2) (.slice Ao26 t255.length co26)) (fun _ hk => hk.2) (.slice Ao27 t258.length co27)) (fun _ h_ => h_.1)) (fun _ h_ => h_.1))) hb); have n3_ := Aside0.mk (Kd.R_below (by (with_reducible repeat (first | apply rA | apply rN | apply Kd.R_drew)); exact (Kd.R_mono (Kd.R_mono (Kd.R_far (p := ⟨gb262, 3, none⟩) (Kd.R_far (p := ⟨gb262, 2, none⟩) (Kd.R_far (p := ⟨gb262, 1, none⟩) (Kd.R_far (p := ⟨gb262, 0, none⟩) (Kd.R_far (p := ⟨gb261, 2, none⟩) (Kd.R_far (p := ⟨gb261, 1, none⟩) (Kd.R_far (p := ⟨gb261, 0, none⟩) (Kd.R_types (Kd.R_types HO254.out BK261.out (by decide)) BK262.out (by decide)) (fun _ hk => hk.1.2) (.int .i64 t244)) (fun _ hk => hk.1.2) (.slice Ao22 t245.length co22)) (fun _ hk => hk.1.2) (.slice Ao23 t248.length co23)) (fun _ hk => hk.2) (.int .i64 t251)) (fun _ hk => hk.2) (.slice Ao25 t252.length co25)) (fun _ hk => hk.2) (.slice Ao26 t255.length co26)) (fun _ hk => hk.2) (.slice Ao27 t258.length co27)) (fun _ h_ => h_.1)) (fun _ h_ => h_.1))) hb); have n4_ := Aside0.mk (Kd.R_below (by (with_reducible repeat (first | apply rA | apply rN | apply Kd.R_drew)); exact (Kd.R_mono (Kd.R_mono (Kd.R_far (p := ⟨gb262, 3, none⟩) (Kd.R_far (p := ⟨gb262, 2, none⟩) (Kd.R_far (p := ⟨gb262, 1, none⟩) (Kd.R_far (p := ⟨gb262, 0, none⟩) (Kd.R_far (p := ⟨gb261, 2, none⟩) (Kd.R_far (p := ⟨gb261, 1, none⟩) (Kd.R_far (p := ⟨gb261, 0, none⟩) (Kd.R_types (Kd.R_types HO257.out BK261.out (by decide)) BK262.out (by decide)) (fun _ hk => hk.1.2) (.int .i64 t244)) (fun _ hk => hk.1.2) (.slice Ao22 t245.length co22)) (fun _ hk => hk.1.2) (.slice Ao23 t248.length co23)) (fun _ hk => hk.2) (.int .i64 t251)) (fun _ hk => hk.2) (.slice Ao25 t252.length co25)) (fun _ hk => hk.2) (.slice Ao26 t255.length co26)) (fun _ hk => hk.2) (.slice Ao27 t258.length co27)) (fun _ h_ => h_.1)) (fun _ h_ => h_.1))) hb); have n5_ := Aside0.mk (Kd.R_below (by (with_reducible repeat (first | apply rA | apply rN | apply Kd.R_drew)); exact (Kd.R_mono (Kd.R_mono (Kd.R_far (p := ⟨gb262, 3, none⟩) (Kd.R_far (p := ⟨gb262, 2, none⟩) (Kd.R_far (p := ⟨gb262, 1, none⟩) (Kd.R_far (p := ⟨gb262, 0, none⟩) (Kd.R_far (p := ⟨gb261, 2, none⟩) (Kd.R_far (p := ⟨gb261, 1, none⟩) (Kd.R_far (p := ⟨gb261, 0, none⟩) (Kd.R_types (Kd.R_types HO260.out BK261.out (by decide)) BK262.out (by decide)) (fun _ hk => hk.1.2) (.int .i64 t244)) (fun _ hk => hk.1.2) (.slice Ao22 t245.length co22)) (fun _ hk => hk.1.2) (.slice Ao23 t248.length co23)) (fun _ hk => hk.2) (.int .i64 t251)) (fun _ hk => hk.2) (.slice Ao25 t252.length co25)) (fun _ hk => hk.2) (.slice Ao26 t255.length co26)) (fun _ hk => hk.2) (.slice Ao27 t258.length co27)) (fun _ h_ => h_.1)) (fun _ h_ => h_.1))) hb); have n6_ := Aside0.mk (kB (g := gb261) (o := .cells #[.int .i64 t244, .slice Ao22 t245.length co22, .slice Ao23 t248.length co23] 42 (0, 0)) (by (with_reducible repeat (first | refine kN ?_ _ | refine blk_drew ?_ | refine kA ?_ _)); refine blk_far ?_ NB261_262.out _; (with_reducible repeat (first | refine kN ?_ _ | refine blk_drew ?_ | refine kA ?_ _)); refine blk_far ?_ NB261_262.out _; (with_reducible repeat (first | refine kN ?_ _ | refine blk_drew ?_ | refine kA ?_ _)); refine blk_far ?_ NB261_262.out _; (with_reducible repeat (first | refine kN ?_ _ | refine blk_drew ?_ | refine kA ?_ _)); refine blk_far ?_ NB261_262.out _; (with_reducible repeat (first | refine kN ?_ _ | refine blk_drew ?_ | refine kA ?_ _)); refine blk_put (cs := #[.int .i64 t244, .slice Ao22 t245.length co22, .slice none 0 0]) ?_ 2 _ rfl; (with_reducible repeat (first | refine kN ?_ _ | refine blk_drew ?_ | refine kA ?_ _)); refine blk_put (cs := #[.int .i64 t244, .slice none 0 0, .slice none 0 0]) ?_ 1 _ rfl; (with_reducible repeat (first | refine kN ?_ _ | refine blk_drew ?_ | refine kA ?_ _)); refine blk_put (cs := #[.int .i64 0, .slice none 0 0, .slice none 0 0]) ?_ 0 _ rfl; (with_reducible repeat (first | refine kN ?_ _ | refine blk_drew ?_ | refine kA ?_ _)); exact BK261.out) hb); have n7_ := Aside0.mk (kB (g := gb262) (o := .cells #[.int .i64 t251, .slice Ao25 t252.length co25, .slice Ao26 t255.length co26, .slice Ao27 t258.length co27] 43 (0, 0)) (by (with_reducible repeat (first | refine kN ?_ _ | refine blk_drew ?_ | refine kA ?_ _)); refine blk_put (cs := #[.int .i64 t251, .slice Ao25 t252.length co25, .slice Ao26 t255.length co26, .slice none 0 0]) ?_ 3 _ rfl; (with_reducible repeat (first | refine kN ?_ _ | refine blk_drew ?_ | refine kA ?_ _)); refine blk_put (cs := #[.int .i64 t251, .slice Ao25 t252.length co25, .slice none 0 0, .slice none 0 0]) ?_ 2 _ rfl; (with_reducible repeat (first | refine kN ?_ _ | refine blk_drew ?_ | refine kA ?_ _)); refine blk_put (cs := #[.int .i64 t251, .slice none 0 0, .slice none 0 0, .slice none 0 0]) ?_ 1 _ rfl; (with_reducible repeat (first | refine kN ?_ _ | refine blk_drew ?_ | refine kA ?_ _)); refine blk_put (cs := #[.int .i64 0, .slice none 0 0, .slice none 0 0, .slice none 0 0]) ?_ 0 _ rfl; (with_reducible repeat (first | refine kN ?_ _ | refine blk_drew ?_ | refine kA ?_ _)); refine blk_far ?_ NB262_261.out _; (with_reducible repeat (first | refine kN ?_ _ | refine blk_drew ?_ | refine kA ?_ _)); refine blk_far ?_ NB262_261.out _; (with_reducible repeat (first | refine kN ?_ _ | refine blk_drew ?_ | refine kA ?_ _)); refine blk_far ?_ NB262_261.out _; (with_reducible repeat (first | refine kN ?_ _ | refine blk_drew ?_ | refine kA ?_ _)); exact BK262.out) hb); have n8_ := Aside0.mk (below_step (by repeat (first | (with_reducible first | exact HB.out | apply bA | apply pN | apply bD | refine bS ?_ GE261.out | refine bS ?_ GE262.out) | exact HB.out)) hb); clear HO_8; clear HO247; clear HO250; clear HO254; clear HO257; clear HO260; clear BK261; clear BK262; clear HB; have HO_8 := n0_; have HO247 := n1_; have HO250 := n2_; have HO254 := n3_; have HO257 := n4_; have HO260 := n5_; have BK261 := n6_; have BK262 := n7_; have HB := n8_; clear n0_ n1_ n2_ n3_ n4_ n5_ n6_ n7_ n8_; (try clear hb); (try clear hb2); (try clear hk); (try clear hi)) | ((with_reducible refine gate_builtin (b := .append) (xs := #[.tmp 49, .tmp 52]) rfl ?_); (try (refine gate_guard (by rfl) ?_; dsimp only)); at_builtin; refine Kd.R_append (Kd.int .i64) (w0 := w) w.heap.size rfl (.tmp 49) (.tmp 52) 36 3 (.int .i64 0) 8 rfl Tryd.underlying36 info3 rfl (by decide) (by omega) u8 x8_1 ((x7_1.size : Int) + (t263.size : Int)) [.int .i64 ((x7_1.size : Int) + (t263.size : Int))] (fun k_ => some k_ ≠ (.slice Ao25 t252.length co25 : Value).ownBlock) (fun _ => False) rfl rfl ?aP (fun _ hk => hk.elim) ?aF ?aO ?aB ?aS ?aL ?_; (case aP => exact rfl); (case aB => exact (by repeat (first | (with_reducible first | exact HB.out | apply bA | apply pN | apply bD | refine bS ?_ GE261.out | refine bS ?_ GE262.out) | exact HB.out))); (case aF => exact (fun k_ hk => Kd.fresh' (Kd.R_lt (by (with_reducible repeat (first | apply rA | apply rN | apply Kd.R_drew)); exact HO254.out)) k_ hk)); (case aO => exact (by (with_reducible repeat (first | apply rA | apply rN | apply Kd.R_drew)); exact Kd.R_mono HO_8.out (fun _ hk => hk.2))); (case aS => exact (bZ (by repeat (first | (with_reducible first | exact HB.out | apply bA | apply pN | apply bD | refine bS ?_ GE261.out | refine bS ?_ GE262.out) | exact HB.out)))); (case aL => have := LMc16.out; omega); intro v266 w29 ho hb hg hat; have hsj_ : ((x7_1.size : Int) + (t263.size : Int)) = ((x7_1 ++ t263).size : Int) := (by rw [ByteArray.size_append]; omega); rw [hsj_, ← Ny265.out] at ho; clear hsj_; have n0_ := Aside0.mk (Kd.R_over' (by (with_reducible repeat (first | apply rA | apply rN | apply Kd.R_drew)); exact HO247.out) (Kd.R_typed (by (with_reducible repeat (first | apply rA | apply rN | apply Kd.R_drew)); exact HO_8.out)) (by decide) hg); have n1_ := Aside0.mk (Kd.R_over' (by (with_reducible repeat (first | apply rA | apply rN | apply Kd.R_drew)); exact HO250.out) (Kd.R_typed (by (with_reducible repeat (first | apply rA | apply rN | apply Kd.R_drew)); exact HO_8.out)) (by decide) hg); have n2_ := Aside0.mk (Kd.R_after (ok := (fun _ => True)) (by (with_reducible repeat (first | apply rA | apply rN | apply Kd.R_drew)); exact HO254.out) hg hat); have n3_ := Aside0.mk (Kd.R_over' (by (with_reducible repeat (first | apply rA | apply rN | apply Kd.R_drew)); exact HO257.out) (Kd.R_typed (by (with_reducible repeat (first | apply rA | apply rN | apply Kd.R_drew)); exact HO_8.out)) (by decide) hg); have n4_ := Aside0.mk (Kd.R_over' (by (with_reducible repeat (first | apply rA | apply rN | apply Kd.R_drew)); exact HO260.out) (Kd.R_typed (by (with_reducible repeat (first | apply rA | apply rN | apply Kd.R_drew)); exact HO_8.out)) (by decide) hg); have n5_ := Aside0.mk (blk_grown (g := gb261) (o := .cells #[.int .i64 t244, .slice Ao22 t245.length co22, .slice Ao23 t248.length co23] 42 (0, 0)) (by (with_reducible repeat (first | refine kN ?_ _ | refine blk_drew ?_ | refine kA ?_ _)); exact BK261.out) hg (Kd.R_ne HO_8.out BK261.out (by decide))); have n6_ := Aside0.mk (blk_grown (g := gb262) (o := .cells #[.int .i64 t251, .slice Ao25 t252.length co25, .slice Ao26 t255.length co26, .slice Ao27 t258.length co27] 43 (0, 0)) (by (with_reducible repeat (first | refine kN ?_ _ | refine blk_drew ?_ | refine kA ?_ _)); exact BK262.out) hg (Kd.R_ne HO_8.out BK262.out (by decide))); have n7_ := Aside0.mk (hb); have n8_ := Aside0.mk (ho); clear HO247; clear HO250; clear HO254; clear HO257; clear HO260; clear BK261; clear BK262; clear HB; clear HO_8; have HO247 := n0_; have HO250 := n1_; have HO254 := n2_; have HO257 := n3_; have HO260 := n4_; have BK261 := n5_; have BK262 := n6_; have HB := n7_; have HO267 := n8_; clear n0_ n1_ n2_ n3_ n4_ n5_ n6_ n7_ n8_; clear ho hb hg hat))
            go_roundg kj6
            case measure => have := HK1.out; have := HJ6.out; omega
            case rel => exact ⟨(x7_1 ++ t263), (y265), (wrap64 (x9_1 + 1)), (by first | rfl | (simp; done) | (simp [*]; done)), (by first | rfl | (simp; done) | (simp [*]; done)), H', ⟨by have := HK1.out; have := HJ6.out; omega⟩, ⟨by (with_reducible repeat (first | apply rA | apply rN | apply Kd.R_drew)); exact Kd.R_mono HO267.out (fun _ hk => trivial)⟩, ⟨by repeat (first | (with_reducible first | exact HB.out | apply bA | apply pN | apply bD | refine bS ?_ GE261.out | refine bS ?_ GE262.out) | exact HB.out)⟩⟩
           ·rw [if_neg c16] at H
            exact absurd H (by simp)
          ·rw [if_neg c15] at H
           exact absurd H (by simp)
         ·rw [if_neg c14] at H
          have c14b0 : (t264 == 0) = false := beq_eq_false_iff_ne.mpr c14
          have c14b1 : (t264 != 0) = true := bne_iff_ne.mpr c14
          have H' := Aside0.mk H
          clear H
          have p243 : 0 ≤ (x9_1 : Int) := of_decide_eq_true (by first | (with_reducible assumption) | assumption)
          have q243 : x9_1 < (l0.length : Int) := of_decide_eq_true (by first | (with_reducible assumption) | assumption)
          obtain ⟨ad243, A243_1, c243_1, A243_2, c243_2, A243_3, c243_3, e243, hx243_0, hx243_1, hx243_2, hx243_3, hl243_1, hi243_1, hl243_2, hi243_2, hl243_3, hi243_3⟩ := at_T39 HR0.out x9_1 p243 q243
          cases e243
          replace hx243_0 := (HB.out.cell (World.block_lt_of_cell? w _ hx243_0)).trans hx243_0
          replace hx243_1 := (HB.out.cell (World.block_lt_of_cell? w _ hx243_1)).trans hx243_1
          replace hx243_2 := (HB.out.cell (World.block_lt_of_cell? w _ hx243_2)).trans hx243_2
          replace hx243_3 := (HB.out.cell (World.block_lt_of_cell? w _ hx243_3)).trans hx243_3
          have HR243_1 := Aside0.mk hi243_1
          have HC243_1 := Aside0.mk hl243_1
          clear hi243_1 hl243_1
          have HR243_2 := Aside0.mk hi243_2
          have HC243_2 := Aside0.mk hl243_2
          clear hi243_2 hl243_2
          have HR243_3 := Aside0.mk hi243_3
          have HC243_3 := Aside0.mk hl243_3
          clear hi243_3 hl243_3
          replace p243 := eq_true p243
          replace q243 := eq_true q243
          go_wp2_with (first | ((with_reducible refine gate_callee (f := 23) rfl ?_); refine goesL_ (some 36) rfl rfl Tryd.func23 (by kernel_rfl) rfl #[.agg #[.int .i64 ((rd_T39 l0 x9_1).f0), .slice A243_1 ((rd_T39 l0 x9_1).f1).length c243_1, .slice A243_2 ((rd_T39 l0 x9_1).f2).length c243_2, .slice A243_3 ((rd_T39 l0 x9_1).f3).length c243_3]] rfl (by (try simp only [List.map_toArray, List.map_cons, List.map_nil]); first | done | rfl | (simp only [List.length_drop, List.length_take]; rfl)) ?_; (with_reducible refine (corbellaw18_given.calls ((rd_T39 l0 x9_1).f0) _ _ ((rd_T39 l0 x9_1).f1) _ _ ((rd_T39 l0 x9_1).f2) _ _ ((rd_T39 l0 x9_1).f3) t244 t245 t248 t251 t252 t255 t258 _ ?side1 ?side2 ?side3 ?side4 ?side5 ?side6 A12.out).mono ?_); (case side1 => repeat (first | exact (Kd.C_below HR243_1.out HB.out) | (with_reducible refine Kd.C_alloc ?_ _) | (with_reducible refine Kd.C_drewN ?_ _) | (with_reducible refine Kd.C_drew ?_))); (case side2 => exact HC243_1.out); (case side3 => repeat (first | exact (Kd.C_below HR243_2.out HB.out) | (with_reducible refine Kd.C_alloc ?_ _) | (with_reducible refine Kd.C_drewN ?_ _) | (with_reducible refine Kd.C_drew ?_))); (case side4 => exact HC243_2.out); (case side5 => repeat (first | exact (Kd.C_below HR243_3.out HB.out) | (with_reducible refine Kd.C_alloc ?_ _) | (with_reducible refine Kd.C_drewN ?_ _) | (with_reducible refine Kd.C_drew ?_))); (case side6 => exact HC243_3.out); rintro e w30 ⟨v246, v249, v253, v256, v259, rfl, ho0, ho1, ho2, ho3, ho4, hb⟩; refine ⟨_, rfl, ?_⟩; have n0_ := Aside0.mk (Kd.R_elder' (by (with_reducible repeat (first | apply rA | apply rN | apply Kd.R_drew)); exact HO_8.out) (Kd.R_base ho2) hb); have n1_ := Aside0.mk (Kd.R_lower ho0 (bZ (by repeat (first | (with_reducible first | exact HB.out | apply bA | apply pN | apply bD) | exact HB.out)))); have n2_ := Aside0.mk (Kd.R_lower ho1 (bZ (by repeat (first | (with_reducible first | exact HB.out | apply bA | apply pN | apply bD) | exact HB.out)))); have n3_ := Aside0.mk (Kd.R_lower (Kd.R_new' ho2 (Kd.R_lt (by (with_reducible repeat (first | apply rA | apply rN | apply Kd.R_drew)); exact HO_8.out))) (bZ (by repeat (first | (with_reducible first | exact HB.out | apply bA | apply pN | apply bD) | exact HB.out)))); have n4_ := Aside0.mk (Kd.R_lower ho3 (bZ (by repeat (first | (with_reducible first | exact HB.out | apply bA | apply pN | apply bD) | exact HB.out)))); have n5_ := Aside0.mk (Kd.R_lower ho4 (bZ (by repeat (first | (with_reducible first | exact HB.out | apply bA | apply pN | apply bD) | exact HB.out)))); have n6_ := Aside0.mk (below_step (by repeat (first | (with_reducible first | exact HB.out | apply bA | apply pN | apply bD) | exact HB.out)) hb); clear HO_8; clear HB; have HO_8 := n0_; have HO247 := n1_; have HO250 := n2_; have HO254 := n3_; have HO257 := n4_; have HO260 := n5_; have HB := n6_; clear n0_ n1_ n2_ n3_ n4_ n5_ n6_; (try clear hb); (try clear hb2); (try clear hk); (try clear hi); (try clear ho0); (try clear ho1); (try clear ho2); (try clear ho3); (try clear ho4)) | ((with_reducible refine gate_dst (N := 10) rfl ?_); (try (refine gate_guard (by rfl) ?_; dsimp only)); refine box_event ?hg (N := 10) ?hd (cs := #[.int .i64 0, .slice none 0 0, .slice none 0 0]) (t := 42) ?hr ?_; (case hd => rfl); (case hg => rfl); (case hr => first | (go_simp; done) | (go_simp; rfl)); intro gb261 hg w31 hbox hb; have n0_ := Aside0.mk (Kd.R_below (by (with_reducible repeat (first | apply rA | apply rN | apply Kd.R_drew)); exact HO_8.out) hb); have n1_ := Aside0.mk (Kd.R_below (by (with_reducible repeat (first | apply rA | apply rN | apply Kd.R_drew)); exact HO247.out) hb); have n2_ := Aside0.mk (Kd.R_below (by (with_reducible repeat (first | apply rA | apply rN | apply Kd.R_drew)); exact HO250.out) hb); have n3_ := Aside0.mk (Kd.R_below (by (with_reducible repeat (first | apply rA | apply rN | apply Kd.R_drew)); exact HO254.out) hb); have n4_ := Aside0.mk (Kd.R_below (by (with_reducible repeat (first | apply rA | apply rN | apply Kd.R_drew)); exact HO257.out) hb); have n5_ := Aside0.mk (Kd.R_below (by (with_reducible repeat (first | apply rA | apply rN | apply Kd.R_drew)); exact HO260.out) hb); have n6_ := Aside0.mk (below_step (by repeat (first | (with_reducible first | exact HB.out | apply bA | apply pN | apply bD) | exact HB.out)) hb); have n7_ := Aside0.mk (hbox); have n8_ := Aside0.mk ((by rw [hg]; exact (bZ (by repeat (first | (with_reducible first | exact HB.out | apply bA | apply pN | apply bD) | exact HB.out))) : w.heap.size ≤ gb261)); have n9_ := Aside0.mk ((by rw [hg]; exact (bZ (by repeat (first | (with_reducible first | exact HB.out | apply bA | apply pN | apply bD) | exact HB.out))) : w.heap.size ≤ gb261)); clear HO_8; clear HO247; clear HO250; clear HO254; clear HO257; clear HO260; clear HB; have HO_8 := n0_; have HO247 := n1_; have HO250 := n2_; have HO254 := n3_; have HO257 := n4_; have HO260 := n5_; have HB := n6_; have BK261 := n7_; have GW261 := n8_; have GE261 := n9_; clear n0_ n1_ n2_ n3_ n4_ n5_ n6_ n7_ n8_ n9_; clear hb hbox hg) | ((with_reducible refine gate_dst (N := 11) rfl ?_); (try (refine gate_guard (by rfl) ?_; dsimp only)); refine box_event ?hg (N := 11) ?hd (cs := #[.int .i64 0, .slice none 0 0, .slice none 0 0, .slice none 0 0]) (t := 43) ?hr ?_; (case hd => rfl); (case hg => rfl); (case hr => first | (go_simp; done) | (go_simp; rfl)); intro gb262 hg w32 hbox hb; have n0_ := Aside0.mk (Kd.R_below (by (with_reducible repeat (first | apply rA | apply rN | apply Kd.R_drew)); exact HO_8.out) hb); have n1_ := Aside0.mk (Kd.R_below (by (with_reducible repeat (first | apply rA | apply rN | apply Kd.R_drew)); exact HO247.out) hb); have n2_ := Aside0.mk (Kd.R_below (by (with_reducible repeat (first | apply rA | apply rN | apply Kd.R_drew)); exact HO250.out) hb); have n3_ := Aside0.mk (Kd.R_below (by (with_reducible repeat (first | apply rA | apply rN | apply Kd.R_drew)); exact HO254.out) hb); have n4_ := Aside0.mk (Kd.R_below (by (with_reducible repeat (first | apply rA | apply rN | apply Kd.R_drew)); exact HO257.out) hb); have n5_ := Aside0.mk (Kd.R_below (by (with_reducible repeat (first | apply rA | apply rN | apply Kd.R_drew)); exact HO260.out) hb); have n6_ := Aside0.mk (kB (g := gb261) (o := .cells #[.int .i64 0, .slice none 0 0, .slice none 0 0] 42 (0, 0)) (by (with_reducible repeat (first | refine kN ?_ _ | refine blk_drew ?_ | refine kA ?_ _)); exact BK261.out) hb); have n7_ := Aside0.mk (below_step (by repeat (first | (with_reducible first | exact HB.out | apply bA | apply pN | apply bD | refine bS ?_ GE261.out) | exact HB.out)) hb); have n8_ := Aside0.mk (hbox); have n9_ := Aside0.mk ((by rw [hg]; exact (bZ (by repeat (first | (with_reducible first | exact HB.out | apply bA | apply pN | apply bD | refine bS ?_ GE261.out) | exact HB.out))) : w.heap.size ≤ gb262)); have n10_ := Aside0.mk ((by rw [hg]; exact (bZ (by repeat (first | (with_reducible first | exact HB.out | apply bA | apply pN | apply bD | refine bS ?_ GE261.out) | exact HB.out))) : w.heap.size ≤ gb262)); have n11_ := Aside0.mk ((by rw [hg]; exact Nat.ne_of_lt (blk_lt (g := gb261) (o := .cells #[.int .i64 0, .slice none 0 0, .slice none 0 0] 42 (0, 0)) (by (with_reducible repeat (first | refine kN ?_ _ | refine blk_drew ?_ | refine kA ?_ _)); exact BK261.out)) : gb261 ≠ gb262)); have n12_ := Aside0.mk ((by rw [hg]; exact Nat.ne_of_gt (blk_lt (g := gb261) (o := .cells #[.int .i64 0, .slice none 0 0, .slice none 0 0] 42 (0, 0)) (by (with_reducible repeat (first | refine kN ?_ _ | refine blk_drew ?_ | refine kA ?_ _)); exact BK261.out)) : gb262 ≠ gb261)); clear HO_8; clear HO247; clear HO250; clear HO254; clear HO257; clear HO260; clear BK261; clear HB; have HO_8 := n0_; have HO247 := n1_; have HO250 := n2_; have HO254 := n3_; have HO257 := n4_; have HO260 := n5_; have BK261 := n6_; have HB := n7_; have BK262 := n8_; have GW262 := n9_; have GE262 := n10_; have NB261_262 := n11_; have NB262_261 := n12_; clear n0_ n1_ n2_ n3_ n4_ n5_ n6_ n7_ n8_ n9_ n10_ n11_ n12_; clear hb hbox hg; have hnb33 := NB261_262.out; have hnc33 := NB262_261.out; have hcz34_0 : w32.cell? ⟨gb261, 0, none⟩ = some (.int .i64 0) := (blk_cell BK261.out 0).trans rfl; have hcz34_1 : w32.cell? ⟨gb261, 1, none⟩ = some (.slice none 0 0) := (blk_cell BK261.out 1).trans rfl; have hcz34_2 : w32.cell? ⟨gb261, 2, none⟩ = some (.slice none 0 0) := (blk_cell BK261.out 2).trans rfl; have hfz34_0 := blk_frozen BK261.out 0; have hfz34_1 := blk_frozen BK261.out 1; have hfz34_2 := blk_frozen BK261.out 2; obtain ⟨Ao35, co35, eo35⟩ := Kd.R_slice HO247.out; subst eo35; obtain ⟨Ao36, co36, eo36⟩ := Kd.R_slice HO250.out; subst eo36; have hcz37_0 : w32.cell? ⟨gb262, 0, none⟩ = some (.int .i64 0) := (blk_cell BK262.out 0).trans rfl; have hcz37_1 : w32.cell? ⟨gb262, 1, none⟩ = some (.slice none 0 0) := (blk_cell BK262.out 1).trans rfl; have hcz37_2 : w32.cell? ⟨gb262, 2, none⟩ = some (.slice none 0 0) := (blk_cell BK262.out 2).trans rfl; have hcz37_3 : w32.cell? ⟨gb262, 3, none⟩ = some (.slice none 0 0) := (blk_cell BK262.out 3).trans rfl; have hfz37_0 := blk_frozen BK262.out 0; have hfz37_1 := blk_frozen BK262.out 1; have hfz37_2 := blk_frozen BK262.out 2; have hfz37_3 := blk_frozen BK262.out 3; obtain ⟨Ao38, co38, eo38⟩ := Kd.R_slice HO254.out; subst eo38; obtain ⟨Ao39, co39, eo39⟩ := Kd.R_slice HO257.out; subst eo39; obtain ⟨Ao40, co40, eo40⟩ := Kd.R_slice HO260.out; subst eo40) | ((with_reducible refine gate_callee (f := 24) rfl ?_); refine goesL_ (some 41) rfl rfl Tryd.func24 (by kernel_rfl) rfl #[.agg #[.int .i64 t244, .slice Ao35 t245.length co35, .slice Ao36 t248.length co36]] rfl (by (try simp only [List.map_toArray, List.map_cons, List.map_nil]); first | done | rfl | (simp only [List.length_drop, List.length_take]; rfl)) ?_; (with_reducible refine (group_Encode.calls kj6 t244 _ _ t245 _ _ t248 t263 t264 _ ?side1 ?side2 ?side3 ?side4 A13.out (HN.out.below (by repeat (first | (with_reducible first | exact HB.out | apply bA | apply pN | apply bD | refine bS ?_ GE261.out | refine bS ?_ GE262.out) | exact HB.out)) (Nat.lt_of_lt_of_le HN.out.lt (Nat.le_refl _)))).mono ?_); (case side1 => refine (Kd.R_reads' (e := 62) (base := w.heap.size) (ok := fun k_ => True) (n := t245.length) (c := co35) ?_).2.2; exact (by (with_reducible repeat (first | apply rA | apply rN | apply Kd.R_drew)); exact (Kd.R_mono (Kd.R_mono (Kd.R_far (p := ⟨gb262, 3, none⟩) (Kd.R_far (p := ⟨gb262, 2, none⟩) (Kd.R_far (p := ⟨gb262, 1, none⟩) (Kd.R_far (p := ⟨gb262, 0, none⟩) (Kd.R_far (p := ⟨gb261, 2, none⟩) (Kd.R_far (p := ⟨gb261, 1, none⟩) (Kd.R_far (p := ⟨gb261, 0, none⟩) (Kd.R_types (Kd.R_types HO247.out BK261.out (by decide)) BK262.out (by decide)) (fun _ hk => hk.1.2) (.int .i64 t244)) (fun _ hk => hk.1.2) (.slice Ao35 t245.length co35)) (fun _ hk => hk.1.2) (.slice Ao36 t248.length co36)) (fun _ hk => hk.2) (.int .i64 t251)) (fun _ hk => hk.2) (.slice Ao38 t252.length co38)) (fun _ hk => hk.2) (.slice Ao39 t255.length co39)) (fun _ hk => hk.2) (.slice Ao40 t258.length co40)) (fun _ h_ => h_.1)) (fun _ h_ => h_.1)))); (case side2 => exact (Kd.R_reads' HO247.out).2.1); (case side3 => refine (Kd.R_reads' (e := 9) (base := w.heap.size) (ok := fun k_ => some k_ ≠ (.slice Ao40 t258.length co40 : Value).ownBlock) (n := t248.length) (c := co36) ?_).2.2; exact (by (with_reducible repeat (first | apply rA | apply rN | apply Kd.R_drew)); exact (Kd.R_mono (Kd.R_mono (Kd.R_far (p := ⟨gb262, 3, none⟩) (Kd.R_far (p := ⟨gb262, 2, none⟩) (Kd.R_far (p := ⟨gb262, 1, none⟩) (Kd.R_far (p := ⟨gb262, 0, none⟩) (Kd.R_far (p := ⟨gb261, 2, none⟩) (Kd.R_far (p := ⟨gb261, 1, none⟩) (Kd.R_far (p := ⟨gb261, 0, none⟩) (Kd.R_types (Kd.R_types HO250.out BK261.out (by decide)) BK262.out (by decide)) (fun _ hk => hk.1.2) (.int .i64 t244)) (fun _ hk => hk.1.2) (.slice Ao35 t245.length co35)) (fun _ hk => hk.1.2) (.slice Ao36 t248.length co36)) (fun _ hk => hk.2) (.int .i64 t251)) (fun _ hk => hk.2) (.slice Ao38 t252.length co38)) (fun _ hk => hk.2) (.slice Ao39 t255.length co39)) (fun _ hk => hk.2) (.slice Ao40 t258.length co40)) (fun _ h_ => h_.1)) (fun _ h_ => h_.1)))); (case side4 => exact (Kd.R_reads' HO250.out).2.1); rintro e w41 ⟨rfl, hb⟩; refine ⟨_, rfl, ?_⟩; have n0_ := Aside0.mk (Kd.R_below (by (with_reducible repeat (first | apply rA | apply rN | apply Kd.R_drew)); exact (Kd.R_mono (Kd.R_mono (Kd.R_far (p := ⟨gb262, 3, none⟩) (Kd.R_far (p := ⟨gb262, 2, none⟩) (Kd.R_far (p := ⟨gb262, 1, none⟩) (Kd.R_far (p := ⟨gb262, 0, none⟩) (Kd.R_far (p := ⟨gb261, 2, none⟩) (Kd.R_far (p := ⟨gb261, 1, none⟩) (Kd.R_far (p := ⟨gb261, 0, none⟩) (Kd.R_types (Kd.R_types HO_8.out BK261.out (by decide)) BK262.out (by decide)) (fun _ hk => hk.1.2) (.int .i64 t244)) (fun _ hk => hk.1.2) (.slice Ao35 t245.length co35)) (fun _ hk => hk.1.2) (.slice Ao36 t248.length co36)) (fun _ hk => hk.2) (.int .i64 t251)) (fun _ hk => hk.2) (.slice Ao38 t252.length co38)) (fun _ hk => hk.2) (.slice Ao39 t255.length co39)) (fun _ hk => hk.2) (.slice Ao40 t258.length co40)) (fun _ h_ => h_.1)) (fun _ h_ => h_.1))) hb); have n1_ := Aside0.mk (Kd.R_below (by (with_reducible repeat (first | apply rA | apply rN | apply Kd.R_drew)); exact (Kd.R_mono (Kd.R_mono (Kd.R_far (p := ⟨gb262, 3, none⟩) (Kd.R_far (p := ⟨gb262, 2, none⟩) (Kd.R_far (p := ⟨gb262, 1, none⟩) (Kd.R_far (p := ⟨gb262, 0, none⟩) (Kd.R_far (p := ⟨gb261, 2, none⟩) (Kd.R_far (p := ⟨gb261, 1, none⟩) (Kd.R_far (p := ⟨gb261, 0, none⟩) (Kd.R_types (Kd.R_types HO247.out BK261.out (by decide)) BK262.out (by decide)) (fun _ hk => hk.1.2) (.int .i64 t244)) (fun _ hk => hk.1.2) (.slice Ao35 t245.length co35)) (fun _ hk => hk.1.2) (.slice Ao36 t248.length co36)) (fun _ hk => hk.2) (.int .i64 t251)) (fun _ hk => hk.2) (.slice Ao38 t252.length co38)) (fun _ hk => hk.2) (.slice Ao39 t255.length co39)) (fun _ hk => hk.2) (.slice Ao40 t258.length co40)) (fun _ h_ => h_.1)) (fun _ h_ => h_.1))) hb); have n2_ := Aside0.mk (Kd.R_below (by (with_reducible repeat (first | apply rA | apply rN | apply Kd.R_drew)); exact (Kd.R_mono (Kd.R_mono (Kd.R_far (p := ⟨gb262, 3, none⟩) (Kd.R_far (p := ⟨gb262, 2, none⟩) (Kd.R_far (p := ⟨gb262, 1, none⟩) (Kd.R_far (p := ⟨gb262, 0, none⟩) (Kd.R_far (p := ⟨gb261, 2, none⟩) (Kd.R_far (p := ⟨gb261, 1, none⟩) (Kd.R_far (p := ⟨gb261, 0, none⟩) (Kd.R_types (Kd.R_types HO250.out BK261.out (by decide)) BK262.out (by decide)) (fun _ hk => hk.1.2) (.int .i64 t244)) (fun _ hk => hk.1.2) (.slice Ao35 t245.length co35)) (fun _ hk => hk.1.2) (.slice Ao36 t248.length co36)) (fun _ hk => hk.2) (.int .i64 t251)) (fun _ hk => hk.2) (.slice Ao38 t252.length co38)) (fun _ hk => hk.2) (.slice Ao39 t255.length co39)) (fun _ hk => hk.2) (.slice Ao40 t258.length co40)) (fun _ h_ => h_.1)) (fun _ h_ => h_.1))) hb); have n3_ := Aside0.mk (Kd.R_below (by (with_reducible repeat (first | apply rA | apply rN | apply Kd.R_drew)); exact (Kd.R_mono (Kd.R_mono (Kd.R_far (p := ⟨gb262, 3, none⟩) (Kd.R_far (p := ⟨gb262, 2, none⟩) (Kd.R_far (p := ⟨gb262, 1, none⟩) (Kd.R_far (p := ⟨gb262, 0, none⟩) (Kd.R_far (p := ⟨gb261, 2, none⟩) (Kd.R_far (p := ⟨gb261, 1, none⟩) (Kd.R_far (p := ⟨gb261, 0, none⟩) (Kd.R_types (Kd.R_types HO254.out BK261.out (by decide)) BK262.out (by decide)) (fun _ hk => hk.1.2) (.int .i64 t244)) (fun _ hk => hk.1.2) (.slice Ao35 t245.length co35)) (fun _ hk => hk.1.2) (.slice Ao36 t248.length co36)) (fun _ hk => hk.2) (.int .i64 t251)) (fun _ hk => hk.2) (.slice Ao38 t252.length co38)) (fun _ hk => hk.2) (.slice Ao39 t255.length co39)) (fun _ hk => hk.2) (.slice Ao40 t258.length co40)) (fun _ h_ => h_.1)) (fun _ h_ => h_.1))) hb); have n4_ := Aside0.mk (Kd.R_below (by (with_reducible repeat (first | apply rA | apply rN | apply Kd.R_drew)); exact (Kd.R_mono (Kd.R_mono (Kd.R_far (p := ⟨gb262, 3, none⟩) (Kd.R_far (p := ⟨gb262, 2, none⟩) (Kd.R_far (p := ⟨gb262, 1, none⟩) (Kd.R_far (p := ⟨gb262, 0, none⟩) (Kd.R_far (p := ⟨gb261, 2, none⟩) (Kd.R_far (p := ⟨gb261, 1, none⟩) (Kd.R_far (p := ⟨gb261, 0, none⟩) (Kd.R_types (Kd.R_types HO257.out BK261.out (by decide)) BK262.out (by decide)) (fun _ hk => hk.1.2) (.int .i64 t244)) (fun _ hk => hk.1.2) (.slice Ao35 t245.length co35)) (fun _ hk => hk.1.2) (.slice Ao36 t248.length co36)) (fun _ hk => hk.2) (.int .i64 t251)) (fun _ hk => hk.2) (.slice Ao38 t252.length co38)) (fun _ hk => hk.2) (.slice Ao39 t255.length co39)) (fun _ hk => hk.2) (.slice Ao40 t258.length co40)) (fun _ h_ => h_.1)) (fun _ h_ => h_.1))) hb); have n5_ := Aside0.mk (Kd.R_below (by (with_reducible repeat (first | apply rA | apply rN | apply Kd.R_drew)); exact (Kd.R_mono (Kd.R_mono (Kd.R_far (p := ⟨gb262, 3, none⟩) (Kd.R_far (p := ⟨gb262, 2, none⟩) (Kd.R_far (p := ⟨gb262, 1, none⟩) (Kd.R_far (p := ⟨gb262, 0, none⟩) (Kd.R_far (p := ⟨gb261, 2, none⟩) (Kd.R_far (p := ⟨gb261, 1, none⟩) (Kd.R_far (p := ⟨gb261, 0, none⟩) (Kd.R_types (Kd.R_types HO260.out BK261.out (by decide)) BK262.out (by decide)) (fun _ hk => hk.1.2) (.int .i64 t244)) (fun _ hk => hk.1.2) (.slice Ao35 t245.length co35)) (fun _ hk => hk.1.2) (.slice Ao36 t248.length co36)) (fun _ hk => hk.2) (.int .i64 t251)) (fun _ hk => hk.2) (.slice Ao38 t252.length co38)) (fun _ hk => hk.2) (.slice Ao39 t255.length co39)) (fun _ hk => hk.2) (.slice Ao40 t258.length co40)) (fun _ h_ => h_.1)) (fun _ h_ => h_.1))) hb); have n6_ := Aside0.mk (kB (g := gb261) (o := .cells #[.int .i64 t244, .slice Ao35 t245.length co35, .slice Ao36 t248.length co36] 42 (0, 0)) (by (with_reducible repeat (first | refine kN ?_ _ | refine blk_drew ?_ | refine kA ?_ _)); refine blk_far ?_ NB261_262.out _; (with_reducible repeat (first | refine kN ?_ _ | refine blk_drew ?_ | refine kA ?_ _)); refine blk_far ?_ NB261_262.out _; (with_reducible repeat (first | refine kN ?_ _ | refine blk_drew ?_ | refine kA ?_ _)); refine blk_far ?_ NB261_262.out _; (with_reducible repeat (first | refine kN ?_ _ | refine blk_drew ?_ | refine kA ?_ _)); refine blk_far ?_ NB261_262.out _; (with_reducible repeat (first | refine kN ?_ _ | refine blk_drew ?_ | refine kA ?_ _)); refine blk_put (cs := #[.int .i64 t244, .slice Ao35 t245.length co35, .slice none 0 0]) ?_ 2 _ rfl; (with_reducible repeat (first | refine kN ?_ _ | refine blk_drew ?_ | refine kA ?_ _)); refine blk_put (cs := #[.int .i64 t244, .slice none 0 0, .slice none 0 0]) ?_ 1 _ rfl; (with_reducible repeat (first | refine kN ?_ _ | refine blk_drew ?_ | refine kA ?_ _)); refine blk_put (cs := #[.int .i64 0, .slice none 0 0, .slice none 0 0]) ?_ 0 _ rfl; (with_reducible repeat (first | refine kN ?_ _ | refine blk_drew ?_ | refine kA ?_ _)); exact BK261.out) hb); have n7_ := Aside0.mk (kB (g := gb262) (o := .cells #[.int .i64 t251, .slice Ao38 t252.length co38, .slice Ao39 t255.length co39, .slice Ao40 t258.length co40] 43 (0, 0)) (by (with_reducible repeat (first | refine kN ?_ _ | refine blk_drew ?_ | refine kA ?_ _)); refine blk_put (cs := #[.int .i64 t251, .slice Ao38 t252.length co38, .slice Ao39 t255.length co39, .slice none 0 0]) ?_ 3 _ rfl; (with_reducible repeat (first | refine kN ?_ _ | refine blk_drew ?_ | refine kA ?_ _)); refine blk_put (cs := #[.int .i64 t251, .slice Ao38 t252.length co38, .slice none 0 0, .slice none 0 0]) ?_ 2 _ rfl; (with_reducible repeat (first | refine kN ?_ _ | refine blk_drew ?_ | refine kA ?_ _)); refine blk_put (cs := #[.int .i64 t251, .slice none 0 0, .slice none 0 0, .slice none 0 0]) ?_ 1 _ rfl; (with_reducible repeat (first | refine kN ?_ _ | refine blk_drew ?_ | refine kA ?_ _)); refine blk_put (cs := #[.int .i64 0, .slice none 0 0, .slice none 0 0, .slice none 0 0]) ?_ 0 _ rfl; (with_reducible repeat (first | refine kN ?_ _ | refine blk_drew ?_ | refine kA ?_ _)); refine blk_far ?_ NB262_261.out _; (with_reducible repeat (first | refine kN ?_ _ | refine blk_drew ?_ | refine kA ?_ _)); refine blk_far ?_ NB262_261.out _; (with_reducible repeat (first | refine kN ?_ _ | refine blk_drew ?_ | refine kA ?_ _)); refine blk_far ?_ NB262_261.out _; (with_reducible repeat (first | refine kN ?_ _ | refine blk_drew ?_ | refine kA ?_ _)); exact BK262.out) hb); have n8_ := Aside0.mk (below_step (by repeat (first | (with_reducible first | exact HB.out | apply bA | apply pN | apply bD | refine bS ?_ GE261.out | refine bS ?_ GE262.out) | exact HB.out)) hb); clear HO_8; clear HO247; clear HO250; clear HO254; clear HO257; clear HO260; clear BK261; clear BK262; clear HB; have HO_8 := n0_; have HO247 := n1_; have HO250 := n2_; have HO254 := n3_; have HO257 := n4_; have HO260 := n5_; have BK261 := n6_; have BK262 := n7_; have HB := n8_; clear n0_ n1_ n2_ n3_ n4_ n5_ n6_ n7_ n8_; (try clear hb); (try clear hb2); (try clear hk); (try clear hi)))
          go_roundg kj6
          case measure => have := HK1.out; have := HJ6.out; omega
          case rel => exact ⟨(x7_1), (x8_1), (wrap64 (x9_1 + 1)), (by first | rfl | (simp; done) | (simp [*]; done)), (by first | rfl | (simp; done) | (simp [*]; done)), H', ⟨by have := HK1.out; have := HJ6.out; omega⟩, ⟨by (with_reducible repeat (first | apply rA | apply rN | apply Kd.R_drew)); exact Kd.R_mono HO_8.out (fun _ hk => trivial)⟩, ⟨by repeat (first | (with_reducible first | exact HB.out | apply bA | apply pN | apply bD | refine bS ?_ GE261.out | refine bS ?_ GE262.out) | exact HB.out)⟩⟩
        ·rw [if_neg c11] at H
         exact absurd H (by simp)
       ·rw [if_neg c10] at H
        exact absurd H (by simp)
      ·replace c9 := Bool.eq_false_iff.mpr c9
       subst c9
       have H1 : (if (wrap64 ((x7_1.size : Int) + 1)) = 0 then (none) else (corbellaw18_GroupCut.l1 kj6 (Int.tmod (wrap64 ((wrap64 ((Int.tmod a1 (wrap64 ((x7_1.size : Int) + 1))) + (x7_1.size : Int))) + 1)) (wrap64 ((x7_1.size : Int) + 1))) a2 x7_1 x8_1 0)) = some r := by rw [if_neg (show ¬ (false = true) by decide)] at H; exact H
       clear H
       have H := H1
       clear H1
       by_cases c42 : (wrap64 ((x7_1.size : Int) + 1)) = 0
       ·rw [if_pos c42] at H
        exact absurd H (by simp)
       ·rw [if_neg c42] at H
        have c42b0 : ((wrap64 ((x7_1.size : Int) + 1)) == 0) = false := beq_eq_false_iff_ne.mpr c42
        have c42b1 : ((wrap64 ((x7_1.size : Int) + 1)) != 0) = true := bne_iff_ne.mpr c42
        have H' := Aside0.mk H
        clear H
        go_wp2
        go_loopg [14] kj6 (fun kq v14 w' => ∃ (x14_3 : Int), v14 = .int .i64 x14_3 ∧ Aside0 (corbellaw18_GroupCut.l1 kq (Int.tmod (wrap64 ((wrap64 ((Int.tmod a1 (wrap64 ((x7_1.size : Int) + 1))) + (x7_1.size : Int))) + 1)) (wrap64 ((x7_1.size : Int) + 1))) a2 x7_1 x8_1 x14_3 = some r) ∧ Aside0 (kq ≤ kj6) ∧ Aside0 (Kd.R (Kd.int .i64) 3 w' w.heap.size (fun _ => True) u8 x8_1) ∧ Aside0 (Below w.heap.size w w'))
        case atStart => exact ⟨(0), (by first | rfl | (simp; done) | (simp [*]; done)), H', ⟨Nat.le_refl _⟩, ⟨by (with_reducible repeat (first | apply rA | apply rN | apply Kd.R_drew)); exact HO_8.out⟩, ⟨by repeat (first | (with_reducible first | exact HB.out | apply bA | apply pN | apply bD) | exact HB.out)⟩⟩
        case round =>
         clear H'
         try clear c1
         try clear c2
         try clear p2
         try clear q2
         try clear hx2
         try clear c3
         try clear c4
         try clear c5
         try clear p6
         try clear c8
         try clear c8b0
         try clear c9
         try clear c10
         try clear c10b0
         try clear c11
         try clear c11b0
         try clear c14
         try clear c14b0
         try clear c14b1
         try clear c15
         try clear c15b0
         try clear c15b1
         try clear c15b2
         try clear c16
         try clear c20
         try clear c22
         try clear c23
         try clear c24
         try clear p24
         try clear q24
         try clear hx24
         try clear c33
         try clear c42
         try clear c42b0
         try clear c42b1
         try clear hcz21_0
         try clear hcz21_1
         try clear hcz21_2
         try clear hcz24_0
         try clear hcz24_1
         try clear hcz24_2
         try clear hcz24_3
         try clear hcz34_0
         try clear hcz34_1
         try clear hcz34_2
         try clear hcz37_0
         try clear hcz37_1
         try clear hcz37_2
         try clear hcz37_3
         try clear hfz21_0
         try clear hfz21_1
         try clear hfz21_2
         try clear hfz24_0
         try clear hfz24_1
         try clear hfz24_2
         try clear hfz24_3
         try clear hfz34_0
         try clear hfz34_1
         try clear hfz34_2
         try clear hfz37_0
         try clear hfz37_1
         try clear hfz37_2
         try clear hfz37_3
         try clear hx243_0
         try clear hx243_1
         try clear hx243_2
         try clear hx243_3
         try clear p2
         try clear p243
         try clear q243
         obtain ⟨x14_3, rfl, HA, HK3, HO_8, HB⟩ := hrel
         cases gk with
         | zero => exact absurd HA.out (by simp [corbellaw18_GroupCut.l1])
         | succ k3 =>
          have H := HA.out
          clear HA
          simp only [corbellaw18_GroupCut.l1] at H
          by_cases c43 : x14_3 < (x8_1.length : Int)
          ·rw [if_pos c43] at H
           have c43b0 : decide (x14_3 < (x8_1.length : Int)) = true := decide_eq_true c43
           clear c43
           by_cases c44 : 0 ≤ x14_3
           ·rw [if_pos c44] at H
            have c44b0 : decide (0 ≤ x14_3) = true := decide_eq_true c44
            clear c44
            by_cases c45 : (rd x8_1 x14_3) ≤ (Int.tmod (wrap64 ((wrap64 ((Int.tmod a1 (wrap64 ((x7_1.size : Int) + 1))) + (x7_1.size : Int))) + 1)) (wrap64 ((x7_1.size : Int) + 1)))
            ·rw [if_pos c45] at H
             have c45b0 : decide ((rd x8_1 x14_3) ≤ (Int.tmod (wrap64 ((wrap64 ((Int.tmod a1 (wrap64 ((x7_1.size : Int) + 1))) + (x7_1.size : Int))) + 1)) (wrap64 ((x7_1.size : Int) + 1)))) = true := decide_eq_true c45
             clear c45
             have H' := Aside0.mk H
             clear H
             obtain ⟨Ao46, co46, eo46⟩ := Kd.R_slice HO_8.out
             subst eo46
             have p268 : 0 ≤ (x14_3 : Int) := of_decide_eq_true (by first | (with_reducible assumption) | assumption)
             have q268 : x14_3 < (x8_1.length : Int) := of_decide_eq_true (by first | (with_reducible assumption) | assumption)
             obtain ⟨ad268, e268, hx268_0⟩ := Kd.at_int (Kd.R_reads' HO_8.out).2.2 x14_3 p268 q268
             cases e268
             replace p268 := eq_true p268
             replace q268 := eq_true q268
             go_wp2
             go_roundg k3
             case measure => have := HK1.out; have := HJ6.out; have := HK3.out; omega
             case rel => exact ⟨(wrap64 (x14_3 + 1)), (by first | rfl | (simp; done) | (simp [*]; done)), H', ⟨by have := HK1.out; have := HJ6.out; have := HK3.out; omega⟩, ⟨by (with_reducible repeat (first | apply rA | apply rN | apply Kd.R_drew)); exact HO_8.out⟩, ⟨by repeat (first | (with_reducible first | exact HB.out | apply bA | apply pN | apply bD) | exact HB.out)⟩⟩
            ·rw [if_neg c45] at H
             have c45b0 : decide ((rd x8_1 x14_3) ≤ (Int.tmod (wrap64 ((wrap64 ((Int.tmod a1 (wrap64 ((x7_1.size : Int) + 1))) + (x7_1.size : Int))) + 1)) (wrap64 ((x7_1.size : Int) + 1)))) = false := decide_eq_false c45
             clear c45
             obtain ⟨ji47, hji47⟩ : ∃ j_ : Int, (Int.tmod (wrap64 ((wrap64 ((Int.tmod a1 (wrap64 ((x7_1.size : Int) + 1))) + (x7_1.size : Int))) + 1)) (wrap64 ((x7_1.size : Int) + 1))) = j_ := ⟨_, rfl⟩
             replace H : (if 0 ≤ (ji47) then (if (ji47) ≤ (x7_1.size : Int) then ((group_Scan.f k3 (x7_1.extract 0 ((ji47) : Int).toNat)).bind fun bt269 => (if 0 ≤ (wrap64 (64 * (Go.bits .and .i64 a2 7))) then (if (wrap64 (64 * (Go.bits .and .i64 a2 7)) : Int).toNat ≤ 281474976710656 then ((some (List.replicate (wrap64 (64 * (Go.bits .and .i64 a2 7)) : Int).toNat 0 : List Int)).bind fun y275 => (if x7_1.size + (strOfNums y275).size ≤ 9223372036854775807 then ((group_Scan.f k3 (x7_1 ++ (strOfNums y275))).bind fun bt278 => (if (bt269.1.length : Int) = x14_3 then (some ((bt278.1.length : Int) == (x8_1.length : Int))) else (some false))) else (none))) else (none)) else (none))) else (none)) else (none)) = some r := by first | (rw [hji47] at H; exact H) | (simp only [hji47] at H ⊢; exact H)
             (try rw [hji47] at c45b0)
             by_cases c48 : 0 ≤ (ji47)
             ·rw [if_pos c48] at H
              have c48b0 := eq_true c48
              have c48b1 : decide (0 ≤ (ji47)) = true := decide_eq_true c48
              clear c48
              by_cases c49 : (ji47) ≤ (x7_1.size : Int)
              ·rw [if_pos c49] at H
               have c49b0 := eq_true c49
               have c49b1 : decide ((ji47) ≤ (x7_1.size : Int)) = true := decide_eq_true c49
               clear c49
               replace H := Option.bind_eq_some_iff.mp H
               obtain ⟨⟨t269, t270⟩, A500, H⟩ := H
               replace H : (if 0 ≤ (wrap64 (64 * (Go.bits .and .i64 a2 7))) then (if (wrap64 (64 * (Go.bits .and .i64 a2 7)) : Int).toNat ≤ 281474976710656 then ((some (List.replicate (wrap64 (64 * (Go.bits .and .i64 a2 7)) : Int).toNat 0 : List Int)).bind fun y275 => (if x7_1.size + (strOfNums y275).size ≤ 9223372036854775807 then ((group_Scan.f k3 (x7_1 ++ (strOfNums y275))).bind fun bt278 => (if (t269.length : Int) = x14_3 then (some ((bt278.1.length : Int) == (x8_1.length : Int))) else (some false))) else (none))) else (none)) else (none)) = some r := H
               have A50 := Aside0.mk A500
               clear A500
               obtain ⟨ji51, hji51⟩ : ∃ j_ : Int, (wrap64 (64 * (Go.bits .and .i64 a2 7))) = j_ := ⟨_, rfl⟩
               replace H : (if 0 ≤ (ji51) then (if (ji51 : Int).toNat ≤ 281474976710656 then ((some (List.replicate (ji51 : Int).toNat 0 : List Int)).bind fun y275 => (if x7_1.size + (strOfNums y275).size ≤ 9223372036854775807 then ((group_Scan.f k3 (x7_1 ++ (strOfNums y275))).bind fun bt278 => (if (t269.length : Int) = x14_3 then (some ((bt278.1.length : Int) == (x8_1.length : Int))) else (some false))) else (none))) else (none)) else (none)) = some r := by first | (rw [hji51] at H; exact H) | (simp only [hji51] at H ⊢; exact H)
               (try rw [hji51] at A50)
               have hji51w : (IntKind.i64.wrap (64 * (Go.bits .and .i64 a2 7))) = ji51 := (i64_w _).trans hji51
               by_cases c52 : 0 ≤ (ji51)
               ·rw [if_pos c52] at H
                have c52b0 := eq_true c52
                have c52b1 : decide (0 ≤ (ji51)) = true := decide_eq_true c52
                clear c52
                by_cases c53 : (ji51 : Int).toNat ≤ 281474976710656
                ·rw [if_pos c53] at H
                 have c53b0 := eq_true c53
                 have c53b1 : decide ((ji51 : Int).toNat ≤ 281474976710656) = true := decide_eq_true c53
                 clear c53
                 obtain ⟨y275, hy275⟩ : ∃ y_ : List Int, y_ = (List.replicate (ji51 : Int).toNat 0) := ⟨_, rfl⟩
                 replace H : (if x7_1.size + (strOfNums y275).size ≤ 9223372036854775807 then ((group_Scan.f k3 (x7_1 ++ (strOfNums y275))).bind fun bt278 => (if (t269.length : Int) = x14_3 then (some ((bt278.1.length : Int) == (x8_1.length : Int))) else (some false))) else (none)) = some r := by first | (rw [hy275]; with_reducible exact H) | (have H2_ := (Option.bind_some _ _).symm.trans H; rw [hy275]; with_reducible exact H2_) | (have H2_ := (Option.bind_some _ _).symm.trans H; with_reducible exact H2_) | with_reducible exact H | (rw [hy275]; exact H) | exact H
                 have Ny275 := Aside0.mk hy275
                 clear hy275
                 by_cases c54 : x7_1.size + (strOfNums y275).size ≤ 9223372036854775807
                 ·rw [if_pos c54] at H
                  have c54b0 := eq_true c54
                  have c54b1 : decide (x7_1.size + (strOfNums y275).size ≤ 9223372036854775807) = true := decide_eq_true c54
                  try have c54b2 : (9223372036854775807 < x7_1.size + (strOfNums y275).size) = False := eq_false (Nat.not_lt.2 c54)
                  replace H := Option.bind_eq_some_iff.mp H
                  obtain ⟨⟨t278, t279⟩, A550, H⟩ := H
                  replace H : (if (t269.length : Int) = x14_3 then (some ((t278.length : Int) == (x8_1.length : Int))) else (some false)) = some r := H
                  have A55 := Aside0.mk A550
                  clear A550
                  by_cases c56 : (t269.length : Int) = x14_3
                  ·rw [if_pos c56] at H
                   have c56b0 : ((t269.length : Int) == x14_3) = true := beq_iff_eq.mpr c56
                   have c56b1 : ((t269.length : Int) != x14_3) = false := bne_eq_false_iff_eq.mpr c56
                   clear c56
                   obtain rfl := Option.some.inj H
                   obtain ⟨Ao57, co57, eo57⟩ := Kd.R_slice HO_8.out
                   subst eo57
                   have p268 : 0 ≤ (x14_3 : Int) := of_decide_eq_true (by first | (with_reducible assumption) | assumption)
                   have q268 : x14_3 < (x8_1.length : Int) := of_decide_eq_true (by first | (with_reducible assumption) | assumption)
                   obtain ⟨ad268, e268, hx268_0⟩ := Kd.at_int (Kd.R_reads' HO_8.out).2.2 x14_3 p268 q268
                   cases e268
                   replace p268 := eq_true p268
                   replace q268 := eq_true q268
                   go_wp2_with (first | ((with_reducible refine gate_callee (f := 28) rfl ?_); refine goesL_ (some 85) rfl rfl Tryd.func28 (by kernel_rfl) rfl #[.string (x7_1.extract 0 ((ji47) : Int).toNat)] rfl (by (try simp only [List.map_toArray, List.map_cons, List.map_nil]); first | done | (simp only [hji47]; rfl) | rfl | (simp only [List.length_drop, List.length_take]; rfl)) ?_; (with_reducible refine (group_Scan.calls k3 (x7_1.extract 0 ((ji47) : Int).toNat) t269 t270 _ A50.out (HN.out.below (by repeat (first | (with_reducible first | exact HB.out | apply bA | apply pN | apply bD | refine bS ?_ GE261.out | refine bS ?_ GE262.out) | exact HB.out)) (Nat.lt_of_lt_of_le HN.out.lt (Nat.le_refl _)))).mono ?_); rintro e w58 ⟨v271, v273, rfl, ho0, ho1, hb⟩; refine ⟨_, rfl, ?_⟩; have n0_ := Aside0.mk (Kd.R_elder' (by (with_reducible repeat (first | apply rA | apply rN | apply Kd.R_drew)); exact HO_8.out) (Kd.R_base ho1) hb); have n1_ := Aside0.mk (Kd.S_lower ho0 (bZ (by repeat (first | (with_reducible first | exact HB.out | apply bA | apply pN | apply bD) | exact HB.out)))); have n2_ := Aside0.mk (Kd.R_lower (Kd.R_new' ho1 (Kd.R_lt (by (with_reducible repeat (first | apply rA | apply rN | apply Kd.R_drew)); exact HO_8.out))) (bZ (by repeat (first | (with_reducible first | exact HB.out | apply bA | apply pN | apply bD) | exact HB.out)))); have n3_ := Aside0.mk (below_step (by repeat (first | (with_reducible first | exact HB.out | apply bA | apply pN | apply bD) | exact HB.out)) hb); clear HO_8; clear HB; have HO_8 := n0_; have HO272 := n1_; have HO274 := n2_; have HB := n3_; clear n0_ n1_ n2_ n3_; (try clear hb); (try clear hb2); (try clear hk); (try clear hi); (try clear ho0); (try clear ho1)) | ((with_reducible refine gate_dst (N := 93) rfl ?_); (try (refine gate_guard (by rfl) ?_; dsimp only)); refine Kd.R_make (Kd.int .u8) _ 5 rfl (N := 93) rfl 30 _ _ rfl ji51 rfl rfl Tryd.underlying30 (.int .u8 0) 1 info5 rfl (by decide) (by omega) 0 (ok := fun _ => True) (okp := fun _ => True) rfl (fun _ hk => hk) trivial (of_decide_eq_true (by first | (with_reducible assumption) | assumption)) (Nat.le_trans (Nat.mul_le_mul_right _ (of_decide_eq_true (by first | (with_reducible assumption) | assumption) : ji51.toNat ≤ 281474976710656)) (by omega)) (Below.refl _ _) (Nat.le_refl _) ?_; intro v276 w59 ho60 hb hg_ hnew_; clear hg_ hnew_; (first | rw [← Ny275.out] at ho60 | (simp only [Int.reduceToNat] at ho60; rw [← Ny275.out] at ho60)); have n0_ := Aside0.mk (Kd.R_below (by (with_reducible repeat (first | apply rA | apply rN | apply Kd.R_drew)); exact HO_8.out) hb); have n1_ := Aside0.mk (Kd.S_below (by (with_reducible repeat (first | apply Kd.S_alloc | apply Kd.S_drewN | apply Kd.S_drew)); exact HO272.out) hb); have n2_ := Aside0.mk (Kd.R_below (by (with_reducible repeat (first | apply rA | apply rN | apply Kd.R_drew)); exact HO274.out) hb); have n3_ := Aside0.mk (Kd.R_lower ho60 (bZ (by repeat (first | (with_reducible first | exact HB.out | apply bA | apply pN | apply bD) | exact HB.out)))); have n4_ := Aside0.mk (below_step (by repeat (first | (with_reducible first | exact HB.out | apply bA | apply pN | apply bD) | exact HB.out)) hb); clear HO_8; clear HO272; clear HO274; clear HB; have HO_8 := n0_; have HO272 := n1_; have HO274 := n2_; have HO277 := n3_; have HB := n4_; clear n0_ n1_ n2_ n3_ n4_; clear hb ho60; have hcv61 := own_string (P := Tryd.prog) Tryd.underlying30 Tryd.underlying5 Tryd.underlying9 (Kd.own_of_R HO277.out)) | ((with_reducible refine gate_callee (f := 28) rfl ?_); refine goesL_ (some 96) rfl rfl Tryd.func28 (by kernel_rfl) rfl #[.string (x7_1 ++ (strOfNums y275))] rfl (by (try simp only [List.map_toArray, List.map_cons, List.map_nil]); first | done | rfl | (simp only [List.length_drop, List.length_take]; rfl)) ?_; (with_reducible refine (group_Scan.calls k3 (x7_1 ++ (strOfNums y275)) t278 t279 _ A55.out (HN.out.below (by repeat (first | (with_reducible first | exact HB.out | apply bA | apply pN | apply bD | refine bS ?_ GE261.out | refine bS ?_ GE262.out) | exact HB.out)) (Nat.lt_of_lt_of_le HN.out.lt (Nat.le_refl _)))).mono ?_); rintro e w62 ⟨v280, v282, rfl, ho0, ho1, hb⟩; refine ⟨_, rfl, ?_⟩; have n0_ := Aside0.mk (Kd.R_elder' (by (with_reducible repeat (first | apply rA | apply rN | apply Kd.R_drew)); exact HO_8.out) (Kd.R_base ho1) hb); have n1_ := Aside0.mk (Kd.S_elder' (by (with_reducible repeat (first | apply Kd.S_alloc | apply Kd.S_drewN | apply Kd.S_drew)); exact HO272.out) (Kd.S_base ho0) hb); have n2_ := Aside0.mk (Kd.R_elder' (by (with_reducible repeat (first | apply rA | apply rN | apply Kd.R_drew)); exact HO274.out) (Kd.R_base ho1) hb); have n3_ := Aside0.mk (Kd.R_below (by (with_reducible repeat (first | apply rA | apply rN | apply Kd.R_drew)); exact HO277.out) hb); have n4_ := Aside0.mk (Kd.S_lower (Kd.S_new' ho0 (Kd.S_lt (by (with_reducible repeat (first | apply Kd.S_alloc | apply Kd.S_drewN | apply Kd.S_drew)); exact HO272.out))) (bZ (by repeat (first | (with_reducible first | exact HB.out | apply bA | apply pN | apply bD) | exact HB.out)))); have n5_ := Aside0.mk (Kd.R_lower (Kd.R_new' (Kd.R_new' ho1 (Kd.R_lt (by (with_reducible repeat (first | apply rA | apply rN | apply Kd.R_drew)); exact HO_8.out))) (Kd.R_lt (by (with_reducible repeat (first | apply rA | apply rN | apply Kd.R_drew)); exact HO274.out))) (bZ (by repeat (first | (with_reducible first | exact HB.out | apply bA | apply pN | apply bD) | exact HB.out)))); have n6_ := Aside0.mk (below_step (by repeat (first | (with_reducible first | exact HB.out | apply bA | apply pN | apply bD) | exact HB.out)) hb); clear HO_8; clear HO272; clear HO274; clear HO277; clear HB; have HO_8 := n0_; have HO272 := n1_; have HO274 := n2_; have HO277 := n3_; have HO281 := n4_; have HO283 := n5_; have HB := n6_; clear n0_ n1_ n2_ n3_ n4_ n5_ n6_; (try clear hb); (try clear hb2); (try clear hk); (try clear hi); (try clear ho0); (try clear ho1); obtain ⟨Ao63, co63, eo63⟩ := Kd.S_slice HO272.out; subst eo63; obtain ⟨Ao64, co64, eo64⟩ := Kd.S_slice HO281.out; subst eo64))
                   go_ret
                   exact ⟨by first | rfl | (simp [errW_none, errW_some] <;> rfl) | (simp only [← hji47, ← hji51]; first | rfl | (simp [errW_none, errW_some] <;> rfl)) | (simp [*, errW_none, errW_some] <;> rfl), by repeat (first | (with_reducible first | exact HB.out | apply bA | apply pN | apply bD) | exact HB.out)⟩
                  ·rw [if_neg c56] at H
                   have c56b0 : ((t269.length : Int) == x14_3) = false := beq_eq_false_iff_ne.mpr c56
                   have c56b1 : ((t269.length : Int) != x14_3) = true := bne_iff_ne.mpr c56
                   obtain rfl := Option.some.inj H
                   obtain ⟨Ao65, co65, eo65⟩ := Kd.R_slice HO_8.out
                   subst eo65
                   have p268 : 0 ≤ (x14_3 : Int) := of_decide_eq_true (by first | (with_reducible assumption) | assumption)
                   have q268 : x14_3 < (x8_1.length : Int) := of_decide_eq_true (by first | (with_reducible assumption) | assumption)
                   obtain ⟨ad268, e268, hx268_0⟩ := Kd.at_int (Kd.R_reads' HO_8.out).2.2 x14_3 p268 q268
                   cases e268
                   replace p268 := eq_true p268
                   replace q268 := eq_true q268
                   go_wp2_with (first | ((with_reducible refine gate_callee (f := 28) rfl ?_); refine goesL_ (some 85) rfl rfl Tryd.func28 (by kernel_rfl) rfl #[.string (x7_1.extract 0 ((ji47) : Int).toNat)] rfl (by (try simp only [List.map_toArray, List.map_cons, List.map_nil]); first | done | (simp only [hji47]; rfl) | rfl | (simp only [List.length_drop, List.length_take]; rfl)) ?_; (with_reducible refine (group_Scan.calls k3 (x7_1.extract 0 ((ji47) : Int).toNat) t269 t270 _ A50.out (HN.out.below (by repeat (first | (with_reducible first | exact HB.out | apply bA | apply pN | apply bD | refine bS ?_ GE261.out | refine bS ?_ GE262.out) | exact HB.out)) (Nat.lt_of_lt_of_le HN.out.lt (Nat.le_refl _)))).mono ?_); rintro e w66 ⟨v271, v273, rfl, ho0, ho1, hb⟩; refine ⟨_, rfl, ?_⟩; have n0_ := Aside0.mk (Kd.R_elder' (by (with_reducible repeat (first | apply rA | apply rN | apply Kd.R_drew)); exact HO_8.out) (Kd.R_base ho1) hb); have n1_ := Aside0.mk (Kd.S_lower ho0 (bZ (by repeat (first | (with_reducible first | exact HB.out | apply bA | apply pN | apply bD) | exact HB.out)))); have n2_ := Aside0.mk (Kd.R_lower (Kd.R_new' ho1 (Kd.R_lt (by (with_reducible repeat (first | apply rA | apply rN | apply Kd.R_drew)); exact HO_8.out))) (bZ (by repeat (first | (with_reducible first | exact HB.out | apply bA | apply pN | apply bD) | exact HB.out)))); have n3_ := Aside0.mk (below_step (by repeat (first | (with_reducible first | exact HB.out | apply bA | apply pN | apply bD) | exact HB.out)) hb); clear HO_8; clear HB; have HO_8 := n0_; have HO272 := n1_; have HO274 := n2_; have HB := n3_; clear n0_ n1_ n2_ n3_; (try clear hb); (try clear hb2); (try clear hk); (try clear hi); (try clear ho0); (try clear ho1)) | ((with_reducible refine gate_dst (N := 93) rfl ?_); (try (refine gate_guard (by rfl) ?_; dsimp only)); refine Kd.R_make (Kd.int .u8) _ 5 rfl (N := 93) rfl 30 _ _ rfl ji51 rfl rfl Tryd.underlying30 (.int .u8 0) 1 info5 rfl (by decide) (by omega) 0 (ok := fun _ => True) (okp := fun _ => True) rfl (fun _ hk => hk) trivial (of_decide_eq_true (by first | (with_reducible assumption) | assumption)) (Nat.le_trans (Nat.mul_le_mul_right _ (of_decide_eq_true (by first | (with_reducible assumption) | assumption) : ji51.toNat ≤ 281474976710656)) (by omega)) (Below.refl _ _) (Nat.le_refl _) ?_; intro v276 w67 ho68 hb hg_ hnew_; clear hg_ hnew_; (first | rw [← Ny275.out] at ho68 | (simp only [Int.reduceToNat] at ho68; rw [← Ny275.out] at ho68)); have n0_ := Aside0.mk (Kd.R_below (by (with_reducible repeat (first | apply rA | apply rN | apply Kd.R_drew)); exact HO_8.out) hb); have n1_ := Aside0.mk (Kd.S_below (by (with_reducible repeat (first | apply Kd.S_alloc | apply Kd.S_drewN | apply Kd.S_drew)); exact HO272.out) hb); have n2_ := Aside0.mk (Kd.R_below (by (with_reducible repeat (first | apply rA | apply rN | apply Kd.R_drew)); exact HO274.out) hb); have n3_ := Aside0.mk (Kd.R_lower ho68 (bZ (by repeat (first | (with_reducible first | exact HB.out | apply bA | apply pN | apply bD) | exact HB.out)))); have n4_ := Aside0.mk (below_step (by repeat (first | (with_reducible first | exact HB.out | apply bA | apply pN | apply bD) | exact HB.out)) hb); clear HO_8; clear HO272; clear HO274; clear HB; have HO_8 := n0_; have HO272 := n1_; have HO274 := n2_; have HO277 := n3_; have HB := n4_; clear n0_ n1_ n2_ n3_ n4_; clear hb ho68; have hcv69 := own_string (P := Tryd.prog) Tryd.underlying30 Tryd.underlying5 Tryd.underlying9 (Kd.own_of_R HO277.out)) | ((with_reducible refine gate_callee (f := 28) rfl ?_); refine goesL_ (some 96) rfl rfl Tryd.func28 (by kernel_rfl) rfl #[.string (x7_1 ++ (strOfNums y275))] rfl (by (try simp only [List.map_toArray, List.map_cons, List.map_nil]); first | done | rfl | (simp only [List.length_drop, List.length_take]; rfl)) ?_; (with_reducible refine (group_Scan.calls k3 (x7_1 ++ (strOfNums y275)) t278 t279 _ A55.out (HN.out.below (by repeat (first | (with_reducible first | exact HB.out | apply bA | apply pN | apply bD | refine bS ?_ GE261.out | refine bS ?_ GE262.out) | exact HB.out)) (Nat.lt_of_lt_of_le HN.out.lt (Nat.le_refl _)))).mono ?_); rintro e w70 ⟨v280, v282, rfl, ho0, ho1, hb⟩; refine ⟨_, rfl, ?_⟩; have n0_ := Aside0.mk (Kd.R_elder' (by (with_reducible repeat (first | apply rA | apply rN | apply Kd.R_drew)); exact HO_8.out) (Kd.R_base ho1) hb); have n1_ := Aside0.mk (Kd.S_elder' (by (with_reducible repeat (first | apply Kd.S_alloc | apply Kd.S_drewN | apply Kd.S_drew)); exact HO272.out) (Kd.S_base ho0) hb); have n2_ := Aside0.mk (Kd.R_elder' (by (with_reducible repeat (first | apply rA | apply rN | apply Kd.R_drew)); exact HO274.out) (Kd.R_base ho1) hb); have n3_ := Aside0.mk (Kd.R_below (by (with_reducible repeat (first | apply rA | apply rN | apply Kd.R_drew)); exact HO277.out) hb); have n4_ := Aside0.mk (Kd.S_lower (Kd.S_new' ho0 (Kd.S_lt (by (with_reducible repeat (first | apply Kd.S_alloc | apply Kd.S_drewN | apply Kd.S_drew)); exact HO272.out))) (bZ (by repeat (first | (with_reducible first | exact HB.out | apply bA | apply pN | apply bD) | exact HB.out)))); have n5_ := Aside0.mk (Kd.R_lower (Kd.R_new' (Kd.R_new' ho1 (Kd.R_lt (by (with_reducible repeat (first | apply rA | apply rN | apply Kd.R_drew)); exact HO_8.out))) (Kd.R_lt (by (with_reducible repeat (first | apply rA | apply rN | apply Kd.R_drew)); exact HO274.out))) (bZ (by repeat (first | (with_reducible first | exact HB.out | apply bA | apply pN | apply bD) | exact HB.out)))); have n6_ := Aside0.mk (below_step (by repeat (first | (with_reducible first | exact HB.out | apply bA | apply pN | apply bD) | exact HB.out)) hb); clear HO_8; clear HO272; clear HO274; clear HO277; clear HB; have HO_8 := n0_; have HO272 := n1_; have HO274 := n2_; have HO277 := n3_; have HO281 := n4_; have HO283 := n5_; have HB := n6_; clear n0_ n1_ n2_ n3_ n4_ n5_ n6_; (try clear hb); (try clear hb2); (try clear hk); (try clear hi); (try clear ho0); (try clear ho1); obtain ⟨Ao71, co71, eo71⟩ := Kd.S_slice HO272.out; subst eo71))
                   go_ret
                   exact ⟨by first | rfl | (simp [errW_none, errW_some] <;> rfl) | (simp only [← hji47, ← hji51]; first | rfl | (simp [errW_none, errW_some] <;> rfl)) | (simp [*, errW_none, errW_some] <;> rfl), by repeat (first | (with_reducible first | exact HB.out | apply bA | apply pN | apply bD) | exact HB.out)⟩
                 ·rw [if_neg c54] at H
                  exact absurd H (by simp)
                ·rw [if_neg c53] at H
                 exact absurd H (by simp)
               ·rw [if_neg c52] at H
                exact absurd H (by simp)
              ·rw [if_neg c49] at H
               exact absurd H (by simp)
             ·rw [if_neg c48] at H
              exact absurd H (by simp)
           ·rw [if_neg c44] at H
            exact absurd H (by simp)
          ·rw [if_neg c43] at H
           have c43b0 : decide (x14_3 < (x8_1.length : Int)) = false := decide_eq_false c43
           clear c43
           obtain ⟨ji72, hji72⟩ : ∃ j_ : Int, (Int.tmod (wrap64 ((wrap64 ((Int.tmod a1 (wrap64 ((x7_1.size : Int) + 1))) + (x7_1.size : Int))) + 1)) (wrap64 ((x7_1.size : Int) + 1))) = j_ := ⟨_, rfl⟩
           replace H : (if 0 ≤ (ji72) then (if (ji72) ≤ (x7_1.size : Int) then ((group_Scan.f k3 (x7_1.extract 0 ((ji72) : Int).toNat)).bind fun bt284 => (if 0 ≤ (wrap64 (64 * (Go.bits .and .i64 a2 7))) then (if (wrap64 (64 * (Go.bits .and .i64 a2 7)) : Int).toNat ≤ 281474976710656 then ((some (List.replicate (wrap64 (64 * (Go.bits .and .i64 a2 7)) : Int).toNat 0 : List Int)).bind fun y290 => (if x7_1.size + (strOfNums y290).size ≤ 9223372036854775807 then ((group_Scan.f k3 (x7_1 ++ (strOfNums y290))).bind fun bt293 => (if (bt284.1.length : Int) = x14_3 then (some ((bt293.1.length : Int) == (x8_1.length : Int))) else (some false))) else (none))) else (none)) else (none))) else (none)) else (none)) = some r := by first | (rw [hji72] at H; exact H) | (simp only [hji72] at H ⊢; exact H)
           by_cases c73 : 0 ≤ (ji72)
           ·rw [if_pos c73] at H
            have c73b0 := eq_true c73
            have c73b1 : decide (0 ≤ (ji72)) = true := decide_eq_true c73
            clear c73
            by_cases c74 : (ji72) ≤ (x7_1.size : Int)
            ·rw [if_pos c74] at H
             have c74b0 := eq_true c74
             have c74b1 : decide ((ji72) ≤ (x7_1.size : Int)) = true := decide_eq_true c74
             clear c74
             replace H := Option.bind_eq_some_iff.mp H
             obtain ⟨⟨t284, t285⟩, A750, H⟩ := H
             replace H : (if 0 ≤ (wrap64 (64 * (Go.bits .and .i64 a2 7))) then (if (wrap64 (64 * (Go.bits .and .i64 a2 7)) : Int).toNat ≤ 281474976710656 then ((some (List.replicate (wrap64 (64 * (Go.bits .and .i64 a2 7)) : Int).toNat 0 : List Int)).bind fun y290 => (if x7_1.size + (strOfNums y290).size ≤ 9223372036854775807 then ((group_Scan.f k3 (x7_1 ++ (strOfNums y290))).bind fun bt293 => (if (t284.length : Int) = x14_3 then (some ((bt293.1.length : Int) == (x8_1.length : Int))) else (some false))) else (none))) else (none)) else (none)) = some r := H
             have A75 := Aside0.mk A750
             clear A750
             obtain ⟨ji76, hji76⟩ : ∃ j_ : Int, (wrap64 (64 * (Go.bits .and .i64 a2 7))) = j_ := ⟨_, rfl⟩
             replace H : (if 0 ≤ (ji76) then (if (ji76 : Int).toNat ≤ 281474976710656 then ((some (List.replicate (ji76 : Int).toNat 0 : List Int)).bind fun y290 => (if x7_1.size + (strOfNums y290).size ≤ 9223372036854775807 then ((group_Scan.f k3 (x7_1 ++ (strOfNums y290))).bind fun bt293 => (if (t284.length : Int) = x14_3 then (some ((bt293.1.length : Int) == (x8_1.length : Int))) else (some false))) else (none))) else (none)) else (none)) = some r := by first | (rw [hji76] at H; exact H) | (simp only [hji76] at H ⊢; exact H)
             (try rw [hji76] at A75)
             have hji76w : (IntKind.i64.wrap (64 * (Go.bits .and .i64 a2 7))) = ji76 := (i64_w _).trans hji76
             by_cases c77 : 0 ≤ (ji76)
             ·rw [if_pos c77] at H
              have c77b0 := eq_true c77
              have c77b1 : decide (0 ≤ (ji76)) = true := decide_eq_true c77
              clear c77
              by_cases c78 : (ji76 : Int).toNat ≤ 281474976710656
              ·rw [if_pos c78] at H
               have c78b0 := eq_true c78
               have c78b1 : decide ((ji76 : Int).toNat ≤ 281474976710656) = true := decide_eq_true c78
               clear c78
               obtain ⟨y290, hy290⟩ : ∃ y_ : List Int, y_ = (List.replicate (ji76 : Int).toNat 0) := ⟨_, rfl⟩
               replace H : (if x7_1.size + (strOfNums y290).size ≤ 9223372036854775807 then ((group_Scan.f k3 (x7_1 ++ (strOfNums y290))).bind fun bt293 => (if (t284.length : Int) = x14_3 then (some ((bt293.1.length : Int) == (x8_1.length : Int))) else (some false))) else (none)) = some r := by first | (rw [hy290]; with_reducible exact H) | (have H2_ := (Option.bind_some _ _).symm.trans H; rw [hy290]; with_reducible exact H2_) | (have H2_ := (Option.bind_some _ _).symm.trans H; with_reducible exact H2_) | with_reducible exact H | (rw [hy290]; exact H) | exact H
               have Ny290 := Aside0.mk hy290
               clear hy290
               by_cases c79 : x7_1.size + (strOfNums y290).size ≤ 9223372036854775807
               ·rw [if_pos c79] at H
                have c79b0 := eq_true c79
                have c79b1 : decide (x7_1.size + (strOfNums y290).size ≤ 9223372036854775807) = true := decide_eq_true c79
                try have c79b2 : (9223372036854775807 < x7_1.size + (strOfNums y290).size) = False := eq_false (Nat.not_lt.2 c79)
                replace H := Option.bind_eq_some_iff.mp H
                obtain ⟨⟨t293, t294⟩, A800, H⟩ := H
                replace H : (if (t284.length : Int) = x14_3 then (some ((t293.length : Int) == (x8_1.length : Int))) else (some false)) = some r := H
                have A80 := Aside0.mk A800
                clear A800
                by_cases c81 : (t284.length : Int) = x14_3
                ·rw [if_pos c81] at H
                 have c81b0 : ((t284.length : Int) == x14_3) = true := beq_iff_eq.mpr c81
                 have c81b1 : ((t284.length : Int) != x14_3) = false := bne_eq_false_iff_eq.mpr c81
                 clear c81
                 obtain rfl := Option.some.inj H
                 obtain ⟨Ao82, co82, eo82⟩ := Kd.R_slice HO_8.out
                 subst eo82
                 go_wp2_with (first | ((with_reducible refine gate_callee (f := 28) rfl ?_); refine goesL_ (some 85) rfl rfl Tryd.func28 (by kernel_rfl) rfl #[.string (x7_1.extract 0 ((ji72) : Int).toNat)] rfl (by (try simp only [List.map_toArray, List.map_cons, List.map_nil]); first | done | (simp only [hji72]; rfl) | rfl | (simp only [List.length_drop, List.length_take]; rfl)) ?_; (with_reducible refine (group_Scan.calls k3 (x7_1.extract 0 ((ji72) : Int).toNat) t284 t285 _ A75.out (HN.out.below (by repeat (first | (with_reducible first | exact HB.out | apply bA | apply pN | apply bD | refine bS ?_ GE261.out | refine bS ?_ GE262.out) | exact HB.out)) (Nat.lt_of_lt_of_le HN.out.lt (Nat.le_refl _)))).mono ?_); rintro e w83 ⟨v286, v288, rfl, ho0, ho1, hb⟩; refine ⟨_, rfl, ?_⟩; have n0_ := Aside0.mk (Kd.R_elder' (by (with_reducible repeat (first | apply rA | apply rN | apply Kd.R_drew)); exact HO_8.out) (Kd.R_base ho1) hb); have n1_ := Aside0.mk (Kd.S_lower ho0 (bZ (by repeat (first | (with_reducible first | exact HB.out | apply bA | apply pN | apply bD) | exact HB.out)))); have n2_ := Aside0.mk (Kd.R_lower (Kd.R_new' ho1 (Kd.R_lt (by (with_reducible repeat (first | apply rA | apply rN | apply Kd.R_drew)); exact HO_8.out))) (bZ (by repeat (first | (with_reducible first | exact HB.out | apply bA | apply pN | apply bD) | exact HB.out)))); have n3_ := Aside0.mk (below_step (by repeat (first | (with_reducible first | exact HB.out | apply bA | apply pN | apply bD) | exact HB.out)) hb); clear HO_8; clear HB; have HO_8 := n0_; have HO287 := n1_; have HO289 := n2_; have HB := n3_; clear n0_ n1_ n2_ n3_; (try clear hb); (try clear hb2); (try clear hk); (try clear hi); (try clear ho0); (try clear ho1)) | ((with_reducible refine gate_dst (N := 93) rfl ?_); (try (refine gate_guard (by rfl) ?_; dsimp only)); refine Kd.R_make (Kd.int .u8) _ 5 rfl (N := 93) rfl 30 _ _ rfl ji76 rfl rfl Tryd.underlying30 (.int .u8 0) 1 info5 rfl (by decide) (by omega) 0 (ok := fun _ => True) (okp := fun _ => True) rfl (fun _ hk => hk) trivial (of_decide_eq_true (by first | (with_reducible assumption) | assumption)) (Nat.le_trans (Nat.mul_le_mul_right _ (of_decide_eq_true (by first | (with_reducible assumption) | assumption) : ji76.toNat ≤ 281474976710656)) (by omega)) (Below.refl _ _) (Nat.le_refl _) ?_; intro v291 w84 ho85 hb hg_ hnew_; clear hg_ hnew_; (first | rw [← Ny290.out] at ho85 | (simp only [Int.reduceToNat] at ho85; rw [← Ny290.out] at ho85)); have n0_ := Aside0.mk (Kd.R_below (by (with_reducible repeat (first | apply rA | apply rN | apply Kd.R_drew)); exact HO_8.out) hb); have n1_ := Aside0.mk (Kd.S_below (by (with_reducible repeat (first | apply Kd.S_alloc | apply Kd.S_drewN | apply Kd.S_drew)); exact HO287.out) hb); have n2_ := Aside0.mk (Kd.R_below (by (with_reducible repeat (first | apply rA | apply rN | apply Kd.R_drew)); exact HO289.out) hb); have n3_ := Aside0.mk (Kd.R_lower ho85 (bZ (by repeat (first | (with_reducible first | exact HB.out | apply bA | apply pN | apply bD) | exact HB.out)))); have n4_ := Aside0.mk (below_step (by repeat (first | (with_reducible first | exact HB.out | apply bA | apply pN | apply bD) | exact HB.out)) hb); clear HO_8; clear HO287; clear HO289; clear HB; have HO_8 := n0_; have HO287 := n1_; have HO289 := n2_; have HO292 := n3_; have HB := n4_; clear n0_ n1_ n2_ n3_ n4_; clear hb ho85; have hcv86 := own_string (P := Tryd.prog) Tryd.underlying30 Tryd.underlying5 Tryd.underlying9 (Kd.own_of_R HO292.out)) | ((with_reducible refine gate_callee (f := 28) rfl ?_); refine goesL_ (some 96) rfl rfl Tryd.func28 (by kernel_rfl) rfl #[.string (x7_1 ++ (strOfNums y290))] rfl (by (try simp only [List.map_toArray, List.map_cons, List.map_nil]); first | done | rfl | (simp only [List.length_drop, List.length_take]; rfl)) ?_; (with_reducible refine (group_Scan.calls k3 (x7_1 ++ (strOfNums y290)) t293 t294 _ A80.out (HN.out.below (by repeat (first | (with_reducible first | exact HB.out | apply bA | apply pN | apply bD | refine bS ?_ GE261.out | refine bS ?_ GE262.out) | exact HB.out)) (Nat.lt_of_lt_of_le HN.out.lt (Nat.le_refl _)))).mono ?_); rintro e w87 ⟨v295, v297, rfl, ho0, ho1, hb⟩; refine ⟨_, rfl, ?_⟩; have n0_ := Aside0.mk (Kd.R_elder' (by (with_reducible repeat (first | apply rA | apply rN | apply Kd.R_drew)); exact HO_8.out) (Kd.R_base ho1) hb); have n1_ := Aside0.mk (Kd.S_elder' (by (with_reducible repeat (first | apply Kd.S_alloc | apply Kd.S_drewN | apply Kd.S_drew)); exact HO287.out) (Kd.S_base ho0) hb); have n2_ := Aside0.mk (Kd.R_elder' (by (with_reducible repeat (first | apply rA | apply rN | apply Kd.R_drew)); exact HO289.out) (Kd.R_base ho1) hb); have n3_ := Aside0.mk (Kd.R_below (by (with_reducible repeat (first | apply rA | apply rN | apply Kd.R_drew)); exact HO292.out) hb); have n4_ := Aside0.mk (Kd.S_lower (Kd.S_new' ho0 (Kd.S_lt (by (with_reducible repeat (first | apply Kd.S_alloc | apply Kd.S_drewN | apply Kd.S_drew)); exact HO287.out))) (bZ (by repeat (first | (with_reducible first | exact HB.out | apply bA | apply pN | apply bD) | exact HB.out)))); have n5_ := Aside0.mk (Kd.R_lower (Kd.R_new' (Kd.R_new' ho1 (Kd.R_lt (by (with_reducible repeat (first | apply rA | apply rN | apply Kd.R_drew)); exact HO_8.out))) (Kd.R_lt (by (with_reducible repeat (first | apply rA | apply rN | apply Kd.R_drew)); exact HO289.out))) (bZ (by repeat (first | (with_reducible first | exact HB.out | apply bA | apply pN | apply bD) | exact HB.out)))); have n6_ := Aside0.mk (below_step (by repeat (first | (with_reducible first | exact HB.out | apply bA | apply pN | apply bD) | exact HB.out)) hb); clear HO_8; clear HO287; clear HO289; clear HO292; clear HB; have HO_8 := n0_; have HO287 := n1_; have HO289 := n2_; have HO292 := n3_; have HO296 := n4_; have HO298 := n5_; have HB := n6_; clear n0_ n1_ n2_ n3_ n4_ n5_ n6_; (try clear hb); (try clear hb2); (try clear hk); (try clear hi); (try clear ho0); (try clear ho1); obtain ⟨Ao88, co88, eo88⟩ := Kd.S_slice HO287.out; subst eo88; obtain ⟨Ao89, co89, eo89⟩ := Kd.S_slice HO296.out; subst eo89))
                 go_ret
                 exact ⟨by first | rfl | (simp [errW_none, errW_some] <;> rfl) | (simp only [← hji72, ← hji76]; first | rfl | (simp [errW_none, errW_some] <;> rfl)) | (simp [*, errW_none, errW_some] <;> rfl), by repeat (first | (with_reducible first | exact HB.out | apply bA | apply pN | apply bD) | exact HB.out)⟩
                ·rw [if_neg c81] at H
                 have c81b0 : ((t284.length : Int) == x14_3) = false := beq_eq_false_iff_ne.mpr c81
                 have c81b1 : ((t284.length : Int) != x14_3) = true := bne_iff_ne.mpr c81
                 obtain rfl := Option.some.inj H
                 obtain ⟨Ao90, co90, eo90⟩ := Kd.R_slice HO_8.out
                 subst eo90
                 go_wp2_with (first | ((with_reducible refine gate_callee (f := 28) rfl ?_); refine goesL_ (some 85) rfl rfl Tryd.func28 (by kernel_rfl) rfl #[.string (x7_1.extract 0 ((ji72) : Int).toNat)] rfl (by (try simp only [List.map_toArray, List.map_cons, List.map_nil]); first | done | (simp only [hji72]; rfl) | rfl | (simp only [List.length_drop, List.length_take]; rfl)) ?_; (with_reducible refine (group_Scan.calls k3 (x7_1.extract 0 ((ji72) : Int).toNat) t284 t285 _ A75.out (HN.out.below (by repeat (first | (with_reducible first | exact HB.out | apply bA | apply pN | apply bD | refine bS ?_ GE261.out | refine bS ?_ GE262.out) | exact HB.out)) (Nat.lt_of_lt_of_le HN.out.lt (Nat.le_refl _)))).mono ?_); rintro e w91 ⟨v286, v288, rfl, ho0, ho1, hb⟩; refine ⟨_, rfl, ?_⟩; have n0_ := Aside0.mk (Kd.R_elder' (by (with_reducible repeat (first | apply rA | apply rN | apply Kd.R_drew)); exact HO_8.out) (Kd.R_base ho1) hb); have n1_ := Aside0.mk (Kd.S_lower ho0 (bZ (by repeat (first | (with_reducible first | exact HB.out | apply bA | apply pN | apply bD) | exact HB.out)))); have n2_ := Aside0.mk (Kd.R_lower (Kd.R_new' ho1 (Kd.R_lt (by (with_reducible repeat (first | apply rA | apply rN | apply Kd.R_drew)); exact HO_8.out))) (bZ (by repeat (first | (with_reducible first | exact HB.out | apply bA | apply pN | apply bD) | exact HB.out)))); have n3_ := Aside0.mk (below_step (by repeat (first | (with_reducible first | exact HB.out | apply bA | apply pN | apply bD) | exact HB.out)) hb); clear HO_8; clear HB; have HO_8 := n0_; have HO287 := n1_; have HO289 := n2_; have HB := n3_; clear n0_ n1_ n2_ n3_; (try clear hb); (try clear hb2); (try clear hk); (try clear hi); (try clear ho0); (try clear ho1)) | ((with_reducible refine gate_dst (N := 93) rfl ?_); (try (refine gate_guard (by rfl) ?_; dsimp only)); refine Kd.R_make (Kd.int .u8) _ 5 rfl (N := 93) rfl 30 _ _ rfl ji76 rfl rfl Tryd.underlying30 (.int .u8 0) 1 info5 rfl (by decide) (by omega) 0 (ok := fun _ => True) (okp := fun _ => True) rfl (fun _ hk => hk) trivial (of_decide_eq_true (by first | (with_reducible assumption) | assumption)) (Nat.le_trans (Nat.mul_le_mul_right _ (of_decide_eq_true (by first | (with_reducible assumption) | assumption) : ji76.toNat ≤ 281474976710656)) (by omega)) (Below.refl _ _) (Nat.le_refl _) ?_; intro v291 w92 ho93 hb hg_ hnew_; clear hg_ hnew_; (first | rw [← Ny290.out] at ho93 | (simp only [Int.reduceToNat] at ho93; rw [← Ny290.out] at ho93)); have n0_ := Aside0.mk (Kd.R_below (by (with_reducible repeat (first | apply rA | apply rN | apply Kd.R_drew)); exact HO_8.out) hb); have n1_ := Aside0.mk (Kd.S_below (by (with_reducible repeat (first | apply Kd.S_alloc | apply Kd.S_drewN | apply Kd.S_drew)); exact HO287.out) hb); have n2_ := Aside0.mk (Kd.R_below (by (with_reducible repeat (first | apply rA | apply rN | apply Kd.R_drew)); exact HO289.out) hb); have n3_ := Aside0.mk (Kd.R_lower ho93 (bZ (by repeat (first | (with_reducible first | exact HB.out | apply bA | apply pN | apply bD) | exact HB.out)))); have n4_ := Aside0.mk (below_step (by repeat (first | (with_reducible first | exact HB.out | apply bA | apply pN | apply bD) | exact HB.out)) hb); clear HO_8; clear HO287; clear HO289; clear HB; have HO_8 := n0_; have HO287 := n1_; have HO289 := n2_; have HO292 := n3_; have HB := n4_; clear n0_ n1_ n2_ n3_ n4_; clear hb ho93; have hcv94 := own_string (P := Tryd.prog) Tryd.underlying30 Tryd.underlying5 Tryd.underlying9 (Kd.own_of_R HO292.out)) | ((with_reducible refine gate_callee (f := 28) rfl ?_); refine goesL_ (some 96) rfl rfl Tryd.func28 (by kernel_rfl) rfl #[.string (x7_1 ++ (strOfNums y290))] rfl (by (try simp only [List.map_toArray, List.map_cons, List.map_nil]); first | done | rfl | (simp only [List.length_drop, List.length_take]; rfl)) ?_; (with_reducible refine (group_Scan.calls k3 (x7_1 ++ (strOfNums y290)) t293 t294 _ A80.out (HN.out.below (by repeat (first | (with_reducible first | exact HB.out | apply bA | apply pN | apply bD | refine bS ?_ GE261.out | refine bS ?_ GE262.out) | exact HB.out)) (Nat.lt_of_lt_of_le HN.out.lt (Nat.le_refl _)))).mono ?_); rintro e w95 ⟨v295, v297, rfl, ho0, ho1, hb⟩; refine ⟨_, rfl, ?_⟩; have n0_ := Aside0.mk (Kd.R_elder' (by (with_reducible repeat (first | apply rA | apply rN | apply Kd.R_drew)); exact HO_8.out) (Kd.R_base ho1) hb); have n1_ := Aside0.mk (Kd.S_elder' (by (with_reducible repeat (first | apply Kd.S_alloc | apply Kd.S_drewN | apply Kd.S_drew)); exact HO287.out) (Kd.S_base ho0) hb); have n2_ := Aside0.mk (Kd.R_elder' (by (with_reducible repeat (first | apply rA | apply rN | apply Kd.R_drew)); exact HO289.out) (Kd.R_base ho1) hb); have n3_ := Aside0.mk (Kd.R_below (by (with_reducible repeat (first | apply rA | apply rN | apply Kd.R_drew)); exact HO292.out) hb); have n4_ := Aside0.mk (Kd.S_lower (Kd.S_new' ho0 (Kd.S_lt (by (with_reducible repeat (first | apply Kd.S_alloc | apply Kd.S_drewN | apply Kd.S_drew)); exact HO287.out))) (bZ (by repeat (first | (with_reducible first | exact HB.out | apply bA | apply pN | apply bD) | exact HB.out)))); have n5_ := Aside0.mk (Kd.R_lower (Kd.R_new' (Kd.R_new' ho1 (Kd.R_lt (by (with_reducible repeat (first | apply rA | apply rN | apply Kd.R_drew)); exact HO_8.out))) (Kd.R_lt (by (with_reducible repeat (first | apply rA | apply rN | apply Kd.R_drew)); exact HO289.out))) (bZ (by repeat (first | (with_reducible first | exact HB.out | apply bA | apply pN | apply bD) | exact HB.out)))); have n6_ := Aside0.mk (below_step (by repeat (first | (with_reducible first | exact HB.out | apply bA | apply pN | apply bD) | exact HB.out)) hb); clear HO_8; clear HO287; clear HO289; clear HO292; clear HB; have HO_8 := n0_; have HO287 := n1_; have HO289 := n2_; have HO292 := n3_; have HO296 := n4_; have HO298 := n5_; have HB := n6_; clear n0_ n1_ n2_ n3_ n4_ n5_ n6_; (try clear hb); (try clear hb2); (try clear hk); (try clear hi); (try clear ho0); (try clear ho1); obtain ⟨Ao96, co96, eo96⟩ := Kd.S_slice HO287.out; subst eo96))
                 go_ret
                 exact ⟨by first | rfl | (simp [errW_none, errW_some] <;> rfl) | (simp only [← hji72, ← hji76]; first | rfl | (simp [errW_none, errW_some] <;> rfl)) | (simp [*, errW_none, errW_some] <;> rfl), by repeat (first | (with_reducible first | exact HB.out | apply bA | apply pN | apply bD) | exact HB.out)⟩
               ·rw [if_neg c79] at H
                exact absurd H (by simp)
              ·rw [if_neg c78] at H
               exact absurd H (by simp)
             ·rw [if_neg c77] at H
              exact absurd H (by simp)
            ·rw [if_neg c74] at H
             exact absurd H (by simp)
           ·rw [if_neg c73] at H
            exact absurd H (by simp)
 ·replace c5 := Bool.eq_false_iff.mpr c5
  subst c5
  have H1 : (some false) = some r := by rw [if_neg (show ¬ (false = true) by decide)] at H; exact H
  clear H
  have H := H1
  clear H1
  obtain rfl := Option.some.inj H
  go_enter Tryd.func11, Tryd.ntmps11
  go_wp2_with (first | ((with_reducible refine gate_callee (f := 22) rfl ?_); refine goesL_ (some 19) rfl rfl Tryd.func22 (by kernel_rfl) rfl #[] rfl (by (try simp only [List.map_toArray, List.map_cons, List.map_nil]); first | done | rfl | (simp only [List.length_drop, List.length_take]; rfl)) ?_; (with_reducible refine (corbellaw18_speaks.calls k  false _ A4.out (HN.out.below (by repeat (first | (with_reducible first | exact HB.out | apply bA | apply pN | apply bD | refine bS ?_ GE261.out | refine bS ?_ GE262.out) | exact HB.out)) (Nat.lt_of_lt_of_le HN.out.lt (Nat.le_refl _)))).mono ?_); rintro e w97 ⟨rfl, hb⟩; refine ⟨_, rfl, ?_⟩; have n0_ := Aside0.mk (below_step (by repeat (first | (with_reducible first | exact HB.out | apply bA | apply pN | apply bD) | exact HB.out)) hb); clear HB; have HB := n0_; clear n0_; (try clear hb); (try clear hb2); (try clear hk); (try clear hi)))
  go_ret
  exact ⟨by first | rfl | (simp [errW_none, errW_some] <;> rfl) | (simp [*, errW_none, errW_some] <;> rfl), by repeat (first | (with_reducible first | exact HB.out | apply bA | apply pN | apply bD) | exact HB.out)⟩

end Go.Proofs.YticpjnpafmehaaaDoor.U
