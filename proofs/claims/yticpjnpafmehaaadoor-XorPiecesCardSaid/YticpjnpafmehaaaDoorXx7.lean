-- printed by a program of a session (wip/tools/printx.py) over the kit's print; not typed by hand
import Derived.Test.YticpjnpafmehaaaDoorXx0
import Derived.Test.YticpjnpafmehaaaDoorXx2
import Derived.Test.YticpjnpafmehaaaDoorXx3
namespace Go.Proofs.YticpjnpafmehaaaDoor.X
open Go.RowKit Go.Proofs.YticpjnpafmehaaaDoorW.PrintWords Go.Proofs.YticpjnpafmehaaaDoorW.PrintLast Go.Proofs.YticpjnpafmehaaaDoorW.PrintMore
attribute [local go_sem] max2_int min2_int max_two min_two max_three min_three max_four min_four   -- for this text's walks alone
set_option linter.unusedVariables false
set_option linter.unusedSimpArgs false

/-! ### corbellaw03_XorPieces: function 5 -/
mutual
def corbellaw03_XorPieces.j0 : Nat → List ByteArray → Int → Bool → Option (Bool)
 | 0, _, _, _ => none
 | k + 1, x0, x1, x20 => if x20 = true then (some true) else (corbellaw03_XorPieces.l0 k x0 x1 0 0)
def corbellaw03_XorPieces.l0 : Nat → List ByteArray → Int → Int → Int → Option (Bool)
 | 0, _, _, _, _ => none
 | k + 1, x0, x1, x5, x6 => if x6 < (x0.length : Int) then (if 0 ≤ x6 then (corbellaw03_XorPieces.l0 k x0 x1 (mx x5 ((rdOf ByteArray.empty x0 x6).size : Int)) (wrap64 (x6 + 1))) else (none)) else (if (wrap64 (x5 + 1)) = 0 then (none) else (corbellaw03_XorPieces.l1 k x0 (Int.tmod (wrap64 ((wrap64 ((Int.tmod x1 (wrap64 (x5 + 1))) + x5)) + 1)) (wrap64 (x5 + 1))) x5 ([] : List ByteArray) ([] : List ByteArray) ([] : List ByteArray) 0))
def corbellaw03_XorPieces.l1 : Nat → List ByteArray → Int → Int → List ByteArray → List ByteArray → List ByteArray → Int → Option (Bool)
 | 0, _, _, _, _, _, _, _ => none
 | k + 1, x0, x1, x5, x7, x8, x9, x10 => if x10 < (x0.length : Int) then (if 0 ≤ x10 then (if 0 ≤ (wrap64 (x5 - ((rdOf ByteArray.empty x0 x10).size : Int))) then (if (wrap64 (x5 - ((rdOf ByteArray.empty x0 x10).size : Int)) : Int).toNat ≤ 281474976710656 then ((some (List.replicate (wrap64 (x5 - ((rdOf ByteArray.empty x0 x10).size : Int)) : Int).toNat 0 : List Int)).bind fun y213 => (if (rdOf ByteArray.empty x0 x10).size + (strOfNums y213).size ≤ 9223372036854775807 then ((some (([(rdOf ByteArray.empty x0 x10) ++ (strOfNums y213)] : List ByteArray) : List ByteArray)).bind fun y216 => (if x7.length + y216.length < 8796093022208 then (if 0 ≤ x1 then (if x1 ≤ (((rdOf ByteArray.empty x0 x10) ++ (strOfNums y213)).size : Int) then ((some (([((rdOf ByteArray.empty x0 x10) ++ (strOfNums y213)).extract 0 (x1 : Int).toNat] : List ByteArray) : List ByteArray)).bind fun y222 => (if x8.length + y222.length < 8796093022208 then ((some (([((rdOf ByteArray.empty x0 x10) ++ (strOfNums y213)).extract (x1 : Int).toNat ((rdOf ByteArray.empty x0 x10) ++ (strOfNums y213)).size] : List ByteArray) : List ByteArray)).bind fun y228 => (if x9.length + y228.length < 8796093022208 then (corbellaw03_XorPieces.l1 k x0 x1 x5 (x7 ++ y216) (x8 ++ y222) (x9 ++ y228) (wrap64 (x10 + 1))) else (none))) else (none))) else (none)) else (none)) else (none))) else (none))) else (none)) else (none)) else (none)) else ((xor_Fold.f k x7).bind fun t234 => ((xor_Fold.f k x8).bind fun t235 => ((xor_Fold.f k x9).bind fun t236 => (if t235.size + t236.size ≤ 9223372036854775807 then (some (t234.toList == (t235 ++ t236).toList)) else (none)))))
end
def corbellaw03_XorPieces.f (k : Nat) (l0 : List ByteArray) (a1 : Int) : Option (Bool) := (corbellaw03_speaks.f k).bind fun t208 => (if t208 = true then ((corbellaw03_much.f k l0).bind fun t209 => (if t209 = true then (corbellaw03_XorPieces.j0 k l0 a1 true) else (corbellaw03_XorPieces.j0 k l0 a1 ((l0.length : Int) == 0)))) else (some false))
theorem corbellaw03_XorPieces.mono_l : ∀ k, (∀ y0 y1 y2, LeO (corbellaw03_XorPieces.j0 k y0 y1 y2) (corbellaw03_XorPieces.j0 (k + 1) y0 y1 y2)) ∧ (∀ y0 y1 y2 y3, LeO (corbellaw03_XorPieces.l0 k y0 y1 y2 y3) (corbellaw03_XorPieces.l0 (k + 1) y0 y1 y2 y3)) ∧ (∀ y0 y1 y2 y3 y4 y5 y6, LeO (corbellaw03_XorPieces.l1 k y0 y1 y2 y3 y4 y5 y6) (corbellaw03_XorPieces.l1 (k + 1) y0 y1 y2 y3 y4 y5 y6))
 | 0 => ⟨fun _ _ _ r h => by simp [corbellaw03_XorPieces.j0] at h, fun _ _ _ _ r h => by simp [corbellaw03_XorPieces.l0] at h, fun _ _ _ _ _ _ _ r h => by simp [corbellaw03_XorPieces.l1] at h⟩
 | k + 1 => by
  obtain ⟨ih0, ih1, ih2⟩ := corbellaw03_XorPieces.mono_l k
  refine ⟨?_, ?_, ?_⟩
  ·intro y0 y1 y2
   unfold corbellaw03_XorPieces.j0
   repeat' first
   | (with_reducible exact ih0 _ _ _)
   | (with_reducible exact ih1 _ _ _ _)
   | (with_reducible exact ih2 _ _ _ _ _ _ _)
   | (with_reducible exact corbellaw03_much.mono _ _)
   | (with_reducible exact corbellaw03_speaks.mono _)
   | (with_reducible exact xor_Fold.mono _ _)
   | (with_reducible exact LeO.refl _)
   | (with_reducible exact LeO.none _)
   | (with_reducible refine LeO.ite ?_ ?_)
   | (with_reducible refine LeO.bind ?_ (fun _ => ?_))
   | exact ih0 _ _ _
   | exact ih1 _ _ _ _
   | exact ih2 _ _ _ _ _ _ _
   | exact corbellaw03_much.mono _ _
   | exact corbellaw03_speaks.mono _
   | exact xor_Fold.mono _ _
   | exact LeO.none _
   | refine LeO.ite ?_ ?_
   | refine LeO.bind ?_ (fun _ => ?_)
  ·intro y0 y1 y2 y3
   unfold corbellaw03_XorPieces.l0
   repeat' first
   | (with_reducible exact ih0 _ _ _)
   | (with_reducible exact ih1 _ _ _ _)
   | (with_reducible exact ih2 _ _ _ _ _ _ _)
   | (with_reducible exact corbellaw03_much.mono _ _)
   | (with_reducible exact corbellaw03_speaks.mono _)
   | (with_reducible exact xor_Fold.mono _ _)
   | (with_reducible exact LeO.refl _)
   | (with_reducible exact LeO.none _)
   | (with_reducible refine LeO.ite ?_ ?_)
   | (with_reducible refine LeO.bind ?_ (fun _ => ?_))
   | exact ih0 _ _ _
   | exact ih1 _ _ _ _
   | exact ih2 _ _ _ _ _ _ _
   | exact corbellaw03_much.mono _ _
   | exact corbellaw03_speaks.mono _
   | exact xor_Fold.mono _ _
   | exact LeO.none _
   | refine LeO.ite ?_ ?_
   | refine LeO.bind ?_ (fun _ => ?_)
  ·intro y0 y1 y2 y3 y4 y5 y6
   unfold corbellaw03_XorPieces.l1
   repeat' first
   | (with_reducible exact ih0 _ _ _)
   | (with_reducible exact ih1 _ _ _ _)
   | (with_reducible exact ih2 _ _ _ _ _ _ _)
   | (with_reducible exact corbellaw03_much.mono _ _)
   | (with_reducible exact corbellaw03_speaks.mono _)
   | (with_reducible exact xor_Fold.mono _ _)
   | (with_reducible exact LeO.refl _)
   | (with_reducible exact LeO.none _)
   | (with_reducible refine LeO.ite ?_ ?_)
   | (with_reducible refine LeO.bind ?_ (fun _ => ?_))
   | exact ih0 _ _ _
   | exact ih1 _ _ _ _
   | exact ih2 _ _ _ _ _ _ _
   | exact corbellaw03_much.mono _ _
   | exact corbellaw03_speaks.mono _
   | exact xor_Fold.mono _ _
   | exact LeO.none _
   | refine LeO.ite ?_ ?_
   | refine LeO.bind ?_ (fun _ => ?_)
theorem corbellaw03_XorPieces.mono : ∀ a0 a1 k, LeO (corbellaw03_XorPieces.f k a0 a1) (corbellaw03_XorPieces.f (k + 1) a0 a1) := by
 intro a0 a1 k
 obtain ⟨ih0, ih1, ih2⟩ := corbellaw03_XorPieces.mono_l k
 unfold corbellaw03_XorPieces.f
 repeat' first
   | (with_reducible exact ih0 _ _ _)
   | (with_reducible exact ih1 _ _ _ _)
   | (with_reducible exact ih2 _ _ _ _ _ _ _)
   | (with_reducible exact corbellaw03_much.mono _ _)
   | (with_reducible exact corbellaw03_speaks.mono _)
   | (with_reducible exact xor_Fold.mono _ _)
   | (with_reducible exact LeO.refl _)
   | (with_reducible exact LeO.none _)
   | (with_reducible refine LeO.ite ?_ ?_)
   | (with_reducible refine LeO.bind ?_ (fun _ => ?_))
   | exact ih0 _ _ _
   | exact ih1 _ _ _ _
   | exact ih2 _ _ _ _ _ _ _
   | exact corbellaw03_much.mono _ _
   | exact corbellaw03_speaks.mono _
   | exact xor_Fold.mono _ _
   | exact LeO.none _
   | refine LeO.ite ?_ ?_
   | refine LeO.bind ?_ (fun _ => ?_)
def corbellaw03_XorPieces.T15 : Bool × List (List Nat × List Nat) := (true, [([], []), ([], []), ([0, 1], [0, 1]), ([2], [2]), ([], []), ([], []), ([], []), ([5, 6], [5, 6]), ([7], [7]), ([8], [8]), ([4, 9], [4, 9]), ([10, 10], [10]), ([11], [11]), ([3, 12], [3, 12]), ([13, 0, 1, 2, 3, 4, 5, 6, 7, 8, 9, 10, 11, 12, 13], [13])])
def corbellaw03_XorPieces.B15 : List Nat := [0, 0, 3, 7, 0, 0, 0, 96, 224, 480, 1008, 2032, 4080, 8191, 16383]
theorem corbellaw03_XorPieces.tab15 : rtab .any (opsOf Tryd.f5 15) = corbellaw03_XorPieces.T15 := by kernel_rfl
theorem corbellaw03_XorPieces.bits15 : waitsOk corbellaw03_XorPieces.T15.2 corbellaw03_XorPieces.B15 = true := by kernel_rfl
def corbellaw03_XorPieces.T16 : Bool × List (List Nat × List Nat) := (true, [([], []), ([], []), ([1], [1]), ([0, 2], [0, 2]), ([], []), ([], []), ([], []), ([5, 6], [5, 6]), ([7], [7]), ([4, 8, 3], [4, 8]), ([], []), ([], []), ([], []), ([11, 12], [11, 12]), ([13], [13]), ([10, 14, 9], [10, 14]), ([3, 15, 0, 1, 2, 3], [0, 3]), ([9, 16, 0, 1, 2, 3, 4, 5, 6, 7, 8, 9, 16], [4, 9]), ([15, 17, 0, 1, 2, 3, 4, 5, 6, 7, 8, 9, 10, 11, 12, 13, 14, 15, 16, 17], [10, 15])])
def corbellaw03_XorPieces.B16 : List Nat := [0, 0, 2, 7, 0, 0, 0, 96, 224, 511, 0, 0, 0, 6144, 14336, 32767, 65535, 131071, 262143]
theorem corbellaw03_XorPieces.tab16 : rtab .any (opsOf Tryd.f5 16) = corbellaw03_XorPieces.T16 := by kernel_rfl
theorem corbellaw03_XorPieces.bits16 : waitsOk corbellaw03_XorPieces.T16.2 corbellaw03_XorPieces.B16 = true := by kernel_rfl
set_option maxHeartbeats 8000000 in
set_option maxRecDepth 100000 in
theorem corbellaw03_XorPieces.calls (k : Nat) (A0 : Option Addr) (c0 : Nat) (l0 : List ByteArray) (a1 : Int) (r : Bool) (w : World) (hr0 : Kd.C Kd.string w A0 l0.length l0) (hc0 : l0.length ≤ c0) (h : corbellaw03_XorPieces.f k l0 a1 = some r) :
  Calls Tryd.prog 5 #[.slice A0 l0.length c0, .int .i64 a1] w fun e w' => e = .returned (.bool r) ∧ Below w.heap.size w w' := by
 have HR0 := Aside0.mk hr0
 have HC0 := Aside0.mk hc0
 clear hr0 hc0
 have HB := Aside0.mk (Below.refl w.heap.size w)
 have H : ((corbellaw03_speaks.f k).bind fun t208 => (if t208 = true then ((corbellaw03_much.f k l0).bind fun t209 => (if t209 = true then (corbellaw03_XorPieces.j0 k l0 a1 true) else (corbellaw03_XorPieces.j0 k l0 a1 ((l0.length : Int) == 0)))) else (some false))) = some r := h
 clear h
 replace H := Option.bind_eq_some_iff.mp H
 obtain ⟨t208, A30, H⟩ := H
 replace H : (if t208 = true then ((corbellaw03_much.f k l0).bind fun t209 => (if t209 = true then (corbellaw03_XorPieces.j0 k l0 a1 true) else (corbellaw03_XorPieces.j0 k l0 a1 ((l0.length : Int) == 0)))) else (some false)) = some r := H
 have A3 := Aside0.mk A30
 clear A30
 by_cases c4 : t208 = true
 ·subst c4
  have H1 : ((corbellaw03_much.f k l0).bind fun t209 => (if t209 = true then (corbellaw03_XorPieces.j0 k l0 a1 true) else (corbellaw03_XorPieces.j0 k l0 a1 ((l0.length : Int) == 0)))) = some r := by rw [if_pos rfl] at H; exact H
  clear H
  have H := H1
  clear H1
  have HC5 := Aside0.mk H
  clear H
  go_enter Tryd.func5, Tryd.ntmps5
  go_upto_region 3 with (first | ((with_reducible refine gate_callee (f := 13) rfl ?_); refine goesL_ (some 12) rfl rfl Tryd.func13 (by kernel_rfl) rfl #[] rfl (by (try simp only [List.map_toArray, List.map_cons, List.map_nil]); first | done | rfl | (simp only [List.length_drop, List.length_take]; rfl)) ?_; (with_reducible refine (corbellaw03_speaks.calls k  true _ A3.out).mono ?_); rintro e w6 ⟨rfl, hb⟩; refine ⟨_, rfl, ?_⟩; have n0_ := Aside0.mk (below_step (by repeat (first | (with_reducible first | exact HB.out | apply below_alloc | apply pw_below_drewN | apply below_drew1) | exact HB.out)) hb); clear HB; have HB := n0_; clear n0_; (try clear hb); (try clear hb2); (try clear hk); (try clear hi)))
  (try simp only [Act.put, List.setIfInBounds_toArray, List.set_cons_zero, List.set_cons_succ])
  go_cut [20] (fun v20 wc => ∃ (kq : Nat) (x20_4 : Bool), v20 = .bool x20_4 ∧ Aside0 (corbellaw03_XorPieces.j0 kq l0 a1 x20_4 = some r) ∧ Aside0 (kq ≤ k) ∧ Aside0 (Below w.heap.size w wc))
  case first =>
   have H := HC5.out
   clear HC5
   replace H := Option.bind_eq_some_iff.mp H
   obtain ⟨t209, A70, H⟩ := H
   replace H : (if t209 = true then (corbellaw03_XorPieces.j0 k l0 a1 true) else (corbellaw03_XorPieces.j0 k l0 a1 ((l0.length : Int) == 0))) = some r := H
   have A7 := Aside0.mk A70
   clear A70
   by_cases c8 : t209 = true
   ·subst c8
    have H1 : (corbellaw03_XorPieces.j0 k l0 a1 true) = some r := by rw [if_pos rfl] at H; exact H
    clear H
    have H := H1
    clear H1
    have H' := Aside0.mk H
    clear H
    go_wp2_with (first | ((with_reducible refine gate_callee (f := 14) rfl ?_); refine goesL_ (some 15) rfl rfl Tryd.func14 (by kernel_rfl) rfl #[.slice A0 l0.length c0] rfl (by (try simp only [List.map_toArray, List.map_cons, List.map_nil]); first | done | rfl | (simp only [List.length_drop, List.length_take]; rfl)) ?_; (with_reducible refine (corbellaw03_much.calls k _ _ l0 true _ ?side1 ?side2 A7.out).mono ?_); (case side1 => repeat (first | exact (Kd.C_below HR0.out HB.out) | (with_reducible refine Kd.C_alloc ?_ _) | (with_reducible refine Kd.C_drewN ?_ _) | (with_reducible refine Kd.C_drew ?_))); (case side2 => exact HC0.out); rintro e w' ⟨rfl, ⟨nd, rfl⟩⟩; refine ⟨_, rfl, ?_⟩))
    go_meet
    case rel => exact ⟨_, (true), (by first | rfl | (simp; done) | (simp [*]; done)), H', ⟨by first | omega | exact Nat.le_refl _⟩, ⟨by repeat (first | (with_reducible first | exact HB.out | apply below_alloc | apply pw_below_drewN | apply below_drew1) | exact HB.out)⟩⟩
   ·replace c8 := Bool.eq_false_iff.mpr c8
    subst c8
    have H1 : (corbellaw03_XorPieces.j0 k l0 a1 ((l0.length : Int) == 0)) = some r := by rw [if_neg (show ¬ (false = true) by decide)] at H; exact H
    clear H
    have H := H1
    clear H1
    have H' := Aside0.mk H
    clear H
    go_wp2_with (first | ((with_reducible refine gate_callee (f := 14) rfl ?_); refine goesL_ (some 15) rfl rfl Tryd.func14 (by kernel_rfl) rfl #[.slice A0 l0.length c0] rfl (by (try simp only [List.map_toArray, List.map_cons, List.map_nil]); first | done | rfl | (simp only [List.length_drop, List.length_take]; rfl)) ?_; (with_reducible refine (corbellaw03_much.calls k _ _ l0 false _ ?side1 ?side2 A7.out).mono ?_); (case side1 => repeat (first | exact (Kd.C_below HR0.out HB.out) | (with_reducible refine Kd.C_alloc ?_ _) | (with_reducible refine Kd.C_drewN ?_ _) | (with_reducible refine Kd.C_drew ?_))); (case side2 => exact HC0.out); rintro e w' ⟨rfl, ⟨nd, rfl⟩⟩; refine ⟨_, rfl, ?_⟩))
    go_meet
    case rel => exact ⟨_, (((l0.length : Int) == 0)), (by first | rfl | (simp; done) | (simp [*]; done)), H', ⟨by first | omega | exact Nat.le_refl _⟩, ⟨by repeat (first | (with_reducible first | exact HB.out | apply below_alloc | apply pw_below_drewN | apply below_drew1) | exact HB.out)⟩⟩
  case rest =>
   clear HC5
   try clear c1
   try clear p2
   try clear c4
   try clear c5
   try clear c8
   obtain ⟨kq, x20_4, rfl, HA, HJ4, HB⟩ := hcut
   cases kq with
   | zero => exact absurd HA.out (by simp [corbellaw03_XorPieces.j0])
   | succ kj4 =>
    have H := HA.out
    clear HA
    simp only [corbellaw03_XorPieces.j0] at H
    by_cases c9 : x20_4 = true
    ·subst c9
     have H1 : (some true) = some r := by rw [if_pos rfl] at H; exact H
     clear H
     have H := H1
     clear H1
     obtain rfl := Option.some.inj H
     go_wp2
     go_ret
     exact ⟨by first | rfl | (simp [errW_none, errW_some] <;> rfl) | (simp [*, errW_none, errW_some] <;> rfl), by repeat (first | (with_reducible first | exact HB.out | apply below_alloc | apply pw_below_drewN | apply below_drew1) | exact HB.out)⟩
    ·replace c9 := Bool.eq_false_iff.mpr c9
     subst c9
     have H1 : (corbellaw03_XorPieces.l0 kj4 l0 a1 0 0) = some r := by rw [if_neg (show ¬ (false = true) by decide)] at H; exact H
     clear H
     have H := H1
     clear H1
     have H' := Aside0.mk H
     clear H
     go_wp2
     go_loopg [5, 6] kj4 (fun kq v5 v6 w' => ∃ (x5_2 : Int) (x6_2 : Int), v5 = .int .i64 x5_2 ∧ v6 = .int .i64 x6_2 ∧ Aside0 (corbellaw03_XorPieces.l0 kq l0 a1 x5_2 x6_2 = some r) ∧ Aside0 (kq ≤ kj4) ∧ Aside0 (Below w.heap.size w w'))
     case atStart => exact ⟨(0), (0), (by first | rfl | (simp; done) | (simp [*]; done)), (by first | rfl | (simp; done) | (simp [*]; done)), H', ⟨Nat.le_refl _⟩, ⟨by repeat (first | (with_reducible first | exact HB.out | apply below_alloc | apply pw_below_drewN | apply below_drew1) | exact HB.out)⟩⟩
     case round =>
      clear H'
      try clear c1
      try clear p2
      try clear c4
      try clear c5
      try clear c8
      try clear c9
      try clear p2
      obtain ⟨x5_2, x6_2, rfl, rfl, HA, HK2, HB⟩ := hrel
      cases gk with
      | zero => exact absurd HA.out (by simp [corbellaw03_XorPieces.l0])
      | succ k2 =>
       have H := HA.out
       clear HA
       simp only [corbellaw03_XorPieces.l0] at H
       by_cases c10 : x6_2 < (l0.length : Int)
       ·rw [if_pos c10] at H
        have c10b0 : decide (x6_2 < (l0.length : Int)) = true := decide_eq_true c10
        clear c10
        by_cases c11 : 0 ≤ x6_2
        ·rw [if_pos c11] at H
         have c11b0 : decide (0 ≤ x6_2) = true := decide_eq_true c11
         clear c11
         obtain ⟨ji12, hji12⟩ : ∃ j_ : Int, (mx x5_2 ((rdOf ByteArray.empty l0 x6_2).size : Int)) = j_ := ⟨_, rfl⟩
         replace H : (corbellaw03_XorPieces.l0 k2 l0 a1 ji12 (wrap64 (x6_2 + 1))) = some r := by first | (rw [hji12] at H; exact H) | (simp only [hji12] at H ⊢; exact H)
         have hji12_ : (if x5_2 < ((rdOf ByteArray.empty l0 x6_2).size : Int) then ((rdOf ByteArray.empty l0 x6_2).size : Int) else x5_2) = ji12 := hji12
         have H' := Aside0.mk H
         clear H
         have p210 : 0 ≤ (x6_2 : Int) := of_decide_eq_true (by first | (with_reducible assumption) | assumption)
         have q210 : x6_2 < (l0.length : Int) := of_decide_eq_true (by first | (with_reducible assumption) | assumption)
         obtain ⟨ad210, e210, hx210_0⟩ := Kd.at_string HR0.out x6_2 p210 q210
         cases e210
         replace hx210_0 := (HB.out.cell (World.block_lt_of_cell? w _ hx210_0)).trans hx210_0
         replace p210 := eq_true p210
         replace q210 := eq_true q210
         go_wp2
         (try subst hji16)
         (try subst hji21)
         go_roundg k2
         case measure => have := HJ4.out; have := HK2.out; omega
         case rel => exact ⟨(ji12), (wrap64 (x6_2 + 1)), (by first | rfl | (simp; done) | (simp only [← hji12] <;> (first | rfl | simp)) | (simp [*]; done)), (by first | rfl | (simp; done) | (simp [*]; done)), H', ⟨by have := HJ4.out; have := HK2.out; omega⟩, ⟨by repeat (first | (with_reducible first | exact HB.out | apply below_alloc | apply pw_below_drewN | apply below_drew1) | exact HB.out)⟩⟩
        ·rw [if_neg c11] at H
         exact absurd H (by simp)
       ·rw [if_neg c10] at H
        have c10b0 : decide (x6_2 < (l0.length : Int)) = false := decide_eq_false c10
        clear c10
        by_cases c13 : (wrap64 (x5_2 + 1)) = 0
        ·rw [if_pos c13] at H
         exact absurd H (by simp)
        ·rw [if_neg c13] at H
         have c13b0 : ((wrap64 (x5_2 + 1)) == 0) = false := beq_eq_false_iff_ne.mpr c13
         have c13b1 : ((wrap64 (x5_2 + 1)) != 0) = true := bne_iff_ne.mpr c13
         have H' := Aside0.mk H
         clear H
         go_wp2
         go_loopg [7, 8, 9, 10] k2 (fun kq v7 v8 v9 v10 w' => ∃ (x7_3 : List ByteArray) (x8_3 : List ByteArray) (x9_3 : List ByteArray) (x10_3 : Int), v10 = .int .i64 x10_3 ∧ Aside0 (corbellaw03_XorPieces.l1 kq l0 (Int.tmod (wrap64 ((wrap64 ((Int.tmod a1 (wrap64 (x5_2 + 1))) + x5_2)) + 1)) (wrap64 (x5_2 + 1))) x5_2 x7_3 x8_3 x9_3 x10_3 = some r) ∧ Aside0 (kq ≤ k2) ∧ Aside0 (Kd.R Kd.string 9 w' w.heap.size (fun k_ => some k_ ≠ (v8 : Value).ownBlock ∧ some k_ ≠ (v9 : Value).ownBlock) v7 x7_3) ∧ Aside0 (Kd.R Kd.string 9 w' w.heap.size (fun k_ => some k_ ≠ (v7 : Value).ownBlock ∧ some k_ ≠ (v9 : Value).ownBlock) v8 x8_3) ∧ Aside0 (Kd.R Kd.string 9 w' w.heap.size (fun k_ => some k_ ≠ (v7 : Value).ownBlock ∧ some k_ ≠ (v8 : Value).ownBlock) v9 x9_3) ∧ Aside0 (Below w.heap.size w w'))
         case atStart => exact ⟨(([] : List ByteArray)), (([] : List ByteArray)), (([] : List ByteArray)), (0), (by first | rfl | (simp; done) | (simp [*]; done)), H', ⟨Nat.le_refl _⟩, ⟨by first | exact Kd.R_nil _ _ _ _ _ | exact Kd.N_nil _ _ _ _ _ | exact Kd.V_nil _ _ _ _ _ | exact Kd.Q_nil _ _ _ _ _ | exact Kd.S_nil _ _ _ _ _⟩, ⟨by first | exact Kd.R_nil _ _ _ _ _ | exact Kd.N_nil _ _ _ _ _ | exact Kd.V_nil _ _ _ _ _ | exact Kd.Q_nil _ _ _ _ _ | exact Kd.S_nil _ _ _ _ _⟩, ⟨by first | exact Kd.R_nil _ _ _ _ _ | exact Kd.N_nil _ _ _ _ _ | exact Kd.V_nil _ _ _ _ _ | exact Kd.Q_nil _ _ _ _ _ | exact Kd.S_nil _ _ _ _ _⟩, ⟨by repeat (first | (with_reducible first | exact HB.out | apply below_alloc | apply pw_below_drewN | apply below_drew1) | exact HB.out)⟩⟩
         case round =>
          clear H'
          try clear c1
          try clear p2
          try clear q2
          try clear hx2
          try clear c4
          try clear c5
          try clear p6
          try clear c8
          try clear c9
          try clear c10
          try clear c10b0
          try clear c11
          try clear c11b0
          try clear c13
          try clear c13b0
          try clear c13b1
          try clear hx210_0
          try clear p2
          try clear p210
          try clear q210
          obtain ⟨x7_3, x8_3, x9_3, x10_3, rfl, HA, HK3, HO_7, HO_8, HO_9, HB⟩ := hrel
          cases gk with
          | zero => exact absurd HA.out (by simp [corbellaw03_XorPieces.l1])
          | succ k3 =>
           have H := HA.out
           clear HA
           simp only [corbellaw03_XorPieces.l1] at H
           by_cases c14 : x10_3 < (l0.length : Int)
           ·rw [if_pos c14] at H
            have c14b0 : decide (x10_3 < (l0.length : Int)) = true := decide_eq_true c14
            clear c14
            by_cases c15 : 0 ≤ x10_3
            ·rw [if_pos c15] at H
             have c15b0 : decide (0 ≤ x10_3) = true := decide_eq_true c15
             clear c15
             obtain ⟨ji16, hji16⟩ : ∃ j_ : Int, (wrap64 (x5_2 - ((rdOf ByteArray.empty l0 x10_3).size : Int))) = j_ := ⟨_, rfl⟩
             replace H : (if 0 ≤ (ji16) then (if (ji16 : Int).toNat ≤ 281474976710656 then ((some (List.replicate (ji16 : Int).toNat 0 : List Int)).bind fun y213 => (if (rdOf ByteArray.empty l0 x10_3).size + (strOfNums y213).size ≤ 9223372036854775807 then ((some (([(rdOf ByteArray.empty l0 x10_3) ++ (strOfNums y213)] : List ByteArray) : List ByteArray)).bind fun y216 => (if x7_3.length + y216.length < 8796093022208 then (if 0 ≤ (Int.tmod (wrap64 ((wrap64 ((Int.tmod a1 (wrap64 (x5_2 + 1))) + x5_2)) + 1)) (wrap64 (x5_2 + 1))) then (if (Int.tmod (wrap64 ((wrap64 ((Int.tmod a1 (wrap64 (x5_2 + 1))) + x5_2)) + 1)) (wrap64 (x5_2 + 1))) ≤ (((rdOf ByteArray.empty l0 x10_3) ++ (strOfNums y213)).size : Int) then ((some (([((rdOf ByteArray.empty l0 x10_3) ++ (strOfNums y213)).extract 0 ((Int.tmod (wrap64 ((wrap64 ((Int.tmod a1 (wrap64 (x5_2 + 1))) + x5_2)) + 1)) (wrap64 (x5_2 + 1))) : Int).toNat] : List ByteArray) : List ByteArray)).bind fun y222 => (if x8_3.length + y222.length < 8796093022208 then ((some (([((rdOf ByteArray.empty l0 x10_3) ++ (strOfNums y213)).extract ((Int.tmod (wrap64 ((wrap64 ((Int.tmod a1 (wrap64 (x5_2 + 1))) + x5_2)) + 1)) (wrap64 (x5_2 + 1))) : Int).toNat ((rdOf ByteArray.empty l0 x10_3) ++ (strOfNums y213)).size] : List ByteArray) : List ByteArray)).bind fun y228 => (if x9_3.length + y228.length < 8796093022208 then (corbellaw03_XorPieces.l1 k3 l0 (Int.tmod (wrap64 ((wrap64 ((Int.tmod a1 (wrap64 (x5_2 + 1))) + x5_2)) + 1)) (wrap64 (x5_2 + 1))) x5_2 (x7_3 ++ y216) (x8_3 ++ y222) (x9_3 ++ y228) (wrap64 (x10_3 + 1))) else (none))) else (none))) else (none)) else (none)) else (none))) else (none))) else (none)) else (none)) = some r := by first | (rw [hji16] at H; exact H) | (simp only [hji16] at H ⊢; exact H)
             have hji16w : (IntKind.i64.wrap (x5_2 - ((rdOf ByteArray.empty l0 x10_3).size : Int))) = ji16 := (i64_w _).trans hji16
             by_cases c17 : 0 ≤ (ji16)
             ·rw [if_pos c17] at H
              have c17b0 := eq_true c17
              have c17b1 : decide (0 ≤ (ji16)) = true := decide_eq_true c17
              clear c17
              by_cases c18 : (ji16 : Int).toNat ≤ 281474976710656
              ·rw [if_pos c18] at H
               have c18b0 := eq_true c18
               have c18b1 : decide ((ji16 : Int).toNat ≤ 281474976710656) = true := decide_eq_true c18
               clear c18
               obtain ⟨y213, hy213⟩ : ∃ y_ : List Int, y_ = (List.replicate (ji16 : Int).toNat 0) := ⟨_, rfl⟩
               replace H : (if (rdOf ByteArray.empty l0 x10_3).size + (strOfNums y213).size ≤ 9223372036854775807 then ((some (([(rdOf ByteArray.empty l0 x10_3) ++ (strOfNums y213)] : List ByteArray) : List ByteArray)).bind fun y216 => (if x7_3.length + y216.length < 8796093022208 then (if 0 ≤ (Int.tmod (wrap64 ((wrap64 ((Int.tmod a1 (wrap64 (x5_2 + 1))) + x5_2)) + 1)) (wrap64 (x5_2 + 1))) then (if (Int.tmod (wrap64 ((wrap64 ((Int.tmod a1 (wrap64 (x5_2 + 1))) + x5_2)) + 1)) (wrap64 (x5_2 + 1))) ≤ (((rdOf ByteArray.empty l0 x10_3) ++ (strOfNums y213)).size : Int) then ((some (([((rdOf ByteArray.empty l0 x10_3) ++ (strOfNums y213)).extract 0 ((Int.tmod (wrap64 ((wrap64 ((Int.tmod a1 (wrap64 (x5_2 + 1))) + x5_2)) + 1)) (wrap64 (x5_2 + 1))) : Int).toNat] : List ByteArray) : List ByteArray)).bind fun y222 => (if x8_3.length + y222.length < 8796093022208 then ((some (([((rdOf ByteArray.empty l0 x10_3) ++ (strOfNums y213)).extract ((Int.tmod (wrap64 ((wrap64 ((Int.tmod a1 (wrap64 (x5_2 + 1))) + x5_2)) + 1)) (wrap64 (x5_2 + 1))) : Int).toNat ((rdOf ByteArray.empty l0 x10_3) ++ (strOfNums y213)).size] : List ByteArray) : List ByteArray)).bind fun y228 => (if x9_3.length + y228.length < 8796093022208 then (corbellaw03_XorPieces.l1 k3 l0 (Int.tmod (wrap64 ((wrap64 ((Int.tmod a1 (wrap64 (x5_2 + 1))) + x5_2)) + 1)) (wrap64 (x5_2 + 1))) x5_2 (x7_3 ++ y216) (x8_3 ++ y222) (x9_3 ++ y228) (wrap64 (x10_3 + 1))) else (none))) else (none))) else (none)) else (none)) else (none))) else (none)) = some r := by first | (rw [hy213]; with_reducible exact H) | (have H2_ := (Option.bind_some _ _).symm.trans H; rw [hy213]; with_reducible exact H2_) | (have H2_ := (Option.bind_some _ _).symm.trans H; with_reducible exact H2_) | with_reducible exact H | (rw [hy213]; exact H) | exact H
               have Ny213 := Aside0.mk hy213
               clear hy213
               by_cases c19 : (rdOf ByteArray.empty l0 x10_3).size + (strOfNums y213).size ≤ 9223372036854775807
               ·rw [if_pos c19] at H
                have c19b0 := eq_true c19
                have c19b1 : decide ((rdOf ByteArray.empty l0 x10_3).size + (strOfNums y213).size ≤ 9223372036854775807) = true := decide_eq_true c19
                try have c19b2 : (9223372036854775807 < (rdOf ByteArray.empty l0 x10_3).size + (strOfNums y213).size) = False := eq_false (Nat.not_lt.2 c19)
                obtain ⟨y216, hy216⟩ : ∃ y_ : List ByteArray, y_ = (([(rdOf ByteArray.empty l0 x10_3) ++ (strOfNums y213)] : List ByteArray)) := ⟨_, rfl⟩
                replace H : (if x7_3.length + y216.length < 8796093022208 then (if 0 ≤ (Int.tmod (wrap64 ((wrap64 ((Int.tmod a1 (wrap64 (x5_2 + 1))) + x5_2)) + 1)) (wrap64 (x5_2 + 1))) then (if (Int.tmod (wrap64 ((wrap64 ((Int.tmod a1 (wrap64 (x5_2 + 1))) + x5_2)) + 1)) (wrap64 (x5_2 + 1))) ≤ (((rdOf ByteArray.empty l0 x10_3) ++ (strOfNums y213)).size : Int) then ((some (([((rdOf ByteArray.empty l0 x10_3) ++ (strOfNums y213)).extract 0 ((Int.tmod (wrap64 ((wrap64 ((Int.tmod a1 (wrap64 (x5_2 + 1))) + x5_2)) + 1)) (wrap64 (x5_2 + 1))) : Int).toNat] : List ByteArray) : List ByteArray)).bind fun y222 => (if x8_3.length + y222.length < 8796093022208 then ((some (([((rdOf ByteArray.empty l0 x10_3) ++ (strOfNums y213)).extract ((Int.tmod (wrap64 ((wrap64 ((Int.tmod a1 (wrap64 (x5_2 + 1))) + x5_2)) + 1)) (wrap64 (x5_2 + 1))) : Int).toNat ((rdOf ByteArray.empty l0 x10_3) ++ (strOfNums y213)).size] : List ByteArray) : List ByteArray)).bind fun y228 => (if x9_3.length + y228.length < 8796093022208 then (corbellaw03_XorPieces.l1 k3 l0 (Int.tmod (wrap64 ((wrap64 ((Int.tmod a1 (wrap64 (x5_2 + 1))) + x5_2)) + 1)) (wrap64 (x5_2 + 1))) x5_2 (x7_3 ++ y216) (x8_3 ++ y222) (x9_3 ++ y228) (wrap64 (x10_3 + 1))) else (none))) else (none))) else (none)) else (none)) else (none)) = some r := by first | (rw [hy216]; with_reducible exact H) | (have H2_ := (Option.bind_some _ _).symm.trans H; rw [hy216]; with_reducible exact H2_) | (have H2_ := (Option.bind_some _ _).symm.trans H; with_reducible exact H2_) | with_reducible exact H | (rw [hy216]; exact H) | exact H
                have Ny216 := Aside0.mk hy216
                clear hy216
                by_cases c20 : x7_3.length + y216.length < 8796093022208
                ·rw [if_pos c20] at H
                 have LMc20 := Aside0.mk c20
                 clear c20
                 obtain ⟨y219, hy219⟩ : ∃ y_ : List ByteArray, y_ = (x7_3 ++ y216) := ⟨_, rfl⟩
                 replace H : (if 0 ≤ (Int.tmod (wrap64 ((wrap64 ((Int.tmod a1 (wrap64 (x5_2 + 1))) + x5_2)) + 1)) (wrap64 (x5_2 + 1))) then (if (Int.tmod (wrap64 ((wrap64 ((Int.tmod a1 (wrap64 (x5_2 + 1))) + x5_2)) + 1)) (wrap64 (x5_2 + 1))) ≤ (((rdOf ByteArray.empty l0 x10_3) ++ (strOfNums y213)).size : Int) then ((some (([((rdOf ByteArray.empty l0 x10_3) ++ (strOfNums y213)).extract 0 ((Int.tmod (wrap64 ((wrap64 ((Int.tmod a1 (wrap64 (x5_2 + 1))) + x5_2)) + 1)) (wrap64 (x5_2 + 1))) : Int).toNat] : List ByteArray) : List ByteArray)).bind fun y222 => (if x8_3.length + y222.length < 8796093022208 then ((some (([((rdOf ByteArray.empty l0 x10_3) ++ (strOfNums y213)).extract ((Int.tmod (wrap64 ((wrap64 ((Int.tmod a1 (wrap64 (x5_2 + 1))) + x5_2)) + 1)) (wrap64 (x5_2 + 1))) : Int).toNat ((rdOf ByteArray.empty l0 x10_3) ++ (strOfNums y213)).size] : List ByteArray) : List ByteArray)).bind fun y228 => (if x9_3.length + y228.length < 8796093022208 then (corbellaw03_XorPieces.l1 k3 l0 (Int.tmod (wrap64 ((wrap64 ((Int.tmod a1 (wrap64 (x5_2 + 1))) + x5_2)) + 1)) (wrap64 (x5_2 + 1))) x5_2 y219 (x8_3 ++ y222) (x9_3 ++ y228) (wrap64 (x10_3 + 1))) else (none))) else (none))) else (none)) else (none)) = some r := by first | (rw [hy219]; with_reducible exact H) | (have H2_ := (Option.bind_some _ _).symm.trans H; rw [hy219]; with_reducible exact H2_) | (have H2_ := (Option.bind_some _ _).symm.trans H; with_reducible exact H2_) | with_reducible exact H | (rw [hy219]; exact H) | exact H
                 have Ny219 := Aside0.mk hy219
                 clear hy219
                 obtain ⟨ji21, hji21⟩ : ∃ j_ : Int, (Int.tmod (wrap64 ((wrap64 ((Int.tmod a1 (wrap64 (x5_2 + 1))) + x5_2)) + 1)) (wrap64 (x5_2 + 1))) = j_ := ⟨_, rfl⟩
                 replace H : (if 0 ≤ (ji21) then (if (ji21) ≤ (((rdOf ByteArray.empty l0 x10_3) ++ (strOfNums y213)).size : Int) then ((some (([((rdOf ByteArray.empty l0 x10_3) ++ (strOfNums y213)).extract 0 ((ji21) : Int).toNat] : List ByteArray) : List ByteArray)).bind fun y222 => (if x8_3.length + y222.length < 8796093022208 then ((some (([((rdOf ByteArray.empty l0 x10_3) ++ (strOfNums y213)).extract ((ji21) : Int).toNat ((rdOf ByteArray.empty l0 x10_3) ++ (strOfNums y213)).size] : List ByteArray) : List ByteArray)).bind fun y228 => (if x9_3.length + y228.length < 8796093022208 then (corbellaw03_XorPieces.l1 k3 l0 (ji21) x5_2 y219 (x8_3 ++ y222) (x9_3 ++ y228) (wrap64 (x10_3 + 1))) else (none))) else (none))) else (none)) else (none)) = some r := by first | (rw [hji21] at H; exact H) | (simp only [hji21] at H ⊢; exact H)
                 by_cases c22 : 0 ≤ (ji21)
                 ·rw [if_pos c22] at H
                  have c22b0 := eq_true c22
                  have c22b1 : decide (0 ≤ (ji21)) = true := decide_eq_true c22
                  clear c22
                  by_cases c23 : (ji21) ≤ (((rdOf ByteArray.empty l0 x10_3) ++ (strOfNums y213)).size : Int)
                  ·rw [if_pos c23] at H
                   have c23b0 := eq_true c23
                   have c23b1 : decide ((ji21) ≤ (((rdOf ByteArray.empty l0 x10_3) ++ (strOfNums y213)).size : Int)) = true := decide_eq_true c23
                   have c23b2 : (ji21) ≤ ((rdOf ByteArray.empty l0 x10_3).size : Int) + ((strOfNums y213).size : Int) := by have h_ := c23; rw [ByteArray.size_append] at h_; omega
                   obtain ⟨y222, hy222⟩ : ∃ y_ : List ByteArray, y_ = (([((rdOf ByteArray.empty l0 x10_3) ++ (strOfNums y213)).extract 0 ((ji21) : Int).toNat] : List ByteArray)) := ⟨_, rfl⟩
                   replace H : (if x8_3.length + y222.length < 8796093022208 then ((some (([((rdOf ByteArray.empty l0 x10_3) ++ (strOfNums y213)).extract ((ji21) : Int).toNat ((rdOf ByteArray.empty l0 x10_3) ++ (strOfNums y213)).size] : List ByteArray) : List ByteArray)).bind fun y228 => (if x9_3.length + y228.length < 8796093022208 then (corbellaw03_XorPieces.l1 k3 l0 (ji21) x5_2 y219 (x8_3 ++ y222) (x9_3 ++ y228) (wrap64 (x10_3 + 1))) else (none))) else (none)) = some r := by first | (rw [hy222]; with_reducible exact H) | (have H2_ := (Option.bind_some _ _).symm.trans H; rw [hy222]; with_reducible exact H2_) | (have H2_ := (Option.bind_some _ _).symm.trans H; with_reducible exact H2_) | with_reducible exact H | (rw [hy222]; exact H) | exact H
                   have Ny222 := Aside0.mk hy222
                   clear hy222
                   by_cases c24 : x8_3.length + y222.length < 8796093022208
                   ·rw [if_pos c24] at H
                    have LMc24 := Aside0.mk c24
                    clear c24
                    obtain ⟨y225, hy225⟩ : ∃ y_ : List ByteArray, y_ = (x8_3 ++ y222) := ⟨_, rfl⟩
                    replace H : ((some (([((rdOf ByteArray.empty l0 x10_3) ++ (strOfNums y213)).extract ((ji21) : Int).toNat ((rdOf ByteArray.empty l0 x10_3) ++ (strOfNums y213)).size] : List ByteArray) : List ByteArray)).bind fun y228 => (if x9_3.length + y228.length < 8796093022208 then (corbellaw03_XorPieces.l1 k3 l0 (ji21) x5_2 y219 y225 (x9_3 ++ y228) (wrap64 (x10_3 + 1))) else (none))) = some r := by first | (rw [hy225]; with_reducible exact H) | (have H2_ := (Option.bind_some _ _).symm.trans H; rw [hy225]; with_reducible exact H2_) | (have H2_ := (Option.bind_some _ _).symm.trans H; with_reducible exact H2_) | with_reducible exact H | (rw [hy225]; exact H) | exact H
                    have Ny225 := Aside0.mk hy225
                    clear hy225
                    have c25b0 := eq_true (of_decide_eq_true (by first | (with_reducible assumption) | assumption) : 0 ≤ (ji21))
                    have c26b0 := eq_true (of_decide_eq_true (by first | (with_reducible assumption) | assumption) : (ji21) ≤ (((rdOf ByteArray.empty l0 x10_3) ++ (strOfNums y213)).size : Int))
                    obtain ⟨y228, hy228⟩ : ∃ y_ : List ByteArray, y_ = (([((rdOf ByteArray.empty l0 x10_3) ++ (strOfNums y213)).extract ((ji21) : Int).toNat ((rdOf ByteArray.empty l0 x10_3) ++ (strOfNums y213)).size] : List ByteArray)) := ⟨_, rfl⟩
                    replace H : (if x9_3.length + y228.length < 8796093022208 then (corbellaw03_XorPieces.l1 k3 l0 (ji21) x5_2 y219 y225 (x9_3 ++ y228) (wrap64 (x10_3 + 1))) else (none)) = some r := by first | (rw [hy228]; with_reducible exact H) | (have H2_ := (Option.bind_some _ _).symm.trans H; rw [hy228]; with_reducible exact H2_) | (have H2_ := (Option.bind_some _ _).symm.trans H; with_reducible exact H2_) | with_reducible exact H | (rw [hy228]; exact H) | exact H
                    have Ny228 := Aside0.mk hy228
                    clear hy228
                    by_cases c27 : x9_3.length + y228.length < 8796093022208
                    ·rw [if_pos c27] at H
                     have LMc27 := Aside0.mk c27
                     clear c27
                     obtain ⟨y231, hy231⟩ : ∃ y_ : List ByteArray, y_ = (x9_3 ++ y228) := ⟨_, rfl⟩
                     replace H : (corbellaw03_XorPieces.l1 k3 l0 (ji21) x5_2 y219 y225 y231 (wrap64 (x10_3 + 1))) = some r := by first | (rw [hy231]; with_reducible exact H) | (have H2_ := (Option.bind_some _ _).symm.trans H; rw [hy231]; with_reducible exact H2_) | (have H2_ := (Option.bind_some _ _).symm.trans H; with_reducible exact H2_) | with_reducible exact H | (rw [hy231]; exact H) | exact H
                     have Ny231 := Aside0.mk hy231
                     clear hy231
                     have H' := Aside0.mk H
                     clear H
                     try go_wp2
                     have n0_ := Aside0.mk (Kd.R_drew HO_7.out)
                     have n1_ := Aside0.mk (Kd.R_drew HO_8.out)
                     have n2_ := Aside0.mk (Kd.R_drew HO_9.out)
                     have n3_ := Aside0.mk (below_drew1 HB.out)
                     (try clear HO_7)
                     (try clear HO_8)
                     (try clear HO_9)
                     clear HB
                     have HO_7 := n0_
                     have HO_8 := n1_
                     have HO_9 := n2_
                     have HB := n3_
                     clear n0_ n1_ n2_ n3_
                     have p211 : 0 ≤ (x10_3 : Int) := of_decide_eq_true (by first | (with_reducible assumption) | assumption)
                     have q211 : x10_3 < (l0.length : Int) := of_decide_eq_true (by first | (with_reducible assumption) | assumption)
                     obtain ⟨ad211, e211, hx211_0⟩ := Kd.at_string HR0.out x10_3 p211 q211
                     have hw211_0 := hx211_0
                     cases e211
                     replace hx211_0 := (HB.out.cell (World.block_lt_of_cell? w _ hx211_0)).trans hx211_0
                     replace p211 := eq_true p211
                     replace q211 := eq_true q211
                     have p212 : 0 ≤ (x10_3 : Int) := of_decide_eq_true (by first | (with_reducible assumption) | assumption)
                     have q212 : x10_3 < (l0.length : Int) := of_decide_eq_true (by first | (with_reducible assumption) | assumption)
                     obtain ⟨ad212, e212, hx212_0⟩ := Kd.at_string HR0.out x10_3 p212 q212
                     have hw212_0 := hx212_0
                     obtain rfl : ad211 = ad212 := (by injection e212)
                     replace hx212_0 := (HB.out.cell (World.block_lt_of_cell? w _ hx212_0)).trans hx212_0
                     replace p212 := eq_true p212
                     replace q212 := eq_true q212
                     refine start_ (n := 15) (S := fun w' => w'.cell? (ad211.add (x10_3).toNat) = some (.string (rdOf ByteArray.empty l0 x10_3)) ∧ w'.cell? (ad211.add (x10_3).toNat) = some (.string (rdOf ByteArray.empty l0 x10_3))) (ds := []) #[false, false, false, false, false, false, false, false, false, false, false, false, false, false, false] (by kernel_rfl) rfl rfl ⟨((HB.out.cell (World.block_lt_of_cell? w _ hw211_0)).trans hw211_0), ((HB.out.cell (World.block_lt_of_cell? w _ hw212_0)).trans hw212_0)⟩ (fun hHeld => ?_); refine with_tabW corbellaw03_XorPieces.tab15 corbellaw03_XorPieces.bits15 (fun HT_ HW_ => ?_)
                     generalize wr.drew = w28 at HO_7 HO_8 HO_9 HB hx211_0 hx212_0 hHeld ⊢
                     refine pure_ (i := 0) (N := some 50) (v := ?_) (a' := ?_) #[true, false, false, false, false, false, false, false, false, false, false, false, false, false, false] rfl rfl (any_of HT_.out (by kernel_rfl)) (fun _ _ _ h => h) (Or.inl ⟨by rfl, ?_⟩) ?_ ?_
                     rotate_left
                     ·intro w'
                      go_simp
                      with_reducible rfl
                     rotate_left
                     ·simp only [Act.put, List.setIfInBounds_toArray, List.set_cons_zero, List.set_cons_succ, i64_w, i32_w]
                      rfl
                     refine pure_ (i := 1) (N := some 51) (v := ?_) (a' := ?_) #[true, true, false, false, false, false, false, false, false, false, false, false, false, false, false] rfl rfl (any_of HT_.out (by kernel_rfl)) (fun _ _ _ h => h) (Or.inl ⟨by rfl, ?_⟩) ?_ ?_
                     rotate_left
                     ·intro w'
                      go_simp
                      with_reducible rfl
                     rotate_left
                     ·simp only [Act.put, List.setIfInBounds_toArray, List.set_cons_zero, List.set_cons_succ, i64_w, i32_w]
                      rfl
                     refine pure_ (i := 2) (N := some 52) (v := ?_) (a' := ?_) #[true, true, true, false, false, false, false, false, false, false, false, false, false, false, false] rfl rfl (any_of HT_.out (by kernel_rfl)) (fun _ _ _ h => h) (Or.inl ⟨by rfl, ?_⟩) ?_ ?_
                     rotate_left
                     ·intro w'
                      go_simp
                      with_reducible rfl
                     rotate_left
                     ·simp only [Act.put, List.setIfInBounds_toArray, List.set_cons_zero, List.set_cons_succ, i64_w, i32_w]
                      rfl
                     refine pure_ (i := 4) (N := some 54) (v := ?_) (a' := ?_) #[true, true, true, false, true, false, false, false, false, false, false, false, false, false, false] rfl rfl (any_of HT_.out (by kernel_rfl)) (fun _ _ _ h => h) (Or.inl ⟨by rfl, ?_⟩) ?_ ?_
                     rotate_left
                     ·intro w'
                      go_simp
                      with_reducible rfl
                     rotate_left
                     ·simp only [Act.put, List.setIfInBounds_toArray, List.set_cons_zero, List.set_cons_succ, i64_w, i32_w]
                      rfl
                     refine pure_ (i := 5) (N := some 55) (v := ?_) (a' := ?_) #[true, true, true, false, true, true, false, false, false, false, false, false, false, false, false] rfl rfl (any_of HT_.out (by kernel_rfl)) (fun _ _ _ h => h) (Or.inl ⟨by rfl, ?_⟩) ?_ ?_
                     rotate_left
                     ·intro w'
                      go_simp
                      with_reducible rfl
                     rotate_left
                     ·simp only [Act.put, List.setIfInBounds_toArray, List.set_cons_zero, List.set_cons_succ, i64_w, i32_w]
                      rfl
                     refine pure_ (i := 6) (N := some 56) (v := ?_) (a' := ?_) #[true, true, true, false, true, true, true, false, false, false, false, false, false, false, false] rfl rfl (any_of HT_.out (by kernel_rfl)) (fun _ _ _ h => h) (Or.inl ⟨by rfl, ?_⟩) ?_ ?_
                     rotate_left
                     ·intro w'
                      go_simp
                      with_reducible rfl
                     rotate_left
                     ·simp only [Act.put, List.setIfInBounds_toArray, List.set_cons_zero, List.set_cons_succ, i64_w, i32_w]
                      rfl
                     refine pure_ (i := 7) (N := some 57) (v := ?_) (a' := ?_) #[true, true, true, false, true, true, true, true, false, false, false, false, false, false, false] rfl rfl (any_of HT_.out (by kernel_rfl)) (fun _ _ _ h => h) (Or.inl ⟨by rfl, ?_⟩) ?_ ?_
                     rotate_left
                     ·intro w'
                      go_simp
                      with_reducible rfl
                     rotate_left
                     ·simp only [Act.put, List.setIfInBounds_toArray, List.set_cons_zero, List.set_cons_succ, i64_w, i32_w]
                      rfl
                     refine take_ (i := 3) (N := some 53) (v := ?_) (a' := ?_) #[true, true, true, true, true, true, true, true, false, false, false, false, false, false, false] rfl rfl (take_ofW HT_.out HW_.out (by kernel_rfl)) (fun _ _ _ h => h) (Or.inl ⟨by rfl, ?_⟩) hHeld ?_ ?_
                     rotate_left
                     ·rintro w' ⟨s0, s1⟩
                      go_simp
                      with_reducible rfl
                     rotate_left
                     ·simp only [Act.put, List.setIfInBounds_toArray, List.set_cons_zero, List.set_cons_succ, i64_w, i32_w]
                      rfl
                     refine take_ (i := 8) (N := some 58) (v := ?_) (a' := ?_) #[true, true, true, true, true, true, true, true, true, false, false, false, false, false, false] rfl rfl (take_ofW HT_.out HW_.out (by kernel_rfl)) (fun _ _ _ h => h) (Or.inl ⟨by rfl, ?_⟩) hHeld ?_ ?_
                     rotate_left
                     ·rintro w' ⟨s0, s1⟩
                      go_simp
                      with_reducible rfl
                     rotate_left
                     ·simp only [Act.put, List.setIfInBounds_toArray, List.set_cons_zero, List.set_cons_succ, i64_w, i32_w]
                      rfl
                     refine pure_ (i := 9) (N := some 59) (v := ?_) (a' := ?_) #[true, true, true, true, true, true, true, true, true, true, false, false, false, false, false] rfl rfl (any_of HT_.out (by kernel_rfl)) (fun _ _ _ h => h) (Or.inl ⟨by rfl, ?_⟩) ?_ ?_
                     rotate_left
                     ·intro w'
                      go_simp
                      with_reducible rfl
                     rotate_left
                     ·simp only [Act.put, List.setIfInBounds_toArray, List.set_cons_zero, List.set_cons_succ, i64_w, i32_w]
                      rfl
                     refine pure_ (i := 10) (N := some 60) (v := ?_) (a' := ?_) #[true, true, true, true, true, true, true, true, true, true, true, false, false, false, false] rfl rfl (any_of HT_.out (by kernel_rfl)) (fun _ _ _ h => h) (Or.inl ⟨by rfl, ?_⟩) ?_ ?_
                     rotate_left
                     ·intro w'
                      go_simp
                      with_reducible rfl
                     rotate_left
                     ·simp only [Act.put, List.setIfInBounds_toArray, List.set_cons_zero, List.set_cons_succ, i64_w, i32_w]
                      rfl
                     refine one_ (i := 11) (N := some 61) #[true, true, true, true, true, true, true, true, true, true, true, true, false, false, false] rfl rfl (one_of HT_.out (by kernel_rfl)) (by decide) (fun K hK => ?_)
                     refine Kd.R_make_step (Kd.int .u8) _ 5 (by rfl) (N := 61) rfl 30 _ _ rfl ji16 rfl rfl Tryd.underlying30 (.int .u8 0) 1 info5 rfl (by decide) (by omega) 0 (ok := fun _ => True) (okp := fun _ => True) rfl (fun _ hk => hk) trivial (of_decide_eq_true (by first | (with_reducible assumption) | assumption)) (Nat.le_trans (Nat.mul_le_mul_right _ (of_decide_eq_true (by first | (with_reducible assumption) | assumption) : ji16.toNat ≤ 281474976710656)) (by omega)) (Below.refl _ _) (Nat.le_refl _) ?_
                     intro v214 w29 ho30 hb hg_ hnew_
                     clear hg_ hnew_
                     (first | rw [← Ny213.out] at ho30 | (simp only [Int.reduceToNat] at ho30; rw [← Ny213.out] at ho30))
                     have n0_ := Aside0.mk (Kd.R_below (by (with_reducible repeat (first | apply Kd.R_alloc | apply Kd.R_drewN | apply Kd.R_drew)); exact HO_7.out) hb)
                     have n1_ := Aside0.mk (Kd.R_below (by (with_reducible repeat (first | apply Kd.R_alloc | apply Kd.R_drewN | apply Kd.R_drew)); exact HO_8.out) hb)
                     have n2_ := Aside0.mk (Kd.R_below (by (with_reducible repeat (first | apply Kd.R_alloc | apply Kd.R_drewN | apply Kd.R_drew)); exact HO_9.out) hb)
                     have n3_ := Aside0.mk (Kd.R_lower ho30 (below_size (by repeat (first | (with_reducible first | exact HB.out | apply below_alloc | apply pw_below_drewN | apply below_drew1) | exact HB.out))))
                     have n4_ := Aside0.mk (below_step (by repeat (first | (with_reducible first | exact HB.out | apply below_alloc | apply pw_below_drewN | apply below_drew1) | exact HB.out)) hb)
                     (try clear HO_7)
                     (try clear HO_8)
                     (try clear HO_9)
                     clear HB
                     have HO_7 := n0_
                     have HO_8 := n1_
                     have HO_9 := n2_
                     have HO215 := n3_
                     have HB := n4_
                     clear n0_ n1_ n2_ n3_ n4_
                     clear hb ho30
                     refine hK.out _ _ ⟨((HB.out.cell (World.block_lt_of_cell? w _ hw211_0)).trans hw211_0), ((HB.out.cell (World.block_lt_of_cell? w _ hw212_0)).trans hw212_0)⟩ (fun hHeld => ?_)
                     clear hK K
                     refine norm_ (a' := ?_) ?_ ?_
                     rotate_left
                     ·show Act.put _ (some 61) _ = _
                      simp only [Act.put, List.setIfInBounds_toArray, List.set_cons_zero, List.set_cons_succ, i64_w, i32_w]
                      rfl
                     refine one_ (i := 12) (N := some 62) #[true, true, true, true, true, true, true, true, true, true, true, true, true, false, false] rfl rfl (one_of HT_.out (by kernel_rfl)) (by decide) (fun K hK => ?_)
                     have hcv31 := own_string (P := Tryd.prog) Tryd.underlying30 Tryd.underlying5 Tryd.underlying9 (Kd.own_of_R HO215.out)
                     refine value_ (w1 := ?_) (v := ?_) (by rfl) rfl ?_ ?_
                     rotate_left 2
                     ·go_simp
                      constructor
                      ·rfl
                      ·rfl
                     clear hcv31
                     refine hK.out _ _ ⟨((HB.out.cell (World.block_lt_of_cell? w _ hw211_0)).trans hw211_0), ((HB.out.cell (World.block_lt_of_cell? w _ hw212_0)).trans hw212_0)⟩ (fun hHeld => ?_)
                     clear hK K
                     refine norm_ (a' := ?_) ?_ ?_
                     rotate_left
                     ·show Act.put _ (some 62) _ = _
                      simp only [Act.put, List.setIfInBounds_toArray, List.set_cons_zero, List.set_cons_succ, i64_w, i32_w]
                      rfl
                     refine pure_ (i := 13) (N := some 63) (v := ?_) (a' := ?_) #[true, true, true, true, true, true, true, true, true, true, true, true, true, true, false] rfl rfl (any_of HT_.out (by kernel_rfl)) (fun _ _ _ h => h) (Or.inl ⟨by rfl, ?_⟩) ?_ ?_
                     rotate_left
                     ·intro w'
                      go_simp
                      with_reducible rfl
                     rotate_left
                     ·simp only [Act.put, List.setIfInBounds_toArray, List.set_cons_zero, List.set_cons_succ, i64_w, i32_w]
                      rfl
                     refine pure_ (i := 14) (N := some 11) (v := ?_) (a' := ?_) #[true, true, true, true, true, true, true, true, true, true, true, true, true, true, true] rfl rfl (any_of HT_.out (by kernel_rfl)) (fun _ _ _ h => h) (Or.inl ⟨by rfl, ?_⟩) ?_ ?_
                     rotate_left
                     ·intro w'
                      go_simp
                      with_reducible rfl
                     rotate_left
                     ·simp only [Act.put, List.setIfInBounds_toArray, List.set_cons_zero, List.set_cons_succ, i64_w, i32_w]
                      rfl
                     refine done_ (done_of HT_.out (by kernel_rfl)) ?_
                     obtain ⟨Ao32, co32, eo32⟩ := Kd.R_slice HO_7.out
                     subst eo32
                     obtain ⟨Ao33, co33, eo33⟩ := Kd.R_slice HO_8.out
                     subst eo33
                     obtain ⟨Ao34, co34, eo34⟩ := Kd.R_slice HO_9.out
                     subst eo34
                     try go_wp2
                     have n0_ := Aside0.mk (Kd.R_drew HO_7.out)
                     have n1_ := Aside0.mk (Kd.R_drew HO_8.out)
                     have n2_ := Aside0.mk (Kd.R_drew HO_9.out)
                     have n3_ := Aside0.mk (Kd.R_drew HO215.out)
                     have n4_ := Aside0.mk (below_drew1 HB.out)
                     (try clear HO_7)
                     (try clear HO_8)
                     (try clear HO_9)
                     clear HO215
                     clear HB
                     have HO_7 := n0_
                     have HO_8 := n1_
                     have HO_9 := n2_
                     have HO215 := n3_
                     have HB := n4_
                     clear n0_ n1_ n2_ n3_ n4_
                     refine start_ (n := 19) (S := fun w' => True) (ds := []) #[false, false, false, false, false, false, false, false, false, false, false, false, false, false, false, false, false, false, false] (by kernel_rfl) rfl rfl trivial (fun hHeld => ?_); refine with_tabW corbellaw03_XorPieces.tab16 corbellaw03_XorPieces.bits16 (fun HT_ HW_ => ?_)
                     generalize w29.drew = w35 at HO_7 HO_8 HO_9 HO215 HB hHeld ⊢
                     refine pure_ (i := 0) (N := some 64) (v := ?_) (a' := ?_) #[true, false, false, false, false, false, false, false, false, false, false, false, false, false, false, false, false, false, false] rfl rfl (any_of HT_.out (by kernel_rfl)) (fun _ _ _ h => h) (Or.inl ⟨by rfl, ?_⟩) ?_ ?_
                     rotate_left
                     ·intro w'
                      go_simp
                      with_reducible rfl
                     rotate_left
                     ·simp only [Act.put, List.setIfInBounds_toArray, List.set_cons_zero, List.set_cons_succ, i64_w, i32_w]
                      rfl
                     refine pure_ (i := 1) (N := some 65) (v := ?_) (a' := ?_) #[true, true, false, false, false, false, false, false, false, false, false, false, false, false, false, false, false, false, false] rfl rfl (any_of HT_.out (by kernel_rfl)) (fun _ _ _ h => h) (Or.inl ⟨by rfl, ?_⟩) ?_ ?_
                     rotate_left
                     ·intro w'
                      go_simp
                      with_reducible rfl
                     rotate_left
                     ·simp only [Act.put, List.setIfInBounds_toArray, List.set_cons_zero, List.set_cons_succ, i64_w, i32_w]
                      rfl
                     refine pure_ (i := 4) (N := some 68) (v := ?_) (a' := ?_) #[true, true, false, false, true, false, false, false, false, false, false, false, false, false, false, false, false, false, false] rfl rfl (any_of HT_.out (by kernel_rfl)) (fun _ _ _ h => h) (Or.inl ⟨by rfl, ?_⟩) ?_ ?_
                     rotate_left
                     ·intro w'
                      go_simp
                      with_reducible rfl
                     rotate_left
                     ·simp only [Act.put, List.setIfInBounds_toArray, List.set_cons_zero, List.set_cons_succ, i64_w, i32_w]
                      rfl
                     refine pure_ (i := 5) (N := some 69) (v := ?_) (a' := ?_) #[true, true, false, false, true, true, false, false, false, false, false, false, false, false, false, false, false, false, false] rfl rfl (any_of HT_.out (by kernel_rfl)) (fun _ _ _ h => h) (Or.inl ⟨by rfl, ?_⟩) ?_ ?_
                     rotate_left
                     ·intro w'
                      go_simp
                      with_reducible rfl
                     rotate_left
                     ·simp only [Act.put, List.setIfInBounds_toArray, List.set_cons_zero, List.set_cons_succ, i64_w, i32_w]
                      rfl
                     refine pure_ (i := 6) (N := some 70) (v := ?_) (a' := ?_) #[true, true, false, false, true, true, true, false, false, false, false, false, false, false, false, false, false, false, false] rfl rfl (any_of HT_.out (by kernel_rfl)) (fun _ _ _ h => h) (Or.inl ⟨by rfl, ?_⟩) ?_ ?_
                     rotate_left
                     ·intro w'
                      go_simp
                      with_reducible rfl
                     rotate_left
                     ·simp only [Act.put, List.setIfInBounds_toArray, List.set_cons_zero, List.set_cons_succ, i64_w, i32_w]
                      rfl
                     refine pure_ (i := 7) (N := some 71) (v := ?_) (a' := ?_) #[true, true, false, false, true, true, true, true, false, false, false, false, false, false, false, false, false, false, false] rfl rfl (any_of HT_.out (by kernel_rfl)) (fun _ _ _ h => h) (Or.inl ⟨by rfl, ?_⟩) ?_ ?_
                     rotate_left
                     ·intro w'
                      go_simp
                      with_reducible rfl
                     rotate_left
                     ·simp only [Act.put, List.setIfInBounds_toArray, List.set_cons_zero, List.set_cons_succ, i64_w, i32_w]
                      rfl
                     refine pure_ (i := 10) (N := some 74) (v := ?_) (a' := ?_) #[true, true, false, false, true, true, true, true, false, false, true, false, false, false, false, false, false, false, false] rfl rfl (any_of HT_.out (by kernel_rfl)) (fun _ _ _ h => h) (Or.inl ⟨by rfl, ?_⟩) ?_ ?_
                     rotate_left
                     ·intro w'
                      go_simp
                      with_reducible rfl
                     rotate_left
                     ·simp only [Act.put, List.setIfInBounds_toArray, List.set_cons_zero, List.set_cons_succ, i64_w, i32_w]
                      rfl
                     refine pure_ (i := 11) (N := some 75) (v := ?_) (a' := ?_) #[true, true, false, false, true, true, true, true, false, false, true, true, false, false, false, false, false, false, false] rfl rfl (any_of HT_.out (by kernel_rfl)) (fun _ _ _ h => h) (Or.inl ⟨by rfl, ?_⟩) ?_ ?_
                     rotate_left
                     ·intro w'
                      go_simp
                      with_reducible rfl
                     rotate_left
                     ·simp only [Act.put, List.setIfInBounds_toArray, List.set_cons_zero, List.set_cons_succ, i64_w, i32_w]
                      rfl
                     refine pure_ (i := 12) (N := some 76) (v := ?_) (a' := ?_) #[true, true, false, false, true, true, true, true, false, false, true, true, true, false, false, false, false, false, false] rfl rfl (any_of HT_.out (by kernel_rfl)) (fun _ _ _ h => h) (Or.inl ⟨by rfl, ?_⟩) ?_ ?_
                     rotate_left
                     ·intro w'
                      go_simp
                      with_reducible rfl
                     rotate_left
                     ·simp only [Act.put, List.setIfInBounds_toArray, List.set_cons_zero, List.set_cons_succ, i64_w, i32_w]
                      rfl
                     refine pure_ (i := 13) (N := some 77) (v := ?_) (a' := ?_) #[true, true, false, false, true, true, true, true, false, false, true, true, true, true, false, false, false, false, false] rfl rfl (any_of HT_.out (by kernel_rfl)) (fun _ _ _ h => h) (Or.inl ⟨by rfl, ?_⟩) ?_ ?_
                     rotate_left
                     ·intro w'
                      go_simp
                      with_reducible rfl
                     rotate_left
                     ·simp only [Act.put, List.setIfInBounds_toArray, List.set_cons_zero, List.set_cons_succ, i64_w, i32_w]
                      rfl
                     refine join_ (σ := Value × Value × Value × Value × Value) 4 #[true, true, true, true, true, true, true, true, true, true, true, true, true, true, true, false, false, false, false] (fun s_ => [(66, s_.1), (67, s_.2.1), (72, s_.2.2.1), (73, s_.2.2.2.1), (78, s_.2.2.2.2)]) (fun s_ w' => (Kd.R (Kd.int .u8) 5 w' w.heap.size (fun _ => True) v214 y213) ∧ (Kd.R Kd.string 9 w' w.heap.size (fun k_ => some k_ ≠ (s_.2.1 : Value).ownBlock ∧ some k_ ≠ (s_.2.2.1 : Value).ownBlock ∧ some k_ ≠ (s_.2.2.2.1 : Value).ownBlock ∧ some k_ ≠ (s_.2.2.2.2 : Value).ownBlock ∧ some k_ ≠ (.slice Ao34 x9_3.length co34 : Value).ownBlock) s_.1 y216) ∧ (Kd.R Kd.string 9 w' w.heap.size (fun k_ => some k_ ≠ (s_.1 : Value).ownBlock ∧ some k_ ≠ (s_.2.2.1 : Value).ownBlock ∧ some k_ ≠ (s_.2.2.2.1 : Value).ownBlock ∧ some k_ ≠ (s_.2.2.2.2 : Value).ownBlock ∧ some k_ ≠ (.slice Ao34 x9_3.length co34 : Value).ownBlock) s_.2.1 y219) ∧ (Kd.R Kd.string 9 w' w.heap.size (fun k_ => some k_ ≠ (s_.1 : Value).ownBlock ∧ some k_ ≠ (s_.2.1 : Value).ownBlock ∧ some k_ ≠ (s_.2.2.2.1 : Value).ownBlock ∧ some k_ ≠ (s_.2.2.2.2 : Value).ownBlock ∧ some k_ ≠ (.slice Ao34 x9_3.length co34 : Value).ownBlock) s_.2.2.1 y222) ∧ (Kd.R Kd.string 9 w' w.heap.size (fun k_ => some k_ ≠ (s_.1 : Value).ownBlock ∧ some k_ ≠ (s_.2.1 : Value).ownBlock ∧ some k_ ≠ (s_.2.2.1 : Value).ownBlock ∧ some k_ ≠ (s_.2.2.2.2 : Value).ownBlock ∧ some k_ ≠ (.slice Ao34 x9_3.length co34 : Value).ownBlock) s_.2.2.2.1 y225) ∧ (Kd.R Kd.string 9 w' w.heap.size (fun k_ => some k_ ≠ (s_.1 : Value).ownBlock ∧ some k_ ≠ (s_.2.1 : Value).ownBlock ∧ some k_ ≠ (s_.2.2.1 : Value).ownBlock ∧ some k_ ≠ (s_.2.2.2.1 : Value).ownBlock ∧ some k_ ≠ (.slice Ao34 x9_3.length co34 : Value).ownBlock) s_.2.2.2.2 y228) ∧ (Kd.R Kd.string 9 w' w.heap.size (fun k_ => some k_ ≠ (s_.1 : Value).ownBlock ∧ some k_ ≠ (s_.2.1 : Value).ownBlock ∧ some k_ ≠ (s_.2.2.1 : Value).ownBlock ∧ some k_ ≠ (s_.2.2.2.1 : Value).ownBlock ∧ some k_ ≠ (s_.2.2.2.2 : Value).ownBlock) (.slice Ao34 x9_3.length co34) x9_3) ∧ (Below w.heap.size w w')) ?_ ?_
                     rotate_left
                     ·intro hJ2_3_8_9_14
                      refine join_ (σ := Value × Value × Value × Value) 5 #[true, true, true, true, true, true, true, true, true, true, true, true, true, true, false, false, false, false, false] (fun s_ => [(66, s_.1), (67, s_.2.1), (72, s_.2.2.1), (73, s_.2.2.2)]) (fun s_ w' => (Kd.R (Kd.int .u8) 5 w' w.heap.size (fun _ => True) v214 y213) ∧ (Kd.R Kd.string 9 w' w.heap.size (fun k_ => some k_ ≠ (s_.2.1 : Value).ownBlock ∧ some k_ ≠ (s_.2.2.1 : Value).ownBlock ∧ some k_ ≠ (s_.2.2.2 : Value).ownBlock ∧ some k_ ≠ (.slice Ao34 x9_3.length co34 : Value).ownBlock) s_.1 y216) ∧ (Kd.R Kd.string 9 w' w.heap.size (fun k_ => some k_ ≠ (s_.1 : Value).ownBlock ∧ some k_ ≠ (s_.2.2.1 : Value).ownBlock ∧ some k_ ≠ (s_.2.2.2 : Value).ownBlock ∧ some k_ ≠ (.slice Ao34 x9_3.length co34 : Value).ownBlock) s_.2.1 y219) ∧ (Kd.R Kd.string 9 w' w.heap.size (fun k_ => some k_ ≠ (s_.1 : Value).ownBlock ∧ some k_ ≠ (s_.2.1 : Value).ownBlock ∧ some k_ ≠ (s_.2.2.2 : Value).ownBlock ∧ some k_ ≠ (.slice Ao34 x9_3.length co34 : Value).ownBlock) s_.2.2.1 y222) ∧ (Kd.R Kd.string 9 w' w.heap.size (fun k_ => some k_ ≠ (s_.1 : Value).ownBlock ∧ some k_ ≠ (s_.2.1 : Value).ownBlock ∧ some k_ ≠ (s_.2.2.1 : Value).ownBlock ∧ some k_ ≠ (.slice Ao34 x9_3.length co34 : Value).ownBlock) s_.2.2.2 y225) ∧ (Kd.R Kd.string 9 w' w.heap.size (fun k_ => some k_ ≠ (s_.1 : Value).ownBlock ∧ some k_ ≠ (s_.2.1 : Value).ownBlock ∧ some k_ ≠ (s_.2.2.1 : Value).ownBlock ∧ some k_ ≠ (s_.2.2.2 : Value).ownBlock) (.slice Ao34 x9_3.length co34) x9_3) ∧ (Below w.heap.size w w')) ?_ ?_
                      rotate_left
                      ·intro hJ2_3_8_9
                       refine join_ (σ := Value × Value × Value × Value) 5 #[true, true, true, true, true, true, true, true, true, false, true, true, true, true, true, false, false, false, false] (fun s_ => [(66, s_.1), (67, s_.2.1), (72, s_.2.2.1), (78, s_.2.2.2)]) (fun s_ w' => (Kd.R (Kd.int .u8) 5 w' w.heap.size (fun _ => True) v214 y213) ∧ (Kd.R Kd.string 9 w' w.heap.size (fun k_ => some k_ ≠ (s_.2.1 : Value).ownBlock ∧ some k_ ≠ (s_.2.2.1 : Value).ownBlock ∧ some k_ ≠ (s_.2.2.2 : Value).ownBlock ∧ some k_ ≠ (.slice Ao33 x8_3.length co33 : Value).ownBlock ∧ some k_ ≠ (.slice Ao34 x9_3.length co34 : Value).ownBlock) s_.1 y216) ∧ (Kd.R Kd.string 9 w' w.heap.size (fun k_ => some k_ ≠ (s_.1 : Value).ownBlock ∧ some k_ ≠ (s_.2.2.1 : Value).ownBlock ∧ some k_ ≠ (s_.2.2.2 : Value).ownBlock ∧ some k_ ≠ (.slice Ao33 x8_3.length co33 : Value).ownBlock ∧ some k_ ≠ (.slice Ao34 x9_3.length co34 : Value).ownBlock) s_.2.1 y219) ∧ (Kd.R Kd.string 9 w' w.heap.size (fun k_ => some k_ ≠ (s_.1 : Value).ownBlock ∧ some k_ ≠ (s_.2.1 : Value).ownBlock ∧ some k_ ≠ (s_.2.2.2 : Value).ownBlock ∧ some k_ ≠ (.slice Ao33 x8_3.length co33 : Value).ownBlock ∧ some k_ ≠ (.slice Ao34 x9_3.length co34 : Value).ownBlock) s_.2.2.1 y222) ∧ (Kd.R Kd.string 9 w' w.heap.size (fun k_ => some k_ ≠ (s_.1 : Value).ownBlock ∧ some k_ ≠ (s_.2.1 : Value).ownBlock ∧ some k_ ≠ (s_.2.2.1 : Value).ownBlock ∧ some k_ ≠ (.slice Ao33 x8_3.length co33 : Value).ownBlock ∧ some k_ ≠ (.slice Ao34 x9_3.length co34 : Value).ownBlock) s_.2.2.2 y228) ∧ (Kd.R Kd.string 9 w' w.heap.size (fun k_ => some k_ ≠ (s_.1 : Value).ownBlock ∧ some k_ ≠ (s_.2.1 : Value).ownBlock ∧ some k_ ≠ (s_.2.2.1 : Value).ownBlock ∧ some k_ ≠ (s_.2.2.2 : Value).ownBlock ∧ some k_ ≠ (.slice Ao34 x9_3.length co34 : Value).ownBlock) (.slice Ao33 x8_3.length co33) x8_3) ∧ (Kd.R Kd.string 9 w' w.heap.size (fun k_ => some k_ ≠ (s_.1 : Value).ownBlock ∧ some k_ ≠ (s_.2.1 : Value).ownBlock ∧ some k_ ≠ (s_.2.2.1 : Value).ownBlock ∧ some k_ ≠ (s_.2.2.2 : Value).ownBlock ∧ some k_ ≠ (.slice Ao33 x8_3.length co33 : Value).ownBlock) (.slice Ao34 x9_3.length co34) x9_3) ∧ (Below w.heap.size w w')) ?_ ?_
                       rotate_left
                       ·intro hJ2_3_8_14
                        refine join_ (σ := Value × Value × Value) 6 #[true, true, true, true, true, true, true, true, true, false, true, true, true, true, false, false, false, false, false] (fun s_ => [(66, s_.1), (67, s_.2.1), (72, s_.2.2)]) (fun s_ w' => (Kd.R (Kd.int .u8) 5 w' w.heap.size (fun _ => True) v214 y213) ∧ (Kd.R Kd.string 9 w' w.heap.size (fun k_ => some k_ ≠ (s_.2.1 : Value).ownBlock ∧ some k_ ≠ (s_.2.2 : Value).ownBlock ∧ some k_ ≠ (.slice Ao33 x8_3.length co33 : Value).ownBlock ∧ some k_ ≠ (.slice Ao34 x9_3.length co34 : Value).ownBlock) s_.1 y216) ∧ (Kd.R Kd.string 9 w' w.heap.size (fun k_ => some k_ ≠ (s_.1 : Value).ownBlock ∧ some k_ ≠ (s_.2.2 : Value).ownBlock ∧ some k_ ≠ (.slice Ao33 x8_3.length co33 : Value).ownBlock ∧ some k_ ≠ (.slice Ao34 x9_3.length co34 : Value).ownBlock) s_.2.1 y219) ∧ (Kd.R Kd.string 9 w' w.heap.size (fun k_ => some k_ ≠ (s_.1 : Value).ownBlock ∧ some k_ ≠ (s_.2.1 : Value).ownBlock ∧ some k_ ≠ (.slice Ao33 x8_3.length co33 : Value).ownBlock ∧ some k_ ≠ (.slice Ao34 x9_3.length co34 : Value).ownBlock) s_.2.2 y222) ∧ (Kd.R Kd.string 9 w' w.heap.size (fun k_ => some k_ ≠ (s_.1 : Value).ownBlock ∧ some k_ ≠ (s_.2.1 : Value).ownBlock ∧ some k_ ≠ (s_.2.2 : Value).ownBlock ∧ some k_ ≠ (.slice Ao34 x9_3.length co34 : Value).ownBlock) (.slice Ao33 x8_3.length co33) x8_3) ∧ (Kd.R Kd.string 9 w' w.heap.size (fun k_ => some k_ ≠ (s_.1 : Value).ownBlock ∧ some k_ ≠ (s_.2.1 : Value).ownBlock ∧ some k_ ≠ (s_.2.2 : Value).ownBlock ∧ some k_ ≠ (.slice Ao33 x8_3.length co33 : Value).ownBlock) (.slice Ao34 x9_3.length co34) x9_3) ∧ (Below w.heap.size w w')) ?_ ?_
                        rotate_left
                        ·intro hJ2_3_8
                         refine join_ (σ := Value × Value × Value) 6 #[true, true, true, true, true, true, true, true, false, false, true, true, true, true, true, false, false, false, false] (fun s_ => [(66, s_.1), (67, s_.2.1), (78, s_.2.2)]) (fun s_ w' => (Kd.R (Kd.int .u8) 5 w' w.heap.size (fun _ => True) v214 y213) ∧ (Kd.R Kd.string 9 w' w.heap.size (fun k_ => some k_ ≠ (s_.2.1 : Value).ownBlock ∧ some k_ ≠ (s_.2.2 : Value).ownBlock ∧ some k_ ≠ (.slice Ao33 x8_3.length co33 : Value).ownBlock ∧ some k_ ≠ (.slice Ao34 x9_3.length co34 : Value).ownBlock) s_.1 y216) ∧ (Kd.R Kd.string 9 w' w.heap.size (fun k_ => some k_ ≠ (s_.1 : Value).ownBlock ∧ some k_ ≠ (s_.2.2 : Value).ownBlock ∧ some k_ ≠ (.slice Ao33 x8_3.length co33 : Value).ownBlock ∧ some k_ ≠ (.slice Ao34 x9_3.length co34 : Value).ownBlock) s_.2.1 y219) ∧ (Kd.R Kd.string 9 w' w.heap.size (fun k_ => some k_ ≠ (s_.1 : Value).ownBlock ∧ some k_ ≠ (s_.2.1 : Value).ownBlock ∧ some k_ ≠ (.slice Ao33 x8_3.length co33 : Value).ownBlock ∧ some k_ ≠ (.slice Ao34 x9_3.length co34 : Value).ownBlock) s_.2.2 y228) ∧ (Kd.R Kd.string 9 w' w.heap.size (fun k_ => some k_ ≠ (s_.1 : Value).ownBlock ∧ some k_ ≠ (s_.2.1 : Value).ownBlock ∧ some k_ ≠ (s_.2.2 : Value).ownBlock ∧ some k_ ≠ (.slice Ao34 x9_3.length co34 : Value).ownBlock) (.slice Ao33 x8_3.length co33) x8_3) ∧ (Kd.R Kd.string 9 w' w.heap.size (fun k_ => some k_ ≠ (s_.1 : Value).ownBlock ∧ some k_ ≠ (s_.2.1 : Value).ownBlock ∧ some k_ ≠ (s_.2.2 : Value).ownBlock ∧ some k_ ≠ (.slice Ao33 x8_3.length co33 : Value).ownBlock) (.slice Ao34 x9_3.length co34) x9_3) ∧ (Below w.heap.size w w')) ?_ ?_
                         rotate_left
                         ·intro hJ2_3_14
                          refine join_ (σ := Value × Value × Value) 6 #[true, true, true, false, true, true, true, true, true, false, true, true, true, true, true, false, false, false, false] (fun s_ => [(66, s_.1), (72, s_.2.1), (78, s_.2.2)]) (fun s_ w' => (Kd.R (Kd.int .u8) 5 w' w.heap.size (fun _ => True) v214 y213) ∧ (Kd.R Kd.string 9 w' w.heap.size (fun k_ => some k_ ≠ (s_.2.1 : Value).ownBlock ∧ some k_ ≠ (s_.2.2 : Value).ownBlock ∧ some k_ ≠ (.slice Ao32 x7_3.length co32 : Value).ownBlock ∧ some k_ ≠ (.slice Ao33 x8_3.length co33 : Value).ownBlock ∧ some k_ ≠ (.slice Ao34 x9_3.length co34 : Value).ownBlock) s_.1 y216) ∧ (Kd.R Kd.string 9 w' w.heap.size (fun k_ => some k_ ≠ (s_.1 : Value).ownBlock ∧ some k_ ≠ (s_.2.2 : Value).ownBlock ∧ some k_ ≠ (.slice Ao32 x7_3.length co32 : Value).ownBlock ∧ some k_ ≠ (.slice Ao33 x8_3.length co33 : Value).ownBlock ∧ some k_ ≠ (.slice Ao34 x9_3.length co34 : Value).ownBlock) s_.2.1 y222) ∧ (Kd.R Kd.string 9 w' w.heap.size (fun k_ => some k_ ≠ (s_.1 : Value).ownBlock ∧ some k_ ≠ (s_.2.1 : Value).ownBlock ∧ some k_ ≠ (.slice Ao32 x7_3.length co32 : Value).ownBlock ∧ some k_ ≠ (.slice Ao33 x8_3.length co33 : Value).ownBlock ∧ some k_ ≠ (.slice Ao34 x9_3.length co34 : Value).ownBlock) s_.2.2 y228) ∧ (Kd.R Kd.string 9 w' w.heap.size (fun k_ => some k_ ≠ (s_.1 : Value).ownBlock ∧ some k_ ≠ (s_.2.1 : Value).ownBlock ∧ some k_ ≠ (s_.2.2 : Value).ownBlock ∧ some k_ ≠ (.slice Ao33 x8_3.length co33 : Value).ownBlock ∧ some k_ ≠ (.slice Ao34 x9_3.length co34 : Value).ownBlock) (.slice Ao32 x7_3.length co32) x7_3) ∧ (Kd.R Kd.string 9 w' w.heap.size (fun k_ => some k_ ≠ (s_.1 : Value).ownBlock ∧ some k_ ≠ (s_.2.1 : Value).ownBlock ∧ some k_ ≠ (s_.2.2 : Value).ownBlock ∧ some k_ ≠ (.slice Ao32 x7_3.length co32 : Value).ownBlock ∧ some k_ ≠ (.slice Ao34 x9_3.length co34 : Value).ownBlock) (.slice Ao33 x8_3.length co33) x8_3) ∧ (Kd.R Kd.string 9 w' w.heap.size (fun k_ => some k_ ≠ (s_.1 : Value).ownBlock ∧ some k_ ≠ (s_.2.1 : Value).ownBlock ∧ some k_ ≠ (s_.2.2 : Value).ownBlock ∧ some k_ ≠ (.slice Ao32 x7_3.length co32 : Value).ownBlock ∧ some k_ ≠ (.slice Ao33 x8_3.length co33 : Value).ownBlock) (.slice Ao34 x9_3.length co34) x9_3) ∧ (Below w.heap.size w w')) ?_ ?_
                          rotate_left
                          ·intro hJ2_8_14
                           refine join_ (σ := Value × Value) 7 #[true, true, true, true, true, true, true, true, false, false, true, true, true, true, false, false, false, false, false] (fun s_ => [(66, s_.1), (67, s_.2)]) (fun s_ w' => (Kd.R (Kd.int .u8) 5 w' w.heap.size (fun _ => True) v214 y213) ∧ (Kd.R Kd.string 9 w' w.heap.size (fun k_ => some k_ ≠ (s_.2 : Value).ownBlock ∧ some k_ ≠ (.slice Ao33 x8_3.length co33 : Value).ownBlock ∧ some k_ ≠ (.slice Ao34 x9_3.length co34 : Value).ownBlock) s_.1 y216) ∧ (Kd.R Kd.string 9 w' w.heap.size (fun k_ => some k_ ≠ (s_.1 : Value).ownBlock ∧ some k_ ≠ (.slice Ao33 x8_3.length co33 : Value).ownBlock ∧ some k_ ≠ (.slice Ao34 x9_3.length co34 : Value).ownBlock) s_.2 y219) ∧ (Kd.R Kd.string 9 w' w.heap.size (fun k_ => some k_ ≠ (s_.1 : Value).ownBlock ∧ some k_ ≠ (s_.2 : Value).ownBlock ∧ some k_ ≠ (.slice Ao34 x9_3.length co34 : Value).ownBlock) (.slice Ao33 x8_3.length co33) x8_3) ∧ (Kd.R Kd.string 9 w' w.heap.size (fun k_ => some k_ ≠ (s_.1 : Value).ownBlock ∧ some k_ ≠ (s_.2 : Value).ownBlock ∧ some k_ ≠ (.slice Ao33 x8_3.length co33 : Value).ownBlock) (.slice Ao34 x9_3.length co34) x9_3) ∧ (Below w.heap.size w w')) ?_ ?_
                           rotate_left
                           ·intro hJ2_3
                            refine join_ (σ := Value × Value) 7 #[true, true, true, false, true, true, true, true, true, false, true, true, true, true, false, false, false, false, false] (fun s_ => [(66, s_.1), (72, s_.2)]) (fun s_ w' => (Kd.R (Kd.int .u8) 5 w' w.heap.size (fun _ => True) v214 y213) ∧ (Kd.R Kd.string 9 w' w.heap.size (fun k_ => some k_ ≠ (s_.2 : Value).ownBlock ∧ some k_ ≠ (.slice Ao32 x7_3.length co32 : Value).ownBlock ∧ some k_ ≠ (.slice Ao33 x8_3.length co33 : Value).ownBlock ∧ some k_ ≠ (.slice Ao34 x9_3.length co34 : Value).ownBlock) s_.1 y216) ∧ (Kd.R Kd.string 9 w' w.heap.size (fun k_ => some k_ ≠ (s_.1 : Value).ownBlock ∧ some k_ ≠ (.slice Ao32 x7_3.length co32 : Value).ownBlock ∧ some k_ ≠ (.slice Ao33 x8_3.length co33 : Value).ownBlock ∧ some k_ ≠ (.slice Ao34 x9_3.length co34 : Value).ownBlock) s_.2 y222) ∧ (Kd.R Kd.string 9 w' w.heap.size (fun k_ => some k_ ≠ (s_.1 : Value).ownBlock ∧ some k_ ≠ (s_.2 : Value).ownBlock ∧ some k_ ≠ (.slice Ao33 x8_3.length co33 : Value).ownBlock ∧ some k_ ≠ (.slice Ao34 x9_3.length co34 : Value).ownBlock) (.slice Ao32 x7_3.length co32) x7_3) ∧ (Kd.R Kd.string 9 w' w.heap.size (fun k_ => some k_ ≠ (s_.1 : Value).ownBlock ∧ some k_ ≠ (s_.2 : Value).ownBlock ∧ some k_ ≠ (.slice Ao32 x7_3.length co32 : Value).ownBlock ∧ some k_ ≠ (.slice Ao34 x9_3.length co34 : Value).ownBlock) (.slice Ao33 x8_3.length co33) x8_3) ∧ (Kd.R Kd.string 9 w' w.heap.size (fun k_ => some k_ ≠ (s_.1 : Value).ownBlock ∧ some k_ ≠ (s_.2 : Value).ownBlock ∧ some k_ ≠ (.slice Ao32 x7_3.length co32 : Value).ownBlock ∧ some k_ ≠ (.slice Ao33 x8_3.length co33 : Value).ownBlock) (.slice Ao34 x9_3.length co34) x9_3) ∧ (Below w.heap.size w w')) ?_ ?_
                            rotate_left
                            ·intro hJ2_8
                             refine join_ (σ := Value × Value) 7 #[true, true, true, false, true, true, true, true, false, false, true, true, true, true, true, false, false, false, false] (fun s_ => [(66, s_.1), (78, s_.2)]) (fun s_ w' => (Kd.R (Kd.int .u8) 5 w' w.heap.size (fun _ => True) v214 y213) ∧ (Kd.R Kd.string 9 w' w.heap.size (fun k_ => some k_ ≠ (s_.2 : Value).ownBlock ∧ some k_ ≠ (.slice Ao32 x7_3.length co32 : Value).ownBlock ∧ some k_ ≠ (.slice Ao33 x8_3.length co33 : Value).ownBlock ∧ some k_ ≠ (.slice Ao34 x9_3.length co34 : Value).ownBlock) s_.1 y216) ∧ (Kd.R Kd.string 9 w' w.heap.size (fun k_ => some k_ ≠ (s_.1 : Value).ownBlock ∧ some k_ ≠ (.slice Ao32 x7_3.length co32 : Value).ownBlock ∧ some k_ ≠ (.slice Ao33 x8_3.length co33 : Value).ownBlock ∧ some k_ ≠ (.slice Ao34 x9_3.length co34 : Value).ownBlock) s_.2 y228) ∧ (Kd.R Kd.string 9 w' w.heap.size (fun k_ => some k_ ≠ (s_.1 : Value).ownBlock ∧ some k_ ≠ (s_.2 : Value).ownBlock ∧ some k_ ≠ (.slice Ao33 x8_3.length co33 : Value).ownBlock ∧ some k_ ≠ (.slice Ao34 x9_3.length co34 : Value).ownBlock) (.slice Ao32 x7_3.length co32) x7_3) ∧ (Kd.R Kd.string 9 w' w.heap.size (fun k_ => some k_ ≠ (s_.1 : Value).ownBlock ∧ some k_ ≠ (s_.2 : Value).ownBlock ∧ some k_ ≠ (.slice Ao32 x7_3.length co32 : Value).ownBlock ∧ some k_ ≠ (.slice Ao34 x9_3.length co34 : Value).ownBlock) (.slice Ao33 x8_3.length co33) x8_3) ∧ (Kd.R Kd.string 9 w' w.heap.size (fun k_ => some k_ ≠ (s_.1 : Value).ownBlock ∧ some k_ ≠ (s_.2 : Value).ownBlock ∧ some k_ ≠ (.slice Ao32 x7_3.length co32 : Value).ownBlock ∧ some k_ ≠ (.slice Ao33 x8_3.length co33 : Value).ownBlock) (.slice Ao34 x9_3.length co34) x9_3) ∧ (Below w.heap.size w w')) ?_ ?_
                             rotate_left
                             ·intro hJ2_14
                              refine join_ (σ := Value × Value) 7 #[true, true, false, false, true, true, true, true, true, false, true, true, true, true, true, false, false, false, false] (fun s_ => [(72, s_.1), (78, s_.2)]) (fun s_ w' => (Kd.R (Kd.int .u8) 5 w' w.heap.size (fun _ => True) v214 y213) ∧ (Kd.R Kd.string 9 w' w.heap.size (fun k_ => some k_ ≠ (s_.2 : Value).ownBlock ∧ some k_ ≠ (.slice Ao32 x7_3.length co32 : Value).ownBlock ∧ some k_ ≠ (.slice Ao33 x8_3.length co33 : Value).ownBlock ∧ some k_ ≠ (.slice Ao34 x9_3.length co34 : Value).ownBlock) s_.1 y222) ∧ (Kd.R Kd.string 9 w' w.heap.size (fun k_ => some k_ ≠ (s_.1 : Value).ownBlock ∧ some k_ ≠ (.slice Ao32 x7_3.length co32 : Value).ownBlock ∧ some k_ ≠ (.slice Ao33 x8_3.length co33 : Value).ownBlock ∧ some k_ ≠ (.slice Ao34 x9_3.length co34 : Value).ownBlock) s_.2 y228) ∧ (Kd.R Kd.string 9 w' w.heap.size (fun k_ => some k_ ≠ (s_.1 : Value).ownBlock ∧ some k_ ≠ (s_.2 : Value).ownBlock ∧ some k_ ≠ (.slice Ao33 x8_3.length co33 : Value).ownBlock ∧ some k_ ≠ (.slice Ao34 x9_3.length co34 : Value).ownBlock) (.slice Ao32 x7_3.length co32) x7_3) ∧ (Kd.R Kd.string 9 w' w.heap.size (fun k_ => some k_ ≠ (s_.1 : Value).ownBlock ∧ some k_ ≠ (s_.2 : Value).ownBlock ∧ some k_ ≠ (.slice Ao32 x7_3.length co32 : Value).ownBlock ∧ some k_ ≠ (.slice Ao34 x9_3.length co34 : Value).ownBlock) (.slice Ao33 x8_3.length co33) x8_3) ∧ (Kd.R Kd.string 9 w' w.heap.size (fun k_ => some k_ ≠ (s_.1 : Value).ownBlock ∧ some k_ ≠ (s_.2 : Value).ownBlock ∧ some k_ ≠ (.slice Ao32 x7_3.length co32 : Value).ownBlock ∧ some k_ ≠ (.slice Ao33 x8_3.length co33 : Value).ownBlock) (.slice Ao34 x9_3.length co34) x9_3) ∧ (Below w.heap.size w w')) ?_ ?_
                              rotate_left
                              ·intro hJ8_14
                               refine join_ (σ := Value) 8 #[true, true, true, false, true, true, true, true, false, false, true, true, true, true, false, false, false, false, false] (fun s_ => [(66, s_)]) (fun s_ w' => (Kd.R (Kd.int .u8) 5 w' w.heap.size (fun _ => True) v214 y213) ∧ (Kd.R Kd.string 9 w' w.heap.size (fun k_ => some k_ ≠ (.slice Ao32 x7_3.length co32 : Value).ownBlock ∧ some k_ ≠ (.slice Ao33 x8_3.length co33 : Value).ownBlock ∧ some k_ ≠ (.slice Ao34 x9_3.length co34 : Value).ownBlock) s_ y216) ∧ (Kd.R Kd.string 9 w' w.heap.size (fun k_ => some k_ ≠ (s_ : Value).ownBlock ∧ some k_ ≠ (.slice Ao33 x8_3.length co33 : Value).ownBlock ∧ some k_ ≠ (.slice Ao34 x9_3.length co34 : Value).ownBlock) (.slice Ao32 x7_3.length co32) x7_3) ∧ (Kd.R Kd.string 9 w' w.heap.size (fun k_ => some k_ ≠ (s_ : Value).ownBlock ∧ some k_ ≠ (.slice Ao32 x7_3.length co32 : Value).ownBlock ∧ some k_ ≠ (.slice Ao34 x9_3.length co34 : Value).ownBlock) (.slice Ao33 x8_3.length co33) x8_3) ∧ (Kd.R Kd.string 9 w' w.heap.size (fun k_ => some k_ ≠ (s_ : Value).ownBlock ∧ some k_ ≠ (.slice Ao32 x7_3.length co32 : Value).ownBlock ∧ some k_ ≠ (.slice Ao33 x8_3.length co33 : Value).ownBlock) (.slice Ao34 x9_3.length co34) x9_3) ∧ (Below w.heap.size w w')) ?_ ?_
                               rotate_left
                               ·intro hJ2
                                refine join_ (σ := Value) 8 #[true, true, false, false, true, true, true, true, true, false, true, true, true, true, false, false, false, false, false] (fun s_ => [(72, s_)]) (fun s_ w' => (Kd.R (Kd.int .u8) 5 w' w.heap.size (fun _ => True) v214 y213) ∧ (Kd.R Kd.string 9 w' w.heap.size (fun k_ => some k_ ≠ (.slice Ao32 x7_3.length co32 : Value).ownBlock ∧ some k_ ≠ (.slice Ao33 x8_3.length co33 : Value).ownBlock ∧ some k_ ≠ (.slice Ao34 x9_3.length co34 : Value).ownBlock) s_ y222) ∧ (Kd.R Kd.string 9 w' w.heap.size (fun k_ => some k_ ≠ (s_ : Value).ownBlock ∧ some k_ ≠ (.slice Ao33 x8_3.length co33 : Value).ownBlock ∧ some k_ ≠ (.slice Ao34 x9_3.length co34 : Value).ownBlock) (.slice Ao32 x7_3.length co32) x7_3) ∧ (Kd.R Kd.string 9 w' w.heap.size (fun k_ => some k_ ≠ (s_ : Value).ownBlock ∧ some k_ ≠ (.slice Ao32 x7_3.length co32 : Value).ownBlock ∧ some k_ ≠ (.slice Ao34 x9_3.length co34 : Value).ownBlock) (.slice Ao33 x8_3.length co33) x8_3) ∧ (Kd.R Kd.string 9 w' w.heap.size (fun k_ => some k_ ≠ (s_ : Value).ownBlock ∧ some k_ ≠ (.slice Ao32 x7_3.length co32 : Value).ownBlock ∧ some k_ ≠ (.slice Ao33 x8_3.length co33 : Value).ownBlock) (.slice Ao34 x9_3.length co34) x9_3) ∧ (Below w.heap.size w w')) ?_ ?_
                                rotate_left
                                ·intro hJ8
                                 refine join_ (σ := Value) 8 #[true, true, false, false, true, true, true, true, false, false, true, true, true, true, true, false, false, false, false] (fun s_ => [(78, s_)]) (fun s_ w' => (Kd.R (Kd.int .u8) 5 w' w.heap.size (fun _ => True) v214 y213) ∧ (Kd.R Kd.string 9 w' w.heap.size (fun k_ => some k_ ≠ (.slice Ao32 x7_3.length co32 : Value).ownBlock ∧ some k_ ≠ (.slice Ao33 x8_3.length co33 : Value).ownBlock ∧ some k_ ≠ (.slice Ao34 x9_3.length co34 : Value).ownBlock) s_ y228) ∧ (Kd.R Kd.string 9 w' w.heap.size (fun k_ => some k_ ≠ (s_ : Value).ownBlock ∧ some k_ ≠ (.slice Ao33 x8_3.length co33 : Value).ownBlock ∧ some k_ ≠ (.slice Ao34 x9_3.length co34 : Value).ownBlock) (.slice Ao32 x7_3.length co32) x7_3) ∧ (Kd.R Kd.string 9 w' w.heap.size (fun k_ => some k_ ≠ (s_ : Value).ownBlock ∧ some k_ ≠ (.slice Ao32 x7_3.length co32 : Value).ownBlock ∧ some k_ ≠ (.slice Ao34 x9_3.length co34 : Value).ownBlock) (.slice Ao33 x8_3.length co33) x8_3) ∧ (Kd.R Kd.string 9 w' w.heap.size (fun k_ => some k_ ≠ (s_ : Value).ownBlock ∧ some k_ ≠ (.slice Ao32 x7_3.length co32 : Value).ownBlock ∧ some k_ ≠ (.slice Ao33 x8_3.length co33 : Value).ownBlock) (.slice Ao34 x9_3.length co34) x9_3) ∧ (Below w.heap.size w w')) ?_ ?_
                                 rotate_left
                                 ·intro hJ14
                                  refine three_ (i := 2) (j := 8) (k := 14) (Ni := some 66) (Nj := some 72) (Nk := some 78) #[true, true, true, false, true, true, true, true, false, false, true, true, true, true, false, false, false, false, false] #[true, true, false, false, true, true, true, true, true, false, true, true, true, true, false, false, false, false, false] #[true, true, false, false, true, true, true, true, false, false, true, true, true, true, true, false, false, false, false] rfl rfl rfl rfl rfl rfl (three_of HT_.out (by kernel_rfl)) (by decide) (by decide) (by decide) (fun K hK => ?_) (fun K hK => ?_) (fun K hK => ?_)
                                  ·skip
                                   refine Kd.R_lit_step Kd.string _ 9 ?hg (N := 66) ?hd (xs := ([(rdOf ByteArray.empty l0 x10_3) ++ (strOfNums y213)] : List ByteArray)) (inner := [.string ((rdOf ByteArray.empty l0 x10_3) ++ (strOfNums y213))]) (ok := fun _ => True) (okp := fun _ => True) ?hr ?hp (fun _ hk => hk) trivial (Below.refl _ _) (Nat.le_refl _) (by simp) ?_; (case hd => rfl); (case hg => rfl); (case hr => first | (go_simp; done) | (go_simp; rfl)); (case hp => exact (Reps.one (show Kd.M Kd.string _ _ _ ((rdOf ByteArray.empty l0 x10_3) ++ (strOfNums y213)) [.string ((rdOf ByteArray.empty l0 x10_3) ++ (strOfNums y213))] from rfl) (Reps.none _ _)))
                                   intro v217 w36 ho37 hb hg_ hnew_
                                   clear hg_ hnew_
                                   (first | rw [← Ny216.out] at ho37 | (simp only [Int.reduceToNat] at ho37; rw [← Ny216.out] at ho37))
                                   have n0_ := Aside0.mk (Kd.R_elder' (by (with_reducible repeat (first | apply Kd.R_alloc | apply Kd.R_drewN | apply Kd.R_drew)); exact HO_7.out) (Kd.R_base ho37) hb)
                                   have n1_ := Aside0.mk (Kd.R_elder' (by (with_reducible repeat (first | apply Kd.R_alloc | apply Kd.R_drewN | apply Kd.R_drew)); exact HO_8.out) (Kd.R_base ho37) hb)
                                   have n2_ := Aside0.mk (Kd.R_elder' (by (with_reducible repeat (first | apply Kd.R_alloc | apply Kd.R_drewN | apply Kd.R_drew)); exact HO_9.out) (Kd.R_base ho37) hb)
                                   have n3_ := Aside0.mk (Kd.R_below (by (with_reducible repeat (first | apply Kd.R_alloc | apply Kd.R_drewN | apply Kd.R_drew)); exact HO215.out) hb)
                                   have n4_ := Aside0.mk (Kd.R_lower (Kd.R_new' (Kd.R_new' (Kd.R_new' ho37 (Kd.R_lt (by (with_reducible repeat (first | apply Kd.R_alloc | apply Kd.R_drewN | apply Kd.R_drew)); exact HO_7.out))) (Kd.R_lt (by (with_reducible repeat (first | apply Kd.R_alloc | apply Kd.R_drewN | apply Kd.R_drew)); exact HO_8.out))) (Kd.R_lt (by (with_reducible repeat (first | apply Kd.R_alloc | apply Kd.R_drewN | apply Kd.R_drew)); exact HO_9.out))) (below_size (by repeat (first | (with_reducible first | exact HB.out | apply below_alloc | apply pw_below_drewN | apply below_drew1) | exact HB.out))))
                                   have n5_ := Aside0.mk (below_step (by repeat (first | (with_reducible first | exact HB.out | apply below_alloc | apply pw_below_drewN | apply below_drew1) | exact HB.out)) hb)
                                   (try clear HO_7)
                                   (try clear HO_8)
                                   (try clear HO_9)
                                   clear HO215
                                   clear HB
                                   have HO_7 := n0_
                                   have HO_8 := n1_
                                   have HO_9 := n2_
                                   have HO215 := n3_
                                   have HO218 := n4_
                                   have HB := n5_
                                   clear n0_ n1_ n2_ n3_ n4_ n5_
                                   clear hb ho37
                                   refine hK.out _ _ trivial (fun hHeld => ?_)
                                   clear hK K
                                   refine norm_ (a' := ?_) ?_ ?_
                                   rotate_left
                                   ·show Act.put _ (some 66) _ = _
                                    simp only [Act.put, List.setIfInBounds_toArray, List.set_cons_zero, List.set_cons_succ, i64_w, i32_w]
                                    rfl
                                   exact norm_ (by first | (simp only [putAll, Act.put, List.setIfInBounds_toArray, List.set_cons_zero, List.set_cons_succ]; done) | (simp only [putAll, Act.put, List.setIfInBounds_toArray, List.set_cons_zero, List.set_cons_succ]; rfl)) (hJ2 (v217) _ ⟨(by (with_reducible repeat (first | apply Kd.R_alloc | apply Kd.R_drewN | apply Kd.R_drew)); exact HO215.out), (by (with_reducible repeat (first | apply Kd.R_alloc | apply Kd.R_drewN | apply Kd.R_drew)); exact Kd.R_mono HO218.out (fun _ hk => ⟨hk.1.1.2, ⟨hk.1.2, hk.2⟩⟩)), (by (with_reducible repeat (first | apply Kd.R_alloc | apply Kd.R_drewN | apply Kd.R_drew)); exact Kd.R_mono HO_7.out (fun _ hk => ⟨hk.2, ⟨hk.1.1, hk.1.2⟩⟩)), (by (with_reducible repeat (first | apply Kd.R_alloc | apply Kd.R_drewN | apply Kd.R_drew)); exact Kd.R_mono HO_8.out (fun _ hk => ⟨hk.2, ⟨hk.1.1, hk.1.2⟩⟩)), (by (with_reducible repeat (first | apply Kd.R_alloc | apply Kd.R_drewN | apply Kd.R_drew)); exact Kd.R_mono HO_9.out (fun _ hk => ⟨hk.2, ⟨hk.1.1, hk.1.2⟩⟩)), (by repeat (first | (with_reducible first | exact HB.out | apply below_alloc | apply pw_below_drewN | apply below_drew1) | exact HB.out))⟩)
                                  ·skip
                                   refine Kd.R_lit_step Kd.string _ 9 ?hg (N := 72) ?hd (xs := ([((rdOf ByteArray.empty l0 x10_3) ++ (strOfNums y213)).extract 0 ((ji21) : Int).toNat] : List ByteArray)) (inner := [.string (((rdOf ByteArray.empty l0 x10_3) ++ (strOfNums y213)).extract 0 ((ji21) : Int).toNat)]) (ok := fun _ => True) (okp := fun _ => True) ?hr ?hp (fun _ hk => hk) trivial (Below.refl _ _) (Nat.le_refl _) (by simp) ?_; (case hd => rfl); (case hg => rfl); (case hr => first | (go_simp; done) | (go_simp; rfl)); (case hp => exact (Reps.one (show Kd.M Kd.string _ _ _ (((rdOf ByteArray.empty l0 x10_3) ++ (strOfNums y213)).extract 0 ((ji21) : Int).toNat) [.string (((rdOf ByteArray.empty l0 x10_3) ++ (strOfNums y213)).extract 0 ((ji21) : Int).toNat)] from rfl) (Reps.none _ _)))
                                   intro v223 w36 ho37 hb hg_ hnew_
                                   clear hg_ hnew_
                                   (first | rw [← Ny222.out] at ho37 | (simp only [Int.reduceToNat] at ho37; rw [← Ny222.out] at ho37))
                                   have n0_ := Aside0.mk (Kd.R_elder' (by (with_reducible repeat (first | apply Kd.R_alloc | apply Kd.R_drewN | apply Kd.R_drew)); exact HO_7.out) (Kd.R_base ho37) hb)
                                   have n1_ := Aside0.mk (Kd.R_elder' (by (with_reducible repeat (first | apply Kd.R_alloc | apply Kd.R_drewN | apply Kd.R_drew)); exact HO_8.out) (Kd.R_base ho37) hb)
                                   have n2_ := Aside0.mk (Kd.R_elder' (by (with_reducible repeat (first | apply Kd.R_alloc | apply Kd.R_drewN | apply Kd.R_drew)); exact HO_9.out) (Kd.R_base ho37) hb)
                                   have n3_ := Aside0.mk (Kd.R_below (by (with_reducible repeat (first | apply Kd.R_alloc | apply Kd.R_drewN | apply Kd.R_drew)); exact HO215.out) hb)
                                   have n4_ := Aside0.mk (Kd.R_lower (Kd.R_new' (Kd.R_new' (Kd.R_new' ho37 (Kd.R_lt (by (with_reducible repeat (first | apply Kd.R_alloc | apply Kd.R_drewN | apply Kd.R_drew)); exact HO_7.out))) (Kd.R_lt (by (with_reducible repeat (first | apply Kd.R_alloc | apply Kd.R_drewN | apply Kd.R_drew)); exact HO_8.out))) (Kd.R_lt (by (with_reducible repeat (first | apply Kd.R_alloc | apply Kd.R_drewN | apply Kd.R_drew)); exact HO_9.out))) (below_size (by repeat (first | (with_reducible first | exact HB.out | apply below_alloc | apply pw_below_drewN | apply below_drew1) | exact HB.out))))
                                   have n5_ := Aside0.mk (below_step (by repeat (first | (with_reducible first | exact HB.out | apply below_alloc | apply pw_below_drewN | apply below_drew1) | exact HB.out)) hb)
                                   (try clear HO_7)
                                   (try clear HO_8)
                                   (try clear HO_9)
                                   clear HO215
                                   clear HB
                                   have HO_7 := n0_
                                   have HO_8 := n1_
                                   have HO_9 := n2_
                                   have HO215 := n3_
                                   have HO224 := n4_
                                   have HB := n5_
                                   clear n0_ n1_ n2_ n3_ n4_ n5_
                                   clear hb ho37
                                   refine hK.out _ _ trivial (fun hHeld => ?_)
                                   clear hK K
                                   refine norm_ (a' := ?_) ?_ ?_
                                   rotate_left
                                   ·show Act.put _ (some 72) _ = _
                                    simp only [Act.put, List.setIfInBounds_toArray, List.set_cons_zero, List.set_cons_succ, i64_w, i32_w]
                                    rfl
                                   exact norm_ (by first | (simp only [putAll, Act.put, List.setIfInBounds_toArray, List.set_cons_zero, List.set_cons_succ]; done) | (simp only [putAll, Act.put, List.setIfInBounds_toArray, List.set_cons_zero, List.set_cons_succ]; rfl)) (hJ8 (v223) _ ⟨(by (with_reducible repeat (first | apply Kd.R_alloc | apply Kd.R_drewN | apply Kd.R_drew)); exact HO215.out), (by (with_reducible repeat (first | apply Kd.R_alloc | apply Kd.R_drewN | apply Kd.R_drew)); exact Kd.R_mono HO224.out (fun _ hk => ⟨hk.1.1.2, ⟨hk.1.2, hk.2⟩⟩)), (by (with_reducible repeat (first | apply Kd.R_alloc | apply Kd.R_drewN | apply Kd.R_drew)); exact Kd.R_mono HO_7.out (fun _ hk => ⟨hk.2, ⟨hk.1.1, hk.1.2⟩⟩)), (by (with_reducible repeat (first | apply Kd.R_alloc | apply Kd.R_drewN | apply Kd.R_drew)); exact Kd.R_mono HO_8.out (fun _ hk => ⟨hk.2, ⟨hk.1.1, hk.1.2⟩⟩)), (by (with_reducible repeat (first | apply Kd.R_alloc | apply Kd.R_drewN | apply Kd.R_drew)); exact Kd.R_mono HO_9.out (fun _ hk => ⟨hk.2, ⟨hk.1.1, hk.1.2⟩⟩)), (by repeat (first | (with_reducible first | exact HB.out | apply below_alloc | apply pw_below_drewN | apply below_drew1) | exact HB.out))⟩)
                                  ·skip
                                   refine Kd.R_lit_step Kd.string _ 9 ?hg (N := 78) ?hd (xs := ([((rdOf ByteArray.empty l0 x10_3) ++ (strOfNums y213)).extract ((ji21) : Int).toNat ((rdOf ByteArray.empty l0 x10_3) ++ (strOfNums y213)).size] : List ByteArray)) (inner := [.string (((rdOf ByteArray.empty l0 x10_3) ++ (strOfNums y213)).extract ((ji21) : Int).toNat ((rdOf ByteArray.empty l0 x10_3) ++ (strOfNums y213)).size)]) (ok := fun _ => True) (okp := fun _ => True) ?hr ?hp (fun _ hk => hk) trivial (Below.refl _ _) (Nat.le_refl _) (by simp) ?_; (case hd => rfl); (case hg => rfl); (case hr => first | (go_simp; done) | (go_simp; rfl)); (case hp => exact (Reps.one (show Kd.M Kd.string _ _ _ (((rdOf ByteArray.empty l0 x10_3) ++ (strOfNums y213)).extract ((ji21) : Int).toNat ((rdOf ByteArray.empty l0 x10_3) ++ (strOfNums y213)).size) [.string (((rdOf ByteArray.empty l0 x10_3) ++ (strOfNums y213)).extract ((ji21) : Int).toNat ((rdOf ByteArray.empty l0 x10_3) ++ (strOfNums y213)).size)] from rfl) (Reps.none _ _)))
                                   intro v229 w36 ho37 hb hg_ hnew_
                                   clear hg_ hnew_
                                   (first | rw [← Ny228.out] at ho37 | (simp only [Int.reduceToNat] at ho37; rw [← Ny228.out] at ho37))
                                   have n0_ := Aside0.mk (Kd.R_elder' (by (with_reducible repeat (first | apply Kd.R_alloc | apply Kd.R_drewN | apply Kd.R_drew)); exact HO_7.out) (Kd.R_base ho37) hb)
                                   have n1_ := Aside0.mk (Kd.R_elder' (by (with_reducible repeat (first | apply Kd.R_alloc | apply Kd.R_drewN | apply Kd.R_drew)); exact HO_8.out) (Kd.R_base ho37) hb)
                                   have n2_ := Aside0.mk (Kd.R_elder' (by (with_reducible repeat (first | apply Kd.R_alloc | apply Kd.R_drewN | apply Kd.R_drew)); exact HO_9.out) (Kd.R_base ho37) hb)
                                   have n3_ := Aside0.mk (Kd.R_below (by (with_reducible repeat (first | apply Kd.R_alloc | apply Kd.R_drewN | apply Kd.R_drew)); exact HO215.out) hb)
                                   have n4_ := Aside0.mk (Kd.R_lower (Kd.R_new' (Kd.R_new' (Kd.R_new' ho37 (Kd.R_lt (by (with_reducible repeat (first | apply Kd.R_alloc | apply Kd.R_drewN | apply Kd.R_drew)); exact HO_7.out))) (Kd.R_lt (by (with_reducible repeat (first | apply Kd.R_alloc | apply Kd.R_drewN | apply Kd.R_drew)); exact HO_8.out))) (Kd.R_lt (by (with_reducible repeat (first | apply Kd.R_alloc | apply Kd.R_drewN | apply Kd.R_drew)); exact HO_9.out))) (below_size (by repeat (first | (with_reducible first | exact HB.out | apply below_alloc | apply pw_below_drewN | apply below_drew1) | exact HB.out))))
                                   have n5_ := Aside0.mk (below_step (by repeat (first | (with_reducible first | exact HB.out | apply below_alloc | apply pw_below_drewN | apply below_drew1) | exact HB.out)) hb)
                                   (try clear HO_7)
                                   (try clear HO_8)
                                   (try clear HO_9)
                                   clear HO215
                                   clear HB
                                   have HO_7 := n0_
                                   have HO_8 := n1_
                                   have HO_9 := n2_
                                   have HO215 := n3_
                                   have HO230 := n4_
                                   have HB := n5_
                                   clear n0_ n1_ n2_ n3_ n4_ n5_
                                   clear hb ho37
                                   refine hK.out _ _ trivial (fun hHeld => ?_)
                                   clear hK K
                                   refine norm_ (a' := ?_) ?_ ?_
                                   rotate_left
                                   ·show Act.put _ (some 78) _ = _
                                    simp only [Act.put, List.setIfInBounds_toArray, List.set_cons_zero, List.set_cons_succ, i64_w, i32_w]
                                    rfl
                                   exact norm_ (by first | (simp only [putAll, Act.put, List.setIfInBounds_toArray, List.set_cons_zero, List.set_cons_succ]; done) | (simp only [putAll, Act.put, List.setIfInBounds_toArray, List.set_cons_zero, List.set_cons_succ]; rfl)) (hJ14 (v229) _ ⟨(by (with_reducible repeat (first | apply Kd.R_alloc | apply Kd.R_drewN | apply Kd.R_drew)); exact HO215.out), (by (with_reducible repeat (first | apply Kd.R_alloc | apply Kd.R_drewN | apply Kd.R_drew)); exact Kd.R_mono HO230.out (fun _ hk => ⟨hk.1.1.2, ⟨hk.1.2, hk.2⟩⟩)), (by (with_reducible repeat (first | apply Kd.R_alloc | apply Kd.R_drewN | apply Kd.R_drew)); exact Kd.R_mono HO_7.out (fun _ hk => ⟨hk.2, ⟨hk.1.1, hk.1.2⟩⟩)), (by (with_reducible repeat (first | apply Kd.R_alloc | apply Kd.R_drewN | apply Kd.R_drew)); exact Kd.R_mono HO_8.out (fun _ hk => ⟨hk.2, ⟨hk.1.1, hk.1.2⟩⟩)), (by (with_reducible repeat (first | apply Kd.R_alloc | apply Kd.R_drewN | apply Kd.R_drew)); exact Kd.R_mono HO_9.out (fun _ hk => ⟨hk.2, ⟨hk.1.1, hk.1.2⟩⟩)), (by repeat (first | (with_reducible first | exact HB.out | apply below_alloc | apply pw_below_drewN | apply below_drew1) | exact HB.out))⟩)
                                 ·skip
                                  rintro v229 w38 ⟨h0_, h1_, h2_, h3_, h4_, h5_⟩
                                  have n0_ : Aside0 (Kd.R (Kd.int .u8) 5 w38 w.heap.size (fun _ => True) v214 y213) := ⟨h0_⟩
                                  have n1_ : Aside0 (Kd.R Kd.string 9 w38 w.heap.size (fun k_ => some k_ ≠ (.slice Ao32 x7_3.length co32 : Value).ownBlock ∧ some k_ ≠ (.slice Ao33 x8_3.length co33 : Value).ownBlock ∧ some k_ ≠ (.slice Ao34 x9_3.length co34 : Value).ownBlock) v229 y228) := ⟨h1_⟩
                                  have n2_ : Aside0 (Kd.R Kd.string 9 w38 w.heap.size (fun k_ => some k_ ≠ (v229 : Value).ownBlock ∧ some k_ ≠ (.slice Ao33 x8_3.length co33 : Value).ownBlock ∧ some k_ ≠ (.slice Ao34 x9_3.length co34 : Value).ownBlock) (.slice Ao32 x7_3.length co32) x7_3) := ⟨h2_⟩
                                  have n3_ : Aside0 (Kd.R Kd.string 9 w38 w.heap.size (fun k_ => some k_ ≠ (v229 : Value).ownBlock ∧ some k_ ≠ (.slice Ao32 x7_3.length co32 : Value).ownBlock ∧ some k_ ≠ (.slice Ao34 x9_3.length co34 : Value).ownBlock) (.slice Ao33 x8_3.length co33) x8_3) := ⟨h3_⟩
                                  have n4_ : Aside0 (Kd.R Kd.string 9 w38 w.heap.size (fun k_ => some k_ ≠ (v229 : Value).ownBlock ∧ some k_ ≠ (.slice Ao32 x7_3.length co32 : Value).ownBlock ∧ some k_ ≠ (.slice Ao33 x8_3.length co33 : Value).ownBlock) (.slice Ao34 x9_3.length co34) x9_3) := ⟨h4_⟩
                                  have n5_ : Aside0 (Below w.heap.size w w38) := ⟨h5_⟩
                                  (try clear HO_7)
                                  (try clear HO_8)
                                  (try clear HO_9)
                                  clear HO215
                                  clear HB
                                  clear h0_ h1_ h2_ h3_ h4_ h5_
                                  have HO215 := n0_
                                  have HO230 := n1_
                                  have HO_7 := n2_
                                  have HO_8 := n3_
                                  have HO_9 := n4_
                                  have HB := n5_
                                  clear n0_ n1_ n2_ n3_ n4_ n5_
                                  have hHeld := trivial
                                  refine norm_ (a' := ?_) ?_ ?_
                                  rotate_left
                                  ·simp only [putAll, Act.put, List.setIfInBounds_toArray, List.set_cons_zero, List.set_cons_succ]
                                   rfl
                                  refine two_ (i := 2) (j := 8) (Ni := some 66) (Nj := some 72) #[true, true, true, false, true, true, true, true, false, false, true, true, true, true, true, false, false, false, false] #[true, true, false, false, true, true, true, true, true, false, true, true, true, true, true, false, false, false, false] rfl rfl rfl rfl (two_of HT_.out (by kernel_rfl)) (by decide) (by decide) (fun K hK => ?_) (fun K hK => ?_)
                                  ·skip
                                   refine Kd.R_lit_step Kd.string _ 9 ?hg (N := 66) ?hd (xs := ([(rdOf ByteArray.empty l0 x10_3) ++ (strOfNums y213)] : List ByteArray)) (inner := [.string ((rdOf ByteArray.empty l0 x10_3) ++ (strOfNums y213))]) (ok := fun _ => True) (okp := fun _ => True) ?hr ?hp (fun _ hk => hk) trivial (Below.refl _ _) (Nat.le_refl _) (by simp) ?_; (case hd => rfl); (case hg => rfl); (case hr => first | (go_simp; done) | (go_simp; rfl)); (case hp => exact (Reps.one (show Kd.M Kd.string _ _ _ ((rdOf ByteArray.empty l0 x10_3) ++ (strOfNums y213)) [.string ((rdOf ByteArray.empty l0 x10_3) ++ (strOfNums y213))] from rfl) (Reps.none _ _)))
                                   intro v217 w39 ho40 hb hg_ hnew_
                                   clear hg_ hnew_
                                   (first | rw [← Ny216.out] at ho40 | (simp only [Int.reduceToNat] at ho40; rw [← Ny216.out] at ho40))
                                   have n0_ := Aside0.mk (Kd.R_elder' (by (with_reducible repeat (first | apply Kd.R_alloc | apply Kd.R_drewN | apply Kd.R_drew)); exact HO_7.out) (Kd.R_base ho40) hb)
                                   have n1_ := Aside0.mk (Kd.R_elder' (by (with_reducible repeat (first | apply Kd.R_alloc | apply Kd.R_drewN | apply Kd.R_drew)); exact HO_8.out) (Kd.R_base ho40) hb)
                                   have n2_ := Aside0.mk (Kd.R_elder' (by (with_reducible repeat (first | apply Kd.R_alloc | apply Kd.R_drewN | apply Kd.R_drew)); exact HO_9.out) (Kd.R_base ho40) hb)
                                   have n3_ := Aside0.mk (Kd.R_below (by (with_reducible repeat (first | apply Kd.R_alloc | apply Kd.R_drewN | apply Kd.R_drew)); exact HO215.out) hb)
                                   have n4_ := Aside0.mk (Kd.R_elder' (by (with_reducible repeat (first | apply Kd.R_alloc | apply Kd.R_drewN | apply Kd.R_drew)); exact HO230.out) (Kd.R_base ho40) hb)
                                   have n5_ := Aside0.mk (Kd.R_lower (Kd.R_new' (Kd.R_new' (Kd.R_new' (Kd.R_new' ho40 (Kd.R_lt (by (with_reducible repeat (first | apply Kd.R_alloc | apply Kd.R_drewN | apply Kd.R_drew)); exact HO_7.out))) (Kd.R_lt (by (with_reducible repeat (first | apply Kd.R_alloc | apply Kd.R_drewN | apply Kd.R_drew)); exact HO_8.out))) (Kd.R_lt (by (with_reducible repeat (first | apply Kd.R_alloc | apply Kd.R_drewN | apply Kd.R_drew)); exact HO_9.out))) (Kd.R_lt (by (with_reducible repeat (first | apply Kd.R_alloc | apply Kd.R_drewN | apply Kd.R_drew)); exact HO230.out))) (below_size (by repeat (first | (with_reducible first | exact HB.out | apply below_alloc | apply pw_below_drewN | apply below_drew1) | exact HB.out))))
                                   have n6_ := Aside0.mk (below_step (by repeat (first | (with_reducible first | exact HB.out | apply below_alloc | apply pw_below_drewN | apply below_drew1) | exact HB.out)) hb)
                                   (try clear HO_7)
                                   (try clear HO_8)
                                   (try clear HO_9)
                                   clear HO215
                                   clear HO230
                                   clear HB
                                   have HO_7 := n0_
                                   have HO_8 := n1_
                                   have HO_9 := n2_
                                   have HO215 := n3_
                                   have HO230 := n4_
                                   have HO218 := n5_
                                   have HB := n6_
                                   clear n0_ n1_ n2_ n3_ n4_ n5_ n6_
                                   clear hb ho40
                                   refine hK.out _ _ trivial (fun hHeld => ?_)
                                   clear hK K
                                   refine norm_ (a' := ?_) ?_ ?_
                                   rotate_left
                                   ·show Act.put _ (some 66) _ = _
                                    simp only [Act.put, List.setIfInBounds_toArray, List.set_cons_zero, List.set_cons_succ, i64_w, i32_w]
                                    rfl
                                   exact norm_ (by first | (simp only [putAll, Act.put, List.setIfInBounds_toArray, List.set_cons_zero, List.set_cons_succ]; done) | (simp only [putAll, Act.put, List.setIfInBounds_toArray, List.set_cons_zero, List.set_cons_succ]; rfl)) (hJ2_14 (v217, v229) _ ⟨(by (with_reducible repeat (first | apply Kd.R_alloc | apply Kd.R_drewN | apply Kd.R_drew)); exact HO215.out), (by (with_reducible repeat (first | apply Kd.R_alloc | apply Kd.R_drewN | apply Kd.R_drew)); exact Kd.R_mono HO218.out (fun _ hk => ⟨hk.2, ⟨hk.1.1.1.2, ⟨hk.1.1.2, hk.1.2⟩⟩⟩)), (by (with_reducible repeat (first | apply Kd.R_alloc | apply Kd.R_drewN | apply Kd.R_drew)); exact Kd.R_mono HO230.out (fun _ hk => ⟨hk.2, ⟨hk.1.1, ⟨hk.1.2.1, hk.1.2.2⟩⟩⟩)), (by (with_reducible repeat (first | apply Kd.R_alloc | apply Kd.R_drewN | apply Kd.R_drew)); exact Kd.R_mono HO_7.out (fun _ hk => ⟨hk.2, ⟨hk.1.1, ⟨hk.1.2.1, hk.1.2.2⟩⟩⟩)), (by (with_reducible repeat (first | apply Kd.R_alloc | apply Kd.R_drewN | apply Kd.R_drew)); exact Kd.R_mono HO_8.out (fun _ hk => ⟨hk.2, ⟨hk.1.1, ⟨hk.1.2.1, hk.1.2.2⟩⟩⟩)), (by (with_reducible repeat (first | apply Kd.R_alloc | apply Kd.R_drewN | apply Kd.R_drew)); exact Kd.R_mono HO_9.out (fun _ hk => ⟨hk.2, ⟨hk.1.1, ⟨hk.1.2.1, hk.1.2.2⟩⟩⟩)), (by repeat (first | (with_reducible first | exact HB.out | apply below_alloc | apply pw_below_drewN | apply below_drew1) | exact HB.out))⟩)
                                  ·skip
                                   refine Kd.R_lit_step Kd.string _ 9 ?hg (N := 72) ?hd (xs := ([((rdOf ByteArray.empty l0 x10_3) ++ (strOfNums y213)).extract 0 ((ji21) : Int).toNat] : List ByteArray)) (inner := [.string (((rdOf ByteArray.empty l0 x10_3) ++ (strOfNums y213)).extract 0 ((ji21) : Int).toNat)]) (ok := fun _ => True) (okp := fun _ => True) ?hr ?hp (fun _ hk => hk) trivial (Below.refl _ _) (Nat.le_refl _) (by simp) ?_; (case hd => rfl); (case hg => rfl); (case hr => first | (go_simp; done) | (go_simp; rfl)); (case hp => exact (Reps.one (show Kd.M Kd.string _ _ _ (((rdOf ByteArray.empty l0 x10_3) ++ (strOfNums y213)).extract 0 ((ji21) : Int).toNat) [.string (((rdOf ByteArray.empty l0 x10_3) ++ (strOfNums y213)).extract 0 ((ji21) : Int).toNat)] from rfl) (Reps.none _ _)))
                                   intro v223 w39 ho40 hb hg_ hnew_
                                   clear hg_ hnew_
                                   (first | rw [← Ny222.out] at ho40 | (simp only [Int.reduceToNat] at ho40; rw [← Ny222.out] at ho40))
                                   have n0_ := Aside0.mk (Kd.R_elder' (by (with_reducible repeat (first | apply Kd.R_alloc | apply Kd.R_drewN | apply Kd.R_drew)); exact HO_7.out) (Kd.R_base ho40) hb)
                                   have n1_ := Aside0.mk (Kd.R_elder' (by (with_reducible repeat (first | apply Kd.R_alloc | apply Kd.R_drewN | apply Kd.R_drew)); exact HO_8.out) (Kd.R_base ho40) hb)
                                   have n2_ := Aside0.mk (Kd.R_elder' (by (with_reducible repeat (first | apply Kd.R_alloc | apply Kd.R_drewN | apply Kd.R_drew)); exact HO_9.out) (Kd.R_base ho40) hb)
                                   have n3_ := Aside0.mk (Kd.R_below (by (with_reducible repeat (first | apply Kd.R_alloc | apply Kd.R_drewN | apply Kd.R_drew)); exact HO215.out) hb)
                                   have n4_ := Aside0.mk (Kd.R_elder' (by (with_reducible repeat (first | apply Kd.R_alloc | apply Kd.R_drewN | apply Kd.R_drew)); exact HO230.out) (Kd.R_base ho40) hb)
                                   have n5_ := Aside0.mk (Kd.R_lower (Kd.R_new' (Kd.R_new' (Kd.R_new' (Kd.R_new' ho40 (Kd.R_lt (by (with_reducible repeat (first | apply Kd.R_alloc | apply Kd.R_drewN | apply Kd.R_drew)); exact HO_7.out))) (Kd.R_lt (by (with_reducible repeat (first | apply Kd.R_alloc | apply Kd.R_drewN | apply Kd.R_drew)); exact HO_8.out))) (Kd.R_lt (by (with_reducible repeat (first | apply Kd.R_alloc | apply Kd.R_drewN | apply Kd.R_drew)); exact HO_9.out))) (Kd.R_lt (by (with_reducible repeat (first | apply Kd.R_alloc | apply Kd.R_drewN | apply Kd.R_drew)); exact HO230.out))) (below_size (by repeat (first | (with_reducible first | exact HB.out | apply below_alloc | apply pw_below_drewN | apply below_drew1) | exact HB.out))))
                                   have n6_ := Aside0.mk (below_step (by repeat (first | (with_reducible first | exact HB.out | apply below_alloc | apply pw_below_drewN | apply below_drew1) | exact HB.out)) hb)
                                   (try clear HO_7)
                                   (try clear HO_8)
                                   (try clear HO_9)
                                   clear HO215
                                   clear HO230
                                   clear HB
                                   have HO_7 := n0_
                                   have HO_8 := n1_
                                   have HO_9 := n2_
                                   have HO215 := n3_
                                   have HO230 := n4_
                                   have HO224 := n5_
                                   have HB := n6_
                                   clear n0_ n1_ n2_ n3_ n4_ n5_ n6_
                                   clear hb ho40
                                   refine hK.out _ _ trivial (fun hHeld => ?_)
                                   clear hK K
                                   refine norm_ (a' := ?_) ?_ ?_
                                   rotate_left
                                   ·show Act.put _ (some 72) _ = _
                                    simp only [Act.put, List.setIfInBounds_toArray, List.set_cons_zero, List.set_cons_succ, i64_w, i32_w]
                                    rfl
                                   exact norm_ (by first | (simp only [putAll, Act.put, List.setIfInBounds_toArray, List.set_cons_zero, List.set_cons_succ]; done) | (simp only [putAll, Act.put, List.setIfInBounds_toArray, List.set_cons_zero, List.set_cons_succ]; rfl)) (hJ8_14 (v223, v229) _ ⟨(by (with_reducible repeat (first | apply Kd.R_alloc | apply Kd.R_drewN | apply Kd.R_drew)); exact HO215.out), (by (with_reducible repeat (first | apply Kd.R_alloc | apply Kd.R_drewN | apply Kd.R_drew)); exact Kd.R_mono HO224.out (fun _ hk => ⟨hk.2, ⟨hk.1.1.1.2, ⟨hk.1.1.2, hk.1.2⟩⟩⟩)), (by (with_reducible repeat (first | apply Kd.R_alloc | apply Kd.R_drewN | apply Kd.R_drew)); exact Kd.R_mono HO230.out (fun _ hk => ⟨hk.2, ⟨hk.1.1, ⟨hk.1.2.1, hk.1.2.2⟩⟩⟩)), (by (with_reducible repeat (first | apply Kd.R_alloc | apply Kd.R_drewN | apply Kd.R_drew)); exact Kd.R_mono HO_7.out (fun _ hk => ⟨hk.2, ⟨hk.1.1, ⟨hk.1.2.1, hk.1.2.2⟩⟩⟩)), (by (with_reducible repeat (first | apply Kd.R_alloc | apply Kd.R_drewN | apply Kd.R_drew)); exact Kd.R_mono HO_8.out (fun _ hk => ⟨hk.2, ⟨hk.1.1, ⟨hk.1.2.1, hk.1.2.2⟩⟩⟩)), (by (with_reducible repeat (first | apply Kd.R_alloc | apply Kd.R_drewN | apply Kd.R_drew)); exact Kd.R_mono HO_9.out (fun _ hk => ⟨hk.2, ⟨hk.1.1, ⟨hk.1.2.1, hk.1.2.2⟩⟩⟩)), (by repeat (first | (with_reducible first | exact HB.out | apply below_alloc | apply pw_below_drewN | apply below_drew1) | exact HB.out))⟩)
                                ·skip
                                 rintro v223 w38 ⟨h0_, h1_, h2_, h3_, h4_, h5_⟩
                                 have n0_ : Aside0 (Kd.R (Kd.int .u8) 5 w38 w.heap.size (fun _ => True) v214 y213) := ⟨h0_⟩
                                 have n1_ : Aside0 (Kd.R Kd.string 9 w38 w.heap.size (fun k_ => some k_ ≠ (.slice Ao32 x7_3.length co32 : Value).ownBlock ∧ some k_ ≠ (.slice Ao33 x8_3.length co33 : Value).ownBlock ∧ some k_ ≠ (.slice Ao34 x9_3.length co34 : Value).ownBlock) v223 y222) := ⟨h1_⟩
                                 have n2_ : Aside0 (Kd.R Kd.string 9 w38 w.heap.size (fun k_ => some k_ ≠ (v223 : Value).ownBlock ∧ some k_ ≠ (.slice Ao33 x8_3.length co33 : Value).ownBlock ∧ some k_ ≠ (.slice Ao34 x9_3.length co34 : Value).ownBlock) (.slice Ao32 x7_3.length co32) x7_3) := ⟨h2_⟩
                                 have n3_ : Aside0 (Kd.R Kd.string 9 w38 w.heap.size (fun k_ => some k_ ≠ (v223 : Value).ownBlock ∧ some k_ ≠ (.slice Ao32 x7_3.length co32 : Value).ownBlock ∧ some k_ ≠ (.slice Ao34 x9_3.length co34 : Value).ownBlock) (.slice Ao33 x8_3.length co33) x8_3) := ⟨h3_⟩
                                 have n4_ : Aside0 (Kd.R Kd.string 9 w38 w.heap.size (fun k_ => some k_ ≠ (v223 : Value).ownBlock ∧ some k_ ≠ (.slice Ao32 x7_3.length co32 : Value).ownBlock ∧ some k_ ≠ (.slice Ao33 x8_3.length co33 : Value).ownBlock) (.slice Ao34 x9_3.length co34) x9_3) := ⟨h4_⟩
                                 have n5_ : Aside0 (Below w.heap.size w w38) := ⟨h5_⟩
                                 (try clear HO_7)
                                 (try clear HO_8)
                                 (try clear HO_9)
                                 clear HO215
                                 clear HB
                                 clear h0_ h1_ h2_ h3_ h4_ h5_
                                 have HO215 := n0_
                                 have HO224 := n1_
                                 have HO_7 := n2_
                                 have HO_8 := n3_
                                 have HO_9 := n4_
                                 have HB := n5_
                                 clear n0_ n1_ n2_ n3_ n4_ n5_
                                 have hHeld := trivial
                                 refine norm_ (a' := ?_) ?_ ?_
                                 rotate_left
                                 ·simp only [putAll, Act.put, List.setIfInBounds_toArray, List.set_cons_zero, List.set_cons_succ]
                                  rfl
                                 refine two_ (i := 2) (j := 14) (Ni := some 66) (Nj := some 78) #[true, true, true, false, true, true, true, true, true, false, true, true, true, true, false, false, false, false, false] #[true, true, false, false, true, true, true, true, true, false, true, true, true, true, true, false, false, false, false] rfl rfl rfl rfl (two_of HT_.out (by kernel_rfl)) (by decide) (by decide) (fun K hK => ?_) (fun K hK => ?_)
                                 ·skip
                                  refine Kd.R_lit_step Kd.string _ 9 ?hg (N := 66) ?hd (xs := ([(rdOf ByteArray.empty l0 x10_3) ++ (strOfNums y213)] : List ByteArray)) (inner := [.string ((rdOf ByteArray.empty l0 x10_3) ++ (strOfNums y213))]) (ok := fun _ => True) (okp := fun _ => True) ?hr ?hp (fun _ hk => hk) trivial (Below.refl _ _) (Nat.le_refl _) (by simp) ?_; (case hd => rfl); (case hg => rfl); (case hr => first | (go_simp; done) | (go_simp; rfl)); (case hp => exact (Reps.one (show Kd.M Kd.string _ _ _ ((rdOf ByteArray.empty l0 x10_3) ++ (strOfNums y213)) [.string ((rdOf ByteArray.empty l0 x10_3) ++ (strOfNums y213))] from rfl) (Reps.none _ _)))
                                  intro v217 w39 ho40 hb hg_ hnew_
                                  clear hg_ hnew_
                                  (first | rw [← Ny216.out] at ho40 | (simp only [Int.reduceToNat] at ho40; rw [← Ny216.out] at ho40))
                                  have n0_ := Aside0.mk (Kd.R_elder' (by (with_reducible repeat (first | apply Kd.R_alloc | apply Kd.R_drewN | apply Kd.R_drew)); exact HO_7.out) (Kd.R_base ho40) hb)
                                  have n1_ := Aside0.mk (Kd.R_elder' (by (with_reducible repeat (first | apply Kd.R_alloc | apply Kd.R_drewN | apply Kd.R_drew)); exact HO_8.out) (Kd.R_base ho40) hb)
                                  have n2_ := Aside0.mk (Kd.R_elder' (by (with_reducible repeat (first | apply Kd.R_alloc | apply Kd.R_drewN | apply Kd.R_drew)); exact HO_9.out) (Kd.R_base ho40) hb)
                                  have n3_ := Aside0.mk (Kd.R_below (by (with_reducible repeat (first | apply Kd.R_alloc | apply Kd.R_drewN | apply Kd.R_drew)); exact HO215.out) hb)
                                  have n4_ := Aside0.mk (Kd.R_elder' (by (with_reducible repeat (first | apply Kd.R_alloc | apply Kd.R_drewN | apply Kd.R_drew)); exact HO224.out) (Kd.R_base ho40) hb)
                                  have n5_ := Aside0.mk (Kd.R_lower (Kd.R_new' (Kd.R_new' (Kd.R_new' (Kd.R_new' ho40 (Kd.R_lt (by (with_reducible repeat (first | apply Kd.R_alloc | apply Kd.R_drewN | apply Kd.R_drew)); exact HO_7.out))) (Kd.R_lt (by (with_reducible repeat (first | apply Kd.R_alloc | apply Kd.R_drewN | apply Kd.R_drew)); exact HO_8.out))) (Kd.R_lt (by (with_reducible repeat (first | apply Kd.R_alloc | apply Kd.R_drewN | apply Kd.R_drew)); exact HO_9.out))) (Kd.R_lt (by (with_reducible repeat (first | apply Kd.R_alloc | apply Kd.R_drewN | apply Kd.R_drew)); exact HO224.out))) (below_size (by repeat (first | (with_reducible first | exact HB.out | apply below_alloc | apply pw_below_drewN | apply below_drew1) | exact HB.out))))
                                  have n6_ := Aside0.mk (below_step (by repeat (first | (with_reducible first | exact HB.out | apply below_alloc | apply pw_below_drewN | apply below_drew1) | exact HB.out)) hb)
                                  (try clear HO_7)
                                  (try clear HO_8)
                                  (try clear HO_9)
                                  clear HO215
                                  clear HO224
                                  clear HB
                                  have HO_7 := n0_
                                  have HO_8 := n1_
                                  have HO_9 := n2_
                                  have HO215 := n3_
                                  have HO224 := n4_
                                  have HO218 := n5_
                                  have HB := n6_
                                  clear n0_ n1_ n2_ n3_ n4_ n5_ n6_
                                  clear hb ho40
                                  refine hK.out _ _ trivial (fun hHeld => ?_)
                                  clear hK K
                                  refine norm_ (a' := ?_) ?_ ?_
                                  rotate_left
                                  ·show Act.put _ (some 66) _ = _
                                   simp only [Act.put, List.setIfInBounds_toArray, List.set_cons_zero, List.set_cons_succ, i64_w, i32_w]
                                   rfl
                                  exact norm_ (by first | (simp only [putAll, Act.put, List.setIfInBounds_toArray, List.set_cons_zero, List.set_cons_succ]; done) | (simp only [putAll, Act.put, List.setIfInBounds_toArray, List.set_cons_zero, List.set_cons_succ]; rfl)) (hJ2_8 (v217, v223) _ ⟨(by (with_reducible repeat (first | apply Kd.R_alloc | apply Kd.R_drewN | apply Kd.R_drew)); exact HO215.out), (by (with_reducible repeat (first | apply Kd.R_alloc | apply Kd.R_drewN | apply Kd.R_drew)); exact Kd.R_mono HO218.out (fun _ hk => ⟨hk.2, ⟨hk.1.1.1.2, ⟨hk.1.1.2, hk.1.2⟩⟩⟩)), (by (with_reducible repeat (first | apply Kd.R_alloc | apply Kd.R_drewN | apply Kd.R_drew)); exact Kd.R_mono HO224.out (fun _ hk => ⟨hk.2, ⟨hk.1.1, ⟨hk.1.2.1, hk.1.2.2⟩⟩⟩)), (by (with_reducible repeat (first | apply Kd.R_alloc | apply Kd.R_drewN | apply Kd.R_drew)); exact Kd.R_mono HO_7.out (fun _ hk => ⟨hk.2, ⟨hk.1.1, ⟨hk.1.2.1, hk.1.2.2⟩⟩⟩)), (by (with_reducible repeat (first | apply Kd.R_alloc | apply Kd.R_drewN | apply Kd.R_drew)); exact Kd.R_mono HO_8.out (fun _ hk => ⟨hk.2, ⟨hk.1.1, ⟨hk.1.2.1, hk.1.2.2⟩⟩⟩)), (by (with_reducible repeat (first | apply Kd.R_alloc | apply Kd.R_drewN | apply Kd.R_drew)); exact Kd.R_mono HO_9.out (fun _ hk => ⟨hk.2, ⟨hk.1.1, ⟨hk.1.2.1, hk.1.2.2⟩⟩⟩)), (by repeat (first | (with_reducible first | exact HB.out | apply below_alloc | apply pw_below_drewN | apply below_drew1) | exact HB.out))⟩)
                                 ·skip
                                  refine Kd.R_lit_step Kd.string _ 9 ?hg (N := 78) ?hd (xs := ([((rdOf ByteArray.empty l0 x10_3) ++ (strOfNums y213)).extract ((ji21) : Int).toNat ((rdOf ByteArray.empty l0 x10_3) ++ (strOfNums y213)).size] : List ByteArray)) (inner := [.string (((rdOf ByteArray.empty l0 x10_3) ++ (strOfNums y213)).extract ((ji21) : Int).toNat ((rdOf ByteArray.empty l0 x10_3) ++ (strOfNums y213)).size)]) (ok := fun _ => True) (okp := fun _ => True) ?hr ?hp (fun _ hk => hk) trivial (Below.refl _ _) (Nat.le_refl _) (by simp) ?_; (case hd => rfl); (case hg => rfl); (case hr => first | (go_simp; done) | (go_simp; rfl)); (case hp => exact (Reps.one (show Kd.M Kd.string _ _ _ (((rdOf ByteArray.empty l0 x10_3) ++ (strOfNums y213)).extract ((ji21) : Int).toNat ((rdOf ByteArray.empty l0 x10_3) ++ (strOfNums y213)).size) [.string (((rdOf ByteArray.empty l0 x10_3) ++ (strOfNums y213)).extract ((ji21) : Int).toNat ((rdOf ByteArray.empty l0 x10_3) ++ (strOfNums y213)).size)] from rfl) (Reps.none _ _)))
                                  intro v229 w39 ho40 hb hg_ hnew_
                                  clear hg_ hnew_
                                  (first | rw [← Ny228.out] at ho40 | (simp only [Int.reduceToNat] at ho40; rw [← Ny228.out] at ho40))
                                  have n0_ := Aside0.mk (Kd.R_elder' (by (with_reducible repeat (first | apply Kd.R_alloc | apply Kd.R_drewN | apply Kd.R_drew)); exact HO_7.out) (Kd.R_base ho40) hb)
                                  have n1_ := Aside0.mk (Kd.R_elder' (by (with_reducible repeat (first | apply Kd.R_alloc | apply Kd.R_drewN | apply Kd.R_drew)); exact HO_8.out) (Kd.R_base ho40) hb)
                                  have n2_ := Aside0.mk (Kd.R_elder' (by (with_reducible repeat (first | apply Kd.R_alloc | apply Kd.R_drewN | apply Kd.R_drew)); exact HO_9.out) (Kd.R_base ho40) hb)
                                  have n3_ := Aside0.mk (Kd.R_below (by (with_reducible repeat (first | apply Kd.R_alloc | apply Kd.R_drewN | apply Kd.R_drew)); exact HO215.out) hb)
                                  have n4_ := Aside0.mk (Kd.R_elder' (by (with_reducible repeat (first | apply Kd.R_alloc | apply Kd.R_drewN | apply Kd.R_drew)); exact HO224.out) (Kd.R_base ho40) hb)
                                  have n5_ := Aside0.mk (Kd.R_lower (Kd.R_new' (Kd.R_new' (Kd.R_new' (Kd.R_new' ho40 (Kd.R_lt (by (with_reducible repeat (first | apply Kd.R_alloc | apply Kd.R_drewN | apply Kd.R_drew)); exact HO_7.out))) (Kd.R_lt (by (with_reducible repeat (first | apply Kd.R_alloc | apply Kd.R_drewN | apply Kd.R_drew)); exact HO_8.out))) (Kd.R_lt (by (with_reducible repeat (first | apply Kd.R_alloc | apply Kd.R_drewN | apply Kd.R_drew)); exact HO_9.out))) (Kd.R_lt (by (with_reducible repeat (first | apply Kd.R_alloc | apply Kd.R_drewN | apply Kd.R_drew)); exact HO224.out))) (below_size (by repeat (first | (with_reducible first | exact HB.out | apply below_alloc | apply pw_below_drewN | apply below_drew1) | exact HB.out))))
                                  have n6_ := Aside0.mk (below_step (by repeat (first | (with_reducible first | exact HB.out | apply below_alloc | apply pw_below_drewN | apply below_drew1) | exact HB.out)) hb)
                                  (try clear HO_7)
                                  (try clear HO_8)
                                  (try clear HO_9)
                                  clear HO215
                                  clear HO224
                                  clear HB
                                  have HO_7 := n0_
                                  have HO_8 := n1_
                                  have HO_9 := n2_
                                  have HO215 := n3_
                                  have HO224 := n4_
                                  have HO230 := n5_
                                  have HB := n6_
                                  clear n0_ n1_ n2_ n3_ n4_ n5_ n6_
                                  clear hb ho40
                                  refine hK.out _ _ trivial (fun hHeld => ?_)
                                  clear hK K
                                  refine norm_ (a' := ?_) ?_ ?_
                                  rotate_left
                                  ·show Act.put _ (some 78) _ = _
                                   simp only [Act.put, List.setIfInBounds_toArray, List.set_cons_zero, List.set_cons_succ, i64_w, i32_w]
                                   rfl
                                  exact norm_ (by first | (simp only [putAll, Act.put, List.setIfInBounds_toArray, List.set_cons_zero, List.set_cons_succ]; done) | (simp only [putAll, Act.put, List.setIfInBounds_toArray, List.set_cons_zero, List.set_cons_succ]; rfl)) (hJ8_14 (v223, v229) _ ⟨(by (with_reducible repeat (first | apply Kd.R_alloc | apply Kd.R_drewN | apply Kd.R_drew)); exact HO215.out), (by (with_reducible repeat (first | apply Kd.R_alloc | apply Kd.R_drewN | apply Kd.R_drew)); exact Kd.R_mono HO224.out (fun _ hk => ⟨hk.2, ⟨hk.1.1, ⟨hk.1.2.1, hk.1.2.2⟩⟩⟩)), (by (with_reducible repeat (first | apply Kd.R_alloc | apply Kd.R_drewN | apply Kd.R_drew)); exact Kd.R_mono HO230.out (fun _ hk => ⟨hk.2, ⟨hk.1.1.1.2, ⟨hk.1.1.2, hk.1.2⟩⟩⟩)), (by (with_reducible repeat (first | apply Kd.R_alloc | apply Kd.R_drewN | apply Kd.R_drew)); exact Kd.R_mono HO_7.out (fun _ hk => ⟨hk.1.1, ⟨hk.2, ⟨hk.1.2.1, hk.1.2.2⟩⟩⟩)), (by (with_reducible repeat (first | apply Kd.R_alloc | apply Kd.R_drewN | apply Kd.R_drew)); exact Kd.R_mono HO_8.out (fun _ hk => ⟨hk.1.1, ⟨hk.2, ⟨hk.1.2.1, hk.1.2.2⟩⟩⟩)), (by (with_reducible repeat (first | apply Kd.R_alloc | apply Kd.R_drewN | apply Kd.R_drew)); exact Kd.R_mono HO_9.out (fun _ hk => ⟨hk.1.1, ⟨hk.2, ⟨hk.1.2.1, hk.1.2.2⟩⟩⟩)), (by repeat (first | (with_reducible first | exact HB.out | apply below_alloc | apply pw_below_drewN | apply below_drew1) | exact HB.out))⟩)
                               ·skip
                                rintro v217 w38 ⟨h0_, h1_, h2_, h3_, h4_, h5_⟩
                                have n0_ : Aside0 (Kd.R (Kd.int .u8) 5 w38 w.heap.size (fun _ => True) v214 y213) := ⟨h0_⟩
                                have n1_ : Aside0 (Kd.R Kd.string 9 w38 w.heap.size (fun k_ => some k_ ≠ (.slice Ao32 x7_3.length co32 : Value).ownBlock ∧ some k_ ≠ (.slice Ao33 x8_3.length co33 : Value).ownBlock ∧ some k_ ≠ (.slice Ao34 x9_3.length co34 : Value).ownBlock) v217 y216) := ⟨h1_⟩
                                have n2_ : Aside0 (Kd.R Kd.string 9 w38 w.heap.size (fun k_ => some k_ ≠ (v217 : Value).ownBlock ∧ some k_ ≠ (.slice Ao33 x8_3.length co33 : Value).ownBlock ∧ some k_ ≠ (.slice Ao34 x9_3.length co34 : Value).ownBlock) (.slice Ao32 x7_3.length co32) x7_3) := ⟨h2_⟩
                                have n3_ : Aside0 (Kd.R Kd.string 9 w38 w.heap.size (fun k_ => some k_ ≠ (v217 : Value).ownBlock ∧ some k_ ≠ (.slice Ao32 x7_3.length co32 : Value).ownBlock ∧ some k_ ≠ (.slice Ao34 x9_3.length co34 : Value).ownBlock) (.slice Ao33 x8_3.length co33) x8_3) := ⟨h3_⟩
                                have n4_ : Aside0 (Kd.R Kd.string 9 w38 w.heap.size (fun k_ => some k_ ≠ (v217 : Value).ownBlock ∧ some k_ ≠ (.slice Ao32 x7_3.length co32 : Value).ownBlock ∧ some k_ ≠ (.slice Ao33 x8_3.length co33 : Value).ownBlock) (.slice Ao34 x9_3.length co34) x9_3) := ⟨h4_⟩
                                have n5_ : Aside0 (Below w.heap.size w w38) := ⟨h5_⟩
                                (try clear HO_7)
                                (try clear HO_8)
                                (try clear HO_9)
                                clear HO215
                                clear HB
                                clear h0_ h1_ h2_ h3_ h4_ h5_
                                have HO215 := n0_
                                have HO218 := n1_
                                have HO_7 := n2_
                                have HO_8 := n3_
                                have HO_9 := n4_
                                have HB := n5_
                                clear n0_ n1_ n2_ n3_ n4_ n5_
                                have hHeld := trivial
                                obtain ⟨Ao40, co40, eo40⟩ := Kd.R_slice HO218.out
                                (first | subst eo40 | (injection eo40 with f1_ f2_ f3_; have f4_ := f1_.symm; have f5_ := f3_.symm; clear f1_ f2_ f3_; subst f4_; subst f5_))
                                refine norm_ (a' := ?_) ?_ ?_
                                rotate_left
                                ·simp only [putAll, Act.put, List.setIfInBounds_toArray, List.set_cons_zero, List.set_cons_succ]
                                 rfl
                                refine three_ (i := 3) (j := 8) (k := 14) (Ni := some 67) (Nj := some 72) (Nk := some 78) #[true, true, true, true, true, true, true, true, false, false, true, true, true, true, false, false, false, false, false] #[true, true, true, false, true, true, true, true, true, false, true, true, true, true, false, false, false, false, false] #[true, true, true, false, true, true, true, true, false, false, true, true, true, true, true, false, false, false, false] rfl rfl rfl rfl rfl rfl (three_of HT_.out (by kernel_rfl)) (by decide) (by decide) (by decide) (fun K hK => ?_) (fun K hK => ?_) (fun K hK => ?_)
                                ·skip
                                 refine Kd.R_append_rows_step Kd.string (w0 := w) w.heap.size (by rfl) (.tmp 64) (.tmp 66) 22 9 (.string ⟨#[]⟩) 16 rfl Tryd.underlying22 info9 rfl (by decide) (by omega) (.slice Ao32 x7_3.length co32) x7_3 y216 _ _ _ (fun k_ => some k_ ≠ (.slice Ao33 x8_3.length co33 : Value).ownBlock ∧ some k_ ≠ (.slice Ao34 x9_3.length co34 : Value).ownBlock ∧ some k_ ≠ (.slice Ao40 y216.length co40 : Value).ownBlock) (fun _ => False) rfl rfl ?aO ?aR (fun _ _ h => h) (fun _ h => h.elim) ?aF ?aB ?aS ?aL ?_
                                 (case aR => repeat (first | exact (Kd.R_reads' HO218.out).2.2 | (with_reducible refine Kd.C_alloc ?_ _) | (with_reducible refine Kd.C_drewN ?_ _) | (with_reducible refine Kd.C_drew ?_)))
                                 (case aB => exact (by repeat (first | (with_reducible first | exact HB.out | apply below_alloc | apply pw_below_drewN | apply below_drew1) | exact HB.out)))
                                 (case aF => exact (fun k_ hk => ⟨Kd.fresh' (Kd.R_lt (by (with_reducible repeat (first | apply Kd.R_alloc | apply Kd.R_drewN | apply Kd.R_drew)); exact HO_8.out)) k_ hk, Kd.fresh' (Kd.R_lt (by (with_reducible repeat (first | apply Kd.R_alloc | apply Kd.R_drewN | apply Kd.R_drew)); exact HO_9.out)) k_ hk, Kd.fresh' (Kd.R_lt (by (with_reducible repeat (first | apply Kd.R_alloc | apply Kd.R_drewN | apply Kd.R_drew)); exact HO218.out)) k_ hk⟩))
                                 (case aO => exact (by (with_reducible repeat (first | apply Kd.R_alloc | apply Kd.R_drewN | apply Kd.R_drew)); exact Kd.R_mono HO_7.out (fun _ hk => ⟨hk.2.1, ⟨hk.2.2, hk.1⟩⟩)))
                                 (case aS => exact (below_size (by repeat (first | (with_reducible first | exact HB.out | apply below_alloc | apply pw_below_drewN | apply below_drew1) | exact HB.out))))
                                 (case aL => have := LMc20.out; omega)
                                 intro v220 w39 ho hb hg hat
                                 rw [← Ny219.out] at ho
                                 have n0_ := Aside0.mk (Kd.R_after (ok := (fun k_ => some k_ ≠ (.slice Ao34 x9_3.length co34 : Value).ownBlock ∧ some k_ ≠ (.slice Ao40 y216.length co40 : Value).ownBlock)) (by (with_reducible repeat (first | apply Kd.R_alloc | apply Kd.R_drewN | apply Kd.R_drew)); exact Kd.R_mono HO_8.out (fun _ hk => ⟨⟨hk.2.2, hk.1⟩, hk.2.1⟩)) hg hat)
                                 have n1_ := Aside0.mk (Kd.R_after (ok := (fun k_ => some k_ ≠ (.slice Ao33 x8_3.length co33 : Value).ownBlock ∧ some k_ ≠ (.slice Ao40 y216.length co40 : Value).ownBlock)) (by (with_reducible repeat (first | apply Kd.R_alloc | apply Kd.R_drewN | apply Kd.R_drew)); exact Kd.R_mono HO_9.out (fun _ hk => ⟨⟨hk.2.2, hk.1⟩, hk.2.1⟩)) hg hat)
                                 have n2_ := Aside0.mk (Kd.R_over' (by (with_reducible repeat (first | apply Kd.R_alloc | apply Kd.R_drewN | apply Kd.R_drew)); exact HO215.out) (Kd.R_typed (by (with_reducible repeat (first | apply Kd.R_alloc | apply Kd.R_drewN | apply Kd.R_drew)); exact HO_7.out)) (by decide) hg)
                                 have n3_ := Aside0.mk (Kd.R_after (ok := (fun k_ => some k_ ≠ (.slice Ao33 x8_3.length co33 : Value).ownBlock ∧ some k_ ≠ (.slice Ao34 x9_3.length co34 : Value).ownBlock)) (by (with_reducible repeat (first | apply Kd.R_alloc | apply Kd.R_drewN | apply Kd.R_drew)); exact Kd.R_mono HO218.out (fun _ hk => ⟨⟨hk.2.1, hk.2.2⟩, hk.1⟩)) hg hat)
                                 have n4_ := Aside0.mk (hb)
                                 have n5_ := Aside0.mk (ho)
                                 (try clear HO_8)
                                 (try clear HO_9)
                                 clear HO215
                                 clear HO218
                                 clear HB
                                 (try clear HO_7)
                                 have HO_8 := n0_
                                 have HO_9 := n1_
                                 have HO215 := n2_
                                 have HO218 := n3_
                                 have HB := n4_
                                 have HO221 := n5_
                                 clear n0_ n1_ n2_ n3_ n4_ n5_
                                 clear ho hb hg hat
                                 refine hK.out _ _ trivial (fun hHeld => ?_)
                                 clear hK K
                                 refine norm_ (a' := ?_) ?_ ?_
                                 rotate_left
                                 ·show Act.put _ (some 67) _ = _
                                  simp only [Act.put, List.setIfInBounds_toArray, List.set_cons_zero, List.set_cons_succ, i64_w, i32_w]
                                  rfl
                                 exact norm_ (by first | (simp only [putAll, Act.put, List.setIfInBounds_toArray, List.set_cons_zero, List.set_cons_succ]; done) | (simp only [putAll, Act.put, List.setIfInBounds_toArray, List.set_cons_zero, List.set_cons_succ]; rfl)) (hJ2_3 (.slice Ao40 y216.length co40, v220) _ ⟨(by (with_reducible repeat (first | apply Kd.R_alloc | apply Kd.R_drewN | apply Kd.R_drew)); exact HO215.out), (by (with_reducible repeat (first | apply Kd.R_alloc | apply Kd.R_drewN | apply Kd.R_drew)); exact Kd.R_mono HO218.out (fun _ hk => ⟨hk.2, ⟨hk.1.1, hk.1.2⟩⟩)), (by (with_reducible repeat (first | apply Kd.R_alloc | apply Kd.R_drewN | apply Kd.R_drew)); exact Kd.R_mono HO221.out (fun _ hk => ⟨hk.2.2, ⟨hk.1, hk.2.1⟩⟩)), (by (with_reducible repeat (first | apply Kd.R_alloc | apply Kd.R_drewN | apply Kd.R_drew)); exact Kd.R_mono HO_8.out (fun _ hk => ⟨hk.1.2, ⟨hk.2, hk.1.1⟩⟩)), (by (with_reducible repeat (first | apply Kd.R_alloc | apply Kd.R_drewN | apply Kd.R_drew)); exact Kd.R_mono HO_9.out (fun _ hk => ⟨hk.1.2, ⟨hk.2, hk.1.1⟩⟩)), (by repeat (first | (with_reducible first | exact HB.out | apply below_alloc | apply pw_below_drewN | apply below_drew1) | exact HB.out))⟩)
                                ·skip
                                 refine Kd.R_lit_step Kd.string _ 9 ?hg (N := 72) ?hd (xs := ([((rdOf ByteArray.empty l0 x10_3) ++ (strOfNums y213)).extract 0 ((ji21) : Int).toNat] : List ByteArray)) (inner := [.string (((rdOf ByteArray.empty l0 x10_3) ++ (strOfNums y213)).extract 0 ((ji21) : Int).toNat)]) (ok := fun _ => True) (okp := fun _ => True) ?hr ?hp (fun _ hk => hk) trivial (Below.refl _ _) (Nat.le_refl _) (by simp) ?_; (case hd => rfl); (case hg => rfl); (case hr => first | (go_simp; done) | (go_simp; rfl)); (case hp => exact (Reps.one (show Kd.M Kd.string _ _ _ (((rdOf ByteArray.empty l0 x10_3) ++ (strOfNums y213)).extract 0 ((ji21) : Int).toNat) [.string (((rdOf ByteArray.empty l0 x10_3) ++ (strOfNums y213)).extract 0 ((ji21) : Int).toNat)] from rfl) (Reps.none _ _)))
                                 intro v223 w39 ho40 hb hg_ hnew_
                                 clear hg_ hnew_
                                 (first | rw [← Ny222.out] at ho40 | (simp only [Int.reduceToNat] at ho40; rw [← Ny222.out] at ho40))
                                 have n0_ := Aside0.mk (Kd.R_elder' (by (with_reducible repeat (first | apply Kd.R_alloc | apply Kd.R_drewN | apply Kd.R_drew)); exact HO_7.out) (Kd.R_base ho40) hb)
                                 have n1_ := Aside0.mk (Kd.R_elder' (by (with_reducible repeat (first | apply Kd.R_alloc | apply Kd.R_drewN | apply Kd.R_drew)); exact HO_8.out) (Kd.R_base ho40) hb)
                                 have n2_ := Aside0.mk (Kd.R_elder' (by (with_reducible repeat (first | apply Kd.R_alloc | apply Kd.R_drewN | apply Kd.R_drew)); exact HO_9.out) (Kd.R_base ho40) hb)
                                 have n3_ := Aside0.mk (Kd.R_below (by (with_reducible repeat (first | apply Kd.R_alloc | apply Kd.R_drewN | apply Kd.R_drew)); exact HO215.out) hb)
                                 have n4_ := Aside0.mk (Kd.R_elder' (by (with_reducible repeat (first | apply Kd.R_alloc | apply Kd.R_drewN | apply Kd.R_drew)); exact HO218.out) (Kd.R_base ho40) hb)
                                 have n5_ := Aside0.mk (Kd.R_lower (Kd.R_new' (Kd.R_new' (Kd.R_new' (Kd.R_new' ho40 (Kd.R_lt (by (with_reducible repeat (first | apply Kd.R_alloc | apply Kd.R_drewN | apply Kd.R_drew)); exact HO_7.out))) (Kd.R_lt (by (with_reducible repeat (first | apply Kd.R_alloc | apply Kd.R_drewN | apply Kd.R_drew)); exact HO_8.out))) (Kd.R_lt (by (with_reducible repeat (first | apply Kd.R_alloc | apply Kd.R_drewN | apply Kd.R_drew)); exact HO_9.out))) (Kd.R_lt (by (with_reducible repeat (first | apply Kd.R_alloc | apply Kd.R_drewN | apply Kd.R_drew)); exact HO218.out))) (below_size (by repeat (first | (with_reducible first | exact HB.out | apply below_alloc | apply pw_below_drewN | apply below_drew1) | exact HB.out))))
                                 have n6_ := Aside0.mk (below_step (by repeat (first | (with_reducible first | exact HB.out | apply below_alloc | apply pw_below_drewN | apply below_drew1) | exact HB.out)) hb)
                                 (try clear HO_7)
                                 (try clear HO_8)
                                 (try clear HO_9)
                                 clear HO215
                                 clear HO218
                                 clear HB
                                 have HO_7 := n0_
                                 have HO_8 := n1_
                                 have HO_9 := n2_
                                 have HO215 := n3_
                                 have HO218 := n4_
                                 have HO224 := n5_
                                 have HB := n6_
                                 clear n0_ n1_ n2_ n3_ n4_ n5_ n6_
                                 clear hb ho40
                                 refine hK.out _ _ trivial (fun hHeld => ?_)
                                 clear hK K
                                 refine norm_ (a' := ?_) ?_ ?_
                                 rotate_left
                                 ·show Act.put _ (some 72) _ = _
                                  simp only [Act.put, List.setIfInBounds_toArray, List.set_cons_zero, List.set_cons_succ, i64_w, i32_w]
                                  rfl
                                 exact norm_ (by first | (simp only [putAll, Act.put, List.setIfInBounds_toArray, List.set_cons_zero, List.set_cons_succ]; done) | (simp only [putAll, Act.put, List.setIfInBounds_toArray, List.set_cons_zero, List.set_cons_succ]; rfl)) (hJ2_8 ((.slice Ao40 y216.length co40 : Value), v223) _ ⟨(by (with_reducible repeat (first | apply Kd.R_alloc | apply Kd.R_drewN | apply Kd.R_drew)); exact HO215.out), (by (with_reducible repeat (first | apply Kd.R_alloc | apply Kd.R_drewN | apply Kd.R_drew)); exact Kd.R_mono HO218.out (fun _ hk => ⟨hk.2, ⟨hk.1.1, ⟨hk.1.2.1, hk.1.2.2⟩⟩⟩)), (by (with_reducible repeat (first | apply Kd.R_alloc | apply Kd.R_drewN | apply Kd.R_drew)); exact Kd.R_mono HO224.out (fun _ hk => ⟨hk.2, ⟨hk.1.1.1.2, ⟨hk.1.1.2, hk.1.2⟩⟩⟩)), (by (with_reducible repeat (first | apply Kd.R_alloc | apply Kd.R_drewN | apply Kd.R_drew)); exact Kd.R_mono HO_7.out (fun _ hk => ⟨hk.1.1, ⟨hk.2, ⟨hk.1.2.1, hk.1.2.2⟩⟩⟩)), (by (with_reducible repeat (first | apply Kd.R_alloc | apply Kd.R_drewN | apply Kd.R_drew)); exact Kd.R_mono HO_8.out (fun _ hk => ⟨hk.1.1, ⟨hk.2, ⟨hk.1.2.1, hk.1.2.2⟩⟩⟩)), (by (with_reducible repeat (first | apply Kd.R_alloc | apply Kd.R_drewN | apply Kd.R_drew)); exact Kd.R_mono HO_9.out (fun _ hk => ⟨hk.1.1, ⟨hk.2, ⟨hk.1.2.1, hk.1.2.2⟩⟩⟩)), (by repeat (first | (with_reducible first | exact HB.out | apply below_alloc | apply pw_below_drewN | apply below_drew1) | exact HB.out))⟩)
                                ·skip
                                 refine Kd.R_lit_step Kd.string _ 9 ?hg (N := 78) ?hd (xs := ([((rdOf ByteArray.empty l0 x10_3) ++ (strOfNums y213)).extract ((ji21) : Int).toNat ((rdOf ByteArray.empty l0 x10_3) ++ (strOfNums y213)).size] : List ByteArray)) (inner := [.string (((rdOf ByteArray.empty l0 x10_3) ++ (strOfNums y213)).extract ((ji21) : Int).toNat ((rdOf ByteArray.empty l0 x10_3) ++ (strOfNums y213)).size)]) (ok := fun _ => True) (okp := fun _ => True) ?hr ?hp (fun _ hk => hk) trivial (Below.refl _ _) (Nat.le_refl _) (by simp) ?_; (case hd => rfl); (case hg => rfl); (case hr => first | (go_simp; done) | (go_simp; rfl)); (case hp => exact (Reps.one (show Kd.M Kd.string _ _ _ (((rdOf ByteArray.empty l0 x10_3) ++ (strOfNums y213)).extract ((ji21) : Int).toNat ((rdOf ByteArray.empty l0 x10_3) ++ (strOfNums y213)).size) [.string (((rdOf ByteArray.empty l0 x10_3) ++ (strOfNums y213)).extract ((ji21) : Int).toNat ((rdOf ByteArray.empty l0 x10_3) ++ (strOfNums y213)).size)] from rfl) (Reps.none _ _)))
                                 intro v229 w39 ho40 hb hg_ hnew_
                                 clear hg_ hnew_
                                 (first | rw [← Ny228.out] at ho40 | (simp only [Int.reduceToNat] at ho40; rw [← Ny228.out] at ho40))
                                 have n0_ := Aside0.mk (Kd.R_elder' (by (with_reducible repeat (first | apply Kd.R_alloc | apply Kd.R_drewN | apply Kd.R_drew)); exact HO_7.out) (Kd.R_base ho40) hb)
                                 have n1_ := Aside0.mk (Kd.R_elder' (by (with_reducible repeat (first | apply Kd.R_alloc | apply Kd.R_drewN | apply Kd.R_drew)); exact HO_8.out) (Kd.R_base ho40) hb)
                                 have n2_ := Aside0.mk (Kd.R_elder' (by (with_reducible repeat (first | apply Kd.R_alloc | apply Kd.R_drewN | apply Kd.R_drew)); exact HO_9.out) (Kd.R_base ho40) hb)
                                 have n3_ := Aside0.mk (Kd.R_below (by (with_reducible repeat (first | apply Kd.R_alloc | apply Kd.R_drewN | apply Kd.R_drew)); exact HO215.out) hb)
                                 have n4_ := Aside0.mk (Kd.R_elder' (by (with_reducible repeat (first | apply Kd.R_alloc | apply Kd.R_drewN | apply Kd.R_drew)); exact HO218.out) (Kd.R_base ho40) hb)
                                 have n5_ := Aside0.mk (Kd.R_lower (Kd.R_new' (Kd.R_new' (Kd.R_new' (Kd.R_new' ho40 (Kd.R_lt (by (with_reducible repeat (first | apply Kd.R_alloc | apply Kd.R_drewN | apply Kd.R_drew)); exact HO_7.out))) (Kd.R_lt (by (with_reducible repeat (first | apply Kd.R_alloc | apply Kd.R_drewN | apply Kd.R_drew)); exact HO_8.out))) (Kd.R_lt (by (with_reducible repeat (first | apply Kd.R_alloc | apply Kd.R_drewN | apply Kd.R_drew)); exact HO_9.out))) (Kd.R_lt (by (with_reducible repeat (first | apply Kd.R_alloc | apply Kd.R_drewN | apply Kd.R_drew)); exact HO218.out))) (below_size (by repeat (first | (with_reducible first | exact HB.out | apply below_alloc | apply pw_below_drewN | apply below_drew1) | exact HB.out))))
                                 have n6_ := Aside0.mk (below_step (by repeat (first | (with_reducible first | exact HB.out | apply below_alloc | apply pw_below_drewN | apply below_drew1) | exact HB.out)) hb)
                                 (try clear HO_7)
                                 (try clear HO_8)
                                 (try clear HO_9)
                                 clear HO215
                                 clear HO218
                                 clear HB
                                 have HO_7 := n0_
                                 have HO_8 := n1_
                                 have HO_9 := n2_
                                 have HO215 := n3_
                                 have HO218 := n4_
                                 have HO230 := n5_
                                 have HB := n6_
                                 clear n0_ n1_ n2_ n3_ n4_ n5_ n6_
                                 clear hb ho40
                                 refine hK.out _ _ trivial (fun hHeld => ?_)
                                 clear hK K
                                 refine norm_ (a' := ?_) ?_ ?_
                                 rotate_left
                                 ·show Act.put _ (some 78) _ = _
                                  simp only [Act.put, List.setIfInBounds_toArray, List.set_cons_zero, List.set_cons_succ, i64_w, i32_w]
                                  rfl
                                 exact norm_ (by first | (simp only [putAll, Act.put, List.setIfInBounds_toArray, List.set_cons_zero, List.set_cons_succ]; done) | (simp only [putAll, Act.put, List.setIfInBounds_toArray, List.set_cons_zero, List.set_cons_succ]; rfl)) (hJ2_14 ((.slice Ao40 y216.length co40 : Value), v229) _ ⟨(by (with_reducible repeat (first | apply Kd.R_alloc | apply Kd.R_drewN | apply Kd.R_drew)); exact HO215.out), (by (with_reducible repeat (first | apply Kd.R_alloc | apply Kd.R_drewN | apply Kd.R_drew)); exact Kd.R_mono HO218.out (fun _ hk => ⟨hk.2, ⟨hk.1.1, ⟨hk.1.2.1, hk.1.2.2⟩⟩⟩)), (by (with_reducible repeat (first | apply Kd.R_alloc | apply Kd.R_drewN | apply Kd.R_drew)); exact Kd.R_mono HO230.out (fun _ hk => ⟨hk.2, ⟨hk.1.1.1.2, ⟨hk.1.1.2, hk.1.2⟩⟩⟩)), (by (with_reducible repeat (first | apply Kd.R_alloc | apply Kd.R_drewN | apply Kd.R_drew)); exact Kd.R_mono HO_7.out (fun _ hk => ⟨hk.1.1, ⟨hk.2, ⟨hk.1.2.1, hk.1.2.2⟩⟩⟩)), (by (with_reducible repeat (first | apply Kd.R_alloc | apply Kd.R_drewN | apply Kd.R_drew)); exact Kd.R_mono HO_8.out (fun _ hk => ⟨hk.1.1, ⟨hk.2, ⟨hk.1.2.1, hk.1.2.2⟩⟩⟩)), (by (with_reducible repeat (first | apply Kd.R_alloc | apply Kd.R_drewN | apply Kd.R_drew)); exact Kd.R_mono HO_9.out (fun _ hk => ⟨hk.1.1, ⟨hk.2, ⟨hk.1.2.1, hk.1.2.2⟩⟩⟩)), (by repeat (first | (with_reducible first | exact HB.out | apply below_alloc | apply pw_below_drewN | apply below_drew1) | exact HB.out))⟩)
                              ·skip
                               rintro ⟨v223, v229⟩ w40 ⟨h0_, h1_, h2_, h3_, h4_, h5_, h6_⟩
                               have n0_ : Aside0 (Kd.R (Kd.int .u8) 5 w40 w.heap.size (fun _ => True) v214 y213) := ⟨h0_⟩
                               have n1_ : Aside0 (Kd.R Kd.string 9 w40 w.heap.size (fun k_ => some k_ ≠ (v229 : Value).ownBlock ∧ some k_ ≠ (.slice Ao32 x7_3.length co32 : Value).ownBlock ∧ some k_ ≠ (.slice Ao33 x8_3.length co33 : Value).ownBlock ∧ some k_ ≠ (.slice Ao34 x9_3.length co34 : Value).ownBlock) v223 y222) := ⟨h1_⟩
                               have n2_ : Aside0 (Kd.R Kd.string 9 w40 w.heap.size (fun k_ => some k_ ≠ (v223 : Value).ownBlock ∧ some k_ ≠ (.slice Ao32 x7_3.length co32 : Value).ownBlock ∧ some k_ ≠ (.slice Ao33 x8_3.length co33 : Value).ownBlock ∧ some k_ ≠ (.slice Ao34 x9_3.length co34 : Value).ownBlock) v229 y228) := ⟨h2_⟩
                               have n3_ : Aside0 (Kd.R Kd.string 9 w40 w.heap.size (fun k_ => some k_ ≠ (v223 : Value).ownBlock ∧ some k_ ≠ (v229 : Value).ownBlock ∧ some k_ ≠ (.slice Ao33 x8_3.length co33 : Value).ownBlock ∧ some k_ ≠ (.slice Ao34 x9_3.length co34 : Value).ownBlock) (.slice Ao32 x7_3.length co32) x7_3) := ⟨h3_⟩
                               have n4_ : Aside0 (Kd.R Kd.string 9 w40 w.heap.size (fun k_ => some k_ ≠ (v223 : Value).ownBlock ∧ some k_ ≠ (v229 : Value).ownBlock ∧ some k_ ≠ (.slice Ao32 x7_3.length co32 : Value).ownBlock ∧ some k_ ≠ (.slice Ao34 x9_3.length co34 : Value).ownBlock) (.slice Ao33 x8_3.length co33) x8_3) := ⟨h4_⟩
                               have n5_ : Aside0 (Kd.R Kd.string 9 w40 w.heap.size (fun k_ => some k_ ≠ (v223 : Value).ownBlock ∧ some k_ ≠ (v229 : Value).ownBlock ∧ some k_ ≠ (.slice Ao32 x7_3.length co32 : Value).ownBlock ∧ some k_ ≠ (.slice Ao33 x8_3.length co33 : Value).ownBlock) (.slice Ao34 x9_3.length co34) x9_3) := ⟨h5_⟩
                               have n6_ : Aside0 (Below w.heap.size w w40) := ⟨h6_⟩
                               (try clear HO_7)
                               (try clear HO_8)
                               (try clear HO_9)
                               clear HO215
                               clear HB
                               clear h0_ h1_ h2_ h3_ h4_ h5_ h6_
                               have HO215 := n0_
                               have HO224 := n1_
                               have HO230 := n2_
                               have HO_7 := n3_
                               have HO_8 := n4_
                               have HO_9 := n5_
                               have HB := n6_
                               clear n0_ n1_ n2_ n3_ n4_ n5_ n6_
                               have hHeld := trivial
                               refine norm_ (a' := ?_) ?_ ?_
                               rotate_left
                               ·simp only [putAll, Act.put, List.setIfInBounds_toArray, List.set_cons_zero, List.set_cons_succ]
                                rfl
                               refine one_ (i := 2) (N := some 66) #[true, true, true, false, true, true, true, true, true, false, true, true, true, true, true, false, false, false, false] rfl rfl (one_of HT_.out (by kernel_rfl)) (by decide) (fun K hK => ?_)
                               refine Kd.R_lit_step Kd.string _ 9 ?hg (N := 66) ?hd (xs := ([(rdOf ByteArray.empty l0 x10_3) ++ (strOfNums y213)] : List ByteArray)) (inner := [.string ((rdOf ByteArray.empty l0 x10_3) ++ (strOfNums y213))]) (ok := fun _ => True) (okp := fun _ => True) ?hr ?hp (fun _ hk => hk) trivial (Below.refl _ _) (Nat.le_refl _) (by simp) ?_; (case hd => rfl); (case hg => rfl); (case hr => first | (go_simp; done) | (go_simp; rfl)); (case hp => exact (Reps.one (show Kd.M Kd.string _ _ _ ((rdOf ByteArray.empty l0 x10_3) ++ (strOfNums y213)) [.string ((rdOf ByteArray.empty l0 x10_3) ++ (strOfNums y213))] from rfl) (Reps.none _ _)))
                               intro v217 w41 ho42 hb hg_ hnew_
                               clear hg_ hnew_
                               (first | rw [← Ny216.out] at ho42 | (simp only [Int.reduceToNat] at ho42; rw [← Ny216.out] at ho42))
                               have n0_ := Aside0.mk (Kd.R_elder' (by (with_reducible repeat (first | apply Kd.R_alloc | apply Kd.R_drewN | apply Kd.R_drew)); exact HO_7.out) (Kd.R_base ho42) hb)
                               have n1_ := Aside0.mk (Kd.R_elder' (by (with_reducible repeat (first | apply Kd.R_alloc | apply Kd.R_drewN | apply Kd.R_drew)); exact HO_8.out) (Kd.R_base ho42) hb)
                               have n2_ := Aside0.mk (Kd.R_elder' (by (with_reducible repeat (first | apply Kd.R_alloc | apply Kd.R_drewN | apply Kd.R_drew)); exact HO_9.out) (Kd.R_base ho42) hb)
                               have n3_ := Aside0.mk (Kd.R_below (by (with_reducible repeat (first | apply Kd.R_alloc | apply Kd.R_drewN | apply Kd.R_drew)); exact HO215.out) hb)
                               have n4_ := Aside0.mk (Kd.R_elder' (by (with_reducible repeat (first | apply Kd.R_alloc | apply Kd.R_drewN | apply Kd.R_drew)); exact HO224.out) (Kd.R_base ho42) hb)
                               have n5_ := Aside0.mk (Kd.R_elder' (by (with_reducible repeat (first | apply Kd.R_alloc | apply Kd.R_drewN | apply Kd.R_drew)); exact HO230.out) (Kd.R_base ho42) hb)
                               have n6_ := Aside0.mk (Kd.R_lower (Kd.R_new' (Kd.R_new' (Kd.R_new' (Kd.R_new' (Kd.R_new' ho42 (Kd.R_lt (by (with_reducible repeat (first | apply Kd.R_alloc | apply Kd.R_drewN | apply Kd.R_drew)); exact HO_7.out))) (Kd.R_lt (by (with_reducible repeat (first | apply Kd.R_alloc | apply Kd.R_drewN | apply Kd.R_drew)); exact HO_8.out))) (Kd.R_lt (by (with_reducible repeat (first | apply Kd.R_alloc | apply Kd.R_drewN | apply Kd.R_drew)); exact HO_9.out))) (Kd.R_lt (by (with_reducible repeat (first | apply Kd.R_alloc | apply Kd.R_drewN | apply Kd.R_drew)); exact HO224.out))) (Kd.R_lt (by (with_reducible repeat (first | apply Kd.R_alloc | apply Kd.R_drewN | apply Kd.R_drew)); exact HO230.out))) (below_size (by repeat (first | (with_reducible first | exact HB.out | apply below_alloc | apply pw_below_drewN | apply below_drew1) | exact HB.out))))
                               have n7_ := Aside0.mk (below_step (by repeat (first | (with_reducible first | exact HB.out | apply below_alloc | apply pw_below_drewN | apply below_drew1) | exact HB.out)) hb)
                               (try clear HO_7)
                               (try clear HO_8)
                               (try clear HO_9)
                               clear HO215
                               clear HO224
                               clear HO230
                               clear HB
                               have HO_7 := n0_
                               have HO_8 := n1_
                               have HO_9 := n2_
                               have HO215 := n3_
                               have HO224 := n4_
                               have HO230 := n5_
                               have HO218 := n6_
                               have HB := n7_
                               clear n0_ n1_ n2_ n3_ n4_ n5_ n6_ n7_
                               clear hb ho42
                               refine hK.out _ _ trivial (fun hHeld => ?_)
                               clear hK K
                               refine norm_ (a' := ?_) ?_ ?_
                               rotate_left
                               ·show Act.put _ (some 66) _ = _
                                simp only [Act.put, List.setIfInBounds_toArray, List.set_cons_zero, List.set_cons_succ, i64_w, i32_w]
                                rfl
                               exact norm_ (by first | (simp only [putAll, Act.put, List.setIfInBounds_toArray, List.set_cons_zero, List.set_cons_succ]; done) | (simp only [putAll, Act.put, List.setIfInBounds_toArray, List.set_cons_zero, List.set_cons_succ]; rfl)) (hJ2_8_14 (v217, v223, v229) _ ⟨(by (with_reducible repeat (first | apply Kd.R_alloc | apply Kd.R_drewN | apply Kd.R_drew)); exact HO215.out), (by (with_reducible repeat (first | apply Kd.R_alloc | apply Kd.R_drewN | apply Kd.R_drew)); exact Kd.R_mono HO218.out (fun _ hk => ⟨hk.1.2, ⟨hk.2, ⟨hk.1.1.1.1.2, ⟨hk.1.1.1.2, hk.1.1.2⟩⟩⟩⟩)), (by (with_reducible repeat (first | apply Kd.R_alloc | apply Kd.R_drewN | apply Kd.R_drew)); exact Kd.R_mono HO224.out (fun _ hk => ⟨hk.2, ⟨hk.1.1, ⟨hk.1.2.1, ⟨hk.1.2.2.1, hk.1.2.2.2⟩⟩⟩⟩)), (by (with_reducible repeat (first | apply Kd.R_alloc | apply Kd.R_drewN | apply Kd.R_drew)); exact Kd.R_mono HO230.out (fun _ hk => ⟨hk.2, ⟨hk.1.1, ⟨hk.1.2.1, ⟨hk.1.2.2.1, hk.1.2.2.2⟩⟩⟩⟩)), (by (with_reducible repeat (first | apply Kd.R_alloc | apply Kd.R_drewN | apply Kd.R_drew)); exact Kd.R_mono HO_7.out (fun _ hk => ⟨hk.2, ⟨hk.1.1, ⟨hk.1.2.1, ⟨hk.1.2.2.1, hk.1.2.2.2⟩⟩⟩⟩)), (by (with_reducible repeat (first | apply Kd.R_alloc | apply Kd.R_drewN | apply Kd.R_drew)); exact Kd.R_mono HO_8.out (fun _ hk => ⟨hk.2, ⟨hk.1.1, ⟨hk.1.2.1, ⟨hk.1.2.2.1, hk.1.2.2.2⟩⟩⟩⟩)), (by (with_reducible repeat (first | apply Kd.R_alloc | apply Kd.R_drewN | apply Kd.R_drew)); exact Kd.R_mono HO_9.out (fun _ hk => ⟨hk.2, ⟨hk.1.1, ⟨hk.1.2.1, ⟨hk.1.2.2.1, hk.1.2.2.2⟩⟩⟩⟩)), (by repeat (first | (with_reducible first | exact HB.out | apply below_alloc | apply pw_below_drewN | apply below_drew1) | exact HB.out))⟩)
                             ·skip
                              rintro ⟨v217, v229⟩ w40 ⟨h0_, h1_, h2_, h3_, h4_, h5_, h6_⟩
                              have n0_ : Aside0 (Kd.R (Kd.int .u8) 5 w40 w.heap.size (fun _ => True) v214 y213) := ⟨h0_⟩
                              have n1_ : Aside0 (Kd.R Kd.string 9 w40 w.heap.size (fun k_ => some k_ ≠ (v229 : Value).ownBlock ∧ some k_ ≠ (.slice Ao32 x7_3.length co32 : Value).ownBlock ∧ some k_ ≠ (.slice Ao33 x8_3.length co33 : Value).ownBlock ∧ some k_ ≠ (.slice Ao34 x9_3.length co34 : Value).ownBlock) v217 y216) := ⟨h1_⟩
                              have n2_ : Aside0 (Kd.R Kd.string 9 w40 w.heap.size (fun k_ => some k_ ≠ (v217 : Value).ownBlock ∧ some k_ ≠ (.slice Ao32 x7_3.length co32 : Value).ownBlock ∧ some k_ ≠ (.slice Ao33 x8_3.length co33 : Value).ownBlock ∧ some k_ ≠ (.slice Ao34 x9_3.length co34 : Value).ownBlock) v229 y228) := ⟨h2_⟩
                              have n3_ : Aside0 (Kd.R Kd.string 9 w40 w.heap.size (fun k_ => some k_ ≠ (v217 : Value).ownBlock ∧ some k_ ≠ (v229 : Value).ownBlock ∧ some k_ ≠ (.slice Ao33 x8_3.length co33 : Value).ownBlock ∧ some k_ ≠ (.slice Ao34 x9_3.length co34 : Value).ownBlock) (.slice Ao32 x7_3.length co32) x7_3) := ⟨h3_⟩
                              have n4_ : Aside0 (Kd.R Kd.string 9 w40 w.heap.size (fun k_ => some k_ ≠ (v217 : Value).ownBlock ∧ some k_ ≠ (v229 : Value).ownBlock ∧ some k_ ≠ (.slice Ao32 x7_3.length co32 : Value).ownBlock ∧ some k_ ≠ (.slice Ao34 x9_3.length co34 : Value).ownBlock) (.slice Ao33 x8_3.length co33) x8_3) := ⟨h4_⟩
                              have n5_ : Aside0 (Kd.R Kd.string 9 w40 w.heap.size (fun k_ => some k_ ≠ (v217 : Value).ownBlock ∧ some k_ ≠ (v229 : Value).ownBlock ∧ some k_ ≠ (.slice Ao32 x7_3.length co32 : Value).ownBlock ∧ some k_ ≠ (.slice Ao33 x8_3.length co33 : Value).ownBlock) (.slice Ao34 x9_3.length co34) x9_3) := ⟨h5_⟩
                              have n6_ : Aside0 (Below w.heap.size w w40) := ⟨h6_⟩
                              (try clear HO_7)
                              (try clear HO_8)
                              (try clear HO_9)
                              clear HO215
                              clear HB
                              clear h0_ h1_ h2_ h3_ h4_ h5_ h6_
                              have HO215 := n0_
                              have HO218 := n1_
                              have HO230 := n2_
                              have HO_7 := n3_
                              have HO_8 := n4_
                              have HO_9 := n5_
                              have HB := n6_
                              clear n0_ n1_ n2_ n3_ n4_ n5_ n6_
                              have hHeld := trivial
                              obtain ⟨Ao42, co42, eo42⟩ := Kd.R_slice HO218.out
                              (first | subst eo42 | (injection eo42 with f1_ f2_ f3_; have f4_ := f1_.symm; have f5_ := f3_.symm; clear f1_ f2_ f3_; subst f4_; subst f5_))
                              refine norm_ (a' := ?_) ?_ ?_
                              rotate_left
                              ·simp only [putAll, Act.put, List.setIfInBounds_toArray, List.set_cons_zero, List.set_cons_succ]
                               rfl
                              refine two_ (i := 3) (j := 8) (Ni := some 67) (Nj := some 72) #[true, true, true, true, true, true, true, true, false, false, true, true, true, true, true, false, false, false, false] #[true, true, true, false, true, true, true, true, true, false, true, true, true, true, true, false, false, false, false] rfl rfl rfl rfl (two_of HT_.out (by kernel_rfl)) (by decide) (by decide) (fun K hK => ?_) (fun K hK => ?_)
                              ·skip
                               refine Kd.R_append_rows_step Kd.string (w0 := w) w.heap.size (by rfl) (.tmp 64) (.tmp 66) 22 9 (.string ⟨#[]⟩) 16 rfl Tryd.underlying22 info9 rfl (by decide) (by omega) (.slice Ao32 x7_3.length co32) x7_3 y216 _ _ _ (fun k_ => some k_ ≠ (.slice Ao33 x8_3.length co33 : Value).ownBlock ∧ some k_ ≠ (.slice Ao34 x9_3.length co34 : Value).ownBlock ∧ some k_ ≠ (.slice Ao42 y216.length co42 : Value).ownBlock ∧ some k_ ≠ (v229 : Value).ownBlock) (fun _ => False) rfl rfl ?aO ?aR (fun _ _ h => h) (fun _ h => h.elim) ?aF ?aB ?aS ?aL ?_
                               (case aR => repeat (first | exact (Kd.R_reads' HO218.out).2.2 | (with_reducible refine Kd.C_alloc ?_ _) | (with_reducible refine Kd.C_drewN ?_ _) | (with_reducible refine Kd.C_drew ?_)))
                               (case aB => exact (by repeat (first | (with_reducible first | exact HB.out | apply below_alloc | apply pw_below_drewN | apply below_drew1) | exact HB.out)))
                               (case aF => exact (fun k_ hk => ⟨Kd.fresh' (Kd.R_lt (by (with_reducible repeat (first | apply Kd.R_alloc | apply Kd.R_drewN | apply Kd.R_drew)); exact HO_8.out)) k_ hk, Kd.fresh' (Kd.R_lt (by (with_reducible repeat (first | apply Kd.R_alloc | apply Kd.R_drewN | apply Kd.R_drew)); exact HO_9.out)) k_ hk, Kd.fresh' (Kd.R_lt (by (with_reducible repeat (first | apply Kd.R_alloc | apply Kd.R_drewN | apply Kd.R_drew)); exact HO218.out)) k_ hk, Kd.fresh' (Kd.R_lt (by (with_reducible repeat (first | apply Kd.R_alloc | apply Kd.R_drewN | apply Kd.R_drew)); exact HO230.out)) k_ hk⟩))
                               (case aO => exact (by (with_reducible repeat (first | apply Kd.R_alloc | apply Kd.R_drewN | apply Kd.R_drew)); exact Kd.R_mono HO_7.out (fun _ hk => ⟨hk.2.2.1, ⟨hk.2.2.2, ⟨hk.1, hk.2.1⟩⟩⟩)))
                               (case aS => exact (below_size (by repeat (first | (with_reducible first | exact HB.out | apply below_alloc | apply pw_below_drewN | apply below_drew1) | exact HB.out))))
                               (case aL => have := LMc20.out; omega)
                               intro v220 w41 ho hb hg hat
                               rw [← Ny219.out] at ho
                               have n0_ := Aside0.mk (Kd.R_after (ok := (fun k_ => some k_ ≠ (.slice Ao34 x9_3.length co34 : Value).ownBlock ∧ some k_ ≠ (.slice Ao42 y216.length co42 : Value).ownBlock ∧ some k_ ≠ (v229 : Value).ownBlock)) (by (with_reducible repeat (first | apply Kd.R_alloc | apply Kd.R_drewN | apply Kd.R_drew)); exact Kd.R_mono HO_8.out (fun _ hk => ⟨⟨hk.2.2.2, ⟨hk.1, hk.2.1⟩⟩, hk.2.2.1⟩)) hg hat)
                               have n1_ := Aside0.mk (Kd.R_after (ok := (fun k_ => some k_ ≠ (.slice Ao33 x8_3.length co33 : Value).ownBlock ∧ some k_ ≠ (.slice Ao42 y216.length co42 : Value).ownBlock ∧ some k_ ≠ (v229 : Value).ownBlock)) (by (with_reducible repeat (first | apply Kd.R_alloc | apply Kd.R_drewN | apply Kd.R_drew)); exact Kd.R_mono HO_9.out (fun _ hk => ⟨⟨hk.2.2.2, ⟨hk.1, hk.2.1⟩⟩, hk.2.2.1⟩)) hg hat)
                               have n2_ := Aside0.mk (Kd.R_over' (by (with_reducible repeat (first | apply Kd.R_alloc | apply Kd.R_drewN | apply Kd.R_drew)); exact HO215.out) (Kd.R_typed (by (with_reducible repeat (first | apply Kd.R_alloc | apply Kd.R_drewN | apply Kd.R_drew)); exact HO_7.out)) (by decide) hg)
                               have n3_ := Aside0.mk (Kd.R_after (ok := (fun k_ => some k_ ≠ (.slice Ao33 x8_3.length co33 : Value).ownBlock ∧ some k_ ≠ (.slice Ao34 x9_3.length co34 : Value).ownBlock ∧ some k_ ≠ (v229 : Value).ownBlock)) (by (with_reducible repeat (first | apply Kd.R_alloc | apply Kd.R_drewN | apply Kd.R_drew)); exact Kd.R_mono HO218.out (fun _ hk => ⟨⟨hk.2.2.1, ⟨hk.2.2.2, hk.1⟩⟩, hk.2.1⟩)) hg hat)
                               have n4_ := Aside0.mk (Kd.R_after (ok := (fun k_ => some k_ ≠ (.slice Ao33 x8_3.length co33 : Value).ownBlock ∧ some k_ ≠ (.slice Ao34 x9_3.length co34 : Value).ownBlock ∧ some k_ ≠ (.slice Ao42 y216.length co42 : Value).ownBlock)) (by (with_reducible repeat (first | apply Kd.R_alloc | apply Kd.R_drewN | apply Kd.R_drew)); exact Kd.R_mono HO230.out (fun _ hk => ⟨⟨hk.2.2.1, ⟨hk.2.2.2, hk.1⟩⟩, hk.2.1⟩)) hg hat)
                               have n5_ := Aside0.mk (hb)
                               have n6_ := Aside0.mk (ho)
                               (try clear HO_8)
                               (try clear HO_9)
                               clear HO215
                               clear HO218
                               clear HO230
                               clear HB
                               (try clear HO_7)
                               have HO_8 := n0_
                               have HO_9 := n1_
                               have HO215 := n2_
                               have HO218 := n3_
                               have HO230 := n4_
                               have HB := n5_
                               have HO221 := n6_
                               clear n0_ n1_ n2_ n3_ n4_ n5_ n6_
                               clear ho hb hg hat
                               refine hK.out _ _ trivial (fun hHeld => ?_)
                               clear hK K
                               refine norm_ (a' := ?_) ?_ ?_
                               rotate_left
                               ·show Act.put _ (some 67) _ = _
                                simp only [Act.put, List.setIfInBounds_toArray, List.set_cons_zero, List.set_cons_succ, i64_w, i32_w]
                                rfl
                               exact norm_ (by first | (simp only [putAll, Act.put, List.setIfInBounds_toArray, List.set_cons_zero, List.set_cons_succ]; done) | (simp only [putAll, Act.put, List.setIfInBounds_toArray, List.set_cons_zero, List.set_cons_succ]; rfl)) (hJ2_3_14 (.slice Ao42 y216.length co42, v220, v229) _ ⟨(by (with_reducible repeat (first | apply Kd.R_alloc | apply Kd.R_drewN | apply Kd.R_drew)); exact HO215.out), (by (with_reducible repeat (first | apply Kd.R_alloc | apply Kd.R_drewN | apply Kd.R_drew)); exact Kd.R_mono HO218.out (fun _ hk => ⟨hk.2, ⟨hk.1.2.2, ⟨hk.1.1, hk.1.2.1⟩⟩⟩)), (by (with_reducible repeat (first | apply Kd.R_alloc | apply Kd.R_drewN | apply Kd.R_drew)); exact Kd.R_mono HO221.out (fun _ hk => ⟨hk.2.2.1, ⟨hk.2.2.2, ⟨hk.1, hk.2.1⟩⟩⟩)), (by (with_reducible repeat (first | apply Kd.R_alloc | apply Kd.R_drewN | apply Kd.R_drew)); exact Kd.R_mono HO230.out (fun _ hk => ⟨hk.1.2.2, ⟨hk.2, ⟨hk.1.1, hk.1.2.1⟩⟩⟩)), (by (with_reducible repeat (first | apply Kd.R_alloc | apply Kd.R_drewN | apply Kd.R_drew)); exact Kd.R_mono HO_8.out (fun _ hk => ⟨hk.1.2.1, ⟨hk.2, ⟨hk.1.2.2, hk.1.1⟩⟩⟩)), (by (with_reducible repeat (first | apply Kd.R_alloc | apply Kd.R_drewN | apply Kd.R_drew)); exact Kd.R_mono HO_9.out (fun _ hk => ⟨hk.1.2.1, ⟨hk.2, ⟨hk.1.2.2, hk.1.1⟩⟩⟩)), (by repeat (first | (with_reducible first | exact HB.out | apply below_alloc | apply pw_below_drewN | apply below_drew1) | exact HB.out))⟩)
                              ·skip
                               refine Kd.R_lit_step Kd.string _ 9 ?hg (N := 72) ?hd (xs := ([((rdOf ByteArray.empty l0 x10_3) ++ (strOfNums y213)).extract 0 ((ji21) : Int).toNat] : List ByteArray)) (inner := [.string (((rdOf ByteArray.empty l0 x10_3) ++ (strOfNums y213)).extract 0 ((ji21) : Int).toNat)]) (ok := fun _ => True) (okp := fun _ => True) ?hr ?hp (fun _ hk => hk) trivial (Below.refl _ _) (Nat.le_refl _) (by simp) ?_; (case hd => rfl); (case hg => rfl); (case hr => first | (go_simp; done) | (go_simp; rfl)); (case hp => exact (Reps.one (show Kd.M Kd.string _ _ _ (((rdOf ByteArray.empty l0 x10_3) ++ (strOfNums y213)).extract 0 ((ji21) : Int).toNat) [.string (((rdOf ByteArray.empty l0 x10_3) ++ (strOfNums y213)).extract 0 ((ji21) : Int).toNat)] from rfl) (Reps.none _ _)))
                               intro v223 w41 ho42 hb hg_ hnew_
                               clear hg_ hnew_
                               (first | rw [← Ny222.out] at ho42 | (simp only [Int.reduceToNat] at ho42; rw [← Ny222.out] at ho42))
                               have n0_ := Aside0.mk (Kd.R_elder' (by (with_reducible repeat (first | apply Kd.R_alloc | apply Kd.R_drewN | apply Kd.R_drew)); exact HO_7.out) (Kd.R_base ho42) hb)
                               have n1_ := Aside0.mk (Kd.R_elder' (by (with_reducible repeat (first | apply Kd.R_alloc | apply Kd.R_drewN | apply Kd.R_drew)); exact HO_8.out) (Kd.R_base ho42) hb)
                               have n2_ := Aside0.mk (Kd.R_elder' (by (with_reducible repeat (first | apply Kd.R_alloc | apply Kd.R_drewN | apply Kd.R_drew)); exact HO_9.out) (Kd.R_base ho42) hb)
                               have n3_ := Aside0.mk (Kd.R_below (by (with_reducible repeat (first | apply Kd.R_alloc | apply Kd.R_drewN | apply Kd.R_drew)); exact HO215.out) hb)
                               have n4_ := Aside0.mk (Kd.R_elder' (by (with_reducible repeat (first | apply Kd.R_alloc | apply Kd.R_drewN | apply Kd.R_drew)); exact HO218.out) (Kd.R_base ho42) hb)
                               have n5_ := Aside0.mk (Kd.R_elder' (by (with_reducible repeat (first | apply Kd.R_alloc | apply Kd.R_drewN | apply Kd.R_drew)); exact HO230.out) (Kd.R_base ho42) hb)
                               have n6_ := Aside0.mk (Kd.R_lower (Kd.R_new' (Kd.R_new' (Kd.R_new' (Kd.R_new' (Kd.R_new' ho42 (Kd.R_lt (by (with_reducible repeat (first | apply Kd.R_alloc | apply Kd.R_drewN | apply Kd.R_drew)); exact HO_7.out))) (Kd.R_lt (by (with_reducible repeat (first | apply Kd.R_alloc | apply Kd.R_drewN | apply Kd.R_drew)); exact HO_8.out))) (Kd.R_lt (by (with_reducible repeat (first | apply Kd.R_alloc | apply Kd.R_drewN | apply Kd.R_drew)); exact HO_9.out))) (Kd.R_lt (by (with_reducible repeat (first | apply Kd.R_alloc | apply Kd.R_drewN | apply Kd.R_drew)); exact HO218.out))) (Kd.R_lt (by (with_reducible repeat (first | apply Kd.R_alloc | apply Kd.R_drewN | apply Kd.R_drew)); exact HO230.out))) (below_size (by repeat (first | (with_reducible first | exact HB.out | apply below_alloc | apply pw_below_drewN | apply below_drew1) | exact HB.out))))
                               have n7_ := Aside0.mk (below_step (by repeat (first | (with_reducible first | exact HB.out | apply below_alloc | apply pw_below_drewN | apply below_drew1) | exact HB.out)) hb)
                               (try clear HO_7)
                               (try clear HO_8)
                               (try clear HO_9)
                               clear HO215
                               clear HO218
                               clear HO230
                               clear HB
                               have HO_7 := n0_
                               have HO_8 := n1_
                               have HO_9 := n2_
                               have HO215 := n3_
                               have HO218 := n4_
                               have HO230 := n5_
                               have HO224 := n6_
                               have HB := n7_
                               clear n0_ n1_ n2_ n3_ n4_ n5_ n6_ n7_
                               clear hb ho42
                               refine hK.out _ _ trivial (fun hHeld => ?_)
                               clear hK K
                               refine norm_ (a' := ?_) ?_ ?_
                               rotate_left
                               ·show Act.put _ (some 72) _ = _
                                simp only [Act.put, List.setIfInBounds_toArray, List.set_cons_zero, List.set_cons_succ, i64_w, i32_w]
                                rfl
                               exact norm_ (by first | (simp only [putAll, Act.put, List.setIfInBounds_toArray, List.set_cons_zero, List.set_cons_succ]; done) | (simp only [putAll, Act.put, List.setIfInBounds_toArray, List.set_cons_zero, List.set_cons_succ]; rfl)) (hJ2_8_14 ((.slice Ao42 y216.length co42 : Value), v223, v229) _ ⟨(by (with_reducible repeat (first | apply Kd.R_alloc | apply Kd.R_drewN | apply Kd.R_drew)); exact HO215.out), (by (with_reducible repeat (first | apply Kd.R_alloc | apply Kd.R_drewN | apply Kd.R_drew)); exact Kd.R_mono HO218.out (fun _ hk => ⟨hk.2, ⟨hk.1.1, ⟨hk.1.2.1, ⟨hk.1.2.2.1, hk.1.2.2.2⟩⟩⟩⟩)), (by (with_reducible repeat (first | apply Kd.R_alloc | apply Kd.R_drewN | apply Kd.R_drew)); exact Kd.R_mono HO224.out (fun _ hk => ⟨hk.1.2, ⟨hk.2, ⟨hk.1.1.1.1.2, ⟨hk.1.1.1.2, hk.1.1.2⟩⟩⟩⟩)), (by (with_reducible repeat (first | apply Kd.R_alloc | apply Kd.R_drewN | apply Kd.R_drew)); exact Kd.R_mono HO230.out (fun _ hk => ⟨hk.1.1, ⟨hk.2, ⟨hk.1.2.1, ⟨hk.1.2.2.1, hk.1.2.2.2⟩⟩⟩⟩)), (by (with_reducible repeat (first | apply Kd.R_alloc | apply Kd.R_drewN | apply Kd.R_drew)); exact Kd.R_mono HO_7.out (fun _ hk => ⟨hk.1.1, ⟨hk.2, ⟨hk.1.2.1, ⟨hk.1.2.2.1, hk.1.2.2.2⟩⟩⟩⟩)), (by (with_reducible repeat (first | apply Kd.R_alloc | apply Kd.R_drewN | apply Kd.R_drew)); exact Kd.R_mono HO_8.out (fun _ hk => ⟨hk.1.1, ⟨hk.2, ⟨hk.1.2.1, ⟨hk.1.2.2.1, hk.1.2.2.2⟩⟩⟩⟩)), (by (with_reducible repeat (first | apply Kd.R_alloc | apply Kd.R_drewN | apply Kd.R_drew)); exact Kd.R_mono HO_9.out (fun _ hk => ⟨hk.1.1, ⟨hk.2, ⟨hk.1.2.1, ⟨hk.1.2.2.1, hk.1.2.2.2⟩⟩⟩⟩)), (by repeat (first | (with_reducible first | exact HB.out | apply below_alloc | apply pw_below_drewN | apply below_drew1) | exact HB.out))⟩)
                            ·skip
                             rintro ⟨v217, v223⟩ w40 ⟨h0_, h1_, h2_, h3_, h4_, h5_, h6_⟩
                             have n0_ : Aside0 (Kd.R (Kd.int .u8) 5 w40 w.heap.size (fun _ => True) v214 y213) := ⟨h0_⟩
                             have n1_ : Aside0 (Kd.R Kd.string 9 w40 w.heap.size (fun k_ => some k_ ≠ (v223 : Value).ownBlock ∧ some k_ ≠ (.slice Ao32 x7_3.length co32 : Value).ownBlock ∧ some k_ ≠ (.slice Ao33 x8_3.length co33 : Value).ownBlock ∧ some k_ ≠ (.slice Ao34 x9_3.length co34 : Value).ownBlock) v217 y216) := ⟨h1_⟩
                             have n2_ : Aside0 (Kd.R Kd.string 9 w40 w.heap.size (fun k_ => some k_ ≠ (v217 : Value).ownBlock ∧ some k_ ≠ (.slice Ao32 x7_3.length co32 : Value).ownBlock ∧ some k_ ≠ (.slice Ao33 x8_3.length co33 : Value).ownBlock ∧ some k_ ≠ (.slice Ao34 x9_3.length co34 : Value).ownBlock) v223 y222) := ⟨h2_⟩
                             have n3_ : Aside0 (Kd.R Kd.string 9 w40 w.heap.size (fun k_ => some k_ ≠ (v217 : Value).ownBlock ∧ some k_ ≠ (v223 : Value).ownBlock ∧ some k_ ≠ (.slice Ao33 x8_3.length co33 : Value).ownBlock ∧ some k_ ≠ (.slice Ao34 x9_3.length co34 : Value).ownBlock) (.slice Ao32 x7_3.length co32) x7_3) := ⟨h3_⟩
                             have n4_ : Aside0 (Kd.R Kd.string 9 w40 w.heap.size (fun k_ => some k_ ≠ (v217 : Value).ownBlock ∧ some k_ ≠ (v223 : Value).ownBlock ∧ some k_ ≠ (.slice Ao32 x7_3.length co32 : Value).ownBlock ∧ some k_ ≠ (.slice Ao34 x9_3.length co34 : Value).ownBlock) (.slice Ao33 x8_3.length co33) x8_3) := ⟨h4_⟩
                             have n5_ : Aside0 (Kd.R Kd.string 9 w40 w.heap.size (fun k_ => some k_ ≠ (v217 : Value).ownBlock ∧ some k_ ≠ (v223 : Value).ownBlock ∧ some k_ ≠ (.slice Ao32 x7_3.length co32 : Value).ownBlock ∧ some k_ ≠ (.slice Ao33 x8_3.length co33 : Value).ownBlock) (.slice Ao34 x9_3.length co34) x9_3) := ⟨h5_⟩
                             have n6_ : Aside0 (Below w.heap.size w w40) := ⟨h6_⟩
                             (try clear HO_7)
                             (try clear HO_8)
                             (try clear HO_9)
                             clear HO215
                             clear HB
                             clear h0_ h1_ h2_ h3_ h4_ h5_ h6_
                             have HO215 := n0_
                             have HO218 := n1_
                             have HO224 := n2_
                             have HO_7 := n3_
                             have HO_8 := n4_
                             have HO_9 := n5_
                             have HB := n6_
                             clear n0_ n1_ n2_ n3_ n4_ n5_ n6_
                             have hHeld := trivial
                             obtain ⟨Ao42, co42, eo42⟩ := Kd.R_slice HO218.out
                             (first | subst eo42 | (injection eo42 with f1_ f2_ f3_; have f4_ := f1_.symm; have f5_ := f3_.symm; clear f1_ f2_ f3_; subst f4_; subst f5_))
                             refine norm_ (a' := ?_) ?_ ?_
                             rotate_left
                             ·simp only [putAll, Act.put, List.setIfInBounds_toArray, List.set_cons_zero, List.set_cons_succ]
                              rfl
                             refine two_ (i := 3) (j := 14) (Ni := some 67) (Nj := some 78) #[true, true, true, true, true, true, true, true, true, false, true, true, true, true, false, false, false, false, false] #[true, true, true, false, true, true, true, true, true, false, true, true, true, true, true, false, false, false, false] rfl rfl rfl rfl (two_of HT_.out (by kernel_rfl)) (by decide) (by decide) (fun K hK => ?_) (fun K hK => ?_)
                             ·skip
                              refine Kd.R_append_rows_step Kd.string (w0 := w) w.heap.size (by rfl) (.tmp 64) (.tmp 66) 22 9 (.string ⟨#[]⟩) 16 rfl Tryd.underlying22 info9 rfl (by decide) (by omega) (.slice Ao32 x7_3.length co32) x7_3 y216 _ _ _ (fun k_ => some k_ ≠ (.slice Ao33 x8_3.length co33 : Value).ownBlock ∧ some k_ ≠ (.slice Ao34 x9_3.length co34 : Value).ownBlock ∧ some k_ ≠ (.slice Ao42 y216.length co42 : Value).ownBlock ∧ some k_ ≠ (v223 : Value).ownBlock) (fun _ => False) rfl rfl ?aO ?aR (fun _ _ h => h) (fun _ h => h.elim) ?aF ?aB ?aS ?aL ?_
                              (case aR => repeat (first | exact (Kd.R_reads' HO218.out).2.2 | (with_reducible refine Kd.C_alloc ?_ _) | (with_reducible refine Kd.C_drewN ?_ _) | (with_reducible refine Kd.C_drew ?_)))
                              (case aB => exact (by repeat (first | (with_reducible first | exact HB.out | apply below_alloc | apply pw_below_drewN | apply below_drew1) | exact HB.out)))
                              (case aF => exact (fun k_ hk => ⟨Kd.fresh' (Kd.R_lt (by (with_reducible repeat (first | apply Kd.R_alloc | apply Kd.R_drewN | apply Kd.R_drew)); exact HO_8.out)) k_ hk, Kd.fresh' (Kd.R_lt (by (with_reducible repeat (first | apply Kd.R_alloc | apply Kd.R_drewN | apply Kd.R_drew)); exact HO_9.out)) k_ hk, Kd.fresh' (Kd.R_lt (by (with_reducible repeat (first | apply Kd.R_alloc | apply Kd.R_drewN | apply Kd.R_drew)); exact HO218.out)) k_ hk, Kd.fresh' (Kd.R_lt (by (with_reducible repeat (first | apply Kd.R_alloc | apply Kd.R_drewN | apply Kd.R_drew)); exact HO224.out)) k_ hk⟩))
                              (case aO => exact (by (with_reducible repeat (first | apply Kd.R_alloc | apply Kd.R_drewN | apply Kd.R_drew)); exact Kd.R_mono HO_7.out (fun _ hk => ⟨hk.2.2.1, ⟨hk.2.2.2, ⟨hk.1, hk.2.1⟩⟩⟩)))
                              (case aS => exact (below_size (by repeat (first | (with_reducible first | exact HB.out | apply below_alloc | apply pw_below_drewN | apply below_drew1) | exact HB.out))))
                              (case aL => have := LMc20.out; omega)
                              intro v220 w41 ho hb hg hat
                              rw [← Ny219.out] at ho
                              have n0_ := Aside0.mk (Kd.R_after (ok := (fun k_ => some k_ ≠ (.slice Ao34 x9_3.length co34 : Value).ownBlock ∧ some k_ ≠ (.slice Ao42 y216.length co42 : Value).ownBlock ∧ some k_ ≠ (v223 : Value).ownBlock)) (by (with_reducible repeat (first | apply Kd.R_alloc | apply Kd.R_drewN | apply Kd.R_drew)); exact Kd.R_mono HO_8.out (fun _ hk => ⟨⟨hk.2.2.2, ⟨hk.1, hk.2.1⟩⟩, hk.2.2.1⟩)) hg hat)
                              have n1_ := Aside0.mk (Kd.R_after (ok := (fun k_ => some k_ ≠ (.slice Ao33 x8_3.length co33 : Value).ownBlock ∧ some k_ ≠ (.slice Ao42 y216.length co42 : Value).ownBlock ∧ some k_ ≠ (v223 : Value).ownBlock)) (by (with_reducible repeat (first | apply Kd.R_alloc | apply Kd.R_drewN | apply Kd.R_drew)); exact Kd.R_mono HO_9.out (fun _ hk => ⟨⟨hk.2.2.2, ⟨hk.1, hk.2.1⟩⟩, hk.2.2.1⟩)) hg hat)
                              have n2_ := Aside0.mk (Kd.R_over' (by (with_reducible repeat (first | apply Kd.R_alloc | apply Kd.R_drewN | apply Kd.R_drew)); exact HO215.out) (Kd.R_typed (by (with_reducible repeat (first | apply Kd.R_alloc | apply Kd.R_drewN | apply Kd.R_drew)); exact HO_7.out)) (by decide) hg)
                              have n3_ := Aside0.mk (Kd.R_after (ok := (fun k_ => some k_ ≠ (.slice Ao33 x8_3.length co33 : Value).ownBlock ∧ some k_ ≠ (.slice Ao34 x9_3.length co34 : Value).ownBlock ∧ some k_ ≠ (v223 : Value).ownBlock)) (by (with_reducible repeat (first | apply Kd.R_alloc | apply Kd.R_drewN | apply Kd.R_drew)); exact Kd.R_mono HO218.out (fun _ hk => ⟨⟨hk.2.2.1, ⟨hk.2.2.2, hk.1⟩⟩, hk.2.1⟩)) hg hat)
                              have n4_ := Aside0.mk (Kd.R_after (ok := (fun k_ => some k_ ≠ (.slice Ao33 x8_3.length co33 : Value).ownBlock ∧ some k_ ≠ (.slice Ao34 x9_3.length co34 : Value).ownBlock ∧ some k_ ≠ (.slice Ao42 y216.length co42 : Value).ownBlock)) (by (with_reducible repeat (first | apply Kd.R_alloc | apply Kd.R_drewN | apply Kd.R_drew)); exact Kd.R_mono HO224.out (fun _ hk => ⟨⟨hk.2.2.1, ⟨hk.2.2.2, hk.1⟩⟩, hk.2.1⟩)) hg hat)
                              have n5_ := Aside0.mk (hb)
                              have n6_ := Aside0.mk (ho)
                              (try clear HO_8)
                              (try clear HO_9)
                              clear HO215
                              clear HO218
                              clear HO224
                              clear HB
                              (try clear HO_7)
                              have HO_8 := n0_
                              have HO_9 := n1_
                              have HO215 := n2_
                              have HO218 := n3_
                              have HO224 := n4_
                              have HB := n5_
                              have HO221 := n6_
                              clear n0_ n1_ n2_ n3_ n4_ n5_ n6_
                              clear ho hb hg hat
                              refine hK.out _ _ trivial (fun hHeld => ?_)
                              clear hK K
                              refine norm_ (a' := ?_) ?_ ?_
                              rotate_left
                              ·show Act.put _ (some 67) _ = _
                               simp only [Act.put, List.setIfInBounds_toArray, List.set_cons_zero, List.set_cons_succ, i64_w, i32_w]
                               rfl
                              exact norm_ (by first | (simp only [putAll, Act.put, List.setIfInBounds_toArray, List.set_cons_zero, List.set_cons_succ]; done) | (simp only [putAll, Act.put, List.setIfInBounds_toArray, List.set_cons_zero, List.set_cons_succ]; rfl)) (hJ2_3_8 (.slice Ao42 y216.length co42, v220, v223) _ ⟨(by (with_reducible repeat (first | apply Kd.R_alloc | apply Kd.R_drewN | apply Kd.R_drew)); exact HO215.out), (by (with_reducible repeat (first | apply Kd.R_alloc | apply Kd.R_drewN | apply Kd.R_drew)); exact Kd.R_mono HO218.out (fun _ hk => ⟨hk.2, ⟨hk.1.2.2, ⟨hk.1.1, hk.1.2.1⟩⟩⟩)), (by (with_reducible repeat (first | apply Kd.R_alloc | apply Kd.R_drewN | apply Kd.R_drew)); exact Kd.R_mono HO221.out (fun _ hk => ⟨hk.2.2.1, ⟨hk.2.2.2, ⟨hk.1, hk.2.1⟩⟩⟩)), (by (with_reducible repeat (first | apply Kd.R_alloc | apply Kd.R_drewN | apply Kd.R_drew)); exact Kd.R_mono HO224.out (fun _ hk => ⟨hk.1.2.2, ⟨hk.2, ⟨hk.1.1, hk.1.2.1⟩⟩⟩)), (by (with_reducible repeat (first | apply Kd.R_alloc | apply Kd.R_drewN | apply Kd.R_drew)); exact Kd.R_mono HO_8.out (fun _ hk => ⟨hk.1.2.1, ⟨hk.2, ⟨hk.1.2.2, hk.1.1⟩⟩⟩)), (by (with_reducible repeat (first | apply Kd.R_alloc | apply Kd.R_drewN | apply Kd.R_drew)); exact Kd.R_mono HO_9.out (fun _ hk => ⟨hk.1.2.1, ⟨hk.2, ⟨hk.1.2.2, hk.1.1⟩⟩⟩)), (by repeat (first | (with_reducible first | exact HB.out | apply below_alloc | apply pw_below_drewN | apply below_drew1) | exact HB.out))⟩)
                             ·skip
                              refine Kd.R_lit_step Kd.string _ 9 ?hg (N := 78) ?hd (xs := ([((rdOf ByteArray.empty l0 x10_3) ++ (strOfNums y213)).extract ((ji21) : Int).toNat ((rdOf ByteArray.empty l0 x10_3) ++ (strOfNums y213)).size] : List ByteArray)) (inner := [.string (((rdOf ByteArray.empty l0 x10_3) ++ (strOfNums y213)).extract ((ji21) : Int).toNat ((rdOf ByteArray.empty l0 x10_3) ++ (strOfNums y213)).size)]) (ok := fun _ => True) (okp := fun _ => True) ?hr ?hp (fun _ hk => hk) trivial (Below.refl _ _) (Nat.le_refl _) (by simp) ?_; (case hd => rfl); (case hg => rfl); (case hr => first | (go_simp; done) | (go_simp; rfl)); (case hp => exact (Reps.one (show Kd.M Kd.string _ _ _ (((rdOf ByteArray.empty l0 x10_3) ++ (strOfNums y213)).extract ((ji21) : Int).toNat ((rdOf ByteArray.empty l0 x10_3) ++ (strOfNums y213)).size) [.string (((rdOf ByteArray.empty l0 x10_3) ++ (strOfNums y213)).extract ((ji21) : Int).toNat ((rdOf ByteArray.empty l0 x10_3) ++ (strOfNums y213)).size)] from rfl) (Reps.none _ _)))
                              intro v229 w41 ho42 hb hg_ hnew_
                              clear hg_ hnew_
                              (first | rw [← Ny228.out] at ho42 | (simp only [Int.reduceToNat] at ho42; rw [← Ny228.out] at ho42))
                              have n0_ := Aside0.mk (Kd.R_elder' (by (with_reducible repeat (first | apply Kd.R_alloc | apply Kd.R_drewN | apply Kd.R_drew)); exact HO_7.out) (Kd.R_base ho42) hb)
                              have n1_ := Aside0.mk (Kd.R_elder' (by (with_reducible repeat (first | apply Kd.R_alloc | apply Kd.R_drewN | apply Kd.R_drew)); exact HO_8.out) (Kd.R_base ho42) hb)
                              have n2_ := Aside0.mk (Kd.R_elder' (by (with_reducible repeat (first | apply Kd.R_alloc | apply Kd.R_drewN | apply Kd.R_drew)); exact HO_9.out) (Kd.R_base ho42) hb)
                              have n3_ := Aside0.mk (Kd.R_below (by (with_reducible repeat (first | apply Kd.R_alloc | apply Kd.R_drewN | apply Kd.R_drew)); exact HO215.out) hb)
                              have n4_ := Aside0.mk (Kd.R_elder' (by (with_reducible repeat (first | apply Kd.R_alloc | apply Kd.R_drewN | apply Kd.R_drew)); exact HO218.out) (Kd.R_base ho42) hb)
                              have n5_ := Aside0.mk (Kd.R_elder' (by (with_reducible repeat (first | apply Kd.R_alloc | apply Kd.R_drewN | apply Kd.R_drew)); exact HO224.out) (Kd.R_base ho42) hb)
                              have n6_ := Aside0.mk (Kd.R_lower (Kd.R_new' (Kd.R_new' (Kd.R_new' (Kd.R_new' (Kd.R_new' ho42 (Kd.R_lt (by (with_reducible repeat (first | apply Kd.R_alloc | apply Kd.R_drewN | apply Kd.R_drew)); exact HO_7.out))) (Kd.R_lt (by (with_reducible repeat (first | apply Kd.R_alloc | apply Kd.R_drewN | apply Kd.R_drew)); exact HO_8.out))) (Kd.R_lt (by (with_reducible repeat (first | apply Kd.R_alloc | apply Kd.R_drewN | apply Kd.R_drew)); exact HO_9.out))) (Kd.R_lt (by (with_reducible repeat (first | apply Kd.R_alloc | apply Kd.R_drewN | apply Kd.R_drew)); exact HO218.out))) (Kd.R_lt (by (with_reducible repeat (first | apply Kd.R_alloc | apply Kd.R_drewN | apply Kd.R_drew)); exact HO224.out))) (below_size (by repeat (first | (with_reducible first | exact HB.out | apply below_alloc | apply pw_below_drewN | apply below_drew1) | exact HB.out))))
                              have n7_ := Aside0.mk (below_step (by repeat (first | (with_reducible first | exact HB.out | apply below_alloc | apply pw_below_drewN | apply below_drew1) | exact HB.out)) hb)
                              (try clear HO_7)
                              (try clear HO_8)
                              (try clear HO_9)
                              clear HO215
                              clear HO218
                              clear HO224
                              clear HB
                              have HO_7 := n0_
                              have HO_8 := n1_
                              have HO_9 := n2_
                              have HO215 := n3_
                              have HO218 := n4_
                              have HO224 := n5_
                              have HO230 := n6_
                              have HB := n7_
                              clear n0_ n1_ n2_ n3_ n4_ n5_ n6_ n7_
                              clear hb ho42
                              refine hK.out _ _ trivial (fun hHeld => ?_)
                              clear hK K
                              refine norm_ (a' := ?_) ?_ ?_
                              rotate_left
                              ·show Act.put _ (some 78) _ = _
                               simp only [Act.put, List.setIfInBounds_toArray, List.set_cons_zero, List.set_cons_succ, i64_w, i32_w]
                               rfl
                              exact norm_ (by first | (simp only [putAll, Act.put, List.setIfInBounds_toArray, List.set_cons_zero, List.set_cons_succ]; done) | (simp only [putAll, Act.put, List.setIfInBounds_toArray, List.set_cons_zero, List.set_cons_succ]; rfl)) (hJ2_8_14 ((.slice Ao42 y216.length co42 : Value), v223, v229) _ ⟨(by (with_reducible repeat (first | apply Kd.R_alloc | apply Kd.R_drewN | apply Kd.R_drew)); exact HO215.out), (by (with_reducible repeat (first | apply Kd.R_alloc | apply Kd.R_drewN | apply Kd.R_drew)); exact Kd.R_mono HO218.out (fun _ hk => ⟨hk.1.1, ⟨hk.2, ⟨hk.1.2.1, ⟨hk.1.2.2.1, hk.1.2.2.2⟩⟩⟩⟩)), (by (with_reducible repeat (first | apply Kd.R_alloc | apply Kd.R_drewN | apply Kd.R_drew)); exact Kd.R_mono HO224.out (fun _ hk => ⟨hk.1.1, ⟨hk.2, ⟨hk.1.2.1, ⟨hk.1.2.2.1, hk.1.2.2.2⟩⟩⟩⟩)), (by (with_reducible repeat (first | apply Kd.R_alloc | apply Kd.R_drewN | apply Kd.R_drew)); exact Kd.R_mono HO230.out (fun _ hk => ⟨hk.1.2, ⟨hk.2, ⟨hk.1.1.1.1.2, ⟨hk.1.1.1.2, hk.1.1.2⟩⟩⟩⟩)), (by (with_reducible repeat (first | apply Kd.R_alloc | apply Kd.R_drewN | apply Kd.R_drew)); exact Kd.R_mono HO_7.out (fun _ hk => ⟨hk.1.1, ⟨hk.1.2.1, ⟨hk.2, ⟨hk.1.2.2.1, hk.1.2.2.2⟩⟩⟩⟩)), (by (with_reducible repeat (first | apply Kd.R_alloc | apply Kd.R_drewN | apply Kd.R_drew)); exact Kd.R_mono HO_8.out (fun _ hk => ⟨hk.1.1, ⟨hk.1.2.1, ⟨hk.2, ⟨hk.1.2.2.1, hk.1.2.2.2⟩⟩⟩⟩)), (by (with_reducible repeat (first | apply Kd.R_alloc | apply Kd.R_drewN | apply Kd.R_drew)); exact Kd.R_mono HO_9.out (fun _ hk => ⟨hk.1.1, ⟨hk.1.2.1, ⟨hk.2, ⟨hk.1.2.2.1, hk.1.2.2.2⟩⟩⟩⟩)), (by repeat (first | (with_reducible first | exact HB.out | apply below_alloc | apply pw_below_drewN | apply below_drew1) | exact HB.out))⟩)
                           ·skip
                            rintro ⟨v217, v220⟩ w40 ⟨h0_, h1_, h2_, h3_, h4_, h5_⟩
                            have n0_ : Aside0 (Kd.R (Kd.int .u8) 5 w40 w.heap.size (fun _ => True) v214 y213) := ⟨h0_⟩
                            have n1_ : Aside0 (Kd.R Kd.string 9 w40 w.heap.size (fun k_ => some k_ ≠ (v220 : Value).ownBlock ∧ some k_ ≠ (.slice Ao33 x8_3.length co33 : Value).ownBlock ∧ some k_ ≠ (.slice Ao34 x9_3.length co34 : Value).ownBlock) v217 y216) := ⟨h1_⟩
                            have n2_ : Aside0 (Kd.R Kd.string 9 w40 w.heap.size (fun k_ => some k_ ≠ (v217 : Value).ownBlock ∧ some k_ ≠ (.slice Ao33 x8_3.length co33 : Value).ownBlock ∧ some k_ ≠ (.slice Ao34 x9_3.length co34 : Value).ownBlock) v220 y219) := ⟨h2_⟩
                            have n3_ : Aside0 (Kd.R Kd.string 9 w40 w.heap.size (fun k_ => some k_ ≠ (v217 : Value).ownBlock ∧ some k_ ≠ (v220 : Value).ownBlock ∧ some k_ ≠ (.slice Ao34 x9_3.length co34 : Value).ownBlock) (.slice Ao33 x8_3.length co33) x8_3) := ⟨h3_⟩
                            have n4_ : Aside0 (Kd.R Kd.string 9 w40 w.heap.size (fun k_ => some k_ ≠ (v217 : Value).ownBlock ∧ some k_ ≠ (v220 : Value).ownBlock ∧ some k_ ≠ (.slice Ao33 x8_3.length co33 : Value).ownBlock) (.slice Ao34 x9_3.length co34) x9_3) := ⟨h4_⟩
                            have n5_ : Aside0 (Below w.heap.size w w40) := ⟨h5_⟩
                            (try clear HO_7)
                            (try clear HO_8)
                            (try clear HO_9)
                            clear HO215
                            clear HB
                            clear h0_ h1_ h2_ h3_ h4_ h5_
                            have HO215 := n0_
                            have HO218 := n1_
                            have HO221 := n2_
                            have HO_8 := n3_
                            have HO_9 := n4_
                            have HB := n5_
                            clear n0_ n1_ n2_ n3_ n4_ n5_
                            have hHeld := trivial
                            refine norm_ (a' := ?_) ?_ ?_
                            rotate_left
                            ·simp only [putAll, Act.put, List.setIfInBounds_toArray, List.set_cons_zero, List.set_cons_succ]
                             rfl
                            refine two_ (i := 8) (j := 14) (Ni := some 72) (Nj := some 78) #[true, true, true, true, true, true, true, true, true, false, true, true, true, true, false, false, false, false, false] #[true, true, true, true, true, true, true, true, false, false, true, true, true, true, true, false, false, false, false] rfl rfl rfl rfl (two_of HT_.out (by kernel_rfl)) (by decide) (by decide) (fun K hK => ?_) (fun K hK => ?_)
                            ·skip
                             refine Kd.R_lit_step Kd.string _ 9 ?hg (N := 72) ?hd (xs := ([((rdOf ByteArray.empty l0 x10_3) ++ (strOfNums y213)).extract 0 ((ji21) : Int).toNat] : List ByteArray)) (inner := [.string (((rdOf ByteArray.empty l0 x10_3) ++ (strOfNums y213)).extract 0 ((ji21) : Int).toNat)]) (ok := fun _ => True) (okp := fun _ => True) ?hr ?hp (fun _ hk => hk) trivial (Below.refl _ _) (Nat.le_refl _) (by simp) ?_; (case hd => rfl); (case hg => rfl); (case hr => first | (go_simp; done) | (go_simp; rfl)); (case hp => exact (Reps.one (show Kd.M Kd.string _ _ _ (((rdOf ByteArray.empty l0 x10_3) ++ (strOfNums y213)).extract 0 ((ji21) : Int).toNat) [.string (((rdOf ByteArray.empty l0 x10_3) ++ (strOfNums y213)).extract 0 ((ji21) : Int).toNat)] from rfl) (Reps.none _ _)))
                             intro v223 w41 ho42 hb hg_ hnew_
                             clear hg_ hnew_
                             (first | rw [← Ny222.out] at ho42 | (simp only [Int.reduceToNat] at ho42; rw [← Ny222.out] at ho42))
                             have n0_ := Aside0.mk (Kd.R_elder' (by (with_reducible repeat (first | apply Kd.R_alloc | apply Kd.R_drewN | apply Kd.R_drew)); exact HO_8.out) (Kd.R_base ho42) hb)
                             have n1_ := Aside0.mk (Kd.R_elder' (by (with_reducible repeat (first | apply Kd.R_alloc | apply Kd.R_drewN | apply Kd.R_drew)); exact HO_9.out) (Kd.R_base ho42) hb)
                             have n2_ := Aside0.mk (Kd.R_below (by (with_reducible repeat (first | apply Kd.R_alloc | apply Kd.R_drewN | apply Kd.R_drew)); exact HO215.out) hb)
                             have n3_ := Aside0.mk (Kd.R_elder' (by (with_reducible repeat (first | apply Kd.R_alloc | apply Kd.R_drewN | apply Kd.R_drew)); exact HO218.out) (Kd.R_base ho42) hb)
                             have n4_ := Aside0.mk (Kd.R_elder' (by (with_reducible repeat (first | apply Kd.R_alloc | apply Kd.R_drewN | apply Kd.R_drew)); exact HO221.out) (Kd.R_base ho42) hb)
                             have n5_ := Aside0.mk (Kd.R_lower (Kd.R_new' (Kd.R_new' (Kd.R_new' (Kd.R_new' ho42 (Kd.R_lt (by (with_reducible repeat (first | apply Kd.R_alloc | apply Kd.R_drewN | apply Kd.R_drew)); exact HO_8.out))) (Kd.R_lt (by (with_reducible repeat (first | apply Kd.R_alloc | apply Kd.R_drewN | apply Kd.R_drew)); exact HO_9.out))) (Kd.R_lt (by (with_reducible repeat (first | apply Kd.R_alloc | apply Kd.R_drewN | apply Kd.R_drew)); exact HO218.out))) (Kd.R_lt (by (with_reducible repeat (first | apply Kd.R_alloc | apply Kd.R_drewN | apply Kd.R_drew)); exact HO221.out))) (below_size (by repeat (first | (with_reducible first | exact HB.out | apply below_alloc | apply pw_below_drewN | apply below_drew1) | exact HB.out))))
                             have n6_ := Aside0.mk (below_step (by repeat (first | (with_reducible first | exact HB.out | apply below_alloc | apply pw_below_drewN | apply below_drew1) | exact HB.out)) hb)
                             (try clear HO_8)
                             (try clear HO_9)
                             clear HO215
                             clear HO218
                             clear HO221
                             clear HB
                             have HO_8 := n0_
                             have HO_9 := n1_
                             have HO215 := n2_
                             have HO218 := n3_
                             have HO221 := n4_
                             have HO224 := n5_
                             have HB := n6_
                             clear n0_ n1_ n2_ n3_ n4_ n5_ n6_
                             clear hb ho42
                             refine hK.out _ _ trivial (fun hHeld => ?_)
                             clear hK K
                             refine norm_ (a' := ?_) ?_ ?_
                             rotate_left
                             ·show Act.put _ (some 72) _ = _
                              simp only [Act.put, List.setIfInBounds_toArray, List.set_cons_zero, List.set_cons_succ, i64_w, i32_w]
                              rfl
                             exact norm_ (by first | (simp only [putAll, Act.put, List.setIfInBounds_toArray, List.set_cons_zero, List.set_cons_succ]; done) | (simp only [putAll, Act.put, List.setIfInBounds_toArray, List.set_cons_zero, List.set_cons_succ]; rfl)) (hJ2_3_8 (v217, v220, v223) _ ⟨(by (with_reducible repeat (first | apply Kd.R_alloc | apply Kd.R_drewN | apply Kd.R_drew)); exact HO215.out), (by (with_reducible repeat (first | apply Kd.R_alloc | apply Kd.R_drewN | apply Kd.R_drew)); exact Kd.R_mono HO218.out (fun _ hk => ⟨hk.1.1, ⟨hk.2, ⟨hk.1.2.1, hk.1.2.2⟩⟩⟩)), (by (with_reducible repeat (first | apply Kd.R_alloc | apply Kd.R_drewN | apply Kd.R_drew)); exact Kd.R_mono HO221.out (fun _ hk => ⟨hk.1.1, ⟨hk.2, ⟨hk.1.2.1, hk.1.2.2⟩⟩⟩)), (by (with_reducible repeat (first | apply Kd.R_alloc | apply Kd.R_drewN | apply Kd.R_drew)); exact Kd.R_mono HO224.out (fun _ hk => ⟨hk.1.2, ⟨hk.2, ⟨hk.1.1.1.2, hk.1.1.2⟩⟩⟩)), (by (with_reducible repeat (first | apply Kd.R_alloc | apply Kd.R_drewN | apply Kd.R_drew)); exact Kd.R_mono HO_8.out (fun _ hk => ⟨hk.1.1, ⟨hk.1.2.1, ⟨hk.2, hk.1.2.2⟩⟩⟩)), (by (with_reducible repeat (first | apply Kd.R_alloc | apply Kd.R_drewN | apply Kd.R_drew)); exact Kd.R_mono HO_9.out (fun _ hk => ⟨hk.1.1, ⟨hk.1.2.1, ⟨hk.2, hk.1.2.2⟩⟩⟩)), (by repeat (first | (with_reducible first | exact HB.out | apply below_alloc | apply pw_below_drewN | apply below_drew1) | exact HB.out))⟩)
                            ·skip
                             refine Kd.R_lit_step Kd.string _ 9 ?hg (N := 78) ?hd (xs := ([((rdOf ByteArray.empty l0 x10_3) ++ (strOfNums y213)).extract ((ji21) : Int).toNat ((rdOf ByteArray.empty l0 x10_3) ++ (strOfNums y213)).size] : List ByteArray)) (inner := [.string (((rdOf ByteArray.empty l0 x10_3) ++ (strOfNums y213)).extract ((ji21) : Int).toNat ((rdOf ByteArray.empty l0 x10_3) ++ (strOfNums y213)).size)]) (ok := fun _ => True) (okp := fun _ => True) ?hr ?hp (fun _ hk => hk) trivial (Below.refl _ _) (Nat.le_refl _) (by simp) ?_; (case hd => rfl); (case hg => rfl); (case hr => first | (go_simp; done) | (go_simp; rfl)); (case hp => exact (Reps.one (show Kd.M Kd.string _ _ _ (((rdOf ByteArray.empty l0 x10_3) ++ (strOfNums y213)).extract ((ji21) : Int).toNat ((rdOf ByteArray.empty l0 x10_3) ++ (strOfNums y213)).size) [.string (((rdOf ByteArray.empty l0 x10_3) ++ (strOfNums y213)).extract ((ji21) : Int).toNat ((rdOf ByteArray.empty l0 x10_3) ++ (strOfNums y213)).size)] from rfl) (Reps.none _ _)))
                             intro v229 w41 ho42 hb hg_ hnew_
                             clear hg_ hnew_
                             (first | rw [← Ny228.out] at ho42 | (simp only [Int.reduceToNat] at ho42; rw [← Ny228.out] at ho42))
                             have n0_ := Aside0.mk (Kd.R_elder' (by (with_reducible repeat (first | apply Kd.R_alloc | apply Kd.R_drewN | apply Kd.R_drew)); exact HO_8.out) (Kd.R_base ho42) hb)
                             have n1_ := Aside0.mk (Kd.R_elder' (by (with_reducible repeat (first | apply Kd.R_alloc | apply Kd.R_drewN | apply Kd.R_drew)); exact HO_9.out) (Kd.R_base ho42) hb)
                             have n2_ := Aside0.mk (Kd.R_below (by (with_reducible repeat (first | apply Kd.R_alloc | apply Kd.R_drewN | apply Kd.R_drew)); exact HO215.out) hb)
                             have n3_ := Aside0.mk (Kd.R_elder' (by (with_reducible repeat (first | apply Kd.R_alloc | apply Kd.R_drewN | apply Kd.R_drew)); exact HO218.out) (Kd.R_base ho42) hb)
                             have n4_ := Aside0.mk (Kd.R_elder' (by (with_reducible repeat (first | apply Kd.R_alloc | apply Kd.R_drewN | apply Kd.R_drew)); exact HO221.out) (Kd.R_base ho42) hb)
                             have n5_ := Aside0.mk (Kd.R_lower (Kd.R_new' (Kd.R_new' (Kd.R_new' (Kd.R_new' ho42 (Kd.R_lt (by (with_reducible repeat (first | apply Kd.R_alloc | apply Kd.R_drewN | apply Kd.R_drew)); exact HO_8.out))) (Kd.R_lt (by (with_reducible repeat (first | apply Kd.R_alloc | apply Kd.R_drewN | apply Kd.R_drew)); exact HO_9.out))) (Kd.R_lt (by (with_reducible repeat (first | apply Kd.R_alloc | apply Kd.R_drewN | apply Kd.R_drew)); exact HO218.out))) (Kd.R_lt (by (with_reducible repeat (first | apply Kd.R_alloc | apply Kd.R_drewN | apply Kd.R_drew)); exact HO221.out))) (below_size (by repeat (first | (with_reducible first | exact HB.out | apply below_alloc | apply pw_below_drewN | apply below_drew1) | exact HB.out))))
                             have n6_ := Aside0.mk (below_step (by repeat (first | (with_reducible first | exact HB.out | apply below_alloc | apply pw_below_drewN | apply below_drew1) | exact HB.out)) hb)
                             (try clear HO_8)
                             (try clear HO_9)
                             clear HO215
                             clear HO218
                             clear HO221
                             clear HB
                             have HO_8 := n0_
                             have HO_9 := n1_
                             have HO215 := n2_
                             have HO218 := n3_
                             have HO221 := n4_
                             have HO230 := n5_
                             have HB := n6_
                             clear n0_ n1_ n2_ n3_ n4_ n5_ n6_
                             clear hb ho42
                             refine hK.out _ _ trivial (fun hHeld => ?_)
                             clear hK K
                             refine norm_ (a' := ?_) ?_ ?_
                             rotate_left
                             ·show Act.put _ (some 78) _ = _
                              simp only [Act.put, List.setIfInBounds_toArray, List.set_cons_zero, List.set_cons_succ, i64_w, i32_w]
                              rfl
                             exact norm_ (by first | (simp only [putAll, Act.put, List.setIfInBounds_toArray, List.set_cons_zero, List.set_cons_succ]; done) | (simp only [putAll, Act.put, List.setIfInBounds_toArray, List.set_cons_zero, List.set_cons_succ]; rfl)) (hJ2_3_14 (v217, v220, v229) _ ⟨(by (with_reducible repeat (first | apply Kd.R_alloc | apply Kd.R_drewN | apply Kd.R_drew)); exact HO215.out), (by (with_reducible repeat (first | apply Kd.R_alloc | apply Kd.R_drewN | apply Kd.R_drew)); exact Kd.R_mono HO218.out (fun _ hk => ⟨hk.1.1, ⟨hk.2, ⟨hk.1.2.1, hk.1.2.2⟩⟩⟩)), (by (with_reducible repeat (first | apply Kd.R_alloc | apply Kd.R_drewN | apply Kd.R_drew)); exact Kd.R_mono HO221.out (fun _ hk => ⟨hk.1.1, ⟨hk.2, ⟨hk.1.2.1, hk.1.2.2⟩⟩⟩)), (by (with_reducible repeat (first | apply Kd.R_alloc | apply Kd.R_drewN | apply Kd.R_drew)); exact Kd.R_mono HO230.out (fun _ hk => ⟨hk.1.2, ⟨hk.2, ⟨hk.1.1.1.2, hk.1.1.2⟩⟩⟩)), (by (with_reducible repeat (first | apply Kd.R_alloc | apply Kd.R_drewN | apply Kd.R_drew)); exact Kd.R_mono HO_8.out (fun _ hk => ⟨hk.1.1, ⟨hk.1.2.1, ⟨hk.2, hk.1.2.2⟩⟩⟩)), (by (with_reducible repeat (first | apply Kd.R_alloc | apply Kd.R_drewN | apply Kd.R_drew)); exact Kd.R_mono HO_9.out (fun _ hk => ⟨hk.1.1, ⟨hk.1.2.1, ⟨hk.2, hk.1.2.2⟩⟩⟩)), (by repeat (first | (with_reducible first | exact HB.out | apply below_alloc | apply pw_below_drewN | apply below_drew1) | exact HB.out))⟩)
                          ·skip
                           rintro ⟨v217, v223, v229⟩ w42 ⟨h0_, h1_, h2_, h3_, h4_, h5_, h6_, h7_⟩
                           have n0_ : Aside0 (Kd.R (Kd.int .u8) 5 w42 w.heap.size (fun _ => True) v214 y213) := ⟨h0_⟩
                           have n1_ : Aside0 (Kd.R Kd.string 9 w42 w.heap.size (fun k_ => some k_ ≠ (v223 : Value).ownBlock ∧ some k_ ≠ (v229 : Value).ownBlock ∧ some k_ ≠ (.slice Ao32 x7_3.length co32 : Value).ownBlock ∧ some k_ ≠ (.slice Ao33 x8_3.length co33 : Value).ownBlock ∧ some k_ ≠ (.slice Ao34 x9_3.length co34 : Value).ownBlock) v217 y216) := ⟨h1_⟩
                           have n2_ : Aside0 (Kd.R Kd.string 9 w42 w.heap.size (fun k_ => some k_ ≠ (v217 : Value).ownBlock ∧ some k_ ≠ (v229 : Value).ownBlock ∧ some k_ ≠ (.slice Ao32 x7_3.length co32 : Value).ownBlock ∧ some k_ ≠ (.slice Ao33 x8_3.length co33 : Value).ownBlock ∧ some k_ ≠ (.slice Ao34 x9_3.length co34 : Value).ownBlock) v223 y222) := ⟨h2_⟩
                           have n3_ : Aside0 (Kd.R Kd.string 9 w42 w.heap.size (fun k_ => some k_ ≠ (v217 : Value).ownBlock ∧ some k_ ≠ (v223 : Value).ownBlock ∧ some k_ ≠ (.slice Ao32 x7_3.length co32 : Value).ownBlock ∧ some k_ ≠ (.slice Ao33 x8_3.length co33 : Value).ownBlock ∧ some k_ ≠ (.slice Ao34 x9_3.length co34 : Value).ownBlock) v229 y228) := ⟨h3_⟩
                           have n4_ : Aside0 (Kd.R Kd.string 9 w42 w.heap.size (fun k_ => some k_ ≠ (v217 : Value).ownBlock ∧ some k_ ≠ (v223 : Value).ownBlock ∧ some k_ ≠ (v229 : Value).ownBlock ∧ some k_ ≠ (.slice Ao33 x8_3.length co33 : Value).ownBlock ∧ some k_ ≠ (.slice Ao34 x9_3.length co34 : Value).ownBlock) (.slice Ao32 x7_3.length co32) x7_3) := ⟨h4_⟩
                           have n5_ : Aside0 (Kd.R Kd.string 9 w42 w.heap.size (fun k_ => some k_ ≠ (v217 : Value).ownBlock ∧ some k_ ≠ (v223 : Value).ownBlock ∧ some k_ ≠ (v229 : Value).ownBlock ∧ some k_ ≠ (.slice Ao32 x7_3.length co32 : Value).ownBlock ∧ some k_ ≠ (.slice Ao34 x9_3.length co34 : Value).ownBlock) (.slice Ao33 x8_3.length co33) x8_3) := ⟨h5_⟩
                           have n6_ : Aside0 (Kd.R Kd.string 9 w42 w.heap.size (fun k_ => some k_ ≠ (v217 : Value).ownBlock ∧ some k_ ≠ (v223 : Value).ownBlock ∧ some k_ ≠ (v229 : Value).ownBlock ∧ some k_ ≠ (.slice Ao32 x7_3.length co32 : Value).ownBlock ∧ some k_ ≠ (.slice Ao33 x8_3.length co33 : Value).ownBlock) (.slice Ao34 x9_3.length co34) x9_3) := ⟨h6_⟩
                           have n7_ : Aside0 (Below w.heap.size w w42) := ⟨h7_⟩
                           (try clear HO_7)
                           (try clear HO_8)
                           (try clear HO_9)
                           clear HO215
                           clear HB
                           clear h0_ h1_ h2_ h3_ h4_ h5_ h6_ h7_
                           have HO215 := n0_
                           have HO218 := n1_
                           have HO224 := n2_
                           have HO230 := n3_
                           have HO_7 := n4_
                           have HO_8 := n5_
                           have HO_9 := n6_
                           have HB := n7_
                           clear n0_ n1_ n2_ n3_ n4_ n5_ n6_ n7_
                           have hHeld := trivial
                           obtain ⟨Ao44, co44, eo44⟩ := Kd.R_slice HO218.out
                           (first | subst eo44 | (injection eo44 with f1_ f2_ f3_; have f4_ := f1_.symm; have f5_ := f3_.symm; clear f1_ f2_ f3_; subst f4_; subst f5_))
                           refine norm_ (a' := ?_) ?_ ?_
                           rotate_left
                           ·simp only [putAll, Act.put, List.setIfInBounds_toArray, List.set_cons_zero, List.set_cons_succ]
                            rfl
                           refine one_ (i := 3) (N := some 67) #[true, true, true, true, true, true, true, true, true, false, true, true, true, true, true, false, false, false, false] rfl rfl (one_of HT_.out (by kernel_rfl)) (by decide) (fun K hK => ?_)
                           refine Kd.R_append_rows_step Kd.string (w0 := w) w.heap.size (by rfl) (.tmp 64) (.tmp 66) 22 9 (.string ⟨#[]⟩) 16 rfl Tryd.underlying22 info9 rfl (by decide) (by omega) (.slice Ao32 x7_3.length co32) x7_3 y216 _ _ _ (fun k_ => some k_ ≠ (.slice Ao33 x8_3.length co33 : Value).ownBlock ∧ some k_ ≠ (.slice Ao34 x9_3.length co34 : Value).ownBlock ∧ some k_ ≠ (.slice Ao44 y216.length co44 : Value).ownBlock ∧ some k_ ≠ (v223 : Value).ownBlock ∧ some k_ ≠ (v229 : Value).ownBlock) (fun _ => False) rfl rfl ?aO ?aR (fun _ _ h => h) (fun _ h => h.elim) ?aF ?aB ?aS ?aL ?_
                           (case aR => repeat (first | exact (Kd.R_reads' HO218.out).2.2 | (with_reducible refine Kd.C_alloc ?_ _) | (with_reducible refine Kd.C_drewN ?_ _) | (with_reducible refine Kd.C_drew ?_)))
                           (case aB => exact (by repeat (first | (with_reducible first | exact HB.out | apply below_alloc | apply pw_below_drewN | apply below_drew1) | exact HB.out)))
                           (case aF => exact (fun k_ hk => ⟨Kd.fresh' (Kd.R_lt (by (with_reducible repeat (first | apply Kd.R_alloc | apply Kd.R_drewN | apply Kd.R_drew)); exact HO_8.out)) k_ hk, Kd.fresh' (Kd.R_lt (by (with_reducible repeat (first | apply Kd.R_alloc | apply Kd.R_drewN | apply Kd.R_drew)); exact HO_9.out)) k_ hk, Kd.fresh' (Kd.R_lt (by (with_reducible repeat (first | apply Kd.R_alloc | apply Kd.R_drewN | apply Kd.R_drew)); exact HO218.out)) k_ hk, Kd.fresh' (Kd.R_lt (by (with_reducible repeat (first | apply Kd.R_alloc | apply Kd.R_drewN | apply Kd.R_drew)); exact HO224.out)) k_ hk, Kd.fresh' (Kd.R_lt (by (with_reducible repeat (first | apply Kd.R_alloc | apply Kd.R_drewN | apply Kd.R_drew)); exact HO230.out)) k_ hk⟩))
                           (case aO => exact (by (with_reducible repeat (first | apply Kd.R_alloc | apply Kd.R_drewN | apply Kd.R_drew)); exact Kd.R_mono HO_7.out (fun _ hk => ⟨hk.2.2.2.1, ⟨hk.2.2.2.2, ⟨hk.1, ⟨hk.2.1, hk.2.2.1⟩⟩⟩⟩)))
                           (case aS => exact (below_size (by repeat (first | (with_reducible first | exact HB.out | apply below_alloc | apply pw_below_drewN | apply below_drew1) | exact HB.out))))
                           (case aL => have := LMc20.out; omega)
                           intro v220 w43 ho hb hg hat
                           rw [← Ny219.out] at ho
                           have n0_ := Aside0.mk (Kd.R_after (ok := (fun k_ => some k_ ≠ (.slice Ao34 x9_3.length co34 : Value).ownBlock ∧ some k_ ≠ (.slice Ao44 y216.length co44 : Value).ownBlock ∧ some k_ ≠ (v223 : Value).ownBlock ∧ some k_ ≠ (v229 : Value).ownBlock)) (by (with_reducible repeat (first | apply Kd.R_alloc | apply Kd.R_drewN | apply Kd.R_drew)); exact Kd.R_mono HO_8.out (fun _ hk => ⟨⟨hk.2.2.2.2, ⟨hk.1, ⟨hk.2.1, hk.2.2.1⟩⟩⟩, hk.2.2.2.1⟩)) hg hat)
                           have n1_ := Aside0.mk (Kd.R_after (ok := (fun k_ => some k_ ≠ (.slice Ao33 x8_3.length co33 : Value).ownBlock ∧ some k_ ≠ (.slice Ao44 y216.length co44 : Value).ownBlock ∧ some k_ ≠ (v223 : Value).ownBlock ∧ some k_ ≠ (v229 : Value).ownBlock)) (by (with_reducible repeat (first | apply Kd.R_alloc | apply Kd.R_drewN | apply Kd.R_drew)); exact Kd.R_mono HO_9.out (fun _ hk => ⟨⟨hk.2.2.2.2, ⟨hk.1, ⟨hk.2.1, hk.2.2.1⟩⟩⟩, hk.2.2.2.1⟩)) hg hat)
                           have n2_ := Aside0.mk (Kd.R_over' (by (with_reducible repeat (first | apply Kd.R_alloc | apply Kd.R_drewN | apply Kd.R_drew)); exact HO215.out) (Kd.R_typed (by (with_reducible repeat (first | apply Kd.R_alloc | apply Kd.R_drewN | apply Kd.R_drew)); exact HO_7.out)) (by decide) hg)
                           have n3_ := Aside0.mk (Kd.R_after (ok := (fun k_ => some k_ ≠ (.slice Ao33 x8_3.length co33 : Value).ownBlock ∧ some k_ ≠ (.slice Ao34 x9_3.length co34 : Value).ownBlock ∧ some k_ ≠ (v223 : Value).ownBlock ∧ some k_ ≠ (v229 : Value).ownBlock)) (by (with_reducible repeat (first | apply Kd.R_alloc | apply Kd.R_drewN | apply Kd.R_drew)); exact Kd.R_mono HO218.out (fun _ hk => ⟨⟨hk.2.2.2.1, ⟨hk.2.2.2.2, ⟨hk.1, hk.2.1⟩⟩⟩, hk.2.2.1⟩)) hg hat)
                           have n4_ := Aside0.mk (Kd.R_after (ok := (fun k_ => some k_ ≠ (.slice Ao33 x8_3.length co33 : Value).ownBlock ∧ some k_ ≠ (.slice Ao34 x9_3.length co34 : Value).ownBlock ∧ some k_ ≠ (.slice Ao44 y216.length co44 : Value).ownBlock ∧ some k_ ≠ (v229 : Value).ownBlock)) (by (with_reducible repeat (first | apply Kd.R_alloc | apply Kd.R_drewN | apply Kd.R_drew)); exact Kd.R_mono HO224.out (fun _ hk => ⟨⟨hk.2.2.2.1, ⟨hk.2.2.2.2, ⟨hk.1, hk.2.1⟩⟩⟩, hk.2.2.1⟩)) hg hat)
                           have n5_ := Aside0.mk (Kd.R_after (ok := (fun k_ => some k_ ≠ (.slice Ao33 x8_3.length co33 : Value).ownBlock ∧ some k_ ≠ (.slice Ao34 x9_3.length co34 : Value).ownBlock ∧ some k_ ≠ (.slice Ao44 y216.length co44 : Value).ownBlock ∧ some k_ ≠ (v223 : Value).ownBlock)) (by (with_reducible repeat (first | apply Kd.R_alloc | apply Kd.R_drewN | apply Kd.R_drew)); exact Kd.R_mono HO230.out (fun _ hk => ⟨⟨hk.2.2.2.1, ⟨hk.2.2.2.2, ⟨hk.1, hk.2.1⟩⟩⟩, hk.2.2.1⟩)) hg hat)
                           have n6_ := Aside0.mk (hb)
                           have n7_ := Aside0.mk (ho)
                           (try clear HO_8)
                           (try clear HO_9)
                           clear HO215
                           clear HO218
                           clear HO224
                           clear HO230
                           clear HB
                           (try clear HO_7)
                           have HO_8 := n0_
                           have HO_9 := n1_
                           have HO215 := n2_
                           have HO218 := n3_
                           have HO224 := n4_
                           have HO230 := n5_
                           have HB := n6_
                           have HO221 := n7_
                           clear n0_ n1_ n2_ n3_ n4_ n5_ n6_ n7_
                           clear ho hb hg hat
                           refine hK.out _ _ trivial (fun hHeld => ?_)
                           clear hK K
                           refine norm_ (a' := ?_) ?_ ?_
                           rotate_left
                           ·show Act.put _ (some 67) _ = _
                            simp only [Act.put, List.setIfInBounds_toArray, List.set_cons_zero, List.set_cons_succ, i64_w, i32_w]
                            rfl
                           exact norm_ (by first | (simp only [putAll, Act.put, List.setIfInBounds_toArray, List.set_cons_zero, List.set_cons_succ]; done) | (simp only [putAll, Act.put, List.setIfInBounds_toArray, List.set_cons_zero, List.set_cons_succ]; rfl)) (hJ2_3_8_14 (.slice Ao44 y216.length co44, v220, v223, v229) _ ⟨(by (with_reducible repeat (first | apply Kd.R_alloc | apply Kd.R_drewN | apply Kd.R_drew)); exact HO215.out), (by (with_reducible repeat (first | apply Kd.R_alloc | apply Kd.R_drewN | apply Kd.R_drew)); exact Kd.R_mono HO218.out (fun _ hk => ⟨hk.2, ⟨hk.1.2.2.1, ⟨hk.1.2.2.2, ⟨hk.1.1, hk.1.2.1⟩⟩⟩⟩)), (by (with_reducible repeat (first | apply Kd.R_alloc | apply Kd.R_drewN | apply Kd.R_drew)); exact Kd.R_mono HO221.out (fun _ hk => ⟨hk.2.2.1, ⟨hk.2.2.2.1, ⟨hk.2.2.2.2, ⟨hk.1, hk.2.1⟩⟩⟩⟩)), (by (with_reducible repeat (first | apply Kd.R_alloc | apply Kd.R_drewN | apply Kd.R_drew)); exact Kd.R_mono HO224.out (fun _ hk => ⟨hk.1.2.2.1, ⟨hk.2, ⟨hk.1.2.2.2, ⟨hk.1.1, hk.1.2.1⟩⟩⟩⟩)), (by (with_reducible repeat (first | apply Kd.R_alloc | apply Kd.R_drewN | apply Kd.R_drew)); exact Kd.R_mono HO230.out (fun _ hk => ⟨hk.1.2.2.1, ⟨hk.2, ⟨hk.1.2.2.2, ⟨hk.1.1, hk.1.2.1⟩⟩⟩⟩)), (by (with_reducible repeat (first | apply Kd.R_alloc | apply Kd.R_drewN | apply Kd.R_drew)); exact Kd.R_mono HO_8.out (fun _ hk => ⟨hk.1.2.1, ⟨hk.2, ⟨hk.1.2.2.1, ⟨hk.1.2.2.2, hk.1.1⟩⟩⟩⟩)), (by (with_reducible repeat (first | apply Kd.R_alloc | apply Kd.R_drewN | apply Kd.R_drew)); exact Kd.R_mono HO_9.out (fun _ hk => ⟨hk.1.2.1, ⟨hk.2, ⟨hk.1.2.2.1, ⟨hk.1.2.2.2, hk.1.1⟩⟩⟩⟩)), (by repeat (first | (with_reducible first | exact HB.out | apply below_alloc | apply pw_below_drewN | apply below_drew1) | exact HB.out))⟩)
                         ·skip
                          rintro ⟨v217, v220, v229⟩ w42 ⟨h0_, h1_, h2_, h3_, h4_, h5_, h6_⟩
                          have n0_ : Aside0 (Kd.R (Kd.int .u8) 5 w42 w.heap.size (fun _ => True) v214 y213) := ⟨h0_⟩
                          have n1_ : Aside0 (Kd.R Kd.string 9 w42 w.heap.size (fun k_ => some k_ ≠ (v220 : Value).ownBlock ∧ some k_ ≠ (v229 : Value).ownBlock ∧ some k_ ≠ (.slice Ao33 x8_3.length co33 : Value).ownBlock ∧ some k_ ≠ (.slice Ao34 x9_3.length co34 : Value).ownBlock) v217 y216) := ⟨h1_⟩
                          have n2_ : Aside0 (Kd.R Kd.string 9 w42 w.heap.size (fun k_ => some k_ ≠ (v217 : Value).ownBlock ∧ some k_ ≠ (v229 : Value).ownBlock ∧ some k_ ≠ (.slice Ao33 x8_3.length co33 : Value).ownBlock ∧ some k_ ≠ (.slice Ao34 x9_3.length co34 : Value).ownBlock) v220 y219) := ⟨h2_⟩
                          have n3_ : Aside0 (Kd.R Kd.string 9 w42 w.heap.size (fun k_ => some k_ ≠ (v217 : Value).ownBlock ∧ some k_ ≠ (v220 : Value).ownBlock ∧ some k_ ≠ (.slice Ao33 x8_3.length co33 : Value).ownBlock ∧ some k_ ≠ (.slice Ao34 x9_3.length co34 : Value).ownBlock) v229 y228) := ⟨h3_⟩
                          have n4_ : Aside0 (Kd.R Kd.string 9 w42 w.heap.size (fun k_ => some k_ ≠ (v217 : Value).ownBlock ∧ some k_ ≠ (v220 : Value).ownBlock ∧ some k_ ≠ (v229 : Value).ownBlock ∧ some k_ ≠ (.slice Ao34 x9_3.length co34 : Value).ownBlock) (.slice Ao33 x8_3.length co33) x8_3) := ⟨h4_⟩
                          have n5_ : Aside0 (Kd.R Kd.string 9 w42 w.heap.size (fun k_ => some k_ ≠ (v217 : Value).ownBlock ∧ some k_ ≠ (v220 : Value).ownBlock ∧ some k_ ≠ (v229 : Value).ownBlock ∧ some k_ ≠ (.slice Ao33 x8_3.length co33 : Value).ownBlock) (.slice Ao34 x9_3.length co34) x9_3) := ⟨h5_⟩
                          have n6_ : Aside0 (Below w.heap.size w w42) := ⟨h6_⟩
                          (try clear HO_7)
                          (try clear HO_8)
                          (try clear HO_9)
                          clear HO215
                          clear HB
                          clear h0_ h1_ h2_ h3_ h4_ h5_ h6_
                          have HO215 := n0_
                          have HO218 := n1_
                          have HO221 := n2_
                          have HO230 := n3_
                          have HO_8 := n4_
                          have HO_9 := n5_
                          have HB := n6_
                          clear n0_ n1_ n2_ n3_ n4_ n5_ n6_
                          have hHeld := trivial
                          refine norm_ (a' := ?_) ?_ ?_
                          rotate_left
                          ·simp only [putAll, Act.put, List.setIfInBounds_toArray, List.set_cons_zero, List.set_cons_succ]
                           rfl
                          refine one_ (i := 8) (N := some 72) #[true, true, true, true, true, true, true, true, true, false, true, true, true, true, true, false, false, false, false] rfl rfl (one_of HT_.out (by kernel_rfl)) (by decide) (fun K hK => ?_)
                          refine Kd.R_lit_step Kd.string _ 9 ?hg (N := 72) ?hd (xs := ([((rdOf ByteArray.empty l0 x10_3) ++ (strOfNums y213)).extract 0 ((ji21) : Int).toNat] : List ByteArray)) (inner := [.string (((rdOf ByteArray.empty l0 x10_3) ++ (strOfNums y213)).extract 0 ((ji21) : Int).toNat)]) (ok := fun _ => True) (okp := fun _ => True) ?hr ?hp (fun _ hk => hk) trivial (Below.refl _ _) (Nat.le_refl _) (by simp) ?_; (case hd => rfl); (case hg => rfl); (case hr => first | (go_simp; done) | (go_simp; rfl)); (case hp => exact (Reps.one (show Kd.M Kd.string _ _ _ (((rdOf ByteArray.empty l0 x10_3) ++ (strOfNums y213)).extract 0 ((ji21) : Int).toNat) [.string (((rdOf ByteArray.empty l0 x10_3) ++ (strOfNums y213)).extract 0 ((ji21) : Int).toNat)] from rfl) (Reps.none _ _)))
                          intro v223 w43 ho44 hb hg_ hnew_
                          clear hg_ hnew_
                          (first | rw [← Ny222.out] at ho44 | (simp only [Int.reduceToNat] at ho44; rw [← Ny222.out] at ho44))
                          have n0_ := Aside0.mk (Kd.R_elder' (by (with_reducible repeat (first | apply Kd.R_alloc | apply Kd.R_drewN | apply Kd.R_drew)); exact HO_8.out) (Kd.R_base ho44) hb)
                          have n1_ := Aside0.mk (Kd.R_elder' (by (with_reducible repeat (first | apply Kd.R_alloc | apply Kd.R_drewN | apply Kd.R_drew)); exact HO_9.out) (Kd.R_base ho44) hb)
                          have n2_ := Aside0.mk (Kd.R_below (by (with_reducible repeat (first | apply Kd.R_alloc | apply Kd.R_drewN | apply Kd.R_drew)); exact HO215.out) hb)
                          have n3_ := Aside0.mk (Kd.R_elder' (by (with_reducible repeat (first | apply Kd.R_alloc | apply Kd.R_drewN | apply Kd.R_drew)); exact HO218.out) (Kd.R_base ho44) hb)
                          have n4_ := Aside0.mk (Kd.R_elder' (by (with_reducible repeat (first | apply Kd.R_alloc | apply Kd.R_drewN | apply Kd.R_drew)); exact HO221.out) (Kd.R_base ho44) hb)
                          have n5_ := Aside0.mk (Kd.R_elder' (by (with_reducible repeat (first | apply Kd.R_alloc | apply Kd.R_drewN | apply Kd.R_drew)); exact HO230.out) (Kd.R_base ho44) hb)
                          have n6_ := Aside0.mk (Kd.R_lower (Kd.R_new' (Kd.R_new' (Kd.R_new' (Kd.R_new' (Kd.R_new' ho44 (Kd.R_lt (by (with_reducible repeat (first | apply Kd.R_alloc | apply Kd.R_drewN | apply Kd.R_drew)); exact HO_8.out))) (Kd.R_lt (by (with_reducible repeat (first | apply Kd.R_alloc | apply Kd.R_drewN | apply Kd.R_drew)); exact HO_9.out))) (Kd.R_lt (by (with_reducible repeat (first | apply Kd.R_alloc | apply Kd.R_drewN | apply Kd.R_drew)); exact HO218.out))) (Kd.R_lt (by (with_reducible repeat (first | apply Kd.R_alloc | apply Kd.R_drewN | apply Kd.R_drew)); exact HO221.out))) (Kd.R_lt (by (with_reducible repeat (first | apply Kd.R_alloc | apply Kd.R_drewN | apply Kd.R_drew)); exact HO230.out))) (below_size (by repeat (first | (with_reducible first | exact HB.out | apply below_alloc | apply pw_below_drewN | apply below_drew1) | exact HB.out))))
                          have n7_ := Aside0.mk (below_step (by repeat (first | (with_reducible first | exact HB.out | apply below_alloc | apply pw_below_drewN | apply below_drew1) | exact HB.out)) hb)
                          (try clear HO_8)
                          (try clear HO_9)
                          clear HO215
                          clear HO218
                          clear HO221
                          clear HO230
                          clear HB
                          have HO_8 := n0_
                          have HO_9 := n1_
                          have HO215 := n2_
                          have HO218 := n3_
                          have HO221 := n4_
                          have HO230 := n5_
                          have HO224 := n6_
                          have HB := n7_
                          clear n0_ n1_ n2_ n3_ n4_ n5_ n6_ n7_
                          clear hb ho44
                          refine hK.out _ _ trivial (fun hHeld => ?_)
                          clear hK K
                          refine norm_ (a' := ?_) ?_ ?_
                          rotate_left
                          ·show Act.put _ (some 72) _ = _
                           simp only [Act.put, List.setIfInBounds_toArray, List.set_cons_zero, List.set_cons_succ, i64_w, i32_w]
                           rfl
                          exact norm_ (by first | (simp only [putAll, Act.put, List.setIfInBounds_toArray, List.set_cons_zero, List.set_cons_succ]; done) | (simp only [putAll, Act.put, List.setIfInBounds_toArray, List.set_cons_zero, List.set_cons_succ]; rfl)) (hJ2_3_8_14 (v217, v220, v223, v229) _ ⟨(by (with_reducible repeat (first | apply Kd.R_alloc | apply Kd.R_drewN | apply Kd.R_drew)); exact HO215.out), (by (with_reducible repeat (first | apply Kd.R_alloc | apply Kd.R_drewN | apply Kd.R_drew)); exact Kd.R_mono HO218.out (fun _ hk => ⟨hk.1.1, ⟨hk.2, ⟨hk.1.2.1, ⟨hk.1.2.2.1, hk.1.2.2.2⟩⟩⟩⟩)), (by (with_reducible repeat (first | apply Kd.R_alloc | apply Kd.R_drewN | apply Kd.R_drew)); exact Kd.R_mono HO221.out (fun _ hk => ⟨hk.1.1, ⟨hk.2, ⟨hk.1.2.1, ⟨hk.1.2.2.1, hk.1.2.2.2⟩⟩⟩⟩)), (by (with_reducible repeat (first | apply Kd.R_alloc | apply Kd.R_drewN | apply Kd.R_drew)); exact Kd.R_mono HO224.out (fun _ hk => ⟨hk.1.1.2, ⟨hk.1.2, ⟨hk.2, ⟨hk.1.1.1.1.2, hk.1.1.1.2⟩⟩⟩⟩)), (by (with_reducible repeat (first | apply Kd.R_alloc | apply Kd.R_drewN | apply Kd.R_drew)); exact Kd.R_mono HO230.out (fun _ hk => ⟨hk.1.1, ⟨hk.1.2.1, ⟨hk.2, ⟨hk.1.2.2.1, hk.1.2.2.2⟩⟩⟩⟩)), (by (with_reducible repeat (first | apply Kd.R_alloc | apply Kd.R_drewN | apply Kd.R_drew)); exact Kd.R_mono HO_8.out (fun _ hk => ⟨hk.1.1, ⟨hk.1.2.1, ⟨hk.2, ⟨hk.1.2.2.1, hk.1.2.2.2⟩⟩⟩⟩)), (by (with_reducible repeat (first | apply Kd.R_alloc | apply Kd.R_drewN | apply Kd.R_drew)); exact Kd.R_mono HO_9.out (fun _ hk => ⟨hk.1.1, ⟨hk.1.2.1, ⟨hk.2, ⟨hk.1.2.2.1, hk.1.2.2.2⟩⟩⟩⟩)), (by repeat (first | (with_reducible first | exact HB.out | apply below_alloc | apply pw_below_drewN | apply below_drew1) | exact HB.out))⟩)
                        ·skip
                         rintro ⟨v217, v220, v223⟩ w42 ⟨h0_, h1_, h2_, h3_, h4_, h5_, h6_⟩
                         have n0_ : Aside0 (Kd.R (Kd.int .u8) 5 w42 w.heap.size (fun _ => True) v214 y213) := ⟨h0_⟩
                         have n1_ : Aside0 (Kd.R Kd.string 9 w42 w.heap.size (fun k_ => some k_ ≠ (v220 : Value).ownBlock ∧ some k_ ≠ (v223 : Value).ownBlock ∧ some k_ ≠ (.slice Ao33 x8_3.length co33 : Value).ownBlock ∧ some k_ ≠ (.slice Ao34 x9_3.length co34 : Value).ownBlock) v217 y216) := ⟨h1_⟩
                         have n2_ : Aside0 (Kd.R Kd.string 9 w42 w.heap.size (fun k_ => some k_ ≠ (v217 : Value).ownBlock ∧ some k_ ≠ (v223 : Value).ownBlock ∧ some k_ ≠ (.slice Ao33 x8_3.length co33 : Value).ownBlock ∧ some k_ ≠ (.slice Ao34 x9_3.length co34 : Value).ownBlock) v220 y219) := ⟨h2_⟩
                         have n3_ : Aside0 (Kd.R Kd.string 9 w42 w.heap.size (fun k_ => some k_ ≠ (v217 : Value).ownBlock ∧ some k_ ≠ (v220 : Value).ownBlock ∧ some k_ ≠ (.slice Ao33 x8_3.length co33 : Value).ownBlock ∧ some k_ ≠ (.slice Ao34 x9_3.length co34 : Value).ownBlock) v223 y222) := ⟨h3_⟩
                         have n4_ : Aside0 (Kd.R Kd.string 9 w42 w.heap.size (fun k_ => some k_ ≠ (v217 : Value).ownBlock ∧ some k_ ≠ (v220 : Value).ownBlock ∧ some k_ ≠ (v223 : Value).ownBlock ∧ some k_ ≠ (.slice Ao34 x9_3.length co34 : Value).ownBlock) (.slice Ao33 x8_3.length co33) x8_3) := ⟨h4_⟩
                         have n5_ : Aside0 (Kd.R Kd.string 9 w42 w.heap.size (fun k_ => some k_ ≠ (v217 : Value).ownBlock ∧ some k_ ≠ (v220 : Value).ownBlock ∧ some k_ ≠ (v223 : Value).ownBlock ∧ some k_ ≠ (.slice Ao33 x8_3.length co33 : Value).ownBlock) (.slice Ao34 x9_3.length co34) x9_3) := ⟨h5_⟩
                         have n6_ : Aside0 (Below w.heap.size w w42) := ⟨h6_⟩
                         (try clear HO_7)
                         (try clear HO_8)
                         (try clear HO_9)
                         clear HO215
                         clear HB
                         clear h0_ h1_ h2_ h3_ h4_ h5_ h6_
                         have HO215 := n0_
                         have HO218 := n1_
                         have HO221 := n2_
                         have HO224 := n3_
                         have HO_8 := n4_
                         have HO_9 := n5_
                         have HB := n6_
                         clear n0_ n1_ n2_ n3_ n4_ n5_ n6_
                         have hHeld := trivial
                         obtain ⟨Ao44, co44, eo44⟩ := Kd.R_slice HO224.out
                         (first | subst eo44 | (injection eo44 with f1_ f2_ f3_; have f4_ := f1_.symm; have f5_ := f3_.symm; clear f1_ f2_ f3_; subst f4_; subst f5_))
                         refine norm_ (a' := ?_) ?_ ?_
                         rotate_left
                         ·simp only [putAll, Act.put, List.setIfInBounds_toArray, List.set_cons_zero, List.set_cons_succ]
                          rfl
                         refine two_ (i := 9) (j := 14) (Ni := some 73) (Nj := some 78) #[true, true, true, true, true, true, true, true, true, true, true, true, true, true, false, false, false, false, false] #[true, true, true, true, true, true, true, true, true, false, true, true, true, true, true, false, false, false, false] rfl rfl rfl rfl (two_of HT_.out (by kernel_rfl)) (by decide) (by decide) (fun K hK => ?_) (fun K hK => ?_)
                         ·skip
                          refine Kd.R_append_rows_step Kd.string (w0 := w) w.heap.size (by rfl) (.tmp 68) (.tmp 72) 22 9 (.string ⟨#[]⟩) 16 rfl Tryd.underlying22 info9 rfl (by decide) (by omega) (.slice Ao33 x8_3.length co33) x8_3 y222 _ _ _ (fun k_ => some k_ ≠ (.slice Ao34 x9_3.length co34 : Value).ownBlock ∧ some k_ ≠ (v217 : Value).ownBlock ∧ some k_ ≠ (v220 : Value).ownBlock ∧ some k_ ≠ (.slice Ao44 y222.length co44 : Value).ownBlock) (fun _ => False) rfl rfl ?aO ?aR (fun _ _ h => h) (fun _ h => h.elim) ?aF ?aB ?aS ?aL ?_
                          (case aR => repeat (first | exact (Kd.R_reads' HO224.out).2.2 | (with_reducible refine Kd.C_alloc ?_ _) | (with_reducible refine Kd.C_drewN ?_ _) | (with_reducible refine Kd.C_drew ?_)))
                          (case aB => exact (by repeat (first | (with_reducible first | exact HB.out | apply below_alloc | apply pw_below_drewN | apply below_drew1) | exact HB.out)))
                          (case aF => exact (fun k_ hk => ⟨Kd.fresh' (Kd.R_lt (by (with_reducible repeat (first | apply Kd.R_alloc | apply Kd.R_drewN | apply Kd.R_drew)); exact HO_9.out)) k_ hk, Kd.fresh' (Kd.R_lt (by (with_reducible repeat (first | apply Kd.R_alloc | apply Kd.R_drewN | apply Kd.R_drew)); exact HO218.out)) k_ hk, Kd.fresh' (Kd.R_lt (by (with_reducible repeat (first | apply Kd.R_alloc | apply Kd.R_drewN | apply Kd.R_drew)); exact HO221.out)) k_ hk, Kd.fresh' (Kd.R_lt (by (with_reducible repeat (first | apply Kd.R_alloc | apply Kd.R_drewN | apply Kd.R_drew)); exact HO224.out)) k_ hk⟩))
                          (case aO => exact (by (with_reducible repeat (first | apply Kd.R_alloc | apply Kd.R_drewN | apply Kd.R_drew)); exact Kd.R_mono HO_8.out (fun _ hk => ⟨hk.2.2.2, ⟨hk.1, ⟨hk.2.1, hk.2.2.1⟩⟩⟩)))
                          (case aS => exact (below_size (by repeat (first | (with_reducible first | exact HB.out | apply below_alloc | apply pw_below_drewN | apply below_drew1) | exact HB.out))))
                          (case aL => have := LMc24.out; omega)
                          intro v226 w43 ho hb hg hat
                          rw [← Ny225.out] at ho
                          have n0_ := Aside0.mk (Kd.R_after (ok := (fun k_ => some k_ ≠ (v217 : Value).ownBlock ∧ some k_ ≠ (v220 : Value).ownBlock ∧ some k_ ≠ (.slice Ao44 y222.length co44 : Value).ownBlock)) (by (with_reducible repeat (first | apply Kd.R_alloc | apply Kd.R_drewN | apply Kd.R_drew)); exact Kd.R_mono HO_9.out (fun _ hk => ⟨⟨hk.1, ⟨hk.2.1, hk.2.2.1⟩⟩, hk.2.2.2⟩)) hg hat)
                          have n1_ := Aside0.mk (Kd.R_over' (by (with_reducible repeat (first | apply Kd.R_alloc | apply Kd.R_drewN | apply Kd.R_drew)); exact HO215.out) (Kd.R_typed (by (with_reducible repeat (first | apply Kd.R_alloc | apply Kd.R_drewN | apply Kd.R_drew)); exact HO_8.out)) (by decide) hg)
                          have n2_ := Aside0.mk (Kd.R_after (ok := (fun k_ => some k_ ≠ (.slice Ao34 x9_3.length co34 : Value).ownBlock ∧ some k_ ≠ (v220 : Value).ownBlock ∧ some k_ ≠ (.slice Ao44 y222.length co44 : Value).ownBlock)) (by (with_reducible repeat (first | apply Kd.R_alloc | apply Kd.R_drewN | apply Kd.R_drew)); exact Kd.R_mono HO218.out (fun _ hk => ⟨⟨hk.2.2.2, ⟨hk.1, hk.2.1⟩⟩, hk.2.2.1⟩)) hg hat)
                          have n3_ := Aside0.mk (Kd.R_after (ok := (fun k_ => some k_ ≠ (.slice Ao34 x9_3.length co34 : Value).ownBlock ∧ some k_ ≠ (v217 : Value).ownBlock ∧ some k_ ≠ (.slice Ao44 y222.length co44 : Value).ownBlock)) (by (with_reducible repeat (first | apply Kd.R_alloc | apply Kd.R_drewN | apply Kd.R_drew)); exact Kd.R_mono HO221.out (fun _ hk => ⟨⟨hk.2.2.2, ⟨hk.1, hk.2.1⟩⟩, hk.2.2.1⟩)) hg hat)
                          have n4_ := Aside0.mk (Kd.R_after (ok := (fun k_ => some k_ ≠ (.slice Ao34 x9_3.length co34 : Value).ownBlock ∧ some k_ ≠ (v217 : Value).ownBlock ∧ some k_ ≠ (v220 : Value).ownBlock)) (by (with_reducible repeat (first | apply Kd.R_alloc | apply Kd.R_drewN | apply Kd.R_drew)); exact Kd.R_mono HO224.out (fun _ hk => ⟨⟨hk.2.2.2, ⟨hk.1, hk.2.1⟩⟩, hk.2.2.1⟩)) hg hat)
                          have n5_ := Aside0.mk (hb)
                          have n6_ := Aside0.mk (ho)
                          (try clear HO_9)
                          clear HO215
                          clear HO218
                          clear HO221
                          clear HO224
                          clear HB
                          (try clear HO_8)
                          have HO_9 := n0_
                          have HO215 := n1_
                          have HO218 := n2_
                          have HO221 := n3_
                          have HO224 := n4_
                          have HB := n5_
                          have HO227 := n6_
                          clear n0_ n1_ n2_ n3_ n4_ n5_ n6_
                          clear ho hb hg hat
                          refine hK.out _ _ trivial (fun hHeld => ?_)
                          clear hK K
                          refine norm_ (a' := ?_) ?_ ?_
                          rotate_left
                          ·show Act.put _ (some 73) _ = _
                           simp only [Act.put, List.setIfInBounds_toArray, List.set_cons_zero, List.set_cons_succ, i64_w, i32_w]
                           rfl
                          exact norm_ (by first | (simp only [putAll, Act.put, List.setIfInBounds_toArray, List.set_cons_zero, List.set_cons_succ]; done) | (simp only [putAll, Act.put, List.setIfInBounds_toArray, List.set_cons_zero, List.set_cons_succ]; rfl)) (hJ2_3_8_9 (v217, v220, .slice Ao44 y222.length co44, v226) _ ⟨(by (with_reducible repeat (first | apply Kd.R_alloc | apply Kd.R_drewN | apply Kd.R_drew)); exact HO215.out), (by (with_reducible repeat (first | apply Kd.R_alloc | apply Kd.R_drewN | apply Kd.R_drew)); exact Kd.R_mono HO218.out (fun _ hk => ⟨hk.1.2.1, ⟨hk.1.2.2, ⟨hk.2, hk.1.1⟩⟩⟩)), (by (with_reducible repeat (first | apply Kd.R_alloc | apply Kd.R_drewN | apply Kd.R_drew)); exact Kd.R_mono HO221.out (fun _ hk => ⟨hk.1.2.1, ⟨hk.1.2.2, ⟨hk.2, hk.1.1⟩⟩⟩)), (by (with_reducible repeat (first | apply Kd.R_alloc | apply Kd.R_drewN | apply Kd.R_drew)); exact Kd.R_mono HO224.out (fun _ hk => ⟨hk.1.2.1, ⟨hk.1.2.2, ⟨hk.2, hk.1.1⟩⟩⟩)), (by (with_reducible repeat (first | apply Kd.R_alloc | apply Kd.R_drewN | apply Kd.R_drew)); exact Kd.R_mono HO227.out (fun _ hk => ⟨hk.2.1, ⟨hk.2.2.1, ⟨hk.2.2.2, hk.1⟩⟩⟩)), (by (with_reducible repeat (first | apply Kd.R_alloc | apply Kd.R_drewN | apply Kd.R_drew)); exact Kd.R_mono HO_9.out (fun _ hk => ⟨hk.1.1, ⟨hk.1.2.1, ⟨hk.1.2.2, hk.2⟩⟩⟩)), (by repeat (first | (with_reducible first | exact HB.out | apply below_alloc | apply pw_below_drewN | apply below_drew1) | exact HB.out))⟩)
                         ·skip
                          refine Kd.R_lit_step Kd.string _ 9 ?hg (N := 78) ?hd (xs := ([((rdOf ByteArray.empty l0 x10_3) ++ (strOfNums y213)).extract ((ji21) : Int).toNat ((rdOf ByteArray.empty l0 x10_3) ++ (strOfNums y213)).size] : List ByteArray)) (inner := [.string (((rdOf ByteArray.empty l0 x10_3) ++ (strOfNums y213)).extract ((ji21) : Int).toNat ((rdOf ByteArray.empty l0 x10_3) ++ (strOfNums y213)).size)]) (ok := fun _ => True) (okp := fun _ => True) ?hr ?hp (fun _ hk => hk) trivial (Below.refl _ _) (Nat.le_refl _) (by simp) ?_; (case hd => rfl); (case hg => rfl); (case hr => first | (go_simp; done) | (go_simp; rfl)); (case hp => exact (Reps.one (show Kd.M Kd.string _ _ _ (((rdOf ByteArray.empty l0 x10_3) ++ (strOfNums y213)).extract ((ji21) : Int).toNat ((rdOf ByteArray.empty l0 x10_3) ++ (strOfNums y213)).size) [.string (((rdOf ByteArray.empty l0 x10_3) ++ (strOfNums y213)).extract ((ji21) : Int).toNat ((rdOf ByteArray.empty l0 x10_3) ++ (strOfNums y213)).size)] from rfl) (Reps.none _ _)))
                          intro v229 w43 ho44 hb hg_ hnew_
                          clear hg_ hnew_
                          (first | rw [← Ny228.out] at ho44 | (simp only [Int.reduceToNat] at ho44; rw [← Ny228.out] at ho44))
                          have n0_ := Aside0.mk (Kd.R_elder' (by (with_reducible repeat (first | apply Kd.R_alloc | apply Kd.R_drewN | apply Kd.R_drew)); exact HO_8.out) (Kd.R_base ho44) hb)
                          have n1_ := Aside0.mk (Kd.R_elder' (by (with_reducible repeat (first | apply Kd.R_alloc | apply Kd.R_drewN | apply Kd.R_drew)); exact HO_9.out) (Kd.R_base ho44) hb)
                          have n2_ := Aside0.mk (Kd.R_below (by (with_reducible repeat (first | apply Kd.R_alloc | apply Kd.R_drewN | apply Kd.R_drew)); exact HO215.out) hb)
                          have n3_ := Aside0.mk (Kd.R_elder' (by (with_reducible repeat (first | apply Kd.R_alloc | apply Kd.R_drewN | apply Kd.R_drew)); exact HO218.out) (Kd.R_base ho44) hb)
                          have n4_ := Aside0.mk (Kd.R_elder' (by (with_reducible repeat (first | apply Kd.R_alloc | apply Kd.R_drewN | apply Kd.R_drew)); exact HO221.out) (Kd.R_base ho44) hb)
                          have n5_ := Aside0.mk (Kd.R_elder' (by (with_reducible repeat (first | apply Kd.R_alloc | apply Kd.R_drewN | apply Kd.R_drew)); exact HO224.out) (Kd.R_base ho44) hb)
                          have n6_ := Aside0.mk (Kd.R_lower (Kd.R_new' (Kd.R_new' (Kd.R_new' (Kd.R_new' (Kd.R_new' ho44 (Kd.R_lt (by (with_reducible repeat (first | apply Kd.R_alloc | apply Kd.R_drewN | apply Kd.R_drew)); exact HO_8.out))) (Kd.R_lt (by (with_reducible repeat (first | apply Kd.R_alloc | apply Kd.R_drewN | apply Kd.R_drew)); exact HO_9.out))) (Kd.R_lt (by (with_reducible repeat (first | apply Kd.R_alloc | apply Kd.R_drewN | apply Kd.R_drew)); exact HO218.out))) (Kd.R_lt (by (with_reducible repeat (first | apply Kd.R_alloc | apply Kd.R_drewN | apply Kd.R_drew)); exact HO221.out))) (Kd.R_lt (by (with_reducible repeat (first | apply Kd.R_alloc | apply Kd.R_drewN | apply Kd.R_drew)); exact HO224.out))) (below_size (by repeat (first | (with_reducible first | exact HB.out | apply below_alloc | apply pw_below_drewN | apply below_drew1) | exact HB.out))))
                          have n7_ := Aside0.mk (below_step (by repeat (first | (with_reducible first | exact HB.out | apply below_alloc | apply pw_below_drewN | apply below_drew1) | exact HB.out)) hb)
                          (try clear HO_8)
                          (try clear HO_9)
                          clear HO215
                          clear HO218
                          clear HO221
                          clear HO224
                          clear HB
                          have HO_8 := n0_
                          have HO_9 := n1_
                          have HO215 := n2_
                          have HO218 := n3_
                          have HO221 := n4_
                          have HO224 := n5_
                          have HO230 := n6_
                          have HB := n7_
                          clear n0_ n1_ n2_ n3_ n4_ n5_ n6_ n7_
                          clear hb ho44
                          refine hK.out _ _ trivial (fun hHeld => ?_)
                          clear hK K
                          refine norm_ (a' := ?_) ?_ ?_
                          rotate_left
                          ·show Act.put _ (some 78) _ = _
                           simp only [Act.put, List.setIfInBounds_toArray, List.set_cons_zero, List.set_cons_succ, i64_w, i32_w]
                           rfl
                          exact norm_ (by first | (simp only [putAll, Act.put, List.setIfInBounds_toArray, List.set_cons_zero, List.set_cons_succ]; done) | (simp only [putAll, Act.put, List.setIfInBounds_toArray, List.set_cons_zero, List.set_cons_succ]; rfl)) (hJ2_3_8_14 (v217, v220, (.slice Ao44 y222.length co44 : Value), v229) _ ⟨(by (with_reducible repeat (first | apply Kd.R_alloc | apply Kd.R_drewN | apply Kd.R_drew)); exact HO215.out), (by (with_reducible repeat (first | apply Kd.R_alloc | apply Kd.R_drewN | apply Kd.R_drew)); exact Kd.R_mono HO218.out (fun _ hk => ⟨hk.1.1, ⟨hk.1.2.1, ⟨hk.2, ⟨hk.1.2.2.1, hk.1.2.2.2⟩⟩⟩⟩)), (by (with_reducible repeat (first | apply Kd.R_alloc | apply Kd.R_drewN | apply Kd.R_drew)); exact Kd.R_mono HO221.out (fun _ hk => ⟨hk.1.1, ⟨hk.1.2.1, ⟨hk.2, ⟨hk.1.2.2.1, hk.1.2.2.2⟩⟩⟩⟩)), (by (with_reducible repeat (first | apply Kd.R_alloc | apply Kd.R_drewN | apply Kd.R_drew)); exact Kd.R_mono HO224.out (fun _ hk => ⟨hk.1.1, ⟨hk.1.2.1, ⟨hk.2, ⟨hk.1.2.2.1, hk.1.2.2.2⟩⟩⟩⟩)), (by (with_reducible repeat (first | apply Kd.R_alloc | apply Kd.R_drewN | apply Kd.R_drew)); exact Kd.R_mono HO230.out (fun _ hk => ⟨hk.1.1.2, ⟨hk.1.2, ⟨hk.2, ⟨hk.1.1.1.1.2, hk.1.1.1.2⟩⟩⟩⟩)), (by (with_reducible repeat (first | apply Kd.R_alloc | apply Kd.R_drewN | apply Kd.R_drew)); exact Kd.R_mono HO_8.out (fun _ hk => ⟨hk.1.1, ⟨hk.1.2.1, ⟨hk.1.2.2.1, ⟨hk.2, hk.1.2.2.2⟩⟩⟩⟩)), (by (with_reducible repeat (first | apply Kd.R_alloc | apply Kd.R_drewN | apply Kd.R_drew)); exact Kd.R_mono HO_9.out (fun _ hk => ⟨hk.1.1, ⟨hk.1.2.1, ⟨hk.1.2.2.1, ⟨hk.2, hk.1.2.2.2⟩⟩⟩⟩)), (by repeat (first | (with_reducible first | exact HB.out | apply below_alloc | apply pw_below_drewN | apply below_drew1) | exact HB.out))⟩)
                       ·skip
                        rintro ⟨v217, v220, v223, v229⟩ w44 ⟨h0_, h1_, h2_, h3_, h4_, h5_, h6_, h7_⟩
                        have n0_ : Aside0 (Kd.R (Kd.int .u8) 5 w44 w.heap.size (fun _ => True) v214 y213) := ⟨h0_⟩
                        have n1_ : Aside0 (Kd.R Kd.string 9 w44 w.heap.size (fun k_ => some k_ ≠ (v220 : Value).ownBlock ∧ some k_ ≠ (v223 : Value).ownBlock ∧ some k_ ≠ (v229 : Value).ownBlock ∧ some k_ ≠ (.slice Ao33 x8_3.length co33 : Value).ownBlock ∧ some k_ ≠ (.slice Ao34 x9_3.length co34 : Value).ownBlock) v217 y216) := ⟨h1_⟩
                        have n2_ : Aside0 (Kd.R Kd.string 9 w44 w.heap.size (fun k_ => some k_ ≠ (v217 : Value).ownBlock ∧ some k_ ≠ (v223 : Value).ownBlock ∧ some k_ ≠ (v229 : Value).ownBlock ∧ some k_ ≠ (.slice Ao33 x8_3.length co33 : Value).ownBlock ∧ some k_ ≠ (.slice Ao34 x9_3.length co34 : Value).ownBlock) v220 y219) := ⟨h2_⟩
                        have n3_ : Aside0 (Kd.R Kd.string 9 w44 w.heap.size (fun k_ => some k_ ≠ (v217 : Value).ownBlock ∧ some k_ ≠ (v220 : Value).ownBlock ∧ some k_ ≠ (v229 : Value).ownBlock ∧ some k_ ≠ (.slice Ao33 x8_3.length co33 : Value).ownBlock ∧ some k_ ≠ (.slice Ao34 x9_3.length co34 : Value).ownBlock) v223 y222) := ⟨h3_⟩
                        have n4_ : Aside0 (Kd.R Kd.string 9 w44 w.heap.size (fun k_ => some k_ ≠ (v217 : Value).ownBlock ∧ some k_ ≠ (v220 : Value).ownBlock ∧ some k_ ≠ (v223 : Value).ownBlock ∧ some k_ ≠ (.slice Ao33 x8_3.length co33 : Value).ownBlock ∧ some k_ ≠ (.slice Ao34 x9_3.length co34 : Value).ownBlock) v229 y228) := ⟨h4_⟩
                        have n5_ : Aside0 (Kd.R Kd.string 9 w44 w.heap.size (fun k_ => some k_ ≠ (v217 : Value).ownBlock ∧ some k_ ≠ (v220 : Value).ownBlock ∧ some k_ ≠ (v223 : Value).ownBlock ∧ some k_ ≠ (v229 : Value).ownBlock ∧ some k_ ≠ (.slice Ao34 x9_3.length co34 : Value).ownBlock) (.slice Ao33 x8_3.length co33) x8_3) := ⟨h5_⟩
                        have n6_ : Aside0 (Kd.R Kd.string 9 w44 w.heap.size (fun k_ => some k_ ≠ (v217 : Value).ownBlock ∧ some k_ ≠ (v220 : Value).ownBlock ∧ some k_ ≠ (v223 : Value).ownBlock ∧ some k_ ≠ (v229 : Value).ownBlock ∧ some k_ ≠ (.slice Ao33 x8_3.length co33 : Value).ownBlock) (.slice Ao34 x9_3.length co34) x9_3) := ⟨h6_⟩
                        have n7_ : Aside0 (Below w.heap.size w w44) := ⟨h7_⟩
                        (try clear HO_7)
                        (try clear HO_8)
                        (try clear HO_9)
                        clear HO215
                        clear HB
                        clear h0_ h1_ h2_ h3_ h4_ h5_ h6_ h7_
                        have HO215 := n0_
                        have HO218 := n1_
                        have HO221 := n2_
                        have HO224 := n3_
                        have HO230 := n4_
                        have HO_8 := n5_
                        have HO_9 := n6_
                        have HB := n7_
                        clear n0_ n1_ n2_ n3_ n4_ n5_ n6_ n7_
                        have hHeld := trivial
                        obtain ⟨Ao46, co46, eo46⟩ := Kd.R_slice HO224.out
                        (first | subst eo46 | (injection eo46 with f1_ f2_ f3_; have f4_ := f1_.symm; have f5_ := f3_.symm; clear f1_ f2_ f3_; subst f4_; subst f5_))
                        refine norm_ (a' := ?_) ?_ ?_
                        rotate_left
                        ·simp only [putAll, Act.put, List.setIfInBounds_toArray, List.set_cons_zero, List.set_cons_succ]
                         rfl
                        refine one_ (i := 9) (N := some 73) #[true, true, true, true, true, true, true, true, true, true, true, true, true, true, true, false, false, false, false] rfl rfl (one_of HT_.out (by kernel_rfl)) (by decide) (fun K hK => ?_)
                        refine Kd.R_append_rows_step Kd.string (w0 := w) w.heap.size (by rfl) (.tmp 68) (.tmp 72) 22 9 (.string ⟨#[]⟩) 16 rfl Tryd.underlying22 info9 rfl (by decide) (by omega) (.slice Ao33 x8_3.length co33) x8_3 y222 _ _ _ (fun k_ => some k_ ≠ (.slice Ao34 x9_3.length co34 : Value).ownBlock ∧ some k_ ≠ (v217 : Value).ownBlock ∧ some k_ ≠ (v220 : Value).ownBlock ∧ some k_ ≠ (.slice Ao46 y222.length co46 : Value).ownBlock ∧ some k_ ≠ (v229 : Value).ownBlock) (fun _ => False) rfl rfl ?aO ?aR (fun _ _ h => h) (fun _ h => h.elim) ?aF ?aB ?aS ?aL ?_
                        (case aR => repeat (first | exact (Kd.R_reads' HO224.out).2.2 | (with_reducible refine Kd.C_alloc ?_ _) | (with_reducible refine Kd.C_drewN ?_ _) | (with_reducible refine Kd.C_drew ?_)))
                        (case aB => exact (by repeat (first | (with_reducible first | exact HB.out | apply below_alloc | apply pw_below_drewN | apply below_drew1) | exact HB.out)))
                        (case aF => exact (fun k_ hk => ⟨Kd.fresh' (Kd.R_lt (by (with_reducible repeat (first | apply Kd.R_alloc | apply Kd.R_drewN | apply Kd.R_drew)); exact HO_9.out)) k_ hk, Kd.fresh' (Kd.R_lt (by (with_reducible repeat (first | apply Kd.R_alloc | apply Kd.R_drewN | apply Kd.R_drew)); exact HO218.out)) k_ hk, Kd.fresh' (Kd.R_lt (by (with_reducible repeat (first | apply Kd.R_alloc | apply Kd.R_drewN | apply Kd.R_drew)); exact HO221.out)) k_ hk, Kd.fresh' (Kd.R_lt (by (with_reducible repeat (first | apply Kd.R_alloc | apply Kd.R_drewN | apply Kd.R_drew)); exact HO224.out)) k_ hk, Kd.fresh' (Kd.R_lt (by (with_reducible repeat (first | apply Kd.R_alloc | apply Kd.R_drewN | apply Kd.R_drew)); exact HO230.out)) k_ hk⟩))
                        (case aO => exact (by (with_reducible repeat (first | apply Kd.R_alloc | apply Kd.R_drewN | apply Kd.R_drew)); exact Kd.R_mono HO_8.out (fun _ hk => ⟨hk.2.2.2.2, ⟨hk.1, ⟨hk.2.1, ⟨hk.2.2.1, hk.2.2.2.1⟩⟩⟩⟩)))
                        (case aS => exact (below_size (by repeat (first | (with_reducible first | exact HB.out | apply below_alloc | apply pw_below_drewN | apply below_drew1) | exact HB.out))))
                        (case aL => have := LMc24.out; omega)
                        intro v226 w45 ho hb hg hat
                        rw [← Ny225.out] at ho
                        have n0_ := Aside0.mk (Kd.R_after (ok := (fun k_ => some k_ ≠ (v217 : Value).ownBlock ∧ some k_ ≠ (v220 : Value).ownBlock ∧ some k_ ≠ (.slice Ao46 y222.length co46 : Value).ownBlock ∧ some k_ ≠ (v229 : Value).ownBlock)) (by (with_reducible repeat (first | apply Kd.R_alloc | apply Kd.R_drewN | apply Kd.R_drew)); exact Kd.R_mono HO_9.out (fun _ hk => ⟨⟨hk.1, ⟨hk.2.1, ⟨hk.2.2.1, hk.2.2.2.1⟩⟩⟩, hk.2.2.2.2⟩)) hg hat)
                        have n1_ := Aside0.mk (Kd.R_over' (by (with_reducible repeat (first | apply Kd.R_alloc | apply Kd.R_drewN | apply Kd.R_drew)); exact HO215.out) (Kd.R_typed (by (with_reducible repeat (first | apply Kd.R_alloc | apply Kd.R_drewN | apply Kd.R_drew)); exact HO_8.out)) (by decide) hg)
                        have n2_ := Aside0.mk (Kd.R_after (ok := (fun k_ => some k_ ≠ (.slice Ao34 x9_3.length co34 : Value).ownBlock ∧ some k_ ≠ (v220 : Value).ownBlock ∧ some k_ ≠ (.slice Ao46 y222.length co46 : Value).ownBlock ∧ some k_ ≠ (v229 : Value).ownBlock)) (by (with_reducible repeat (first | apply Kd.R_alloc | apply Kd.R_drewN | apply Kd.R_drew)); exact Kd.R_mono HO218.out (fun _ hk => ⟨⟨hk.2.2.2.2, ⟨hk.1, ⟨hk.2.1, hk.2.2.1⟩⟩⟩, hk.2.2.2.1⟩)) hg hat)
                        have n3_ := Aside0.mk (Kd.R_after (ok := (fun k_ => some k_ ≠ (.slice Ao34 x9_3.length co34 : Value).ownBlock ∧ some k_ ≠ (v217 : Value).ownBlock ∧ some k_ ≠ (.slice Ao46 y222.length co46 : Value).ownBlock ∧ some k_ ≠ (v229 : Value).ownBlock)) (by (with_reducible repeat (first | apply Kd.R_alloc | apply Kd.R_drewN | apply Kd.R_drew)); exact Kd.R_mono HO221.out (fun _ hk => ⟨⟨hk.2.2.2.2, ⟨hk.1, ⟨hk.2.1, hk.2.2.1⟩⟩⟩, hk.2.2.2.1⟩)) hg hat)
                        have n4_ := Aside0.mk (Kd.R_after (ok := (fun k_ => some k_ ≠ (.slice Ao34 x9_3.length co34 : Value).ownBlock ∧ some k_ ≠ (v217 : Value).ownBlock ∧ some k_ ≠ (v220 : Value).ownBlock ∧ some k_ ≠ (v229 : Value).ownBlock)) (by (with_reducible repeat (first | apply Kd.R_alloc | apply Kd.R_drewN | apply Kd.R_drew)); exact Kd.R_mono HO224.out (fun _ hk => ⟨⟨hk.2.2.2.2, ⟨hk.1, ⟨hk.2.1, hk.2.2.1⟩⟩⟩, hk.2.2.2.1⟩)) hg hat)
                        have n5_ := Aside0.mk (Kd.R_after (ok := (fun k_ => some k_ ≠ (.slice Ao34 x9_3.length co34 : Value).ownBlock ∧ some k_ ≠ (v217 : Value).ownBlock ∧ some k_ ≠ (v220 : Value).ownBlock ∧ some k_ ≠ (.slice Ao46 y222.length co46 : Value).ownBlock)) (by (with_reducible repeat (first | apply Kd.R_alloc | apply Kd.R_drewN | apply Kd.R_drew)); exact Kd.R_mono HO230.out (fun _ hk => ⟨⟨hk.2.2.2.2, ⟨hk.1, ⟨hk.2.1, hk.2.2.1⟩⟩⟩, hk.2.2.2.1⟩)) hg hat)
                        have n6_ := Aside0.mk (hb)
                        have n7_ := Aside0.mk (ho)
                        (try clear HO_9)
                        clear HO215
                        clear HO218
                        clear HO221
                        clear HO224
                        clear HO230
                        clear HB
                        (try clear HO_8)
                        have HO_9 := n0_
                        have HO215 := n1_
                        have HO218 := n2_
                        have HO221 := n3_
                        have HO224 := n4_
                        have HO230 := n5_
                        have HB := n6_
                        have HO227 := n7_
                        clear n0_ n1_ n2_ n3_ n4_ n5_ n6_ n7_
                        clear ho hb hg hat
                        refine hK.out _ _ trivial (fun hHeld => ?_)
                        clear hK K
                        refine norm_ (a' := ?_) ?_ ?_
                        rotate_left
                        ·show Act.put _ (some 73) _ = _
                         simp only [Act.put, List.setIfInBounds_toArray, List.set_cons_zero, List.set_cons_succ, i64_w, i32_w]
                         rfl
                        exact norm_ (by first | (simp only [putAll, Act.put, List.setIfInBounds_toArray, List.set_cons_zero, List.set_cons_succ]; done) | (simp only [putAll, Act.put, List.setIfInBounds_toArray, List.set_cons_zero, List.set_cons_succ]; rfl)) (hJ2_3_8_9_14 (v217, v220, .slice Ao46 y222.length co46, v226, v229) _ ⟨(by (with_reducible repeat (first | apply Kd.R_alloc | apply Kd.R_drewN | apply Kd.R_drew)); exact HO215.out), (by (with_reducible repeat (first | apply Kd.R_alloc | apply Kd.R_drewN | apply Kd.R_drew)); exact Kd.R_mono HO218.out (fun _ hk => ⟨hk.1.2.1, ⟨hk.1.2.2.1, ⟨hk.2, ⟨hk.1.2.2.2, hk.1.1⟩⟩⟩⟩)), (by (with_reducible repeat (first | apply Kd.R_alloc | apply Kd.R_drewN | apply Kd.R_drew)); exact Kd.R_mono HO221.out (fun _ hk => ⟨hk.1.2.1, ⟨hk.1.2.2.1, ⟨hk.2, ⟨hk.1.2.2.2, hk.1.1⟩⟩⟩⟩)), (by (with_reducible repeat (first | apply Kd.R_alloc | apply Kd.R_drewN | apply Kd.R_drew)); exact Kd.R_mono HO224.out (fun _ hk => ⟨hk.1.2.1, ⟨hk.1.2.2.1, ⟨hk.2, ⟨hk.1.2.2.2, hk.1.1⟩⟩⟩⟩)), (by (with_reducible repeat (first | apply Kd.R_alloc | apply Kd.R_drewN | apply Kd.R_drew)); exact Kd.R_mono HO227.out (fun _ hk => ⟨hk.2.1, ⟨hk.2.2.1, ⟨hk.2.2.2.1, ⟨hk.2.2.2.2, hk.1⟩⟩⟩⟩)), (by (with_reducible repeat (first | apply Kd.R_alloc | apply Kd.R_drewN | apply Kd.R_drew)); exact Kd.R_mono HO230.out (fun _ hk => ⟨hk.1.2.1, ⟨hk.1.2.2.1, ⟨hk.1.2.2.2, ⟨hk.2, hk.1.1⟩⟩⟩⟩)), (by (with_reducible repeat (first | apply Kd.R_alloc | apply Kd.R_drewN | apply Kd.R_drew)); exact Kd.R_mono HO_9.out (fun _ hk => ⟨hk.1.1, ⟨hk.1.2.1, ⟨hk.1.2.2.1, ⟨hk.2, hk.1.2.2.2⟩⟩⟩⟩)), (by repeat (first | (with_reducible first | exact HB.out | apply below_alloc | apply pw_below_drewN | apply below_drew1) | exact HB.out))⟩)
                      ·skip
                       rintro ⟨v217, v220, v223, v226⟩ w44 ⟨h0_, h1_, h2_, h3_, h4_, h5_, h6_⟩
                       have n0_ : Aside0 (Kd.R (Kd.int .u8) 5 w44 w.heap.size (fun _ => True) v214 y213) := ⟨h0_⟩
                       have n1_ : Aside0 (Kd.R Kd.string 9 w44 w.heap.size (fun k_ => some k_ ≠ (v220 : Value).ownBlock ∧ some k_ ≠ (v223 : Value).ownBlock ∧ some k_ ≠ (v226 : Value).ownBlock ∧ some k_ ≠ (.slice Ao34 x9_3.length co34 : Value).ownBlock) v217 y216) := ⟨h1_⟩
                       have n2_ : Aside0 (Kd.R Kd.string 9 w44 w.heap.size (fun k_ => some k_ ≠ (v217 : Value).ownBlock ∧ some k_ ≠ (v223 : Value).ownBlock ∧ some k_ ≠ (v226 : Value).ownBlock ∧ some k_ ≠ (.slice Ao34 x9_3.length co34 : Value).ownBlock) v220 y219) := ⟨h2_⟩
                       have n3_ : Aside0 (Kd.R Kd.string 9 w44 w.heap.size (fun k_ => some k_ ≠ (v217 : Value).ownBlock ∧ some k_ ≠ (v220 : Value).ownBlock ∧ some k_ ≠ (v226 : Value).ownBlock ∧ some k_ ≠ (.slice Ao34 x9_3.length co34 : Value).ownBlock) v223 y222) := ⟨h3_⟩
                       have n4_ : Aside0 (Kd.R Kd.string 9 w44 w.heap.size (fun k_ => some k_ ≠ (v217 : Value).ownBlock ∧ some k_ ≠ (v220 : Value).ownBlock ∧ some k_ ≠ (v223 : Value).ownBlock ∧ some k_ ≠ (.slice Ao34 x9_3.length co34 : Value).ownBlock) v226 y225) := ⟨h4_⟩
                       have n5_ : Aside0 (Kd.R Kd.string 9 w44 w.heap.size (fun k_ => some k_ ≠ (v217 : Value).ownBlock ∧ some k_ ≠ (v220 : Value).ownBlock ∧ some k_ ≠ (v223 : Value).ownBlock ∧ some k_ ≠ (v226 : Value).ownBlock) (.slice Ao34 x9_3.length co34) x9_3) := ⟨h5_⟩
                       have n6_ : Aside0 (Below w.heap.size w w44) := ⟨h6_⟩
                       (try clear HO_7)
                       (try clear HO_8)
                       (try clear HO_9)
                       clear HO215
                       clear HB
                       clear h0_ h1_ h2_ h3_ h4_ h5_ h6_
                       have HO215 := n0_
                       have HO218 := n1_
                       have HO221 := n2_
                       have HO224 := n3_
                       have HO227 := n4_
                       have HO_9 := n5_
                       have HB := n6_
                       clear n0_ n1_ n2_ n3_ n4_ n5_ n6_
                       have hHeld := trivial
                       refine norm_ (a' := ?_) ?_ ?_
                       rotate_left
                       ·simp only [putAll, Act.put, List.setIfInBounds_toArray, List.set_cons_zero, List.set_cons_succ]
                        rfl
                       refine one_ (i := 14) (N := some 78) #[true, true, true, true, true, true, true, true, true, true, true, true, true, true, true, false, false, false, false] rfl rfl (one_of HT_.out (by kernel_rfl)) (by decide) (fun K hK => ?_)
                       refine Kd.R_lit_step Kd.string _ 9 ?hg (N := 78) ?hd (xs := ([((rdOf ByteArray.empty l0 x10_3) ++ (strOfNums y213)).extract ((ji21) : Int).toNat ((rdOf ByteArray.empty l0 x10_3) ++ (strOfNums y213)).size] : List ByteArray)) (inner := [.string (((rdOf ByteArray.empty l0 x10_3) ++ (strOfNums y213)).extract ((ji21) : Int).toNat ((rdOf ByteArray.empty l0 x10_3) ++ (strOfNums y213)).size)]) (ok := fun _ => True) (okp := fun _ => True) ?hr ?hp (fun _ hk => hk) trivial (Below.refl _ _) (Nat.le_refl _) (by simp) ?_; (case hd => rfl); (case hg => rfl); (case hr => first | (go_simp; done) | (go_simp; rfl)); (case hp => exact (Reps.one (show Kd.M Kd.string _ _ _ (((rdOf ByteArray.empty l0 x10_3) ++ (strOfNums y213)).extract ((ji21) : Int).toNat ((rdOf ByteArray.empty l0 x10_3) ++ (strOfNums y213)).size) [.string (((rdOf ByteArray.empty l0 x10_3) ++ (strOfNums y213)).extract ((ji21) : Int).toNat ((rdOf ByteArray.empty l0 x10_3) ++ (strOfNums y213)).size)] from rfl) (Reps.none _ _)))
                       intro v229 w45 ho46 hb hg_ hnew_
                       clear hg_ hnew_
                       (first | rw [← Ny228.out] at ho46 | (simp only [Int.reduceToNat] at ho46; rw [← Ny228.out] at ho46))
                       have n0_ := Aside0.mk (Kd.R_elder' (by (with_reducible repeat (first | apply Kd.R_alloc | apply Kd.R_drewN | apply Kd.R_drew)); exact HO_9.out) (Kd.R_base ho46) hb)
                       have n1_ := Aside0.mk (Kd.R_below (by (with_reducible repeat (first | apply Kd.R_alloc | apply Kd.R_drewN | apply Kd.R_drew)); exact HO215.out) hb)
                       have n2_ := Aside0.mk (Kd.R_elder' (by (with_reducible repeat (first | apply Kd.R_alloc | apply Kd.R_drewN | apply Kd.R_drew)); exact HO218.out) (Kd.R_base ho46) hb)
                       have n3_ := Aside0.mk (Kd.R_elder' (by (with_reducible repeat (first | apply Kd.R_alloc | apply Kd.R_drewN | apply Kd.R_drew)); exact HO221.out) (Kd.R_base ho46) hb)
                       have n4_ := Aside0.mk (Kd.R_elder' (by (with_reducible repeat (first | apply Kd.R_alloc | apply Kd.R_drewN | apply Kd.R_drew)); exact HO224.out) (Kd.R_base ho46) hb)
                       have n5_ := Aside0.mk (Kd.R_elder' (by (with_reducible repeat (first | apply Kd.R_alloc | apply Kd.R_drewN | apply Kd.R_drew)); exact HO227.out) (Kd.R_base ho46) hb)
                       have n6_ := Aside0.mk (Kd.R_lower (Kd.R_new' (Kd.R_new' (Kd.R_new' (Kd.R_new' (Kd.R_new' ho46 (Kd.R_lt (by (with_reducible repeat (first | apply Kd.R_alloc | apply Kd.R_drewN | apply Kd.R_drew)); exact HO_9.out))) (Kd.R_lt (by (with_reducible repeat (first | apply Kd.R_alloc | apply Kd.R_drewN | apply Kd.R_drew)); exact HO218.out))) (Kd.R_lt (by (with_reducible repeat (first | apply Kd.R_alloc | apply Kd.R_drewN | apply Kd.R_drew)); exact HO221.out))) (Kd.R_lt (by (with_reducible repeat (first | apply Kd.R_alloc | apply Kd.R_drewN | apply Kd.R_drew)); exact HO224.out))) (Kd.R_lt (by (with_reducible repeat (first | apply Kd.R_alloc | apply Kd.R_drewN | apply Kd.R_drew)); exact HO227.out))) (below_size (by repeat (first | (with_reducible first | exact HB.out | apply below_alloc | apply pw_below_drewN | apply below_drew1) | exact HB.out))))
                       have n7_ := Aside0.mk (below_step (by repeat (first | (with_reducible first | exact HB.out | apply below_alloc | apply pw_below_drewN | apply below_drew1) | exact HB.out)) hb)
                       (try clear HO_9)
                       clear HO215
                       clear HO218
                       clear HO221
                       clear HO224
                       clear HO227
                       clear HB
                       have HO_9 := n0_
                       have HO215 := n1_
                       have HO218 := n2_
                       have HO221 := n3_
                       have HO224 := n4_
                       have HO227 := n5_
                       have HO230 := n6_
                       have HB := n7_
                       clear n0_ n1_ n2_ n3_ n4_ n5_ n6_ n7_
                       clear hb ho46
                       refine hK.out _ _ trivial (fun hHeld => ?_)
                       clear hK K
                       refine norm_ (a' := ?_) ?_ ?_
                       rotate_left
                       ·show Act.put _ (some 78) _ = _
                        simp only [Act.put, List.setIfInBounds_toArray, List.set_cons_zero, List.set_cons_succ, i64_w, i32_w]
                        rfl
                       exact norm_ (by first | (simp only [putAll, Act.put, List.setIfInBounds_toArray, List.set_cons_zero, List.set_cons_succ]; done) | (simp only [putAll, Act.put, List.setIfInBounds_toArray, List.set_cons_zero, List.set_cons_succ]; rfl)) (hJ2_3_8_9_14 (v217, v220, v223, v226, v229) _ ⟨(by (with_reducible repeat (first | apply Kd.R_alloc | apply Kd.R_drewN | apply Kd.R_drew)); exact HO215.out), (by (with_reducible repeat (first | apply Kd.R_alloc | apply Kd.R_drewN | apply Kd.R_drew)); exact Kd.R_mono HO218.out (fun _ hk => ⟨hk.1.1, ⟨hk.1.2.1, ⟨hk.1.2.2.1, ⟨hk.2, hk.1.2.2.2⟩⟩⟩⟩)), (by (with_reducible repeat (first | apply Kd.R_alloc | apply Kd.R_drewN | apply Kd.R_drew)); exact Kd.R_mono HO221.out (fun _ hk => ⟨hk.1.1, ⟨hk.1.2.1, ⟨hk.1.2.2.1, ⟨hk.2, hk.1.2.2.2⟩⟩⟩⟩)), (by (with_reducible repeat (first | apply Kd.R_alloc | apply Kd.R_drewN | apply Kd.R_drew)); exact Kd.R_mono HO224.out (fun _ hk => ⟨hk.1.1, ⟨hk.1.2.1, ⟨hk.1.2.2.1, ⟨hk.2, hk.1.2.2.2⟩⟩⟩⟩)), (by (with_reducible repeat (first | apply Kd.R_alloc | apply Kd.R_drewN | apply Kd.R_drew)); exact Kd.R_mono HO227.out (fun _ hk => ⟨hk.1.1, ⟨hk.1.2.1, ⟨hk.1.2.2.1, ⟨hk.2, hk.1.2.2.2⟩⟩⟩⟩)), (by (with_reducible repeat (first | apply Kd.R_alloc | apply Kd.R_drewN | apply Kd.R_drew)); exact Kd.R_mono HO230.out (fun _ hk => ⟨hk.1.1.1.2, ⟨hk.1.1.2, ⟨hk.1.2, ⟨hk.2, hk.1.1.1.1.2⟩⟩⟩⟩)), (by (with_reducible repeat (first | apply Kd.R_alloc | apply Kd.R_drewN | apply Kd.R_drew)); exact Kd.R_mono HO_9.out (fun _ hk => ⟨hk.1.1, ⟨hk.1.2.1, ⟨hk.1.2.2.1, ⟨hk.1.2.2.2, hk.2⟩⟩⟩⟩)), (by repeat (first | (with_reducible first | exact HB.out | apply below_alloc | apply pw_below_drewN | apply below_drew1) | exact HB.out))⟩)
                     rintro ⟨v217, v220, v223, v226, v229⟩ w46 ⟨h0_, h1_, h2_, h3_, h4_, h5_, h6_, h7_⟩
                     have n0_ : Aside0 (Kd.R (Kd.int .u8) 5 w46 w.heap.size (fun _ => True) v214 y213) := ⟨h0_⟩
                     have n1_ : Aside0 (Kd.R Kd.string 9 w46 w.heap.size (fun k_ => some k_ ≠ (v220 : Value).ownBlock ∧ some k_ ≠ (v223 : Value).ownBlock ∧ some k_ ≠ (v226 : Value).ownBlock ∧ some k_ ≠ (v229 : Value).ownBlock ∧ some k_ ≠ (.slice Ao34 x9_3.length co34 : Value).ownBlock) v217 y216) := ⟨h1_⟩
                     have n2_ : Aside0 (Kd.R Kd.string 9 w46 w.heap.size (fun k_ => some k_ ≠ (v217 : Value).ownBlock ∧ some k_ ≠ (v223 : Value).ownBlock ∧ some k_ ≠ (v226 : Value).ownBlock ∧ some k_ ≠ (v229 : Value).ownBlock ∧ some k_ ≠ (.slice Ao34 x9_3.length co34 : Value).ownBlock) v220 y219) := ⟨h2_⟩
                     have n3_ : Aside0 (Kd.R Kd.string 9 w46 w.heap.size (fun k_ => some k_ ≠ (v217 : Value).ownBlock ∧ some k_ ≠ (v220 : Value).ownBlock ∧ some k_ ≠ (v226 : Value).ownBlock ∧ some k_ ≠ (v229 : Value).ownBlock ∧ some k_ ≠ (.slice Ao34 x9_3.length co34 : Value).ownBlock) v223 y222) := ⟨h3_⟩
                     have n4_ : Aside0 (Kd.R Kd.string 9 w46 w.heap.size (fun k_ => some k_ ≠ (v217 : Value).ownBlock ∧ some k_ ≠ (v220 : Value).ownBlock ∧ some k_ ≠ (v223 : Value).ownBlock ∧ some k_ ≠ (v229 : Value).ownBlock ∧ some k_ ≠ (.slice Ao34 x9_3.length co34 : Value).ownBlock) v226 y225) := ⟨h4_⟩
                     have n5_ : Aside0 (Kd.R Kd.string 9 w46 w.heap.size (fun k_ => some k_ ≠ (v217 : Value).ownBlock ∧ some k_ ≠ (v220 : Value).ownBlock ∧ some k_ ≠ (v223 : Value).ownBlock ∧ some k_ ≠ (v226 : Value).ownBlock ∧ some k_ ≠ (.slice Ao34 x9_3.length co34 : Value).ownBlock) v229 y228) := ⟨h5_⟩
                     have n6_ : Aside0 (Kd.R Kd.string 9 w46 w.heap.size (fun k_ => some k_ ≠ (v217 : Value).ownBlock ∧ some k_ ≠ (v220 : Value).ownBlock ∧ some k_ ≠ (v223 : Value).ownBlock ∧ some k_ ≠ (v226 : Value).ownBlock ∧ some k_ ≠ (v229 : Value).ownBlock) (.slice Ao34 x9_3.length co34) x9_3) := ⟨h6_⟩
                     have n7_ : Aside0 (Below w.heap.size w w46) := ⟨h7_⟩
                     (try clear HO_7)
                     (try clear HO_8)
                     (try clear HO_9)
                     clear HO215
                     clear HB
                     clear h0_ h1_ h2_ h3_ h4_ h5_ h6_ h7_
                     have HO215 := n0_
                     have HO218 := n1_
                     have HO221 := n2_
                     have HO224 := n3_
                     have HO227 := n4_
                     have HO230 := n5_
                     have HO_9 := n6_
                     have HB := n7_
                     clear n0_ n1_ n2_ n3_ n4_ n5_ n6_ n7_
                     have hHeld := trivial
                     obtain ⟨Ao48, co48, eo48⟩ := Kd.R_slice HO230.out
                     (first | subst eo48 | (injection eo48 with f1_ f2_ f3_; have f4_ := f1_.symm; have f5_ := f3_.symm; clear f1_ f2_ f3_; subst f4_; subst f5_))
                     refine norm_ (a' := ?_) ?_ ?_
                     rotate_left
                     ·simp only [putAll, Act.put, List.setIfInBounds_toArray, List.set_cons_zero, List.set_cons_succ]
                      rfl
                     refine one_ (i := 15) (N := some 79) #[true, true, true, true, true, true, true, true, true, true, true, true, true, true, true, true, false, false, false] rfl rfl (one_of HT_.out (by kernel_rfl)) (by decide) (fun K hK => ?_)
                     refine Kd.R_append_rows_step Kd.string (w0 := w) w.heap.size (by rfl) (.tmp 74) (.tmp 78) 22 9 (.string ⟨#[]⟩) 16 rfl Tryd.underlying22 info9 rfl (by decide) (by omega) (.slice Ao34 x9_3.length co34) x9_3 y228 _ _ _ (fun k_ => some k_ ≠ (v217 : Value).ownBlock ∧ some k_ ≠ (v220 : Value).ownBlock ∧ some k_ ≠ (v223 : Value).ownBlock ∧ some k_ ≠ (v226 : Value).ownBlock ∧ some k_ ≠ (.slice Ao48 y228.length co48 : Value).ownBlock) (fun _ => False) rfl rfl ?aO ?aR (fun _ _ h => h) (fun _ h => h.elim) ?aF ?aB ?aS ?aL ?_
                     (case aR => repeat (first | exact (Kd.R_reads' HO230.out).2.2 | (with_reducible refine Kd.C_alloc ?_ _) | (with_reducible refine Kd.C_drewN ?_ _) | (with_reducible refine Kd.C_drew ?_)))
                     (case aB => exact (by repeat (first | (with_reducible first | exact HB.out | apply below_alloc | apply pw_below_drewN | apply below_drew1) | exact HB.out)))
                     (case aF => exact (fun k_ hk => ⟨Kd.fresh' (Kd.R_lt (by (with_reducible repeat (first | apply Kd.R_alloc | apply Kd.R_drewN | apply Kd.R_drew)); exact HO218.out)) k_ hk, Kd.fresh' (Kd.R_lt (by (with_reducible repeat (first | apply Kd.R_alloc | apply Kd.R_drewN | apply Kd.R_drew)); exact HO221.out)) k_ hk, Kd.fresh' (Kd.R_lt (by (with_reducible repeat (first | apply Kd.R_alloc | apply Kd.R_drewN | apply Kd.R_drew)); exact HO224.out)) k_ hk, Kd.fresh' (Kd.R_lt (by (with_reducible repeat (first | apply Kd.R_alloc | apply Kd.R_drewN | apply Kd.R_drew)); exact HO227.out)) k_ hk, Kd.fresh' (Kd.R_lt (by (with_reducible repeat (first | apply Kd.R_alloc | apply Kd.R_drewN | apply Kd.R_drew)); exact HO230.out)) k_ hk⟩))
                     (case aO => exact (by (with_reducible repeat (first | apply Kd.R_alloc | apply Kd.R_drewN | apply Kd.R_drew)); exact HO_9.out))
                     (case aS => exact (below_size (by repeat (first | (with_reducible first | exact HB.out | apply below_alloc | apply pw_below_drewN | apply below_drew1) | exact HB.out))))
                     (case aL => have := LMc27.out; omega)
                     intro v232 w47 ho hb hg hat
                     rw [← Ny231.out] at ho
                     have n0_ := Aside0.mk (Kd.R_over' (by (with_reducible repeat (first | apply Kd.R_alloc | apply Kd.R_drewN | apply Kd.R_drew)); exact HO215.out) (Kd.R_typed (by (with_reducible repeat (first | apply Kd.R_alloc | apply Kd.R_drewN | apply Kd.R_drew)); exact HO_9.out)) (by decide) hg)
                     have n1_ := Aside0.mk (Kd.R_after (ok := (fun k_ => some k_ ≠ (v220 : Value).ownBlock ∧ some k_ ≠ (v223 : Value).ownBlock ∧ some k_ ≠ (v226 : Value).ownBlock ∧ some k_ ≠ (.slice Ao48 y228.length co48 : Value).ownBlock)) (by (with_reducible repeat (first | apply Kd.R_alloc | apply Kd.R_drewN | apply Kd.R_drew)); exact Kd.R_mono HO218.out (fun _ hk => ⟨⟨hk.1, ⟨hk.2.1, ⟨hk.2.2.1, hk.2.2.2.1⟩⟩⟩, hk.2.2.2.2⟩)) hg hat)
                     have n2_ := Aside0.mk (Kd.R_after (ok := (fun k_ => some k_ ≠ (v217 : Value).ownBlock ∧ some k_ ≠ (v223 : Value).ownBlock ∧ some k_ ≠ (v226 : Value).ownBlock ∧ some k_ ≠ (.slice Ao48 y228.length co48 : Value).ownBlock)) (by (with_reducible repeat (first | apply Kd.R_alloc | apply Kd.R_drewN | apply Kd.R_drew)); exact Kd.R_mono HO221.out (fun _ hk => ⟨⟨hk.1, ⟨hk.2.1, ⟨hk.2.2.1, hk.2.2.2.1⟩⟩⟩, hk.2.2.2.2⟩)) hg hat)
                     have n3_ := Aside0.mk (Kd.R_after (ok := (fun k_ => some k_ ≠ (v217 : Value).ownBlock ∧ some k_ ≠ (v220 : Value).ownBlock ∧ some k_ ≠ (v226 : Value).ownBlock ∧ some k_ ≠ (.slice Ao48 y228.length co48 : Value).ownBlock)) (by (with_reducible repeat (first | apply Kd.R_alloc | apply Kd.R_drewN | apply Kd.R_drew)); exact Kd.R_mono HO224.out (fun _ hk => ⟨⟨hk.1, ⟨hk.2.1, ⟨hk.2.2.1, hk.2.2.2.1⟩⟩⟩, hk.2.2.2.2⟩)) hg hat)
                     have n4_ := Aside0.mk (Kd.R_after (ok := (fun k_ => some k_ ≠ (v217 : Value).ownBlock ∧ some k_ ≠ (v220 : Value).ownBlock ∧ some k_ ≠ (v223 : Value).ownBlock ∧ some k_ ≠ (.slice Ao48 y228.length co48 : Value).ownBlock)) (by (with_reducible repeat (first | apply Kd.R_alloc | apply Kd.R_drewN | apply Kd.R_drew)); exact Kd.R_mono HO227.out (fun _ hk => ⟨⟨hk.1, ⟨hk.2.1, ⟨hk.2.2.1, hk.2.2.2.1⟩⟩⟩, hk.2.2.2.2⟩)) hg hat)
                     have n5_ := Aside0.mk (Kd.R_after (ok := (fun k_ => some k_ ≠ (v217 : Value).ownBlock ∧ some k_ ≠ (v220 : Value).ownBlock ∧ some k_ ≠ (v223 : Value).ownBlock ∧ some k_ ≠ (v226 : Value).ownBlock)) (by (with_reducible repeat (first | apply Kd.R_alloc | apply Kd.R_drewN | apply Kd.R_drew)); exact Kd.R_mono HO230.out (fun _ hk => ⟨⟨hk.1, ⟨hk.2.1, ⟨hk.2.2.1, hk.2.2.2.1⟩⟩⟩, hk.2.2.2.2⟩)) hg hat)
                     have n6_ := Aside0.mk (hb)
                     have n7_ := Aside0.mk (ho)
                     clear HO215
                     clear HO218
                     clear HO221
                     clear HO224
                     clear HO227
                     clear HO230
                     clear HB
                     (try clear HO_9)
                     have HO215 := n0_
                     have HO218 := n1_
                     have HO221 := n2_
                     have HO224 := n3_
                     have HO227 := n4_
                     have HO230 := n5_
                     have HB := n6_
                     have HO233 := n7_
                     clear n0_ n1_ n2_ n3_ n4_ n5_ n6_ n7_
                     clear ho hb hg hat
                     refine hK.out _ _ trivial (fun hHeld => ?_)
                     clear hK K
                     refine norm_ (a' := ?_) ?_ ?_
                     rotate_left
                     ·show Act.put _ (some 79) _ = _
                      simp only [Act.put, List.setIfInBounds_toArray, List.set_cons_zero, List.set_cons_succ, i64_w, i32_w]
                      rfl
                     refine pure_ (i := 16) (N := some 7) (v := ?_) (a' := ?_) #[true, true, true, true, true, true, true, true, true, true, true, true, true, true, true, true, true, false, false] rfl rfl (any_of HT_.out (by kernel_rfl)) (fun _ _ _ h => h) (Or.inl ⟨by rfl, ?_⟩) ?_ ?_
                     rotate_left
                     ·intro w'
                      go_simp
                      with_reducible rfl
                     rotate_left
                     ·simp only [Act.put, List.setIfInBounds_toArray, List.set_cons_zero, List.set_cons_succ, i64_w, i32_w]
                      rfl
                     refine pure_ (i := 17) (N := some 8) (v := ?_) (a' := ?_) #[true, true, true, true, true, true, true, true, true, true, true, true, true, true, true, true, true, true, false] rfl rfl (any_of HT_.out (by kernel_rfl)) (fun _ _ _ h => h) (Or.inl ⟨by rfl, ?_⟩) ?_ ?_
                     rotate_left
                     ·intro w'
                      go_simp
                      with_reducible rfl
                     rotate_left
                     ·simp only [Act.put, List.setIfInBounds_toArray, List.set_cons_zero, List.set_cons_succ, i64_w, i32_w]
                      rfl
                     refine pure_ (i := 18) (N := some 9) (v := ?_) (a' := ?_) #[true, true, true, true, true, true, true, true, true, true, true, true, true, true, true, true, true, true, true] rfl rfl (any_of HT_.out (by kernel_rfl)) (fun _ _ _ h => h) (Or.inl ⟨by rfl, ?_⟩) ?_ ?_
                     rotate_left
                     ·intro w'
                      go_simp
                      with_reducible rfl
                     rotate_left
                     ·simp only [Act.put, List.setIfInBounds_toArray, List.set_cons_zero, List.set_cons_succ, i64_w, i32_w]
                      rfl
                     refine done_ (done_of HT_.out (by kernel_rfl)) ?_
                     try go_wp2
                     (try subst hji12)
                     (try subst hji16)
                     (try subst hji21)
                     go_roundg k3
                     case measure => have := HJ4.out; have := HK2.out; have := HK3.out; omega
                     case rel => exact ⟨(y219), (y225), (y231), (wrap64 (x10_3 + 1)), (by first | rfl | (simp; done) | (simp [*]; done)), H', ⟨by have := HJ4.out; have := HK2.out; have := HK3.out; omega⟩, ⟨by (with_reducible repeat (first | apply Kd.R_alloc | apply Kd.R_drewN | apply Kd.R_drew)); exact Kd.R_mono HO221.out (fun _ hk => ⟨hk.1.2.2.1, hk.2⟩)⟩, ⟨by (with_reducible repeat (first | apply Kd.R_alloc | apply Kd.R_drewN | apply Kd.R_drew)); exact Kd.R_mono HO227.out (fun _ hk => ⟨hk.1.2.1, hk.2⟩)⟩, ⟨by (with_reducible repeat (first | apply Kd.R_alloc | apply Kd.R_drewN | apply Kd.R_drew)); exact Kd.R_mono HO233.out (fun _ hk => ⟨hk.2.1, hk.2.2.2.1⟩)⟩, ⟨by repeat (first | (with_reducible first | exact HB.out | apply below_alloc | apply pw_below_drewN | apply below_drew1) | exact HB.out)⟩⟩
                    ·rw [if_neg c27] at H
                     exact absurd H (by simp)
                   ·rw [if_neg c24] at H
                    exact absurd H (by simp)
                  ·rw [if_neg c23] at H
                   exact absurd H (by simp)
                 ·rw [if_neg c22] at H
                  exact absurd H (by simp)
                ·rw [if_neg c20] at H
                 exact absurd H (by simp)
               ·rw [if_neg c19] at H
                exact absurd H (by simp)
              ·rw [if_neg c18] at H
               exact absurd H (by simp)
             ·rw [if_neg c17] at H
              exact absurd H (by simp)
            ·rw [if_neg c15] at H
             exact absurd H (by simp)
           ·rw [if_neg c14] at H
            have c14b0 : decide (x10_3 < (l0.length : Int)) = false := decide_eq_false c14
            clear c14
            replace H := Option.bind_eq_some_iff.mp H
            obtain ⟨t234, A490, H⟩ := H
            replace H : ((xor_Fold.f k3 x8_3).bind fun t235 => ((xor_Fold.f k3 x9_3).bind fun t236 => (if t235.size + t236.size ≤ 9223372036854775807 then (some (t234.toList == (t235 ++ t236).toList)) else (none)))) = some r := H
            have A49 := Aside0.mk A490
            clear A490
            replace H := Option.bind_eq_some_iff.mp H
            obtain ⟨t235, A500, H⟩ := H
            replace H : ((xor_Fold.f k3 x9_3).bind fun t236 => (if t235.size + t236.size ≤ 9223372036854775807 then (some (t234.toList == (t235 ++ t236).toList)) else (none))) = some r := H
            have A50 := Aside0.mk A500
            clear A500
            replace H := Option.bind_eq_some_iff.mp H
            obtain ⟨t236, A510, H⟩ := H
            replace H : (if t235.size + t236.size ≤ 9223372036854775807 then (some (t234.toList == (t235 ++ t236).toList)) else (none)) = some r := H
            have A51 := Aside0.mk A510
            clear A510
            by_cases c52 : t235.size + t236.size ≤ 9223372036854775807
            ·rw [if_pos c52] at H
             have c52b0 := eq_true c52
             have c52b1 : decide (t235.size + t236.size ≤ 9223372036854775807) = true := decide_eq_true c52
             try have c52b2 : (9223372036854775807 < t235.size + t236.size) = False := eq_false (Nat.not_lt.2 c52)
             obtain rfl := Option.some.inj H
             obtain ⟨Ao53, co53, eo53⟩ := Kd.R_slice HO_7.out
             subst eo53
             go_wp2_with (first | ((with_reducible refine gate_callee (f := 15) rfl ?_); refine goesL_ (some 81) rfl rfl Tryd.func15 (by kernel_rfl) rfl #[.slice Ao53 x7_3.length co53] rfl (by (try simp only [List.map_toArray, List.map_cons, List.map_nil]); first | done | rfl | (simp only [List.length_drop, List.length_take]; rfl)) ?_; (with_reducible refine (xor_Fold.calls k3 _ _ x7_3 t234 _ ?side1 ?side2 A49.out).mono ?_); (case side1 => repeat (first | exact (Kd.R_reads' HO_7.out).2.2 | (with_reducible refine Kd.C_alloc ?_ _) | (with_reducible refine Kd.C_drewN ?_ _) | (with_reducible refine Kd.C_drew ?_))); (case side2 => exact (Kd.R_reads' HO_7.out).2.1); rintro e w54 ⟨rfl, hb⟩; refine ⟨_, rfl, ?_⟩; have n0_ := Aside0.mk (Kd.R_below (by (with_reducible repeat (first | apply Kd.R_alloc | apply Kd.R_drewN | apply Kd.R_drew)); exact HO_7.out) hb); have n1_ := Aside0.mk (Kd.R_below (by (with_reducible repeat (first | apply Kd.R_alloc | apply Kd.R_drewN | apply Kd.R_drew)); exact HO_8.out) hb); have n2_ := Aside0.mk (Kd.R_below (by (with_reducible repeat (first | apply Kd.R_alloc | apply Kd.R_drewN | apply Kd.R_drew)); exact HO_9.out) hb); have n3_ := Aside0.mk (below_step (by repeat (first | (with_reducible first | exact HB.out | apply below_alloc | apply pw_below_drewN | apply below_drew1) | exact HB.out)) hb); clear HO_7; clear HO_8; clear HO_9; clear HB; have HO_7 := n0_; have HO_8 := n1_; have HO_9 := n2_; have HB := n3_; clear n0_ n1_ n2_ n3_; (try clear hb); (try clear hb2); (try clear hk); (try clear hi); obtain ⟨Ao55, co55, eo55⟩ := Kd.R_slice HO_8.out; subst eo55) | ((with_reducible refine gate_callee (f := 15) rfl ?_); refine goesL_ (some 83) rfl rfl Tryd.func15 (by kernel_rfl) rfl #[.slice Ao55 x8_3.length co55] rfl (by (try simp only [List.map_toArray, List.map_cons, List.map_nil]); first | done | rfl | (simp only [List.length_drop, List.length_take]; rfl)) ?_; (with_reducible refine (xor_Fold.calls k3 _ _ x8_3 t235 _ ?side1 ?side2 A50.out).mono ?_); (case side1 => repeat (first | exact (Kd.R_reads' HO_8.out).2.2 | (with_reducible refine Kd.C_alloc ?_ _) | (with_reducible refine Kd.C_drewN ?_ _) | (with_reducible refine Kd.C_drew ?_))); (case side2 => exact (Kd.R_reads' HO_8.out).2.1); rintro e w56 ⟨rfl, hb⟩; refine ⟨_, rfl, ?_⟩; have n0_ := Aside0.mk (Kd.R_below (by (with_reducible repeat (first | apply Kd.R_alloc | apply Kd.R_drewN | apply Kd.R_drew)); exact HO_7.out) hb); have n1_ := Aside0.mk (Kd.R_below (by (with_reducible repeat (first | apply Kd.R_alloc | apply Kd.R_drewN | apply Kd.R_drew)); exact HO_8.out) hb); have n2_ := Aside0.mk (Kd.R_below (by (with_reducible repeat (first | apply Kd.R_alloc | apply Kd.R_drewN | apply Kd.R_drew)); exact HO_9.out) hb); have n3_ := Aside0.mk (below_step (by repeat (first | (with_reducible first | exact HB.out | apply below_alloc | apply pw_below_drewN | apply below_drew1) | exact HB.out)) hb); clear HO_7; clear HO_8; clear HO_9; clear HB; have HO_7 := n0_; have HO_8 := n1_; have HO_9 := n2_; have HB := n3_; clear n0_ n1_ n2_ n3_; (try clear hb); (try clear hb2); (try clear hk); (try clear hi); obtain ⟨Ao57, co57, eo57⟩ := Kd.R_slice HO_9.out; subst eo57) | ((with_reducible refine gate_callee (f := 15) rfl ?_); refine goesL_ (some 85) rfl rfl Tryd.func15 (by kernel_rfl) rfl #[.slice Ao57 x9_3.length co57] rfl (by (try simp only [List.map_toArray, List.map_cons, List.map_nil]); first | done | rfl | (simp only [List.length_drop, List.length_take]; rfl)) ?_; (with_reducible refine (xor_Fold.calls k3 _ _ x9_3 t236 _ ?side1 ?side2 A51.out).mono ?_); (case side1 => repeat (first | exact (Kd.R_reads' HO_9.out).2.2 | (with_reducible refine Kd.C_alloc ?_ _) | (with_reducible refine Kd.C_drewN ?_ _) | (with_reducible refine Kd.C_drew ?_))); (case side2 => exact (Kd.R_reads' HO_9.out).2.1); rintro e w58 ⟨rfl, hb⟩; refine ⟨_, rfl, ?_⟩; have n0_ := Aside0.mk (Kd.R_below (by (with_reducible repeat (first | apply Kd.R_alloc | apply Kd.R_drewN | apply Kd.R_drew)); exact HO_7.out) hb); have n1_ := Aside0.mk (Kd.R_below (by (with_reducible repeat (first | apply Kd.R_alloc | apply Kd.R_drewN | apply Kd.R_drew)); exact HO_8.out) hb); have n2_ := Aside0.mk (Kd.R_below (by (with_reducible repeat (first | apply Kd.R_alloc | apply Kd.R_drewN | apply Kd.R_drew)); exact HO_9.out) hb); have n3_ := Aside0.mk (below_step (by repeat (first | (with_reducible first | exact HB.out | apply below_alloc | apply pw_below_drewN | apply below_drew1) | exact HB.out)) hb); clear HO_7; clear HO_8; clear HO_9; clear HB; have HO_7 := n0_; have HO_8 := n1_; have HO_9 := n2_; have HB := n3_; clear n0_ n1_ n2_ n3_; (try clear hb); (try clear hb2); (try clear hk); (try clear hi)))
             go_ret
             exact ⟨by first | rfl | (simp [errW_none, errW_some] <;> rfl) | (simp [*, errW_none, errW_some] <;> rfl), by repeat (first | (with_reducible first | exact HB.out | apply below_alloc | apply pw_below_drewN | apply below_drew1) | exact HB.out)⟩
            ·rw [if_neg c52] at H
             exact absurd H (by simp)
 ·replace c4 := Bool.eq_false_iff.mpr c4
  subst c4
  have H1 : (some false) = some r := by rw [if_neg (show ¬ (false = true) by decide)] at H; exact H
  clear H
  have H := H1
  clear H1
  obtain rfl := Option.some.inj H
  go_enter Tryd.func5, Tryd.ntmps5
  go_wp2_with (first | ((with_reducible refine gate_callee (f := 13) rfl ?_); refine goesL_ (some 12) rfl rfl Tryd.func13 (by kernel_rfl) rfl #[] rfl (by (try simp only [List.map_toArray, List.map_cons, List.map_nil]); first | done | rfl | (simp only [List.length_drop, List.length_take]; rfl)) ?_; (with_reducible refine (corbellaw03_speaks.calls k  false _ A3.out).mono ?_); rintro e w59 ⟨rfl, hb⟩; refine ⟨_, rfl, ?_⟩; have n0_ := Aside0.mk (below_step (by repeat (first | (with_reducible first | exact HB.out | apply below_alloc | apply pw_below_drewN | apply below_drew1) | exact HB.out)) hb); clear HB; have HB := n0_; clear n0_; (try clear hb); (try clear hb2); (try clear hk); (try clear hi)))
  go_ret
  exact ⟨by first | rfl | (simp [errW_none, errW_some] <;> rfl) | (simp [*, errW_none, errW_some] <;> rfl), by repeat (first | (with_reducible first | exact HB.out | apply below_alloc | apply pw_below_drewN | apply below_drew1) | exact HB.out)⟩

end Go.Proofs.YticpjnpafmehaaaDoor.X
