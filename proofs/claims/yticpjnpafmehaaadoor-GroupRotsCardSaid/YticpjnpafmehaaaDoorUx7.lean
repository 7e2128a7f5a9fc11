-- printed by a program of a session (wip/tools/printx.py) over the kit's print; not typed by hand
import Derived.Test.YticpjnpafmehaaaDoorUx0
import Derived.Test.YticpjnpafmehaaaDoorUx1
import Derived.Test.YticpjnpafmehaaaDoorUx4
import Derived.Test.YticpjnpafmehaaaDoorUx6
import Derived.Test.YticpjnpafmehaaaDoorGV1
namespace Go.Proofs.YticpjnpafmehaaaDoor.U
open Go.RowKit Go.Proofs.YticpjnpafmehaaaDoorW.PrintWords Go.Proofs.YticpjnpafmehaaaDoorW.PrintLast Go.Proofs.YticpjnpafmehaaaDoorW.PrintMore
open Go.Proofs.YticpjnpafmehaaaDoorW.PrintWords.Kd renaming R_alloc → rA, R_drewN → rN
open Go.Proofs.YticpjnpafmehaaaDoorW.PrintWords renaming pw_below_drewN → pN, below_alloc → bA, below_drew1 → bD, below_set → bS, blk_drewN → kN, blk_alloc → kA, below_size → bZ, blk_below → kB
attribute [local go_sem] max2_int min2_int max_two min_two max_three min_three max_four min_four   -- for this text's walks alone
set_option linter.unusedVariables false
set_option linter.unusedSimpArgs false

attribute [local go_sem high] eqA62
/-! ### corbellaw18_speaks: function 22 -/
def corbellaw18_speaks.f (k : Nat)  : Option (Bool) := (some (([(⟨3, false⟩ : S62), (⟨4, true⟩ : S62)] : List (S62)) : List (S62))).bind fun y158 => (if 64 ≤ 281474976710656 then ((group_Encode.f k 5 y158 (([strOfNums (List.replicate 64 0), (⟨#[]⟩ : ByteArray)] : List ByteArray))).bind fun bt168 => ((group_Decode.f k bt168.1).bind fun bt170 => (if bt168.2 = 0 then (if (bt168.1.size : Int) = 128 then (if bt170.2.2.2.2 = 0 then (if bt170.2.2.2.1 = 2 then (if bt170.1 = 5 then (if (bt170.2.1.length : Int) = 2 then (if 1 < (bt170.2.1.length : Int) then (if 1 < (y158.length : Int) then (some (((rd_T62 bt170.2.1 1).f0) == ((rd_T62 y158 1).f0) && (((rd_T62 bt170.2.1 1).f1) == ((rd_T62 y158 1).f1)))) else (none)) else (none)) else (some false)) else (some false)) else (some false)) else (some false)) else (some false)) else (some false)))) else (none))
theorem corbellaw18_speaks.mono : ∀ k, LeO (corbellaw18_speaks.f k ) (corbellaw18_speaks.f (k + 1) ) := by
 intro  k
 unfold corbellaw18_speaks.f
 repeat' first
   | (with_reducible exact group_Decode.mono _ _)
   | (with_reducible exact group_Encode.mono _ _ _ _)
   | (with_reducible exact LeO.refl _)
   | (with_reducible exact LeO.none _)
   | (with_reducible refine LeO.ite ?_ ?_)
   | (with_reducible refine LeO.bind ?_ (fun _ => ?_))
   | exact group_Decode.mono _ _
   | exact group_Encode.mono _ _ _ _
   | exact LeO.none _
   | refine LeO.ite ?_ ?_
   | refine LeO.bind ?_ (fun _ => ?_)
set_option maxHeartbeats 8000000 in
set_option maxRecDepth 100000 in
theorem corbellaw18_speaks.calls1 (k : Nat)  (r : Bool) (w : World) (h : corbellaw18_speaks.f k  = some r) (hr : r = true) (hN : TabIn w) :
  Calls Tryd.prog 22 #[] w fun e w' => e = .returned (.bool r) ∧ Below w.heap.size w w' := by
 have HRT := Aside0.mk hr
 clear hr
 have hu62 := Tryd.underlying62
 have hu42 := Tryd.underlying42
 have HB := Aside0.mk (Below.refl w.heap.size w)
 have HN := Aside0.mk hN
 clear hN
 have H : ((some (([(⟨3, false⟩ : S62), (⟨4, true⟩ : S62)] : List (S62)) : List (S62))).bind fun y158 => (if 64 ≤ 281474976710656 then ((group_Encode.f k 5 y158 (([strOfNums (List.replicate 64 0), (⟨#[]⟩ : ByteArray)] : List ByteArray))).bind fun bt168 => ((group_Decode.f k bt168.1).bind fun bt170 => (if bt168.2 = 0 then (if (bt168.1.size : Int) = 128 then (if bt170.2.2.2.2 = 0 then (if bt170.2.2.2.1 = 2 then (if bt170.1 = 5 then (if (bt170.2.1.length : Int) = 2 then (if 1 < (bt170.2.1.length : Int) then (if 1 < (y158.length : Int) then (some (((rd_T62 bt170.2.1 1).f0) == ((rd_T62 y158 1).f0) && (((rd_T62 bt170.2.1 1).f1) == ((rd_T62 y158 1).f1)))) else (none)) else (none)) else (some false)) else (some false)) else (some false)) else (some false)) else (some false)) else (some false)))) else (none))) = some r := h
 clear h
 obtain ⟨y158, hy158⟩ : ∃ y_ : List (S62), y_ = (([(⟨3, false⟩ : S62), (⟨4, true⟩ : S62)] : List (S62))) := ⟨_, rfl⟩
 replace H : (if 64 ≤ 281474976710656 then ((group_Encode.f k 5 y158 (([strOfNums (List.replicate 64 0), (⟨#[]⟩ : ByteArray)] : List ByteArray))).bind fun bt168 => ((group_Decode.f k bt168.1).bind fun bt170 => (if bt168.2 = 0 then (if (bt168.1.size : Int) = 128 then (if bt170.2.2.2.2 = 0 then (if bt170.2.2.2.1 = 2 then (if bt170.1 = 5 then (if (bt170.2.1.length : Int) = 2 then (if 1 < (bt170.2.1.length : Int) then (if 1 < (y158.length : Int) then (some (((rd_T62 bt170.2.1 1).f0) == ((rd_T62 y158 1).f0) && (((rd_T62 bt170.2.1 1).f1) == ((rd_T62 y158 1).f1)))) else (none)) else (none)) else (some false)) else (some false)) else (some false)) else (some false)) else (some false)) else (some false)))) else (none)) = some r := by first | (rw [hy158]; with_reducible exact H) | (have H2_ := (Option.bind_some _ _).symm.trans H; rw [hy158]; with_reducible exact H2_) | (have H2_ := (Option.bind_some _ _).symm.trans H; with_reducible exact H2_) | with_reducible exact H | (rw [hy158]; exact H) | exact H
 have Ny158 := Aside0.mk hy158
 clear hy158
 by_cases c1 : 64 ≤ 281474976710656
 ·rw [if_pos c1] at H
  have c1b0 := eq_true c1
  have c1b1 : decide (64 ≤ 281474976710656) = true := decide_eq_true c1
  clear c1
  obtain ⟨y161, hy161⟩ : ∃ y_ : List Int, y_ = (List.replicate 64 0) := ⟨_, rfl⟩
  replace H : ((group_Encode.f k 5 y158 (([strOfNums y161, (⟨#[]⟩ : ByteArray)] : List ByteArray))).bind fun bt168 => ((group_Decode.f k bt168.1).bind fun bt170 => (if bt168.2 = 0 then (if (bt168.1.size : Int) = 128 then (if bt170.2.2.2.2 = 0 then (if bt170.2.2.2.1 = 2 then (if bt170.1 = 5 then (if (bt170.2.1.length : Int) = 2 then (if 1 < (bt170.2.1.length : Int) then (if 1 < (y158.length : Int) then (some (((rd_T62 bt170.2.1 1).f0) == ((rd_T62 y158 1).f0) && (((rd_T62 bt170.2.1 1).f1) == ((rd_T62 y158 1).f1)))) else (none)) else (none)) else (some false)) else (some false)) else (some false)) else (some false)) else (some false)) else (some false)))) = some r := by first | (rw [hy161]; with_reducible exact H) | (have H2_ := (Option.bind_some _ _).symm.trans H; rw [hy161]; with_reducible exact H2_) | (have H2_ := (Option.bind_some _ _).symm.trans H; with_reducible exact H2_) | with_reducible exact H | (rw [hy161]; exact H) | exact H
  have Ny161 := Aside0.mk hy161
  clear hy161
  obtain ⟨y164, hy164⟩ : ∃ y_ : List ByteArray, y_ = (([strOfNums y161, (⟨#[]⟩ : ByteArray)] : List ByteArray)) := ⟨_, rfl⟩
  replace H : ((group_Encode.f k 5 y158 y164).bind fun bt168 => ((group_Decode.f k bt168.1).bind fun bt170 => (if bt168.2 = 0 then (if (bt168.1.size : Int) = 128 then (if bt170.2.2.2.2 = 0 then (if bt170.2.2.2.1 = 2 then (if bt170.1 = 5 then (if (bt170.2.1.length : Int) = 2 then (if 1 < (bt170.2.1.length : Int) then (if 1 < (y158.length : Int) then (some (((rd_T62 bt170.2.1 1).f0) == ((rd_T62 y158 1).f0) && (((rd_T62 bt170.2.1 1).f1) == ((rd_T62 y158 1).f1)))) else (none)) else (none)) else (some false)) else (some false)) else (some false)) else (some false)) else (some false)) else (some false)))) = some r := by first | (rw [hy164]; with_reducible exact H) | (have H2_ := (Option.bind_some _ _).symm.trans H; rw [hy164]; with_reducible exact H2_) | (have H2_ := (Option.bind_some _ _).symm.trans H; with_reducible exact H2_) | with_reducible exact H | (rw [hy164]; exact H) | exact H
  have Ny164 := Aside0.mk hy164
  clear hy164
  replace H := Option.bind_eq_some_iff.mp H
  obtain ⟨⟨t168, t169⟩, A20, H⟩ := H
  replace H : ((group_Decode.f k t168).bind fun bt170 => (if t169 = 0 then (if (t168.size : Int) = 128 then (if bt170.2.2.2.2 = 0 then (if bt170.2.2.2.1 = 2 then (if bt170.1 = 5 then (if (bt170.2.1.length : Int) = 2 then (if 1 < (bt170.2.1.length : Int) then (if 1 < (y158.length : Int) then (some (((rd_T62 bt170.2.1 1).f0) == ((rd_T62 y158 1).f0) && (((rd_T62 bt170.2.1 1).f1) == ((rd_T62 y158 1).f1)))) else (none)) else (none)) else (some false)) else (some false)) else (some false)) else (some false)) else (some false)) else (some false))) = some r := H
  have A2 := Aside0.mk A20
  clear A20
  replace H := Option.bind_eq_some_iff.mp H
  obtain ⟨⟨t170, t171, t174, t177, t178⟩, A30, H⟩ := H
  replace H : (if t169 = 0 then (if (t168.size : Int) = 128 then (if t178 = 0 then (if t177 = 2 then (if t170 = 5 then (if (t171.length : Int) = 2 then (if 1 < (t171.length : Int) then (if 1 < (y158.length : Int) then (some (((rd_T62 t171 1).f0) == ((rd_T62 y158 1).f0) && (((rd_T62 t171 1).f1) == ((rd_T62 y158 1).f1)))) else (none)) else (none)) else (some false)) else (some false)) else (some false)) else (some false)) else (some false)) else (some false)) = some r := H
  have A3 := Aside0.mk A30
  clear A30
  by_cases c4 : t169 = 0
  ·rw [if_pos c4] at H
   have c4b0 : (t169 == 0) = true := beq_iff_eq.mpr c4
   have c4b1 : (t169 != 0) = false := bne_eq_false_iff_eq.mpr c4
   clear c4
   by_cases c5 : (t168.size : Int) = 128
   ·rw [if_pos c5] at H
    have c5b0 : ((t168.size : Int) == 128) = true := beq_iff_eq.mpr c5
    have c5b1 : ((t168.size : Int) != 128) = false := bne_eq_false_iff_eq.mpr c5
    clear c5
    by_cases c6 : t178 = 0
    ·rw [if_pos c6] at H
     have c6b0 : (t178 == 0) = true := beq_iff_eq.mpr c6
     have c6b1 : (t178 != 0) = false := bne_eq_false_iff_eq.mpr c6
     clear c6
     by_cases c7 : t177 = 2
     ·rw [if_pos c7] at H
      have c7b0 : (t177 == 2) = true := beq_iff_eq.mpr c7
      have c7b1 : (t177 != 2) = false := bne_eq_false_iff_eq.mpr c7
      clear c7
      by_cases c8 : t170 = 5
      ·rw [if_pos c8] at H
       have c8b0 : (t170 == 5) = true := beq_iff_eq.mpr c8
       have c8b1 : (t170 != 5) = false := bne_eq_false_iff_eq.mpr c8
       clear c8
       by_cases c9 : (t171.length : Int) = 2
       ·rw [if_pos c9] at H
        have c9b0 : ((t171.length : Int) == 2) = true := beq_iff_eq.mpr c9
        have c9b1 : ((t171.length : Int) != 2) = false := bne_eq_false_iff_eq.mpr c9
        clear c9
        by_cases c10 : 1 < (t171.length : Int)
        ·rw [if_pos c10] at H
         have c10b0 : decide (1 < (t171.length : Int)) = true := decide_eq_true c10
         have c10b1 : decide (1 < t171.length) = true := decide_eq_true (by omega)
         clear c10
         by_cases c11 : 1 < (y158.length : Int)
         ·rw [if_pos c11] at H
          have c11b0 : decide (1 < (y158.length : Int)) = true := decide_eq_true c11
          have c11b1 : decide (1 < y158.length) = true := decide_eq_true (by omega)
          clear c11
          obtain rfl := Option.some.inj H
          go_enter Tryd.func22, Tryd.ntmps22
          go_wp2_with (first | ((with_reducible refine gate_dst (N := 9) rfl ?_); (try (refine gate_guard (by rfl) ?_; dsimp only)); refine Kd.R_lit k62 _ 62 ?hg (N := 9) ?hd (xs := ([(⟨3, false⟩ : S62), (⟨4, true⟩ : S62)] : List (S62))) (inner := [.int .i64 3, .bool false, .int .i64 4, .bool true]) (ok := fun _ => True) (okp := fun _ => True) ?hr ?hp (fun _ hk => hk) trivial (Below.refl _ _) (Nat.le_refl _) (by simp) ?_; (case hd => rfl); (case hg => rfl); (case hr => first | (go_simp; done) | (go_simp; rfl)); (case hp => exact (Reps.c2 (show Kd.M k62 _ _ _ (⟨3, false⟩ : S62) [.int .i64 3, .bool false] from (k62_mkM _ _ _ (⟨3, false⟩ : S62) )) (Reps.c2 (show Kd.M k62 _ _ _ (⟨4, true⟩ : S62) [.int .i64 4, .bool true] from (k62_mkM _ _ _ (⟨4, true⟩ : S62) )) (Reps.none _ _)))); intro v159 w12 ho13 hb hg_ hnew_; clear hg_ hnew_; (first | rw [← Ny158.out] at ho13 | (simp only [Int.reduceToNat] at ho13; rw [← Ny158.out] at ho13)); have n0_ := Aside0.mk (Kd.R_lower ho13 (bZ (by repeat (first | (with_reducible first | exact HB.out | apply bA | apply pN | apply bD) | exact HB.out)))); have n1_ := Aside0.mk (below_step (by repeat (first | (with_reducible first | exact HB.out | apply bA | apply pN | apply bD) | exact HB.out)) hb); clear HB; have HO160 := n0_; have HB := n1_; clear n0_ n1_; clear hb ho13) | ((with_reducible refine gate_dst (N := 10) rfl ?_); (try (refine gate_guard (by rfl) ?_; dsimp only)); refine Kd.R_make (Kd.int .u8) _ 5 rfl (N := 10) rfl 30 _ _ rfl 64 rfl rfl Tryd.underlying30 (.int .u8 0) 1 info5 rfl (by decide) (by omega) 0 (ok := fun _ => True) (okp := fun _ => True) rfl (fun _ hk => hk) trivial (by omega) (by omega) (Below.refl _ _) (Nat.le_refl _) ?_; intro v162 w14 ho15 hb hg_ hnew_; clear hg_ hnew_; (first | rw [← Ny161.out] at ho15 | (simp only [Int.reduceToNat] at ho15; rw [← Ny161.out] at ho15)); have n0_ := Aside0.mk (Kd.R_below (by (with_reducible repeat (first | apply rA | apply rN | apply Kd.R_drew)); exact HO160.out) hb); have n1_ := Aside0.mk (Kd.R_lower ho15 (bZ (by repeat (first | (with_reducible first | exact HB.out | apply bA | apply pN | apply bD) | exact HB.out)))); have n2_ := Aside0.mk (below_step (by repeat (first | (with_reducible first | exact HB.out | apply bA | apply pN | apply bD) | exact HB.out)) hb); clear HO160; clear HB; have HO160 := n0_; have HO163 := n1_; have HB := n2_; clear n0_ n1_ n2_; clear hb ho15; have hcv16 := own_string (P := Tryd.prog) Tryd.underlying30 Tryd.underlying5 Tryd.underlying9 (Kd.own_of_R HO163.out)) | ((with_reducible refine gate_dst (N := 12) rfl ?_); (try (refine gate_guard (by rfl) ?_; dsimp only)); refine Kd.R_lit Kd.string _ 9 ?hg (N := 12) ?hd (xs := ([strOfNums y161, (⟨#[]⟩ : ByteArray)] : List ByteArray)) (inner := [.string (strOfNums y161), .string (⟨#[]⟩ : ByteArray)]) (ok := fun _ => True) (okp := fun _ => True) ?hr ?hp (fun _ hk => hk) trivial (Below.refl _ _) (Nat.le_refl _) (by simp) ?_; (case hd => rfl); (case hg => rfl); (case hr => first | (go_simp; done) | (go_simp; rfl)); (case hp => exact (Reps.one (show Kd.M Kd.string _ _ _ (strOfNums y161) [.string (strOfNums y161)] from rfl) (Reps.one (show Kd.M Kd.string _ _ _ (⟨#[]⟩ : ByteArray) [.string (⟨#[]⟩ : ByteArray)] from rfl) (Reps.none _ _)))); intro v165 w17 ho18 hb hg_ hnew_; clear hg_ hnew_; (first | rw [← Ny164.out] at ho18 | (simp only [Int.reduceToNat] at ho18; rw [← Ny164.out] at ho18)); have n0_ := Aside0.mk (Kd.R_below (by (with_reducible repeat (first | apply rA | apply rN | apply Kd.R_drew)); exact HO160.out) hb); have n1_ := Aside0.mk (Kd.R_below (by (with_reducible repeat (first | apply rA | apply rN | apply Kd.R_drew)); exact HO163.out) hb); have n2_ := Aside0.mk (Kd.R_lower ho18 (bZ (by repeat (first | (with_reducible first | exact HB.out | apply bA | apply pN | apply bD) | exact HB.out)))); have n3_ := Aside0.mk (below_step (by repeat (first | (with_reducible first | exact HB.out | apply bA | apply pN | apply bD) | exact HB.out)) hb); clear HO160; clear HO163; clear HB; have HO160 := n0_; have HO163 := n1_; have HO166 := n2_; have HB := n3_; clear n0_ n1_ n2_ n3_; clear hb ho18; obtain ⟨Ao19, co19, eo19⟩ := Kd.R_slice HO166.out; subst eo19; obtain ⟨Ao20, co20, eo20⟩ := Kd.R_slice HO160.out; subst eo20) | ((with_reducible refine gate_dst (N := 1) rfl ?_); (try (refine gate_guard (by rfl) ?_; dsimp only)); refine box_event ?hg (N := 1) ?hd (cs := #[.int .i64 0, .slice none 0 0, .slice none 0 0]) (t := 42) ?hr ?_; (case hd => rfl); (case hg => rfl); (case hr => first | (go_simp; done) | (go_simp; rfl)); intro gb167 hg w21 hbox hb; have n0_ := Aside0.mk (Kd.R_below (by (with_reducible repeat (first | apply rA | apply rN | apply Kd.R_drew)); exact HO160.out) hb); have n1_ := Aside0.mk (Kd.R_below (by (with_reducible repeat (first | apply rA | apply rN | apply Kd.R_drew)); exact HO163.out) hb); have n2_ := Aside0.mk (Kd.R_below (by (with_reducible repeat (first | apply rA | apply rN | apply Kd.R_drew)); exact HO166.out) hb); have n3_ := Aside0.mk (below_step (by repeat (first | (with_reducible first | exact HB.out | apply bA | apply pN | apply bD) | exact HB.out)) hb); have n4_ := Aside0.mk (hbox); have n5_ := Aside0.mk ((by rw [hg]; exact (bZ (by repeat (first | (with_reducible first | exact HB.out | apply bA | apply pN | apply bD) | exact HB.out))) : w.heap.size ≤ gb167)); have n6_ := Aside0.mk ((by rw [hg]; exact (bZ (by repeat (first | (with_reducible first | exact HB.out | apply bA | apply pN | apply bD) | exact HB.out))) : w.heap.size ≤ gb167)); clear HO160; clear HO163; clear HO166; clear HB; have HO160 := n0_; have HO163 := n1_; have HO166 := n2_; have HB := n3_; have BK167 := n4_; have GW167 := n5_; have GE167 := n6_; clear n0_ n1_ n2_ n3_ n4_ n5_ n6_; clear hb hbox hg; have hcz22_0 : w21.cell? ⟨gb167, 0, none⟩ = some (.int .i64 0) := (blk_cell BK167.out 0).trans rfl; have hcz22_1 : w21.cell? ⟨gb167, 1, none⟩ = some (.slice none 0 0) := (blk_cell BK167.out 1).trans rfl; have hcz22_2 : w21.cell? ⟨gb167, 2, none⟩ = some (.slice none 0 0) := (blk_cell BK167.out 2).trans rfl; have hfz22_0 := blk_frozen BK167.out 0; have hfz22_1 := blk_frozen BK167.out 1; have hfz22_2 := blk_frozen BK167.out 2) | (go_at_call 24; (with_reducible refine (group_Encode.calls k 5 _ _ y158 _ _ y164 t168 t169 _ ?side1 ?side2 ?side3 ?side4 A2.out (HN.out.below (by repeat (first | (with_reducible first | exact HB.out | apply bA | apply pN | apply bD | refine bS ?_ GE167.out | refine bS ?_ GE179.out) | exact HB.out)) (Nat.lt_of_lt_of_le HN.out.lt (Nat.le_refl _)))).mono ?_); (case side1 => refine (Kd.R_reads' (e := 62) (base := w.heap.size) (ok := fun k_ => True) (n := y158.length) (c := co20) ?_).2.2; exact (by (with_reducible repeat (first | apply rA | apply rN | apply Kd.R_drew)); exact (Kd.R_mono (Kd.R_far (p := ⟨gb167, 2, none⟩) (Kd.R_far (p := ⟨gb167, 1, none⟩) (Kd.R_far (p := ⟨gb167, 0, none⟩) (Kd.R_types HO160.out BK167.out (by decide)) (fun _ hk => hk.2) (.int .i64 5)) (fun _ hk => hk.2) (.slice Ao20 y158.length co20)) (fun _ hk => hk.2) (.slice Ao19 y164.length co19)) (fun _ h_ => h_.1)))); (case side2 => exact (Kd.R_reads' HO160.out).2.1); (case side3 => refine (Kd.R_reads' (e := 9) (base := w.heap.size) (ok := fun k_ => True) (n := y164.length) (c := co19) ?_).2.2; exact (by (with_reducible repeat (first | apply rA | apply rN | apply Kd.R_drew)); exact (Kd.R_mono (Kd.R_far (p := ⟨gb167, 2, none⟩) (Kd.R_far (p := ⟨gb167, 1, none⟩) (Kd.R_far (p := ⟨gb167, 0, none⟩) (Kd.R_types HO166.out BK167.out (by decide)) (fun _ hk => hk.2) (.int .i64 5)) (fun _ hk => hk.2) (.slice Ao20 y158.length co20)) (fun _ hk => hk.2) (.slice Ao19 y164.length co19)) (fun _ h_ => h_.1)))); (case side4 => exact (Kd.R_reads' HO166.out).2.1); rintro e w23 ⟨rfl, hb⟩; have n0_ := Aside0.mk (Kd.R_below (by (with_reducible repeat (first | apply rA | apply rN | apply Kd.R_drew)); exact (Kd.R_mono (Kd.R_far (p := ⟨gb167, 2, none⟩) (Kd.R_far (p := ⟨gb167, 1, none⟩) (Kd.R_far (p := ⟨gb167, 0, none⟩) (Kd.R_types HO160.out BK167.out (by decide)) (fun _ hk => hk.2) (.int .i64 5)) (fun _ hk => hk.2) (.slice Ao20 y158.length co20)) (fun _ hk => hk.2) (.slice Ao19 y164.length co19)) (fun _ h_ => h_.1))) hb); have n1_ := Aside0.mk (Kd.R_below (by (with_reducible repeat (first | apply rA | apply rN | apply Kd.R_drew)); exact (Kd.R_mono (Kd.R_far (p := ⟨gb167, 2, none⟩) (Kd.R_far (p := ⟨gb167, 1, none⟩) (Kd.R_far (p := ⟨gb167, 0, none⟩) (Kd.R_types HO163.out BK167.out (by decide)) (fun _ hk => hk.2) (.int .i64 5)) (fun _ hk => hk.2) (.slice Ao20 y158.length co20)) (fun _ hk => hk.2) (.slice Ao19 y164.length co19)) (fun _ h_ => h_.1))) hb); have n2_ := Aside0.mk (Kd.R_below (by (with_reducible repeat (first | apply rA | apply rN | apply Kd.R_drew)); exact (Kd.R_mono (Kd.R_far (p := ⟨gb167, 2, none⟩) (Kd.R_far (p := ⟨gb167, 1, none⟩) (Kd.R_far (p := ⟨gb167, 0, none⟩) (Kd.R_types HO166.out BK167.out (by decide)) (fun _ hk => hk.2) (.int .i64 5)) (fun _ hk => hk.2) (.slice Ao20 y158.length co20)) (fun _ hk => hk.2) (.slice Ao19 y164.length co19)) (fun _ h_ => h_.1))) hb); have n3_ := Aside0.mk (kB (g := gb167) (o := .cells #[.int .i64 5, .slice Ao20 y158.length co20, .slice Ao19 y164.length co19] 42 (0, 0)) (by (with_reducible repeat (first | refine kN ?_ _ | refine blk_drew ?_ | refine kA ?_ _)); refine blk_put (cs := #[.int .i64 5, .slice Ao20 y158.length co20, .slice none 0 0]) ?_ 2 _ rfl; (with_reducible repeat (first | refine kN ?_ _ | refine blk_drew ?_ | refine kA ?_ _)); refine blk_put (cs := #[.int .i64 5, .slice none 0 0, .slice none 0 0]) ?_ 1 _ rfl; (with_reducible repeat (first | refine kN ?_ _ | refine blk_drew ?_ | refine kA ?_ _)); refine blk_put (cs := #[.int .i64 0, .slice none 0 0, .slice none 0 0]) ?_ 0 _ rfl; (with_reducible repeat (first | refine kN ?_ _ | refine blk_drew ?_ | refine kA ?_ _)); exact BK167.out) hb); have n4_ := Aside0.mk (below_step (by repeat (first | (with_reducible first | exact HB.out | apply bA | apply pN | apply bD | refine bS ?_ GE167.out) | exact HB.out)) hb); clear HO160; clear HO163; clear HO166; clear BK167; clear HB; have HO160 := n0_; have HO163 := n1_; have HO166 := n2_; have BK167 := n3_; have HB := n4_; clear n0_ n1_ n2_ n3_ n4_; (try clear hb); (try clear hb2); (try clear hk); (try clear hi)) | (go_at_call 27; (with_reducible refine (group_Decode.calls k t168 t170 t171 t174 t177 t178 _ A3.out (HN.out.below (by repeat (first | (with_reducible first | exact HB.out | apply bA | apply pN | apply bD | refine bS ?_ GE167.out | refine bS ?_ GE179.out) | exact HB.out)) (Nat.lt_of_lt_of_le HN.out.lt (Nat.le_refl _)))).mono ?_); rintro e w24 ⟨v172, v175, rfl, ho0, ho1, hb⟩; have n0_ := Aside0.mk (Kd.R_elder' (by (with_reducible repeat (first | apply rA | apply rN | apply Kd.R_drew)); exact HO160.out) (Kd.R_base ho0) hb); have n1_ := Aside0.mk (Kd.R_below (by (with_reducible repeat (first | apply rA | apply rN | apply Kd.R_drew)); exact HO163.out) hb); have n2_ := Aside0.mk (Kd.R_elder' (by (with_reducible repeat (first | apply rA | apply rN | apply Kd.R_drew)); exact HO166.out) (Kd.R_base ho1) hb); have n3_ := Aside0.mk (Kd.R_lower (Kd.R_new' ho0 (Kd.R_lt (by (with_reducible repeat (first | apply rA | apply rN | apply Kd.R_drew)); exact HO160.out))) (bZ (by repeat (first | (with_reducible first | exact HB.out | apply bA | apply pN | apply bD | refine bS ?_ GE167.out) | exact HB.out)))); have n4_ := Aside0.mk (Kd.R_lower (Kd.R_new' ho1 (Kd.R_lt (by (with_reducible repeat (first | apply rA | apply rN | apply Kd.R_drew)); exact HO166.out))) (bZ (by repeat (first | (with_reducible first | exact HB.out | apply bA | apply pN | apply bD | refine bS ?_ GE167.out) | exact HB.out)))); have n5_ := Aside0.mk (kB (g := gb167) (o := .cells #[.int .i64 5, .slice Ao20 y158.length co20, .slice Ao19 y164.length co19] 42 (0, 0)) (by (with_reducible repeat (first | refine kN ?_ _ | refine blk_drew ?_ | refine kA ?_ _)); exact BK167.out) hb); have n6_ := Aside0.mk (below_step (by repeat (first | (with_reducible first | exact HB.out | apply bA | apply pN | apply bD | refine bS ?_ GE167.out) | exact HB.out)) hb); clear HO160; clear HO163; clear HO166; clear BK167; clear HB; have HO160 := n0_; have HO163 := n1_; have HO166 := n2_; have HO173 := n3_; have HO176 := n4_; have BK167 := n5_; have HB := n6_; clear n0_ n1_ n2_ n3_ n4_ n5_ n6_; (try clear hb); (try clear hb2); (try clear hk); (try clear hi); (try clear ho0); (try clear ho1)) | ((with_reducible refine gate_dst (N := 4) rfl ?_); (try (refine gate_guard (by rfl) ?_; dsimp only)); refine box_event ?hg (N := 4) ?hd (cs := #[.int .i64 0, .slice none 0 0, .slice none 0 0]) (t := 42) ?hr ?_; (case hd => rfl); (case hg => rfl); (case hr => first | (go_simp; done) | (go_simp; rfl)); intro gb179 hg w25 hbox hb; have n0_ := Aside0.mk (Kd.R_below (by (with_reducible repeat (first | apply rA | apply rN | apply Kd.R_drew)); exact HO160.out) hb); have n1_ := Aside0.mk (Kd.R_below (by (with_reducible repeat (first | apply rA | apply rN | apply Kd.R_drew)); exact HO163.out) hb); have n2_ := Aside0.mk (Kd.R_below (by (with_reducible repeat (first | apply rA | apply rN | apply Kd.R_drew)); exact HO166.out) hb); have n3_ := Aside0.mk (Kd.R_below (by (with_reducible repeat (first | apply rA | apply rN | apply Kd.R_drew)); exact HO173.out) hb); have n4_ := Aside0.mk (Kd.R_below (by (with_reducible repeat (first | apply rA | apply rN | apply Kd.R_drew)); exact HO176.out) hb); have n5_ := Aside0.mk (kB (g := gb167) (o := .cells #[.int .i64 5, .slice Ao20 y158.length co20, .slice Ao19 y164.length co19] 42 (0, 0)) (by (with_reducible repeat (first | refine kN ?_ _ | refine blk_drew ?_ | refine kA ?_ _)); exact BK167.out) hb); have n6_ := Aside0.mk (below_step (by repeat (first | (with_reducible first | exact HB.out | apply bA | apply pN | apply bD | refine bS ?_ GE167.out) | exact HB.out)) hb); have n7_ := Aside0.mk (hbox); have n8_ := Aside0.mk ((by rw [hg]; exact (bZ (by repeat (first | (with_reducible first | exact HB.out | apply bA | apply pN | apply bD | refine bS ?_ GE167.out) | exact HB.out))) : w.heap.size ≤ gb179)); have n9_ := Aside0.mk ((by rw [hg]; exact (bZ (by repeat (first | (with_reducible first | exact HB.out | apply bA | apply pN | apply bD | refine bS ?_ GE167.out) | exact HB.out))) : w.heap.size ≤ gb179)); have n10_ := Aside0.mk ((by rw [hg]; exact Nat.ne_of_lt (blk_lt (g := gb167) (o := .cells #[.int .i64 5, .slice Ao20 y158.length co20, .slice Ao19 y164.length co19] 42 (0, 0)) (by (with_reducible repeat (first | refine kN ?_ _ | refine blk_drew ?_ | refine kA ?_ _)); exact BK167.out)) : gb167 ≠ gb179)); have n11_ := Aside0.mk ((by rw [hg]; exact Nat.ne_of_gt (blk_lt (g := gb167) (o := .cells #[.int .i64 5, .slice Ao20 y158.length co20, .slice Ao19 y164.length co19] 42 (0, 0)) (by (with_reducible repeat (first | refine kN ?_ _ | refine blk_drew ?_ | refine kA ?_ _)); exact BK167.out)) : gb179 ≠ gb167)); clear HO160; clear HO163; clear HO166; clear HO173; clear HO176; clear BK167; clear HB; have HO160 := n0_; have HO163 := n1_; have HO166 := n2_; have HO173 := n3_; have HO176 := n4_; have BK167 := n5_; have HB := n6_; have BK179 := n7_; have GW179 := n8_; have GE179 := n9_; have NB167_179 := n10_; have NB179_167 := n11_; clear n0_ n1_ n2_ n3_ n4_ n5_ n6_ n7_ n8_ n9_ n10_ n11_; clear hb hbox hg; have hnb26 := NB179_167.out; have hnc26 := NB167_179.out; have hcz27_0 : w25.cell? ⟨gb179, 0, none⟩ = some (.int .i64 0) := (blk_cell BK179.out 0).trans rfl; have hcz27_1 : w25.cell? ⟨gb179, 1, none⟩ = some (.slice none 0 0) := (blk_cell BK179.out 1).trans rfl; have hcz27_2 : w25.cell? ⟨gb179, 2, none⟩ = some (.slice none 0 0) := (blk_cell BK179.out 2).trans rfl; have hfz27_0 := blk_frozen BK179.out 0; have hfz27_1 := blk_frozen BK179.out 1; have hfz27_2 := blk_frozen BK179.out 2; obtain ⟨Ao28, co28, eo28⟩ := Kd.R_slice HO173.out; subst eo28; obtain ⟨Ao29, co29, eo29⟩ := Kd.R_slice HO176.out; subst eo29; have p180 : 0 ≤ (1 : Int) := (by omega); have q180 : 1 < (t171.length : Int) := of_decide_eq_true (by first | (with_reducible assumption) | assumption); obtain ⟨ad180, e180, hx180_0, hx180_1⟩ := at_T62 (Kd.R_reads' HO173.out).2.2 1 p180 q180; cases e180; (try simp only [show (1 : Int).toNat = 1 from rfl, Nat.reduceMul, Nat.reduceEqDiff, Go.Addr.add, ↓reduceIte] at hx180_0); (try simp only [show (1 : Int).toNat = 1 from rfl, Nat.reduceMul, Nat.reduceEqDiff, Go.Addr.add, ↓reduceIte] at hx180_1); have qi180 : (1 < t171.length) = True := eq_true (by omega); (try rw [show ((1 : Int)).toNat = 1 from rfl] at hx180_0); (try rw [show 1 * 2 = 2 from rfl] at hx180_0); (try rw [show ((1 : Int)).toNat = 1 from rfl] at hx180_1); (try rw [show 1 * 2 = 2 from rfl] at hx180_1); have hn180_0 : ad180.block ≠ gb179 := Kd.own_blk (Kd.R_ne HO173.out BK179.out (by decide)); have hn180_1 : ad180.block ≠ gb179 := Kd.own_blk (Kd.R_ne HO173.out BK179.out (by decide)); have hn180_2 : ad180.block ≠ gb179 := Kd.own_blk (Kd.R_ne HO173.out BK179.out (by decide)); replace hx180_0 := (cell_far (p := ⟨gb179, 0, none⟩) (by first | (rw [add_block]; exact hn180_0) | (show (Addr.add _ _).block ≠ _; rw [add_block]; exact hn180_0) | exact hn180_0) (.int .i64 t170)).trans hx180_0; replace hx180_1 := (cell_far (p := ⟨gb179, 0, none⟩) (by first | (rw [add_block]; exact hn180_0) | (show (Addr.add _ _).block ≠ _; rw [add_block]; exact hn180_0) | exact hn180_0) (.int .i64 t170)).trans hx180_1; replace hx180_0 := (cell_far (p := ⟨gb179, 1, none⟩) (by first | (rw [add_block]; exact hn180_1) | (show (Addr.add _ _).block ≠ _; rw [add_block]; exact hn180_1) | exact hn180_1) (.slice (some ad180) t171.length co28)).trans hx180_0; replace hx180_1 := (cell_far (p := ⟨gb179, 1, none⟩) (by first | (rw [add_block]; exact hn180_1) | (show (Addr.add _ _).block ≠ _; rw [add_block]; exact hn180_1) | exact hn180_1) (.slice (some ad180) t171.length co28)).trans hx180_1; replace hx180_0 := (cell_far (p := ⟨gb179, 2, none⟩) (by first | (rw [add_block]; exact hn180_2) | (show (Addr.add _ _).block ≠ _; rw [add_block]; exact hn180_2) | exact hn180_2) (.slice Ao29 t174.length co29)).trans hx180_0; replace hx180_1 := (cell_far (p := ⟨gb179, 2, none⟩) (by first | (rw [add_block]; exact hn180_2) | (show (Addr.add _ _).block ≠ _; rw [add_block]; exact hn180_2) | exact hn180_2) (.slice Ao29 t174.length co29)).trans hx180_1; (try have hy180_0 := fun (n_ : Nat) => (show (((((w25.drewN n_).setCell ⟨gb179, 0, none⟩ (.int .i64 t170)).setCell ⟨gb179, 1, none⟩ (.slice (some ad180) t171.length co28)).setCell ⟨gb179, 2, none⟩ (.slice Ao29 t174.length co29))).cell? _ = some _ from hx180_0)); (try have hy180_1 := fun (n_ : Nat) => (show (((((w25.drewN n_).setCell ⟨gb179, 0, none⟩ (.int .i64 t170)).setCell ⟨gb179, 1, none⟩ (.slice (some ad180) t171.length co28)).setCell ⟨gb179, 2, none⟩ (.slice Ao29 t174.length co29))).cell? _ = some _ from hx180_1)); clear hn180_0; clear hn180_1; clear hn180_2; replace p180 := eq_true p180; replace q180 := eq_true q180; have hcz30_0 : w25.cell? ⟨gb167, 0, none⟩ = some (.int .i64 5) := (blk_cell BK167.out 0).trans rfl; have hcz30_1 : w25.cell? ⟨gb167, 1, none⟩ = some (.slice Ao20 y158.length co20) := (blk_cell BK167.out 1).trans rfl; have hcz30_2 : w25.cell? ⟨gb167, 2, none⟩ = some (.slice Ao19 y164.length co19) := (blk_cell BK167.out 2).trans rfl; have hfz30_0 := blk_frozen BK167.out 0; have hfz30_1 := blk_frozen BK167.out 1; have hfz30_2 := blk_frozen BK167.out 2; have p181 : 0 ≤ (1 : Int) := (by omega); have q181 : 1 < (y158.length : Int) := of_decide_eq_true (by first | (with_reducible assumption) | assumption); obtain ⟨ad181, e181, hx181_0, hx181_1⟩ := at_T62 (Kd.R_reads' HO160.out).2.2 1 p181 q181; cases e181; (try simp only [show (1 : Int).toNat = 1 from rfl, Nat.reduceMul, Nat.reduceEqDiff, Go.Addr.add, ↓reduceIte] at hx181_0); (try simp only [show (1 : Int).toNat = 1 from rfl, Nat.reduceMul, Nat.reduceEqDiff, Go.Addr.add, ↓reduceIte] at hx181_1); have qi181 : (1 < y158.length) = True := eq_true (by omega); (try rw [show ((1 : Int)).toNat = 1 from rfl] at hx181_0); (try rw [show 1 * 2 = 2 from rfl] at hx181_0); (try rw [show ((1 : Int)).toNat = 1 from rfl] at hx181_1); (try rw [show 1 * 2 = 2 from rfl] at hx181_1); have hn181_0 : ad181.block ≠ gb179 := Kd.own_blk (Kd.R_ne HO160.out BK179.out (by decide)); have hn181_1 : ad181.block ≠ gb179 := Kd.own_blk (Kd.R_ne HO160.out BK179.out (by decide)); have hn181_2 : ad181.block ≠ gb179 := Kd.own_blk (Kd.R_ne HO160.out BK179.out (by decide)); replace hx181_0 := (cell_far (p := ⟨gb179, 0, none⟩) (by first | (rw [add_block]; exact hn181_0) | (show (Addr.add _ _).block ≠ _; rw [add_block]; exact hn181_0) | exact hn181_0) (.int .i64 t170)).trans hx181_0; replace hx181_1 := (cell_far (p := ⟨gb179, 0, none⟩) (by first | (rw [add_block]; exact hn181_0) | (show (Addr.add _ _).block ≠ _; rw [add_block]; exact hn181_0) | exact hn181_0) (.int .i64 t170)).trans hx181_1; replace hx181_0 := (cell_far (p := ⟨gb179, 1, none⟩) (by first | (rw [add_block]; exact hn181_1) | (show (Addr.add _ _).block ≠ _; rw [add_block]; exact hn181_1) | exact hn181_1) (.slice (some ad180) t171.length co28)).trans hx181_0; replace hx181_1 := (cell_far (p := ⟨gb179, 1, none⟩) (by first | (rw [add_block]; exact hn181_1) | (show (Addr.add _ _).block ≠ _; rw [add_block]; exact hn181_1) | exact hn181_1) (.slice (some ad180) t171.length co28)).trans hx181_1; replace hx181_0 := (cell_far (p := ⟨gb179, 2, none⟩) (by first | (rw [add_block]; exact hn181_2) | (show (Addr.add _ _).block ≠ _; rw [add_block]; exact hn181_2) | exact hn181_2) (.slice Ao29 t174.length co29)).trans hx181_0; replace hx181_1 := (cell_far (p := ⟨gb179, 2, none⟩) (by first | (rw [add_block]; exact hn181_2) | (show (Addr.add _ _).block ≠ _; rw [add_block]; exact hn181_2) | exact hn181_2) (.slice Ao29 t174.length co29)).trans hx181_1; (try have hy181_0 := fun (n_ : Nat) => (show (((((w25.drewN n_).setCell ⟨gb179, 0, none⟩ (.int .i64 t170)).setCell ⟨gb179, 1, none⟩ (.slice (some ad180) t171.length co28)).setCell ⟨gb179, 2, none⟩ (.slice Ao29 t174.length co29))).cell? _ = some _ from hx181_0)); (try have hy181_1 := fun (n_ : Nat) => (show (((((w25.drewN n_).setCell ⟨gb179, 0, none⟩ (.int .i64 t170)).setCell ⟨gb179, 1, none⟩ (.slice (some ad180) t171.length co28)).setCell ⟨gb179, 2, none⟩ (.slice Ao29 t174.length co29))).cell? _ = some _ from hx181_1)); clear hn181_0; clear hn181_1; clear hn181_2; replace p181 := eq_true p181; replace q181 := eq_true q181))
          repeat (go_quiet (fail); try go_wp2_with fail)
          go_ret
          exact ⟨by first | rfl | (simp [errW_none, errW_some] <;> rfl) | (simp [*, errW_none, errW_some] <;> rfl), by repeat (first | (with_reducible first | exact HB.out | apply bA | apply pN | apply bD | refine bS ?_ GE167.out | refine bS ?_ GE179.out) | exact HB.out)⟩
         ·rw [if_neg c11] at H
          exact absurd H (by simp)
        ·rw [if_neg c10] at H
         exact absurd H (by simp)
       ·rw [if_neg c9] at H
        exact absurd ((Option.some.inj H).trans HRT.out) (by decide)
      ·rw [if_neg c8] at H
       exact absurd ((Option.some.inj H).trans HRT.out) (by decide)
     ·rw [if_neg c7] at H
      exact absurd ((Option.some.inj H).trans HRT.out) (by decide)
    ·rw [if_neg c6] at H
     exact absurd ((Option.some.inj H).trans HRT.out) (by decide)
   ·rw [if_neg c5] at H
    exact absurd ((Option.some.inj H).trans HRT.out) (by decide)
  ·rw [if_neg c4] at H
   exact absurd ((Option.some.inj H).trans HRT.out) (by decide)
 ·rw [if_neg c1] at H
  exact absurd H (by simp)

/-! ### corbellaw18_given: given (function 23) -/
def gvE (bs : List Int) (ts : List Bool) (k : Nat) : List S62 := (List.range k).map fun j => ⟨bs.getD j 0, ts.getD j false⟩
def gvB (bs : List Int) (k : Nat) : List Int := (List.range k).map fun j => bs.getD j 0
def gvT (ts : List Bool) (k : Nat) : List Bool := (List.range k).map fun j => ts.getD j false
def gvD (ds : List ByteArray) (k : Nat) : List ByteArray := (List.range k).map fun j => cut8 (ds.getD j ⟨#[]⟩)
theorem gv_rows {α : Type} (f : Nat → α) (enc : α → List Value) (sz : Nat) (hs : ∀ x, (enc x).length = sz) (R : α → List Value → Prop) (hR : ∀ x, R x (enc x)) (k : Nat) : Reps R sz ((List.range k).map f) ((List.range k).flatMap fun j => enc (f j)) := by
 induction k with
 | zero => exact Reps.none _ _
 | succ k ih =>
  have := Reps.snoc ih (hR (f k)) (hs _)
  simpa [List.range_succ] using this
def corbellaw18_given.f (a0_0 : Int) (l0_1 : List Int) (l0_2 : List Bool) (l0_3 : List ByteArray) : Option (Int × (List (S62)) × List ByteArray × Int × List Int × List Bool × List ByteArray) :=
 if l0_3.all (fun s => decide (s.size ≤ 140737488355328)) = true then some (a0_0, gvE l0_1 l0_2 (min l0_1.length 9), gvD l0_3 (min l0_3.length 9), a0_0, gvB l0_1 (min l0_1.length 9), gvT l0_2 (min l0_1.length 9), gvD l0_3 (min l0_3.length 9)) else none
theorem gv_cell {α : Type} {d : Kd α} {enc : α → Value} {w : World} {A : Option Addr} {l : List α} (z : α) (h : Kd.C d w A l.length l) (hsz : d.sz = 1) (hK : ∀ x c, d.K w x c → c = [enc x]) (k : Nat) (hk : k < l.length) : ∃ ad, A = some ad ∧ w.cell? (ad.add k) = some (enc (l.getD k z)) := by
 obtain ⟨ad, c, e1, _, e3, e4⟩ := Kd.C_get h z (k : Int) (by omega) (by omega)
 rw [Int.toNat_natCast] at e3 e4
 have := e4 0 (enc (l.getD k z)) (by rw [hK _ _ e3]; rfl)
 rw [hsz, Nat.mul_one, Nat.add_zero] at this
 exact ⟨ad, e1, this⟩
theorem corbellaw18_given.calls (a0_0 : Int) (A0_1 : Option Addr) (c0_1 : Nat) (l0_1 : List Int) (A0_2 : Option Addr) (c0_2 : Nat) (l0_2 : List Bool) (A0_3 : Option Addr) (c0_3 : Nat) (l0_3 : List ByteArray) (r1 : Int) (r2 : List (S62)) (r3 : List ByteArray) (r4 : Int) (r5 : List Int) (r6 : List Bool) (r7 : List ByteArray) (w : World) (hr0_1 : Kd.C (Kd.int .i64) w A0_1 l0_1.length l0_1) (hc0_1 : l0_1.length ≤ c0_1) (hr0_2 : Kd.C Kd.bool w A0_2 l0_2.length l0_2) (hc0_2 : l0_2.length ≤ c0_2) (hr0_3 : Kd.C Kd.string w A0_3 l0_3.length l0_3) (hc0_3 : l0_3.length ≤ c0_3) (h : corbellaw18_given.f a0_0 l0_1 l0_2 l0_3 = some (r1, r2, r3, r4, r5, r6, r7)) :
  Calls Tryd.prog 23 #[.agg #[.int .i64 a0_0, .slice A0_1 l0_1.length c0_1, .slice A0_2 l0_2.length c0_2, .slice A0_3 l0_3.length c0_3]] w fun e w' => ∃ v1_ v2_ v4_ v5_ v6_ : Value, e = .returned (.tuple #[.agg #[.int .i64 r1, v1_, v2_], .agg #[.int .i64 r4, v4_, v5_, v6_]]) ∧ Kd.R k62 62 w' w.heap.size (fun _ => True) v1_ r2 ∧ Kd.R Kd.string 9 w' w.heap.size (fun k_ => some k_ ≠ (v6_ : Value).ownBlock) v2_ r3 ∧ Kd.R (Kd.int .i64) 3 w' w.heap.size (fun _ => True) v4_ r5 ∧ Kd.R Kd.bool 4 w' w.heap.size (fun _ => True) v5_ r6 ∧ Kd.R Kd.string 9 w' w.heap.size (fun k_ => some k_ ≠ (v2_ : Value).ownBlock) v6_ r7 ∧ Below w.heap.size w w' := by
 unfold corbellaw18_given.f at h
 split at h
 ·rename_i hs
  simp only [Option.some.injEq, Prod.mk.injEq] at h
  obtain ⟨rfl, rfl, rfl, rfl, rfl, rfl, rfl⟩ := h
  refine (given_any a0_0 A0_1 A0_2 A0_3 c0_1 c0_2 c0_3 l0_1 l0_2 l0_3 w (fun k hk => gv_cell 0 hr0_1 rfl (fun _ _ h => h) k hk) (fun k hk => gv_cell false hr0_2 rfl (fun _ _ h => h) k hk) (fun k hk => gv_cell ⟨#[]⟩ hr0_3 rfl (fun _ _ h => h) k hk) (Kd.C_max hr0_1) (Kd.C_max hr0_2) (Kd.C_max hr0_3) (fun k => ?_)).mono ?_
  ·by_cases hk : k < l0_3.length
   ·have := List.all_eq_true.1 hs _ (List.getElem_mem hk)
    rw [List.getD_eq_getElem?_getD, List.getElem?_eq_getElem hk]
    exact of_decide_eq_true this
   ·rw [List.getD_eq_getElem?_getD, List.getElem?_eq_none (by omega)]
    show 0 ≤ _
    omega
  ·rintro e w' ⟨ra, rs, rb, rt, rr, rfl, ⟨n1, n2, n3, n4, n5⟩, ⟨x1, x2, x3, x4, x5⟩, ⟨o1, o2, o3, o4, o5⟩, hap, hb⟩
   have own : ∀ {e s : Nat} {r : Rw}, Owns w' (w.heap.size + 5) e s r → w'.ownsRow w.heap.size e s r.v r.n r.xs := fun h => own_weaken h (by omega)
   have len : ∀ {β : Type} (f : Nat → β) (k : Nat), ((List.range k).map f).length = k := fun f k => by simp
   have one : ∀ {β : Type} (f : Nat → β) (enc : β → Value) (k : Nat), ((List.range k).map fun j => enc (f j)) = (List.range k).flatMap fun j => [enc (f j)] := fun f enc k => by
    induction k with
    | zero => rfl
    | succ k ih => simp [List.range_succ, ih]
   refine ⟨ra.v, rs.v, rb.v, rt.v, rr.v, rfl, ⟨fun _ _ => trivial, ra.xs, ?_, ?_⟩, ⟨fun k hk => ?_, rs.xs, ?_, ?_⟩, ⟨fun _ _ => trivial, rb.xs, ?_, ?_⟩, ⟨fun _ _ => trivial, rt.xs, ?_, ?_⟩, ⟨fun k hk => ?_, rr.xs, ?_, ?_⟩, hb⟩
   ·have := own o1; rw [n1] at this; unfold gvE; rw [len]; exact this
   ·rw [x1]; exact gv_rows (fun j => (⟨l0_1.getD j 0, l0_2.getD j false⟩ : S62)) (fun x => [.int .i64 x.f0, .bool x.f1]) 2 (fun _ => rfl) _ (fun x => k62_mkM _ _ _ x) _
   ·exact fun e => hap k hk e.symm
   ·have := own o2; rw [n4] at this; unfold gvD; rw [len]; exact this
   ·rw [x4]; unfold dsC; rw [one]; exact gv_rows (fun j => cut8 (l0_3.getD j ⟨#[]⟩)) (fun x => [.string x]) 1 (fun _ => rfl) (Kd.M Kd.string w' w.heap.size _) (fun x => rfl) _
   ·have := own o3; rw [n2] at this; unfold gvB; rw [len]; exact this
   ·rw [x2]; unfold bsC; rw [one (fun j => l0_1.getD j 0) (Value.int .i64)]; exact gv_rows (fun j => l0_1.getD j 0) (fun x => [.int .i64 x]) 1 (fun _ => rfl) (Kd.M (Kd.int .i64) w' w.heap.size _) (fun x => rfl) _
   ·have := own o4; rw [n3] at this; unfold gvT; rw [len]; exact this
   ·rw [x3]; unfold tsC; rw [one (fun j => l0_2.getD j false) Value.bool]; exact gv_rows (fun j => l0_2.getD j false) (fun x => [.bool x]) 1 (fun _ => rfl) (Kd.M Kd.bool w' w.heap.size _) (fun x => rfl) _
   ·exact fun e => hap k e.symm hk
   ·have := own o5; rw [n5] at this; unfold gvD; rw [len]; exact this
   ·rw [x5]; unfold dsC; rw [one]; exact gv_rows (fun j => cut8 (l0_3.getD j ⟨#[]⟩)) (fun x => [.string x]) 1 (fun _ => rfl) (Kd.M Kd.string w' w.heap.size _) (fun x => rfl) _
 ·cases h

/-! ### corbelref01_Put: given (function 37) -/
def corbelref01_Put.f (a0 a1 : Int) : Option ByteArray := if 1 ≤ a1 ∧ a1 ≤ 7 ∧ 0 ≤ a0 ∧ a0.toNat < 256 ^ a1.toNat ∧ a0 ≤ 9223372036854775807 then some (str (be a1.toNat a0.toNat)) else none
theorem corbelref01_Put.calls (a0 a1 : Int) (r : ByteArray) (w : World) (h : corbelref01_Put.f a0 a1 = some r) :
  Calls Tryd.prog 37 #[.int .i64 a0, .int .i64 a1] w fun e w' => e = .returned (.string r) ∧ Below w.heap.size w w' := by
 unfold corbelref01_Put.f at h
 split at h
 ·rename_i hs
  obtain ⟨h1, h2, h3, h4, h5⟩ := hs
  obtain rfl := Option.some.inj h
  obtain ⟨n, rfl⟩ := Int.eq_ofNat_of_zero_le h3
  obtain ⟨m, rfl⟩ := Int.eq_ofNat_of_zero_le (show 0 ≤ a1 by omega)
  rw [Int.toNat_natCast, Int.toNat_natCast] at *
  exact refPut_any n m w (by omega) (by omega) h4 (by omega)
 ·cases h
def corbelref02_Sum.f (a0 : ByteArray) : Option Int := if a0.size ≤ 9223372036854775807 then some ((crcL a0.data.toList).toNat : Int) else none
theorem corbelref02_Sum.calls (a0 : ByteArray) (r : Int) (w : World) (h : corbelref02_Sum.f a0 = some r) :
  Calls Tryd.prog 38 #[.string a0] w fun e w' => e = .returned (.int .u32 r) ∧ Drawn0 w w' := by
 unfold corbelref02_Sum.f at h
 split at h
 ·rename_i hs
  obtain rfl := Option.some.inj h
  exact (refSum_any a0 w hs).mono fun _ _ ⟨he, hw⟩ => ⟨he, ⟨0, by rw [← hw]; rfl⟩⟩
 ·cases h

/-! ### corbelref02_Sum: given (function 38) -/

end Go.Proofs.YticpjnpafmehaaaDoor.U
