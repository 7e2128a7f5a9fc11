-- printed by a program of a session (wip/tools/printx.py) over the kit's print; not typed by hand
import Derived.Test.YticpjnpafmehaaaDoorUx0
import Derived.Test.YticpjnpafmehaaaDoorUx4
import Derived.Test.YticpjnpafmehaaaDoorUx5
import Derived.Test.YticpjnpafmehaaaDoorUx6
import Derived.Test.YticpjnpafmehaaaDoorUM
import Derived.Test.YticpjnpafmehaaaDoorUx8
namespace Go.Proofs.YticpjnpafmehaaaDoor.U
open Go.RowKit Go.Proofs.YticpjnpafmehaaaDoorW.PrintWords Go.Proofs.YticpjnpafmehaaaDoorW.PrintLast Go.Proofs.YticpjnpafmehaaaDoorW.PrintMore
open Go.Proofs.YticpjnpafmehaaaDoorW.PrintWords.Kd renaming R_alloc → rA, R_drewN → rN
open Go.Proofs.YticpjnpafmehaaaDoorW.PrintWords renaming pw_below_drewN → pN, below_alloc → bA, below_drew1 → bD, below_set → bS, blk_drewN → kN, blk_alloc → kA, below_size → bZ, blk_below → kB
attribute [local go_sem] max2_int min2_int max_two min_two max_three min_three max_four min_four   -- for this text's walks alone
set_option linter.unusedVariables false
set_option linter.unusedSimpArgs false

/-! ### corbellaw18_GroupEncodes: function 9 -/
def corbellaw18_GroupEncodes.l0 : Nat → ByteArray → Int → ByteArray → Int → Int → Int → List (S62) → List ByteArray → Int → List Int → List Bool → List ByteArray → Option (Bool)
 | 0, _, _, _, _, _, _, _, _, _, _, _, _ => none
 | k + 1, x5, x6, x7, x8, x9, x219000, x219001, x219002, x220000, x220001, x220002, x220003 => if x9 < (x220002.length : Int) then (if 0 ≤ x9 then (if rdOf false x220002 x9 = true then (corbellaw18_GroupEncodes.l0 k x5 x6 x7 x8 (wrap64 (x9 + 1)) x219000 x219001 x219002 x220000 x220001 x220002 x220003) else (corbellaw18_GroupEncodes.l0 k x5 x6 x7 (wrap64 (x8 + 1)) (wrap64 (x9 + 1)) x219000 x219001 x219002 x220000 x220001 x220002 x220003)) else (none)) else (if x5.toList = x7.toList then (if ((x6 == 0) == (x7.toList != ([] : List UInt8))) = true then (if x6 = 0 then ((group_Blocks.f k x219001).bind fun t224 => (some (t224 == x8))) else (if x6 = 1 then ((group_Blocks.f k x219001).bind fun t225 => (some (t225 == x8))) else (some false))) else (some false)) else (some false))
def corbellaw18_GroupEncodes.f (k : Nat) (a0_0 : Int) (l0_1 : List Int) (l0_2 : List Bool) (l0_3 : List ByteArray) : Option (Bool) := (corbellaw18_speaks.f k).bind fun t200 => (if t200 = true then ((corbellaw18_given.f a0_0 l0_1 l0_2 l0_3).bind fun bt201 => ((group_Encode.f k bt201.1 bt201.2.1 bt201.2.2.1).bind fun bt220 => ((corbelref18_Encode.f k bt201.2.2.2.1 bt201.2.2.2.2.1 bt201.2.2.2.2.2.1 bt201.2.2.2.2.2.2).bind fun t222 => (corbellaw18_GroupEncodes.l0 k bt220.1 bt220.2 t222 1 0 bt201.1 bt201.2.1 bt201.2.2.1 bt201.2.2.2.1 bt201.2.2.2.2.1 bt201.2.2.2.2.2.1 bt201.2.2.2.2.2.2)))) else (some false))
theorem corbellaw18_GroupEncodes.mono_l : ∀ k, (∀ y0 y1 y2 y3 y4 y5 y6 y7 y8 y9 y10 y11, LeO (corbellaw18_GroupEncodes.l0 k y0 y1 y2 y3 y4 y5 y6 y7 y8 y9 y10 y11) (corbellaw18_GroupEncodes.l0 (k + 1) y0 y1 y2 y3 y4 y5 y6 y7 y8 y9 y10 y11))
 | 0 => fun _ _ _ _ _ _ _ _ _ _ _ _ r h => by simp [corbellaw18_GroupEncodes.l0] at h
 | k + 1 => by
  have ih0 := corbellaw18_GroupEncodes.mono_l k
  ·intro y0 y1 y2 y3 y4 y5 y6 y7 y8 y9 y10 y11
   unfold corbellaw18_GroupEncodes.l0
   repeat' first
   | (with_reducible exact ih0 _ _ _ _ _ _ _ _ _ _ _ _)
   | (with_reducible exact corbellaw18_speaks.mono _)
   | (with_reducible exact corbelref18_Encode.mono _ _ _ _ _)
   | (with_reducible exact group_Blocks.mono _ _)
   | (with_reducible exact group_Encode.mono _ _ _ _)
   | (with_reducible exact LeO.refl _)
   | (with_reducible exact LeO.none _)
   | (with_reducible refine LeO.ite ?_ ?_)
   | (with_reducible refine LeO.bind ?_ (fun _ => ?_))
   | exact ih0 _ _ _ _ _ _ _ _ _ _ _ _
   | exact corbellaw18_speaks.mono _
   | exact corbelref18_Encode.mono _ _ _ _ _
   | exact group_Blocks.mono _ _
   | exact group_Encode.mono _ _ _ _
   | exact LeO.none _
   | refine LeO.ite ?_ ?_
   | refine LeO.bind ?_ (fun _ => ?_)
theorem corbellaw18_GroupEncodes.mono : ∀ a0 a1 a2 a3 k, LeO (corbellaw18_GroupEncodes.f k a0 a1 a2 a3) (corbellaw18_GroupEncodes.f (k + 1) a0 a1 a2 a3) := by
 intro a0 a1 a2 a3 k
 have ih0 := corbellaw18_GroupEncodes.mono_l k
 unfold corbellaw18_GroupEncodes.f
 repeat' first
   | (with_reducible exact ih0 _ _ _ _ _ _ _ _ _ _ _ _)
   | (with_reducible exact corbellaw18_speaks.mono _)
   | (with_reducible exact corbelref18_Encode.mono _ _ _ _ _)
   | (with_reducible exact group_Blocks.mono _ _)
   | (with_reducible exact group_Encode.mono _ _ _ _)
   | (with_reducible exact LeO.refl _)
   | (with_reducible exact LeO.none _)
   | (with_reducible refine LeO.ite ?_ ?_)
   | (with_reducible refine LeO.bind ?_ (fun _ => ?_))
   | exact ih0 _ _ _ _ _ _ _ _ _ _ _ _
   | exact corbellaw18_speaks.mono _
   | exact corbelref18_Encode.mono _ _ _ _ _
   | exact group_Blocks.mono _ _
   | exact group_Encode.mono _ _ _ _
   | exact LeO.none _
   | refine LeO.ite ?_ ?_
   | refine LeO.bind ?_ (fun _ => ?_)
set_option maxHeartbeats 8000000 in
set_option maxRecDepth 100000 in
theorem corbellaw18_GroupEncodes.calls (k : Nat) (a0_0 : Int) (A0_1 : Option Addr) (c0_1 : Nat) (l0_1 : List Int) (A0_2 : Option Addr) (c0_2 : Nat) (l0_2 : List Bool) (A0_3 : Option Addr) (c0_3 : Nat) (l0_3 : List ByteArray) (r : Bool) (w : World) (hr0_1 : Kd.C (Kd.int .i64) w A0_1 l0_1.length l0_1) (hc0_1 : l0_1.length ≤ c0_1) (hr0_2 : Kd.C Kd.bool w A0_2 l0_2.length l0_2) (hc0_2 : l0_2.length ≤ c0_2) (hr0_3 : Kd.C Kd.string w A0_3 l0_3.length l0_3) (hc0_3 : l0_3.length ≤ c0_3) (h : corbellaw18_GroupEncodes.f k a0_0 l0_1 l0_2 l0_3 = some r) (hr : r = true) (hN : TabIn w) :
  Calls Tryd.prog 9 #[.agg #[.int .i64 a0_0, .slice A0_1 l0_1.length c0_1, .slice A0_2 l0_2.length c0_2, .slice A0_3 l0_3.length c0_3]] w fun e w' => e = .returned (.bool r) ∧ Below w.heap.size w w' := by
 have HRT := Aside0.mk hr
 clear hr
 have hu39 := Tryd.underlying39
 have hu42 := Tryd.underlying42
 have hu43 := Tryd.underlying43
 have HR0_1 := Aside0.mk hr0_1
 have HC0_1 := Aside0.mk hc0_1
 clear hr0_1 hc0_1
 have HR0_2 := Aside0.mk hr0_2
 have HC0_2 := Aside0.mk hc0_2
 clear hr0_2 hc0_2
 have HR0_3 := Aside0.mk hr0_3
 have HC0_3 := Aside0.mk hc0_3
 clear hr0_3 hc0_3
 have HB := Aside0.mk (Below.refl w.heap.size w)
 have HN := Aside0.mk hN
 clear hN
 have H : ((corbellaw18_speaks.f k).bind fun t200 => (if t200 = true then ((corbellaw18_given.f a0_0 l0_1 l0_2 l0_3).bind fun bt201 => ((group_Encode.f k bt201.1 bt201.2.1 bt201.2.2.1).bind fun bt220 => ((corbelref18_Encode.f k bt201.2.2.2.1 bt201.2.2.2.2.1 bt201.2.2.2.2.2.1 bt201.2.2.2.2.2.2).bind fun t222 => (corbellaw18_GroupEncodes.l0 k bt220.1 bt220.2 t222 1 0 bt201.1 bt201.2.1 bt201.2.2.1 bt201.2.2.2.1 bt201.2.2.2.2.1 bt201.2.2.2.2.2.1 bt201.2.2.2.2.2.2)))) else (some false))) = some r := h
 clear h
 replace H := Option.bind_eq_some_iff.mp H
 obtain ⟨t200, A20, H⟩ := H
 replace H : (if t200 = true then ((corbellaw18_given.f a0_0 l0_1 l0_2 l0_3).bind fun bt201 => ((group_Encode.f k bt201.1 bt201.2.1 bt201.2.2.1).bind fun bt220 => ((corbelref18_Encode.f k bt201.2.2.2.1 bt201.2.2.2.2.1 bt201.2.2.2.2.2.1 bt201.2.2.2.2.2.2).bind fun t222 => (corbellaw18_GroupEncodes.l0 k bt220.1 bt220.2 t222 1 0 bt201.1 bt201.2.1 bt201.2.2.1 bt201.2.2.2.1 bt201.2.2.2.2.1 bt201.2.2.2.2.2.1 bt201.2.2.2.2.2.2)))) else (some false)) = some r := H
 have A2 := Aside0.mk A20
 clear A20
 by_cases c3 : t200 = true
 ·subst c3
  have H1 : ((corbellaw18_given.f a0_0 l0_1 l0_2 l0_3).bind fun bt201 => ((group_Encode.f k bt201.1 bt201.2.1 bt201.2.2.1).bind fun bt220 => ((corbelref18_Encode.f k bt201.2.2.2.1 bt201.2.2.2.2.1 bt201.2.2.2.2.2.1 bt201.2.2.2.2.2.2).bind fun t222 => (corbellaw18_GroupEncodes.l0 k bt220.1 bt220.2 t222 1 0 bt201.1 bt201.2.1 bt201.2.2.1 bt201.2.2.2.1 bt201.2.2.2.2.1 bt201.2.2.2.2.2.1 bt201.2.2.2.2.2.2)))) = some r := by rw [if_pos rfl] at H; exact H
  clear H
  have H := H1
  clear H1
  replace H := Option.bind_eq_some_iff.mp H
  obtain ⟨⟨t201, t202, t205, t208, t209, t212, t215⟩, A40, H⟩ := H
  replace H : ((group_Encode.f k t201 t202 t205).bind fun bt220 => ((corbelref18_Encode.f k t208 t209 t212 t215).bind fun t222 => (corbellaw18_GroupEncodes.l0 k bt220.1 bt220.2 t222 1 0 t201 t202 t205 t208 t209 t212 t215))) = some r := H
  have A4 := Aside0.mk A40
  clear A40
  replace H := Option.bind_eq_some_iff.mp H
  obtain ⟨⟨t220, t221⟩, A50, H⟩ := H
  replace H : ((corbelref18_Encode.f k t208 t209 t212 t215).bind fun t222 => (corbellaw18_GroupEncodes.l0 k t220 t221 t222 1 0 t201 t202 t205 t208 t209 t212 t215)) = some r := H
  have A5 := Aside0.mk A50
  clear A50
  replace H := Option.bind_eq_some_iff.mp H
  obtain ⟨t222, A60, H⟩ := H
  replace H : (corbellaw18_GroupEncodes.l0 k t220 t221 t222 1 0 t201 t202 t205 t208 t209 t212 t215) = some r := H
  have A6 := Aside0.mk A60
  clear A60
  have H' := Aside0.mk H
  clear H
  go_enter Tryd.func9, Tryd.ntmps9
  go_wp2_with (first | ((with_reducible refine gate_dst (N := 1) rfl ?_); refine box_event ?hg (N := 1) ?hd (cs := #[.int .i64 a0_0, .slice A0_1 l0_1.length c0_1, .slice A0_2 l0_2.length c0_2, .slice A0_3 l0_3.length c0_3]) (t := 39) ?hr ?_; (case hd => rfl); (case hg => rfl); (case hr => first | (go_simp; done) | (go_simp; rfl)); intro gb199 hg w7 hbox hb; have n0_ := Aside0.mk (below_step (by repeat (first | (with_reducible first | exact HB.out | apply bA | apply pN | apply bD) | exact HB.out)) hb); have n1_ := Aside0.mk (hbox); have n2_ := Aside0.mk ((by rw [hg]; exact (bZ (by repeat (first | (with_reducible first | exact HB.out | apply bA | apply pN | apply bD) | exact HB.out))) : w.heap.size ≤ gb199)); have n3_ := Aside0.mk ((by rw [hg]; exact (bZ (by repeat (first | (with_reducible first | exact HB.out | apply bA | apply pN | apply bD) | exact HB.out))) : w.heap.size ≤ gb199)); clear HB; have HB := n0_; have BK199 := n1_; have GW199 := n2_; have GE199 := n3_; clear n0_ n1_ n2_ n3_; clear hb hbox hg) | ((with_reducible refine gate_callee (f := 22) rfl ?_); refine goesL_ (some 10) rfl rfl Tryd.func22 (by kernel_rfl) rfl #[] rfl (by (try simp only [List.map_toArray, List.map_cons, List.map_nil]); first | done | rfl | (simp only [List.length_drop, List.length_take]; rfl)) ?_; (with_reducible refine (corbellaw18_speaks.calls k  true _ A2.out (HN.out.below (by repeat (first | (with_reducible first | exact HB.out | apply bA | apply pN | apply bD | refine bS ?_ GE199.out | refine bS ?_ GE218.out | refine bS ?_ GE219.out) | exact HB.out)) (Nat.lt_of_lt_of_le HN.out.lt (Nat.le_refl _)))).mono ?_); rintro e w8 ⟨rfl, hb⟩; refine ⟨_, rfl, ?_⟩; have n0_ := Aside0.mk (kB (g := gb199) (o := .cells #[.int .i64 a0_0, .slice A0_1 l0_1.length c0_1, .slice A0_2 l0_2.length c0_2, .slice A0_3 l0_3.length c0_3] 39 (0, 0)) (by (with_reducible repeat (first | refine kN ?_ _ | refine blk_drew ?_ | refine kA ?_ _)); exact BK199.out) hb); have n1_ := Aside0.mk (below_step (by repeat (first | (with_reducible first | exact HB.out | apply bA | apply pN | apply bD | refine bS ?_ GE199.out) | exact HB.out)) hb); clear BK199; clear HB; have BK199 := n0_; have HB := n1_; clear n0_ n1_; (try clear hb); (try clear hb2); (try clear hk); (try clear hi); have hcz9_0 : w8.cell? ⟨gb199, 0, none⟩ = some (.int .i64 a0_0) := (blk_cell BK199.out 0).trans rfl; have hcz9_1 : w8.cell? ⟨gb199, 1, none⟩ = some (.slice A0_1 l0_1.length c0_1) := (blk_cell BK199.out 1).trans rfl; have hcz9_2 : w8.cell? ⟨gb199, 2, none⟩ = some (.slice A0_2 l0_2.length c0_2) := (blk_cell BK199.out 2).trans rfl; have hcz9_3 : w8.cell? ⟨gb199, 3, none⟩ = some (.slice A0_3 l0_3.length c0_3) := (blk_cell BK199.out 3).trans rfl; have hfz9_0 := blk_frozen BK199.out 0; have hfz9_1 := blk_frozen BK199.out 1; have hfz9_2 := blk_frozen BK199.out 2; have hfz9_3 := blk_frozen BK199.out 3) | ((with_reducible refine gate_callee (f := 23) rfl ?_); refine goesL_ (some 14) rfl rfl Tryd.func23 (by kernel_rfl) rfl #[.agg #[.int .i64 a0_0, .slice A0_1 l0_1.length c0_1, .slice A0_2 l0_2.length c0_2, .slice A0_3 l0_3.length c0_3]] rfl (by (try simp only [List.map_toArray, List.map_cons, List.map_nil]); first | done | rfl | (simp only [List.length_drop, List.length_take]; rfl)) ?_; (with_reducible refine (corbellaw18_given.calls a0_0 _ _ l0_1 _ _ l0_2 _ _ l0_3 t201 t202 t205 t208 t209 t212 t215 _ ?side1 ?side2 ?side3 ?side4 ?side5 ?side6 A4.out).mono ?_); (case side1 => repeat (first | exact (Kd.C_below HR0_1.out HB.out) | (with_reducible refine Kd.C_alloc ?_ _) | (with_reducible refine Kd.C_drewN ?_ _) | (with_reducible refine Kd.C_drew ?_))); (case side2 => exact HC0_1.out); (case side3 => repeat (first | exact (Kd.C_below HR0_2.out HB.out) | (with_reducible refine Kd.C_alloc ?_ _) | (with_reducible refine Kd.C_drewN ?_ _) | (with_reducible refine Kd.C_drew ?_))); (case side4 => exact HC0_2.out); (case side5 => repeat (first | exact (Kd.C_below HR0_3.out HB.out) | (with_reducible refine Kd.C_alloc ?_ _) | (with_reducible refine Kd.C_drewN ?_ _) | (with_reducible refine Kd.C_drew ?_))); (case side6 => exact HC0_3.out); rintro e w10 ⟨v203, v206, v210, v213, v216, rfl, ho0, ho1, ho2, ho3, ho4, hb⟩; refine ⟨_, rfl, ?_⟩; have n0_ := Aside0.mk (Kd.R_lower ho0 (bZ (by repeat (first | (with_reducible first | exact HB.out | apply bA | apply pN | apply bD | refine bS ?_ GE199.out) | exact HB.out)))); have n1_ := Aside0.mk (Kd.R_lower ho1 (bZ (by repeat (first | (with_reducible first | exact HB.out | apply bA | apply pN | apply bD | refine bS ?_ GE199.out) | exact HB.out)))); have n2_ := Aside0.mk (Kd.R_lower ho2 (bZ (by repeat (first | (with_reducible first | exact HB.out | apply bA | apply pN | apply bD | refine bS ?_ GE199.out) | exact HB.out)))); have n3_ := Aside0.mk (Kd.R_lower ho3 (bZ (by repeat (first | (with_reducible first | exact HB.out | apply bA | apply pN | apply bD | refine bS ?_ GE199.out) | exact HB.out)))); have n4_ := Aside0.mk (Kd.R_lower ho4 (bZ (by repeat (first | (with_reducible first | exact HB.out | apply bA | apply pN | apply bD | refine bS ?_ GE199.out) | exact HB.out)))); have n5_ := Aside0.mk (kB (g := gb199) (o := .cells #[.int .i64 a0_0, .slice A0_1 l0_1.length c0_1, .slice A0_2 l0_2.length c0_2, .slice A0_3 l0_3.length c0_3] 39 (0, 0)) (by (with_reducible repeat (first | refine kN ?_ _ | refine blk_drew ?_ | refine kA ?_ _)); exact BK199.out) hb); have n6_ := Aside0.mk (below_step (by repeat (first | (with_reducible first | exact HB.out | apply bA | apply pN | apply bD | refine bS ?_ GE199.out) | exact HB.out)) hb); clear BK199; clear HB; have HO204 := n0_; have HO207 := n1_; have HO211 := n2_; have HO214 := n3_; have HO217 := n4_; have BK199 := n5_; have HB := n6_; clear n0_ n1_ n2_ n3_ n4_ n5_ n6_; (try clear hb); (try clear hb2); (try clear hk); (try clear hi); (try clear ho0); (try clear ho1); (try clear ho2); (try clear ho3); (try clear ho4)) | ((with_reducible refine gate_dst (N := 3) rfl ?_); refine box_event ?hg (N := 3) ?hd (cs := #[.int .i64 0, .slice none 0 0, .slice none 0 0]) (t := 42) ?hr ?_; (case hd => rfl); (case hg => rfl); (case hr => first | (go_simp; done) | (go_simp; rfl)); intro gb218 hg w11 hbox hb; have n0_ := Aside0.mk (Kd.R_below (by (with_reducible repeat (first | apply rA | apply rN | apply Kd.R_drew)); exact HO204.out) hb); have n1_ := Aside0.mk (Kd.R_below (by (with_reducible repeat (first | apply rA | apply rN | apply Kd.R_drew)); exact HO207.out) hb); have n2_ := Aside0.mk (Kd.R_below (by (with_reducible repeat (first | apply rA | apply rN | apply Kd.R_drew)); exact HO211.out) hb); have n3_ := Aside0.mk (Kd.R_below (by (with_reducible repeat (first | apply rA | apply rN | apply Kd.R_drew)); exact HO214.out) hb); have n4_ := Aside0.mk (Kd.R_below (by (with_reducible repeat (first | apply rA | apply rN | apply Kd.R_drew)); exact HO217.out) hb); have n5_ := Aside0.mk (kB (g := gb199) (o := .cells #[.int .i64 a0_0, .slice A0_1 l0_1.length c0_1, .slice A0_2 l0_2.length c0_2, .slice A0_3 l0_3.length c0_3] 39 (0, 0)) (by (with_reducible repeat (first | refine kN ?_ _ | refine blk_drew ?_ | refine kA ?_ _)); exact BK199.out) hb); have n6_ := Aside0.mk (below_step (by repeat (first | (with_reducible first | exact HB.out | apply bA | apply pN | apply bD | refine bS ?_ GE199.out) | exact HB.out)) hb); have n7_ := Aside0.mk (hbox); have n8_ := Aside0.mk ((by rw [hg]; exact (bZ (by repeat (first | (with_reducible first | exact HB.out | apply bA | apply pN | apply bD | refine bS ?_ GE199.out) | exact HB.out))) : w.heap.size ≤ gb218)); have n9_ := Aside0.mk ((by rw [hg]; exact (bZ (by repeat (first | (with_reducible first | exact HB.out | apply bA | apply pN | apply bD | refine bS ?_ GE199.out) | exact HB.out))) : w.heap.size ≤ gb218)); have n10_ := Aside0.mk ((by rw [hg]; exact Nat.ne_of_lt (blk_lt (g := gb199) (o := .cells #[.int .i64 a0_0, .slice A0_1 l0_1.length c0_1, .slice A0_2 l0_2.length c0_2, .slice A0_3 l0_3.length c0_3] 39 (0, 0)) (by (with_reducible repeat (first | refine kN ?_ _ | refine blk_drew ?_ | refine kA ?_ _)); exact BK199.out)) : gb199 ≠ gb218)); have n11_ := Aside0.mk ((by rw [hg]; exact Nat.ne_of_gt (blk_lt (g := gb199) (o := .cells #[.int .i64 a0_0, .slice A0_1 l0_1.length c0_1, .slice A0_2 l0_2.length c0_2, .slice A0_3 l0_3.length c0_3] 39 (0, 0)) (by (with_reducible repeat (first | refine kN ?_ _ | refine blk_drew ?_ | refine kA ?_ _)); exact BK199.out)) : gb218 ≠ gb199)); clear HO204; clear HO207; clear HO211; clear HO214; clear HO217; clear BK199; clear HB; have HO204 := n0_; have HO207 := n1_; have HO211 := n2_; have HO214 := n3_; have HO217 := n4_; have BK199 := n5_; have HB := n6_; have BK218 := n7_; have GW218 := n8_; have GE218 := n9_; have NB199_218 := n10_; have NB218_199 := n11_; clear n0_ n1_ n2_ n3_ n4_ n5_ n6_ n7_ n8_ n9_ n10_ n11_; clear hb hbox hg) | ((with_reducible refine gate_dst (N := 4) rfl ?_); refine box_event ?hg (N := 4) ?hd (cs := #[.int .i64 0, .slice none 0 0, .slice none 0 0, .slice none 0 0]) (t := 43) ?hr ?_; (case hd => rfl); (case hg => rfl); (case hr => first | (go_simp; done) | (go_simp; rfl)); intro gb219 hg w12 hbox hb; have n0_ := Aside0.mk (Kd.R_below (by (with_reducible repeat (first | apply rA | apply rN | apply Kd.R_drew)); exact HO204.out) hb); have n1_ := Aside0.mk (Kd.R_below (by (with_reducible repeat (first | apply rA | apply rN | apply Kd.R_drew)); exact HO207.out) hb); have n2_ := Aside0.mk (Kd.R_below (by (with_reducible repeat (first | apply rA | apply rN | apply Kd.R_drew)); exact HO211.out) hb); have n3_ := Aside0.mk (Kd.R_below (by (with_reducible repeat (first | apply rA | apply rN | apply Kd.R_drew)); exact HO214.out) hb); have n4_ := Aside0.mk (Kd.R_below (by (with_reducible repeat (first | apply rA | apply rN | apply Kd.R_drew)); exact HO217.out) hb); have n5_ := Aside0.mk (kB (g := gb199) (o := .cells #[.int .i64 a0_0, .slice A0_1 l0_1.length c0_1, .slice A0_2 l0_2.length c0_2, .slice A0_3 l0_3.length c0_3] 39 (0, 0)) (by (with_reducible repeat (first | refine kN ?_ _ | refine blk_drew ?_ | refine kA ?_ _)); exact BK199.out) hb); have n6_ := Aside0.mk (kB (g := gb218) (o := .cells #[.int .i64 0, .slice none 0 0, .slice none 0 0] 42 (0, 0)) (by (with_reducible repeat (first | refine kN ?_ _ | refine blk_drew ?_ | refine kA ?_ _)); exact BK218.out) hb); have n7_ := Aside0.mk (below_step (by repeat (first | (with_reducible first | exact HB.out | apply bA | apply pN | apply bD | refine bS ?_ GE199.out | refine bS ?_ GE218.out) | exact HB.out)) hb); have n8_ := Aside0.mk (hbox); have n9_ := Aside0.mk ((by rw [hg]; exact (bZ (by repeat (first | (with_reducible first | exact HB.out | apply bA | apply pN | apply bD | refine bS ?_ GE199.out | refine bS ?_ GE218.out) | exact HB.out))) : w.heap.size ≤ gb219)); have n10_ := Aside0.mk ((by rw [hg]; exact (bZ (by repeat (first | (with_reducible first | exact HB.out | apply bA | apply pN | apply bD | refine bS ?_ GE199.out | refine bS ?_ GE218.out) | exact HB.out))) : w.heap.size ≤ gb219)); have n11_ := Aside0.mk ((by rw [hg]; exact Nat.ne_of_lt (blk_lt (g := gb199) (o := .cells #[.int .i64 a0_0, .slice A0_1 l0_1.length c0_1, .slice A0_2 l0_2.length c0_2, .slice A0_3 l0_3.length c0_3] 39 (0, 0)) (by (with_reducible repeat (first | refine kN ?_ _ | refine blk_drew ?_ | refine kA ?_ _)); exact BK199.out)) : gb199 ≠ gb219)); have n12_ := Aside0.mk ((by rw [hg]; exact Nat.ne_of_gt (blk_lt (g := gb199) (o := .cells #[.int .i64 a0_0, .slice A0_1 l0_1.length c0_1, .slice A0_2 l0_2.length c0_2, .slice A0_3 l0_3.length c0_3] 39 (0, 0)) (by (with_reducible repeat (first | refine kN ?_ _ | refine blk_drew ?_ | refine kA ?_ _)); exact BK199.out)) : gb219 ≠ gb199)); have n13_ := Aside0.mk ((by rw [hg]; exact Nat.ne_of_lt (blk_lt (g := gb218) (o := .cells #[.int .i64 0, .slice none 0 0, .slice none 0 0] 42 (0, 0)) (by (with_reducible repeat (first | refine kN ?_ _ | refine blk_drew ?_ | refine kA ?_ _)); exact BK218.out)) : gb218 ≠ gb219)); have n14_ := Aside0.mk ((by rw [hg]; exact Nat.ne_of_gt (blk_lt (g := gb218) (o := .cells #[.int .i64 0, .slice none 0 0, .slice none 0 0] 42 (0, 0)) (by (with_reducible repeat (first | refine kN ?_ _ | refine blk_drew ?_ | refine kA ?_ _)); exact BK218.out)) : gb219 ≠ gb218)); clear HO204; clear HO207; clear HO211; clear HO214; clear HO217; clear BK199; clear BK218; clear HB; have HO204 := n0_; have HO207 := n1_; have HO211 := n2_; have HO214 := n3_; have HO217 := n4_; have BK199 := n5_; have BK218 := n6_; have HB := n7_; have BK219 := n8_; have GW219 := n9_; have GE219 := n10_; have NB199_219 := n11_; have NB219_199 := n12_; have NB218_219 := n13_; have NB219_218 := n14_; clear n0_ n1_ n2_ n3_ n4_ n5_ n6_ n7_ n8_ n9_ n10_ n11_ n12_ n13_ n14_; clear hb hbox hg; have hnb13 := NB218_199.out; have hnc13 := NB199_218.out; have hnb14 := NB218_219.out; have hnc14 := NB219_218.out; have hcz15_0 : w12.cell? ⟨gb218, 0, none⟩ = some (.int .i64 0) := (blk_cell BK218.out 0).trans rfl; have hcz15_1 : w12.cell? ⟨gb218, 1, none⟩ = some (.slice none 0 0) := (blk_cell BK218.out 1).trans rfl; have hcz15_2 : w12.cell? ⟨gb218, 2, none⟩ = some (.slice none 0 0) := (blk_cell BK218.out 2).trans rfl; have hfz15_0 := blk_frozen BK218.out 0; have hfz15_1 := blk_frozen BK218.out 1; have hfz15_2 := blk_frozen BK218.out 2; obtain ⟨Ao16, co16, eo16⟩ := Kd.R_slice HO204.out; subst eo16; obtain ⟨Ao17, co17, eo17⟩ := Kd.R_slice HO207.out; subst eo17; have hnb18 := NB219_199.out; have hnc18 := NB199_219.out; have hcz19_0 : w12.cell? ⟨gb219, 0, none⟩ = some (.int .i64 0) := (blk_cell BK219.out 0).trans rfl; have hcz19_1 : w12.cell? ⟨gb219, 1, none⟩ = some (.slice none 0 0) := (blk_cell BK219.out 1).trans rfl; have hcz19_2 : w12.cell? ⟨gb219, 2, none⟩ = some (.slice none 0 0) := (blk_cell BK219.out 2).trans rfl; have hcz19_3 : w12.cell? ⟨gb219, 3, none⟩ = some (.slice none 0 0) := (blk_cell BK219.out 3).trans rfl; have hfz19_0 := blk_frozen BK219.out 0; have hfz19_1 := blk_frozen BK219.out 1; have hfz19_2 := blk_frozen BK219.out 2; have hfz19_3 := blk_frozen BK219.out 3; obtain ⟨Ao20, co20, eo20⟩ := Kd.R_slice HO211.out; subst eo20; obtain ⟨Ao21, co21, eo21⟩ := Kd.R_slice HO214.out; subst eo21; obtain ⟨Ao22, co22, eo22⟩ := Kd.R_slice HO217.out; subst eo22) | ((with_reducible refine gate_callee (f := 24) rfl ?_); refine goesL_ (some 19) rfl rfl Tryd.func24 (by kernel_rfl) rfl #[.agg #[.int .i64 t201, .slice Ao16 t202.length co16, .slice Ao17 t205.length co17]] rfl (by (try simp only [List.map_toArray, List.map_cons, List.map_nil]); first | done | rfl | (simp only [List.length_drop, List.length_take]; rfl)) ?_; (with_reducible refine (group_Encode.calls k t201 _ _ t202 _ _ t205 t220 t221 _ ?side1 ?side2 ?side3 ?side4 A5.out (HN.out.below (by repeat (first | (with_reducible first | exact HB.out | apply bA | apply pN | apply bD | refine bS ?_ GE199.out | refine bS ?_ GE218.out | refine bS ?_ GE219.out) | exact HB.out)) (Nat.lt_of_lt_of_le HN.out.lt (Nat.le_refl _)))).mono ?_); (case side1 => refine (Kd.R_reads' (e := 62) (base := w.heap.size) (ok := fun k_ => True) (n := t202.length) (c := co16) ?_).2.2; exact (by (with_reducible repeat (first | apply rA | apply rN | apply Kd.R_drew)); exact (Kd.R_mono (Kd.R_mono (Kd.R_far (p := ⟨gb219, 3, none⟩) (Kd.R_far (p := ⟨gb219, 2, none⟩) (Kd.R_far (p := ⟨gb219, 1, none⟩) (Kd.R_far (p := ⟨gb219, 0, none⟩) (Kd.R_far (p := ⟨gb218, 2, none⟩) (Kd.R_far (p := ⟨gb218, 1, none⟩) (Kd.R_far (p := ⟨gb218, 0, none⟩) (Kd.R_types (Kd.R_types HO204.out BK218.out (by decide)) BK219.out (by decide)) (fun _ hk => hk.1.2) (.int .i64 t201)) (fun _ hk => hk.1.2) (.slice Ao16 t202.length co16)) (fun _ hk => hk.1.2) (.slice Ao17 t205.length co17)) (fun _ hk => hk.2) (.int .i64 t208)) (fun _ hk => hk.2) (.slice Ao20 t209.length co20)) (fun _ hk => hk.2) (.slice Ao21 t212.length co21)) (fun _ hk => hk.2) (.slice Ao22 t215.length co22)) (fun _ h_ => h_.1)) (fun _ h_ => h_.1)))); (case side2 => exact (Kd.R_reads' HO204.out).2.1); (case side3 => refine (Kd.R_reads' (e := 9) (base := w.heap.size) (ok := fun k_ => some k_ ≠ (.slice Ao22 t215.length co22 : Value).ownBlock) (n := t205.length) (c := co17) ?_).2.2; exact (by (with_reducible repeat (first | apply rA | apply rN | apply Kd.R_drew)); exact (Kd.R_mono (Kd.R_mono (Kd.R_far (p := ⟨gb219, 3, none⟩) (Kd.R_far (p := ⟨gb219, 2, none⟩) (Kd.R_far (p := ⟨gb219, 1, none⟩) (Kd.R_far (p := ⟨gb219, 0, none⟩) (Kd.R_far (p := ⟨gb218, 2, none⟩) (Kd.R_far (p := ⟨gb218, 1, none⟩) (Kd.R_far (p := ⟨gb218, 0, none⟩) (Kd.R_types (Kd.R_types HO207.out BK218.out (by decide)) BK219.out (by decide)) (fun _ hk => hk.1.2) (.int .i64 t201)) (fun _ hk => hk.1.2) (.slice Ao16 t202.length co16)) (fun _ hk => hk.1.2) (.slice Ao17 t205.length co17)) (fun _ hk => hk.2) (.int .i64 t208)) (fun _ hk => hk.2) (.slice Ao20 t209.length co20)) (fun _ hk => hk.2) (.slice Ao21 t212.length co21)) (fun _ hk => hk.2) (.slice Ao22 t215.length co22)) (fun _ h_ => h_.1)) (fun _ h_ => h_.1)))); (case side4 => exact (Kd.R_reads' HO207.out).2.1); rintro e w23 ⟨rfl, hb⟩; refine ⟨_, rfl, ?_⟩; have n0_ := Aside0.mk (Kd.R_below (by (with_reducible repeat (first | apply rA | apply rN | apply Kd.R_drew)); exact (Kd.R_mono (Kd.R_mono (Kd.R_far (p := ⟨gb219, 3, none⟩) (Kd.R_far (p := ⟨gb219, 2, none⟩) (Kd.R_far (p := ⟨gb219, 1, none⟩) (Kd.R_far (p := ⟨gb219, 0, none⟩) (Kd.R_far (p := ⟨gb218, 2, none⟩) (Kd.R_far (p := ⟨gb218, 1, none⟩) (Kd.R_far (p := ⟨gb218, 0, none⟩) (Kd.R_types (Kd.R_types HO204.out BK218.out (by decide)) BK219.out (by decide)) (fun _ hk => hk.1.2) (.int .i64 t201)) (fun _ hk => hk.1.2) (.slice Ao16 t202.length co16)) (fun _ hk => hk.1.2) (.slice Ao17 t205.length co17)) (fun _ hk => hk.2) (.int .i64 t208)) (fun _ hk => hk.2) (.slice Ao20 t209.length co20)) (fun _ hk => hk.2) (.slice Ao21 t212.length co21)) (fun _ hk => hk.2) (.slice Ao22 t215.length co22)) (fun _ h_ => h_.1)) (fun _ h_ => h_.1))) hb); have n1_ := Aside0.mk (Kd.R_below (by (with_reducible repeat (first | apply rA | apply rN | apply Kd.R_drew)); exact (Kd.R_mono (Kd.R_mono (Kd.R_far (p := ⟨gb219, 3, none⟩) (Kd.R_far (p := ⟨gb219, 2, none⟩) (Kd.R_far (p := ⟨gb219, 1, none⟩) (Kd.R_far (p := ⟨gb219, 0, none⟩) (Kd.R_far (p := ⟨gb218, 2, none⟩) (Kd.R_far (p := ⟨gb218, 1, none⟩) (Kd.R_far (p := ⟨gb218, 0, none⟩) (Kd.R_types (Kd.R_types HO207.out BK218.out (by decide)) BK219.out (by decide)) (fun _ hk => hk.1.2) (.int .i64 t201)) (fun _ hk => hk.1.2) (.slice Ao16 t202.length co16)) (fun _ hk => hk.1.2) (.slice Ao17 t205.length co17)) (fun _ hk => hk.2) (.int .i64 t208)) (fun _ hk => hk.2) (.slice Ao20 t209.length co20)) (fun _ hk => hk.2) (.slice Ao21 t212.length co21)) (fun _ hk => hk.2) (.slice Ao22 t215.length co22)) (fun _ h_ => h_.1)) (fun _ h_ => h_.1))) hb); have n2_ := Aside0.mk (Kd.R_below (by (with_reducible repeat (first | apply rA | apply rN | apply Kd.R_drew)); exact (Kd.R_mono (Kd.R_mono (Kd.R_far (p := ⟨gb219, 3, none⟩) (Kd.R_far (p := ⟨gb219, 2, none⟩) (Kd.R_far (p := ⟨gb219, 1, none⟩) (Kd.R_far (p := ⟨gb219, 0, none⟩) (Kd.R_far (p := ⟨gb218, 2, none⟩) (Kd.R_far (p := ⟨gb218, 1, none⟩) (Kd.R_far (p := ⟨gb218, 0, none⟩) (Kd.R_types (Kd.R_types HO211.out BK218.out (by decide)) BK219.out (by decide)) (fun _ hk => hk.1.2) (.int .i64 t201)) (fun _ hk => hk.1.2) (.slice Ao16 t202.length co16)) (fun _ hk => hk.1.2) (.slice Ao17 t205.length co17)) (fun _ hk => hk.2) (.int .i64 t208)) (fun _ hk => hk.2) (.slice Ao20 t209.length co20)) (fun _ hk => hk.2) (.slice Ao21 t212.length co21)) (fun _ hk => hk.2) (.slice Ao22 t215.length co22)) (fun _ h_ => h_.1)) (fun _ h_ => h_.1))) hb); have n3_ := Aside0.mk (Kd.R_below (by (with_reducible repeat (first | apply rA | apply rN | apply Kd.R_drew)); exact (Kd.R_mono (Kd.R_mono (Kd.R_far (p := ⟨gb219, 3, none⟩) (Kd.R_far (p := ⟨gb219, 2, none⟩) (Kd.R_far (p := ⟨gb219, 1, none⟩) (Kd.R_far (p := ⟨gb219, 0, none⟩) (Kd.R_far (p := ⟨gb218, 2, none⟩) (Kd.R_far (p := ⟨gb218, 1, none⟩) (Kd.R_far (p := ⟨gb218, 0, none⟩) (Kd.R_types (Kd.R_types HO214.out BK218.out (by decide)) BK219.out (by decide)) (fun _ hk => hk.1.2) (.int .i64 t201)) (fun _ hk => hk.1.2) (.slice Ao16 t202.length co16)) (fun _ hk => hk.1.2) (.slice Ao17 t205.length co17)) (fun _ hk => hk.2) (.int .i64 t208)) (fun _ hk => hk.2) (.slice Ao20 t209.length co20)) (fun _ hk => hk.2) (.slice Ao21 t212.length co21)) (fun _ hk => hk.2) (.slice Ao22 t215.length co22)) (fun _ h_ => h_.1)) (fun _ h_ => h_.1))) hb); have n4_ := Aside0.mk (Kd.R_below (by (with_reducible repeat (first | apply rA | apply rN | apply Kd.R_drew)); exact (Kd.R_mono (Kd.R_mono (Kd.R_far (p := ⟨gb219, 3, none⟩) (Kd.R_far (p := ⟨gb219, 2, none⟩) (Kd.R_far (p := ⟨gb219, 1, none⟩) (Kd.R_far (p := ⟨gb219, 0, none⟩) (Kd.R_far (p := ⟨gb218, 2, none⟩) (Kd.R_far (p := ⟨gb218, 1, none⟩) (Kd.R_far (p := ⟨gb218, 0, none⟩) (Kd.R_types (Kd.R_types HO217.out BK218.out (by decide)) BK219.out (by decide)) (fun _ hk => hk.1.2) (.int .i64 t201)) (fun _ hk => hk.1.2) (.slice Ao16 t202.length co16)) (fun _ hk => hk.1.2) (.slice Ao17 t205.length co17)) (fun _ hk => hk.2) (.int .i64 t208)) (fun _ hk => hk.2) (.slice Ao20 t209.length co20)) (fun _ hk => hk.2) (.slice Ao21 t212.length co21)) (fun _ hk => hk.2) (.slice Ao22 t215.length co22)) (fun _ h_ => h_.1)) (fun _ h_ => h_.1))) hb); have n5_ := Aside0.mk (kB (g := gb199) (o := .cells #[.int .i64 a0_0, .slice A0_1 l0_1.length c0_1, .slice A0_2 l0_2.length c0_2, .slice A0_3 l0_3.length c0_3] 39 (0, 0)) (by (with_reducible repeat (first | refine kN ?_ _ | refine blk_drew ?_ | refine kA ?_ _)); refine blk_far ?_ NB199_219.out _; (with_reducible repeat (first | refine kN ?_ _ | refine blk_drew ?_ | refine kA ?_ _)); refine blk_far ?_ NB199_219.out _; (with_reducible repeat (first | refine kN ?_ _ | refine blk_drew ?_ | refine kA ?_ _)); refine blk_far ?_ NB199_219.out _; (with_reducible repeat (first | refine kN ?_ _ | refine blk_drew ?_ | refine kA ?_ _)); refine blk_far ?_ NB199_219.out _; (with_reducible repeat (first | refine kN ?_ _ | refine blk_drew ?_ | refine kA ?_ _)); refine blk_far ?_ NB199_218.out _; (with_reducible repeat (first | refine kN ?_ _ | refine blk_drew ?_ | refine kA ?_ _)); refine blk_far ?_ NB199_218.out _; (with_reducible repeat (first | refine kN ?_ _ | refine blk_drew ?_ | refine kA ?_ _)); refine blk_far ?_ NB199_218.out _; (with_reducible repeat (first | refine kN ?_ _ | refine blk_drew ?_ | refine kA ?_ _)); exact BK199.out) hb); have n6_ := Aside0.mk (kB (g := gb218) (o := .cells #[.int .i64 t201, .slice Ao16 t202.length co16, .slice Ao17 t205.length co17] 42 (0, 0)) (by (with_reducible repeat (first | refine kN ?_ _ | refine blk_drew ?_ | refine kA ?_ _)); refine blk_far ?_ NB218_219.out _; (with_reducible repeat (first | refine kN ?_ _ | refine blk_drew ?_ | refine kA ?_ _)); refine blk_far ?_ NB218_219.out _; (with_reducible repeat (first | refine kN ?_ _ | refine blk_drew ?_ | refine kA ?_ _)); refine blk_far ?_ NB218_219.out _; (with_reducible repeat (first | refine kN ?_ _ | refine blk_drew ?_ | refine kA ?_ _)); refine blk_far ?_ NB218_219.out _; (with_reducible repeat (first | refine kN ?_ _ | refine blk_drew ?_ | refine kA ?_ _)); refine blk_put (cs := #[.int .i64 t201, .slice Ao16 t202.length co16, .slice none 0 0]) ?_ 2 _ rfl; (with_reducible repeat (first | refine kN ?_ _ | refine blk_drew ?_ | refine kA ?_ _)); refine blk_put (cs := #[.int .i64 t201, .slice none 0 0, .slice none 0 0]) ?_ 1 _ rfl; (with_reducible repeat (first | refine kN ?_ _ | refine blk_drew ?_ | refine kA ?_ _)); refine blk_put (cs := #[.int .i64 0, .slice none 0 0, .slice none 0 0]) ?_ 0 _ rfl; (with_reducible repeat (first | refine kN ?_ _ | refine blk_drew ?_ | refine kA ?_ _)); exact BK218.out) hb); have n7_ := Aside0.mk (kB (g := gb219) (o := .cells #[.int .i64 t208, .slice Ao20 t209.length co20, .slice Ao21 t212.length co21, .slice Ao22 t215.length co22] 43 (0, 0)) (by (with_reducible repeat (first | refine kN ?_ _ | refine blk_drew ?_ | refine kA ?_ _)); refine blk_put (cs := #[.int .i64 t208, .slice Ao20 t209.length co20, .slice Ao21 t212.length co21, .slice none 0 0]) ?_ 3 _ rfl; (with_reducible repeat (first | refine kN ?_ _ | refine blk_drew ?_ | refine kA ?_ _)); refine blk_put (cs := #[.int .i64 t208, .slice Ao20 t209.length co20, .slice none 0 0, .slice none 0 0]) ?_ 2 _ rfl; (with_reducible repeat (first | refine kN ?_ _ | refine blk_drew ?_ | refine kA ?_ _)); refine blk_put (cs := #[.int .i64 t208, .slice none 0 0, .slice none 0 0, .slice none 0 0]) ?_ 1 _ rfl; (with_reducible repeat (first | refine kN ?_ _ | refine blk_drew ?_ | refine kA ?_ _)); refine blk_put (cs := #[.int .i64 0, .slice none 0 0, .slice none 0 0, .slice none 0 0]) ?_ 0 _ rfl; (with_reducible repeat (first | refine kN ?_ _ | refine blk_drew ?_ | refine kA ?_ _)); refine blk_far ?_ NB219_218.out _; (with_reducible repeat (first | refine kN ?_ _ | refine blk_drew ?_ | refine kA ?_ _)); refine blk_far ?_ NB219_218.out _; (with_reducible repeat (first | refine kN ?_ _ | refine blk_drew ?_ | refine kA ?_ _)); refine blk_far ?_ NB219_218.out _; (with_reducible repeat (first | refine kN ?_ _ | refine blk_drew ?_ | refine kA ?_ _)); exact BK219.out) hb); have n8_ := Aside0.mk (below_step (by repeat (first | (with_reducible first | exact HB.out | apply bA | apply pN | apply bD | refine bS ?_ GE199.out | refine bS ?_ GE218.out | refine bS ?_ GE219.out) | exact HB.out)) hb); clear HO204; clear HO207; clear HO211; clear HO214; clear HO217; clear BK199; clear BK218; clear BK219; clear HB; have HO204 := n0_; have HO207 := n1_; have HO211 := n2_; have HO214 := n3_; have HO217 := n4_; have BK199 := n5_; have BK218 := n6_; have BK219 := n7_; have HB := n8_; clear n0_ n1_ n2_ n3_ n4_ n5_ n6_ n7_ n8_; (try clear hb); (try clear hb2); (try clear hk); (try clear hi); have hcz24_0 : w23.cell? ⟨gb219, 0, none⟩ = some (.int .i64 t208) := (blk_cell BK219.out 0).trans rfl; have hcz24_1 : w23.cell? ⟨gb219, 1, none⟩ = some (.slice Ao20 t209.length co20) := (blk_cell BK219.out 1).trans rfl; have hcz24_2 : w23.cell? ⟨gb219, 2, none⟩ = some (.slice Ao21 t212.length co21) := (blk_cell BK219.out 2).trans rfl; have hcz24_3 : w23.cell? ⟨gb219, 3, none⟩ = some (.slice Ao22 t215.length co22) := (blk_cell BK219.out 3).trans rfl; have hfz24_0 := blk_frozen BK219.out 0; have hfz24_1 := blk_frozen BK219.out 1; have hfz24_2 := blk_frozen BK219.out 2; have hfz24_3 := blk_frozen BK219.out 3) | ((with_reducible refine gate_callee (f := 25) rfl ?_); refine goesL_ (some 23) rfl rfl Tryd.func25 (by kernel_rfl) rfl #[.agg #[.int .i64 t208, .slice Ao20 t209.length co20, .slice Ao21 t212.length co21, .slice Ao22 t215.length co22]] rfl (by (try simp only [List.map_toArray, List.map_cons, List.map_nil]); first | done | rfl | (simp only [List.length_drop, List.length_take]; rfl)) ?_; (with_reducible refine (corbelref18_Encode.calls k t208 _ _ t209 _ _ t212 _ _ t215 t222 _ ?side1 ?side2 ?side3 ?side4 ?side5 ?side6 A6.out).mono ?_); (case side1 => repeat (first | exact (Kd.R_reads' HO211.out).2.2 | (with_reducible refine Kd.C_alloc ?_ _) | (with_reducible refine Kd.C_drewN ?_ _) | (with_reducible refine Kd.C_drew ?_))); (case side2 => exact (Kd.R_reads' HO211.out).2.1); (case side3 => repeat (first | exact (Kd.R_reads' HO214.out).2.2 | (with_reducible refine Kd.C_alloc ?_ _) | (with_reducible refine Kd.C_drewN ?_ _) | (with_reducible refine Kd.C_drew ?_))); (case side4 => exact (Kd.R_reads' HO214.out).2.1); (case side5 => repeat (first | exact (Kd.R_reads' HO217.out).2.2 | (with_reducible refine Kd.C_alloc ?_ _) | (with_reducible refine Kd.C_drewN ?_ _) | (with_reducible refine Kd.C_drew ?_))); (case side6 => exact (Kd.R_reads' HO217.out).2.1); rintro e w25 ⟨rfl, hb⟩; refine ⟨_, rfl, ?_⟩; have n0_ := Aside0.mk (Kd.R_below (by (with_reducible repeat (first | apply rA | apply rN | apply Kd.R_drew)); exact HO204.out) hb); have n1_ := Aside0.mk (Kd.R_below (by (with_reducible repeat (first | apply rA | apply rN | apply Kd.R_drew)); exact HO207.out) hb); have n2_ := Aside0.mk (Kd.R_below (by (with_reducible repeat (first | apply rA | apply rN | apply Kd.R_drew)); exact HO211.out) hb); have n3_ := Aside0.mk (Kd.R_below (by (with_reducible repeat (first | apply rA | apply rN | apply Kd.R_drew)); exact HO214.out) hb); have n4_ := Aside0.mk (Kd.R_below (by (with_reducible repeat (first | apply rA | apply rN | apply Kd.R_drew)); exact HO217.out) hb); have n5_ := Aside0.mk (kB (g := gb199) (o := .cells #[.int .i64 a0_0, .slice A0_1 l0_1.length c0_1, .slice A0_2 l0_2.length c0_2, .slice A0_3 l0_3.length c0_3] 39 (0, 0)) (by (with_reducible repeat (first | refine kN ?_ _ | refine blk_drew ?_ | refine kA ?_ _)); exact BK199.out) hb); have n6_ := Aside0.mk (kB (g := gb218) (o := .cells #[.int .i64 t201, .slice Ao16 t202.length co16, .slice Ao17 t205.length co17] 42 (0, 0)) (by (with_reducible repeat (first | refine kN ?_ _ | refine blk_drew ?_ | refine kA ?_ _)); exact BK218.out) hb); have n7_ := Aside0.mk (kB (g := gb219) (o := .cells #[.int .i64 t208, .slice Ao20 t209.length co20, .slice Ao21 t212.length co21, .slice Ao22 t215.length co22] 43 (0, 0)) (by (with_reducible repeat (first | refine kN ?_ _ | refine blk_drew ?_ | refine kA ?_ _)); exact BK219.out) hb); have n8_ := Aside0.mk (below_step (by repeat (first | (with_reducible first | exact HB.out | apply bA | apply pN | apply bD | refine bS ?_ GE199.out | refine bS ?_ GE218.out | refine bS ?_ GE219.out) | exact HB.out)) hb); clear HO204; clear HO207; clear HO211; clear HO214; clear HO217; clear BK199; clear BK218; clear BK219; clear HB; have HO204 := n0_; have HO207 := n1_; have HO211 := n2_; have HO214 := n3_; have HO217 := n4_; have BK199 := n5_; have BK218 := n6_; have BK219 := n7_; have HB := n8_; clear n0_ n1_ n2_ n3_ n4_ n5_ n6_ n7_ n8_; (try clear hb); (try clear hb2); (try clear hk); (try clear hi)))
  go_loopg [8, 9] k (fun kq v8 v9 w' => ∃ (x8_1 : Int) (x9_1 : Int), v8 = .int .i64 x8_1 ∧ v9 = .int .i64 x9_1 ∧ Aside0 (corbellaw18_GroupEncodes.l0 kq t220 t221 t222 x8_1 x9_1 t201 t202 t205 t208 t209 t212 t215 = some r) ∧ Aside0 (kq ≤ k) ∧ Aside0 (Kd.R k62 62 w' w.heap.size (fun _ => True) (.slice Ao16 t202.length co16) t202) ∧ Aside0 (Kd.R Kd.string 9 w' w.heap.size (fun k_ => some k_ ≠ ((.slice Ao22 t215.length co22) : Value).ownBlock) (.slice Ao17 t205.length co17) t205) ∧ Aside0 (Kd.R (Kd.int .i64) 3 w' w.heap.size (fun _ => True) (.slice Ao20 t209.length co20) t209) ∧ Aside0 (Kd.R Kd.bool 4 w' w.heap.size (fun _ => True) (.slice Ao21 t212.length co21) t212) ∧ Aside0 (Kd.R Kd.string 9 w' w.heap.size (fun k_ => some k_ ≠ ((.slice Ao17 t205.length co17) : Value).ownBlock) (.slice Ao22 t215.length co22) t215) ∧ Aside0 (w'.heap[gb199]? = some (.cells #[.int .i64 a0_0, (.slice A0_1 l0_1.length c0_1), (.slice A0_2 l0_2.length c0_2), (.slice A0_3 l0_3.length c0_3)] 39 (0, 0))) ∧ Aside0 (w'.heap[gb218]? = some (.cells #[.int .i64 t201, (.slice Ao16 t202.length co16), (.slice Ao17 t205.length co17)] 42 (0, 0))) ∧ Aside0 (w'.heap[gb219]? = some (.cells #[.int .i64 t208, (.slice Ao20 t209.length co20), (.slice Ao21 t212.length co21), (.slice Ao22 t215.length co22)] 43 (0, 0))) ∧ Aside0 (Below w.heap.size w w'))
  case atStart => exact ⟨(1), (0), (by first | rfl | (simp; done) | (simp [*]; done)), (by first | rfl | (simp; done) | (simp [*]; done)), H', ⟨Nat.le_refl _⟩, ⟨by (with_reducible repeat (first | apply rA | apply rN | apply Kd.R_drew)); exact HO204.out⟩, ⟨by (with_reducible repeat (first | apply rA | apply rN | apply Kd.R_drew)); exact HO207.out⟩, ⟨by (with_reducible repeat (first | apply rA | apply rN | apply Kd.R_drew)); exact HO211.out⟩, ⟨by (with_reducible repeat (first | apply rA | apply rN | apply Kd.R_drew)); exact HO214.out⟩, ⟨by (with_reducible repeat (first | apply rA | apply rN | apply Kd.R_drew)); exact HO217.out⟩, ⟨by (with_reducible repeat (first | refine kN ?_ _ | refine blk_drew ?_ | refine kA ?_ _)); exact BK199.out⟩, ⟨by (with_reducible repeat (first | refine kN ?_ _ | refine blk_drew ?_ | refine kA ?_ _)); exact BK218.out⟩, ⟨by (with_reducible repeat (first | refine kN ?_ _ | refine blk_drew ?_ | refine kA ?_ _)); exact BK219.out⟩, ⟨by repeat (first | (with_reducible first | exact HB.out | apply bA | apply pN | apply bD | refine bS ?_ GE199.out | refine bS ?_ GE218.out | refine bS ?_ GE219.out) | exact HB.out)⟩⟩
  case round =>
   clear H'
   try clear c1
   try clear c2
   try clear p2
   try clear c3
   try clear c9
   try clear c13
   try clear c14
   try clear c18
   try clear c22
   try clear c23
   try clear c24
   try clear c25
   try clear hcz15_0
   try clear hcz15_1
   try clear hcz15_2
   try clear hcz19_0
   try clear hcz19_1
   try clear hcz19_2
   try clear hcz19_3
   try clear hcz24_0
   try clear hcz24_1
   try clear hcz24_2
   try clear hcz24_3
   try clear hcz9_0
   try clear hcz9_1
   try clear hcz9_2
   try clear hcz9_3
   try clear hfz15_0
   try clear hfz15_1
   try clear hfz15_2
   try clear hfz19_0
   try clear hfz19_1
   try clear hfz19_2
   try clear hfz19_3
   try clear hfz24_0
   try clear hfz24_1
   try clear hfz24_2
   try clear hfz24_3
   try clear hfz9_0
   try clear hfz9_1
   try clear hfz9_2
   try clear hfz9_3
   obtain ⟨x8_1, x9_1, rfl, rfl, HA, HK1, HO_219001, HO_219002, HO_220001, HO_220002, HO_220003, BK199, BK218, BK219, HB⟩ := hrel
   cases gk with
   | zero => exact absurd HA.out (by simp [corbellaw18_GroupEncodes.l0])
   | succ k1 =>
    have H := HA.out
    clear HA
    simp only [corbellaw18_GroupEncodes.l0] at H
    by_cases c26 : x9_1 < (t212.length : Int)
    ·rw [if_pos c26] at H
     have c26b0 : decide (x9_1 < (t212.length : Int)) = true := decide_eq_true c26
     clear c26
     by_cases c27 : 0 ≤ x9_1
     ·rw [if_pos c27] at H
      have c27b0 : decide (0 ≤ x9_1) = true := decide_eq_true c27
      clear c27
      obtain ⟨bq28, hbq28⟩ : ∃ b_ : Bool, b_ = (rdOf false t212 x9_1) := ⟨_, rfl⟩
      replace H : (if bq28 = true then (corbellaw18_GroupEncodes.l0 k1 t220 t221 t222 x8_1 (wrap64 (x9_1 + 1)) t201 t202 t205 t208 t209 t212 t215) else (corbellaw18_GroupEncodes.l0 k1 t220 t221 t222 (wrap64 (x8_1 + 1)) (wrap64 (x9_1 + 1)) t201 t202 t205 t208 t209 t212 t215)) = some r := by rw [← hbq28] at H; exact H
      have Nbq28 := Aside0.mk hbq28
      clear hbq28
      by_cases c29 : bq28 = true
      ·subst c29
       have H1 : (corbellaw18_GroupEncodes.l0 k1 t220 t221 t222 x8_1 (wrap64 (x9_1 + 1)) t201 t202 t205 t208 t209 t212 t215) = some r := by rw [if_pos rfl] at H; exact H
       clear H
       have H := H1
       clear H1
       have H' := Aside0.mk H
       clear H
       have hnb30 := NB219_199.out
       have hnc30 := NB199_219.out
       have hnb31 := NB219_218.out
       have hnc31 := NB218_219.out
       have hcz32_0 : wr.cell? ⟨gb219, 0, none⟩ = some (.int .i64 t208) := (blk_cell BK219.out 0).trans rfl
       have hcz32_1 : wr.cell? ⟨gb219, 1, none⟩ = some (.slice Ao20 t209.length co20) := (blk_cell BK219.out 1).trans rfl
       have hcz32_2 : wr.cell? ⟨gb219, 2, none⟩ = some (.slice Ao21 t212.length co21) := (blk_cell BK219.out 2).trans rfl
       have hcz32_3 : wr.cell? ⟨gb219, 3, none⟩ = some (.slice Ao22 t215.length co22) := (blk_cell BK219.out 3).trans rfl
       have hfz32_0 := blk_frozen BK219.out 0
       have hfz32_1 := blk_frozen BK219.out 1
       have hfz32_2 := blk_frozen BK219.out 2
       have hfz32_3 := blk_frozen BK219.out 3
       have p223 : 0 ≤ (x9_1 : Int) := of_decide_eq_true (by first | (with_reducible assumption) | assumption)
       have q223 : x9_1 < (t212.length : Int) := of_decide_eq_true (by first | (with_reducible assumption) | assumption)
       obtain ⟨ad223, e223, hx223_0⟩ := Kd.at_bool (Kd.R_reads' HO_220002.out).2.2 x9_1 p223 q223
       (try rw [← Nbq28.out] at hx223_0)
       cases e223
       replace p223 := eq_true p223
       replace q223 := eq_true q223
       go_wp2
       go_roundg k1
       case measure => have := HK1.out; omega
       case rel => exact ⟨(x8_1), (wrap64 (x9_1 + 1)), (by first | rfl | (simp; done) | (simp [*]; done)), (by first | rfl | (simp; done) | (simp [*]; done)), H', ⟨by have := HK1.out; omega⟩, ⟨by (with_reducible repeat (first | apply rA | apply rN | apply Kd.R_drew)); exact HO_219001.out⟩, ⟨by (with_reducible repeat (first | apply rA | apply rN | apply Kd.R_drew)); exact HO_219002.out⟩, ⟨by (with_reducible repeat (first | apply rA | apply rN | apply Kd.R_drew)); exact HO_220001.out⟩, ⟨by (with_reducible repeat (first | apply rA | apply rN | apply Kd.R_drew)); exact HO_220002.out⟩, ⟨by (with_reducible repeat (first | apply rA | apply rN | apply Kd.R_drew)); exact HO_220003.out⟩, ⟨by (with_reducible repeat (first | refine kN ?_ _ | refine blk_drew ?_ | refine kA ?_ _)); exact BK199.out⟩, ⟨by (with_reducible repeat (first | refine kN ?_ _ | refine blk_drew ?_ | refine kA ?_ _)); exact BK218.out⟩, ⟨by (with_reducible repeat (first | refine kN ?_ _ | refine blk_drew ?_ | refine kA ?_ _)); exact BK219.out⟩, ⟨by repeat (first | (with_reducible first | exact HB.out | apply bA | apply pN | apply bD | refine bS ?_ GE199.out | refine bS ?_ GE218.out | refine bS ?_ GE219.out) | exact HB.out)⟩⟩
      ·replace c29 := Bool.eq_false_iff.mpr c29
       subst c29
       have H1 : (corbellaw18_GroupEncodes.l0 k1 t220 t221 t222 (wrap64 (x8_1 + 1)) (wrap64 (x9_1 + 1)) t201 t202 t205 t208 t209 t212 t215) = some r := by rw [if_neg (show ¬ (false = true) by decide)] at H; exact H
       clear H
       have H := H1
       clear H1
       have H' := Aside0.mk H
       clear H
       have hnb33 := NB219_199.out
       have hnc33 := NB199_219.out
       have hnb34 := NB219_218.out
       have hnc34 := NB218_219.out
       have hcz35_0 : wr.cell? ⟨gb219, 0, none⟩ = some (.int .i64 t208) := (blk_cell BK219.out 0).trans rfl
       have hcz35_1 : wr.cell? ⟨gb219, 1, none⟩ = some (.slice Ao20 t209.length co20) := (blk_cell BK219.out 1).trans rfl
       have hcz35_2 : wr.cell? ⟨gb219, 2, none⟩ = some (.slice Ao21 t212.length co21) := (blk_cell BK219.out 2).trans rfl
       have hcz35_3 : wr.cell? ⟨gb219, 3, none⟩ = some (.slice Ao22 t215.length co22) := (blk_cell BK219.out 3).trans rfl
       have hfz35_0 := blk_frozen BK219.out 0
       have hfz35_1 := blk_frozen BK219.out 1
       have hfz35_2 := blk_frozen BK219.out 2
       have hfz35_3 := blk_frozen BK219.out 3
       have p223 : 0 ≤ (x9_1 : Int) := of_decide_eq_true (by first | (with_reducible assumption) | assumption)
       have q223 : x9_1 < (t212.length : Int) := of_decide_eq_true (by first | (with_reducible assumption) | assumption)
       obtain ⟨ad223, e223, hx223_0⟩ := Kd.at_bool (Kd.R_reads' HO_220002.out).2.2 x9_1 p223 q223
       (try rw [← Nbq28.out] at hx223_0)
       cases e223
       replace p223 := eq_true p223
       replace q223 := eq_true q223
       go_wp2
       go_roundg k1
       case measure => have := HK1.out; omega
       case rel => exact ⟨(wrap64 (x8_1 + 1)), (wrap64 (x9_1 + 1)), (by first | rfl | (simp; done) | (simp [*]; done)), (by first | rfl | (simp; done) | (simp [*]; done)), H', ⟨by have := HK1.out; omega⟩, ⟨by (with_reducible repeat (first | apply rA | apply rN | apply Kd.R_drew)); exact HO_219001.out⟩, ⟨by (with_reducible repeat (first | apply rA | apply rN | apply Kd.R_drew)); exact HO_219002.out⟩, ⟨by (with_reducible repeat (first | apply rA | apply rN | apply Kd.R_drew)); exact HO_220001.out⟩, ⟨by (with_reducible repeat (first | apply rA | apply rN | apply Kd.R_drew)); exact HO_220002.out⟩, ⟨by (with_reducible repeat (first | apply rA | apply rN | apply Kd.R_drew)); exact HO_220003.out⟩, ⟨by (with_reducible repeat (first | refine kN ?_ _ | refine blk_drew ?_ | refine kA ?_ _)); exact BK199.out⟩, ⟨by (with_reducible repeat (first | refine kN ?_ _ | refine blk_drew ?_ | refine kA ?_ _)); exact BK218.out⟩, ⟨by (with_reducible repeat (first | refine kN ?_ _ | refine blk_drew ?_ | refine kA ?_ _)); exact BK219.out⟩, ⟨by repeat (first | (with_reducible first | exact HB.out | apply bA | apply pN | apply bD | refine bS ?_ GE199.out | refine bS ?_ GE218.out | refine bS ?_ GE219.out) | exact HB.out)⟩⟩
     ·rw [if_neg c27] at H
      exact absurd H (by simp)
    ·rw [if_neg c26] at H
     have c26b0 : decide (x9_1 < (t212.length : Int)) = false := decide_eq_false c26
     clear c26
     by_cases c36 : t220.toList = t222.toList
     ·rw [if_pos c36] at H
      have c36b0 : (t220.toList == t222.toList) = true := beq_iff_eq.mpr c36
      have c36b1 : (t220.toList != t222.toList) = false := bne_eq_false_iff_eq.mpr c36
      clear c36
      by_cases c37 : ((t221 == 0) == (t222.toList != ([] : List UInt8))) = true
      ·rw [if_pos c37] at H
       have c37b0 : ((t221 == 0) == (t222.toList != ([] : List UInt8))) = true := c37
       (try (have c37b1 : decide ((t221 == 0) = (t222.toList != ([] : List UInt8))) = true := by simpa using c37))
       (try (have c37b2 : ((t221 == 0) == (t222.toList != ([] : List UInt8))) = true := by simpa using c37))
       clear c37
       by_cases c38 : t221 = 0
       ·rw [if_pos c38] at H
        have c38b0 : (t221 == 0) = true := beq_iff_eq.mpr c38
        have he_ : t222.toList.isEmpty = false := by
          have h_ := c37b0
          rw [c38b0] at h_
          cases hl_ : t222.toList with
          | nil => rw [hl_] at h_; exact absurd h_ (by first | decide | simp)
          | cons _ _ => rfl
        have c38b1 : (t221 != 0) = false := bne_eq_false_iff_eq.mpr c38
        clear c38
        replace H := Option.bind_eq_some_iff.mp H
        obtain ⟨t224, A390, H⟩ := H
        replace H : (some (t224 == x8_1)) = some r := H
        have A39 := Aside0.mk A390
        clear A390
        obtain rfl := Option.some.inj H
        have hnb40 := NB219_199.out
        have hnc40 := NB199_219.out
        have hnb41 := NB219_218.out
        have hnc41 := NB218_219.out
        have hcz42_0 : wr.cell? ⟨gb219, 0, none⟩ = some (.int .i64 t208) := (blk_cell BK219.out 0).trans rfl
        have hcz42_1 : wr.cell? ⟨gb219, 1, none⟩ = some (.slice Ao20 t209.length co20) := (blk_cell BK219.out 1).trans rfl
        have hcz42_2 : wr.cell? ⟨gb219, 2, none⟩ = some (.slice Ao21 t212.length co21) := (blk_cell BK219.out 2).trans rfl
        have hcz42_3 : wr.cell? ⟨gb219, 3, none⟩ = some (.slice Ao22 t215.length co22) := (blk_cell BK219.out 3).trans rfl
        have hfz42_0 := blk_frozen BK219.out 0
        have hfz42_1 := blk_frozen BK219.out 1
        have hfz42_2 := blk_frozen BK219.out 2
        have hfz42_3 := blk_frozen BK219.out 3
        have hnb43 := NB218_199.out
        have hnc43 := NB199_218.out
        have hcz44_0 : wr.cell? ⟨gb218, 0, none⟩ = some (.int .i64 t201) := (blk_cell BK218.out 0).trans rfl
        have hcz44_1 : wr.cell? ⟨gb218, 1, none⟩ = some (.slice Ao16 t202.length co16) := (blk_cell BK218.out 1).trans rfl
        have hcz44_2 : wr.cell? ⟨gb218, 2, none⟩ = some (.slice Ao17 t205.length co17) := (blk_cell BK218.out 2).trans rfl
        have hfz44_0 := blk_frozen BK218.out 0
        have hfz44_1 := blk_frozen BK218.out 1
        have hfz44_2 := blk_frozen BK218.out 2
        go_wp2_with (first | (go_at_call 26; (with_reducible refine (group_Blocks.calls k1 _ _ t202 t224 _ ?side1 ?side2 A39.out).mono ?_); (case side1 => repeat (first | exact (Kd.R_reads' HO_219001.out).2.2 | (with_reducible refine Kd.C_alloc ?_ _) | (with_reducible refine Kd.C_drewN ?_ _) | (with_reducible refine Kd.C_drew ?_))); (case side2 => exact (Kd.R_reads' HO_219001.out).2.1); rintro e w45 ⟨rfl, hb⟩; have n0_ := Aside0.mk (Kd.R_below (by (with_reducible repeat (first | apply rA | apply rN | apply Kd.R_drew)); exact HO_219001.out) hb); have n1_ := Aside0.mk (Kd.R_below (by (with_reducible repeat (first | apply rA | apply rN | apply Kd.R_drew)); exact HO_219002.out) hb); have n2_ := Aside0.mk (Kd.R_below (by (with_reducible repeat (first | apply rA | apply rN | apply Kd.R_drew)); exact HO_220001.out) hb); have n3_ := Aside0.mk (Kd.R_below (by (with_reducible repeat (first | apply rA | apply rN | apply Kd.R_drew)); exact HO_220002.out) hb); have n4_ := Aside0.mk (Kd.R_below (by (with_reducible repeat (first | apply rA | apply rN | apply Kd.R_drew)); exact HO_220003.out) hb); have n5_ := Aside0.mk (kB (g := gb199) (o := .cells #[.int .i64 a0_0, .slice A0_1 l0_1.length c0_1, .slice A0_2 l0_2.length c0_2, .slice A0_3 l0_3.length c0_3] 39 (0, 0)) (by (with_reducible repeat (first | refine kN ?_ _ | refine blk_drew ?_ | refine kA ?_ _)); exact BK199.out) hb); have n6_ := Aside0.mk (kB (g := gb218) (o := .cells #[.int .i64 t201, .slice Ao16 t202.length co16, .slice Ao17 t205.length co17] 42 (0, 0)) (by (with_reducible repeat (first | refine kN ?_ _ | refine blk_drew ?_ | refine kA ?_ _)); exact BK218.out) hb); have n7_ := Aside0.mk (kB (g := gb219) (o := .cells #[.int .i64 t208, .slice Ao20 t209.length co20, .slice Ao21 t212.length co21, .slice Ao22 t215.length co22] 43 (0, 0)) (by (with_reducible repeat (first | refine kN ?_ _ | refine blk_drew ?_ | refine kA ?_ _)); exact BK219.out) hb); have n8_ := Aside0.mk (below_step (by repeat (first | (with_reducible first | exact HB.out | apply bA | apply pN | apply bD | refine bS ?_ GE199.out | refine bS ?_ GE218.out | refine bS ?_ GE219.out) | exact HB.out)) hb); clear HO_219001; clear HO_219002; clear HO_220001; clear HO_220002; clear HO_220003; clear BK199; clear BK218; clear BK219; clear HB; have HO_219001 := n0_; have HO_219002 := n1_; have HO_220001 := n2_; have HO_220002 := n3_; have HO_220003 := n4_; have BK199 := n5_; have BK218 := n6_; have BK219 := n7_; have HB := n8_; clear n0_ n1_ n2_ n3_ n4_ n5_ n6_ n7_ n8_; (try clear hb); (try clear hb2); (try clear hk); (try clear hi)))
        go_ret
        exact ⟨by first | rfl | (simp [errW_none, errW_some] <;> rfl) | (simp [*, errW_none, errW_some] <;> rfl), by repeat (first | (with_reducible first | exact HB.out | apply bA | apply pN | apply bD | refine bS ?_ GE199.out | refine bS ?_ GE218.out | refine bS ?_ GE219.out) | exact HB.out)⟩
       ·rw [if_neg c38] at H
        have c38b0 : (t221 == 0) = false := beq_eq_false_iff_ne.mpr c38
        have he_ : t222.toList.isEmpty = true := by
          have h_ := c37b0
          rw [c38b0] at h_
          cases hl_ : t222.toList with
          | nil => rfl
          | cons _ _ => rw [hl_] at h_; exact absurd h_ (by first | decide | simp)
        have c38b1 : (t221 != 0) = true := bne_iff_ne.mpr c38
        by_cases c46 : t221 = 1
        ·rw [if_pos c46] at H
         have c46b0 : (t221 == 1) = true := beq_iff_eq.mpr c46
         have c46b1 : (t221 != 1) = false := bne_eq_false_iff_eq.mpr c46
         clear c46
         replace H := Option.bind_eq_some_iff.mp H
         obtain ⟨t225, A470, H⟩ := H
         replace H : (some (t225 == x8_1)) = some r := H
         have A47 := Aside0.mk A470
         clear A470
         obtain rfl := Option.some.inj H
         have hnb48 := NB219_199.out
         have hnc48 := NB199_219.out
         have hnb49 := NB219_218.out
         have hnc49 := NB218_219.out
         have hcz50_0 : wr.cell? ⟨gb219, 0, none⟩ = some (.int .i64 t208) := (blk_cell BK219.out 0).trans rfl
         have hcz50_1 : wr.cell? ⟨gb219, 1, none⟩ = some (.slice Ao20 t209.length co20) := (blk_cell BK219.out 1).trans rfl
         have hcz50_2 : wr.cell? ⟨gb219, 2, none⟩ = some (.slice Ao21 t212.length co21) := (blk_cell BK219.out 2).trans rfl
         have hcz50_3 : wr.cell? ⟨gb219, 3, none⟩ = some (.slice Ao22 t215.length co22) := (blk_cell BK219.out 3).trans rfl
         have hfz50_0 := blk_frozen BK219.out 0
         have hfz50_1 := blk_frozen BK219.out 1
         have hfz50_2 := blk_frozen BK219.out 2
         have hfz50_3 := blk_frozen BK219.out 3
         have hnb51 := NB218_199.out
         have hnc51 := NB199_218.out
         have hcz52_0 : wr.cell? ⟨gb218, 0, none⟩ = some (.int .i64 t201) := (blk_cell BK218.out 0).trans rfl
         have hcz52_1 : wr.cell? ⟨gb218, 1, none⟩ = some (.slice Ao16 t202.length co16) := (blk_cell BK218.out 1).trans rfl
         have hcz52_2 : wr.cell? ⟨gb218, 2, none⟩ = some (.slice Ao17 t205.length co17) := (blk_cell BK218.out 2).trans rfl
         have hfz52_0 := blk_frozen BK218.out 0
         have hfz52_1 := blk_frozen BK218.out 1
         have hfz52_2 := blk_frozen BK218.out 2
         go_wp2_with (first | (go_at_call 26; (with_reducible refine (group_Blocks.calls k1 _ _ t202 t225 _ ?side1 ?side2 A47.out).mono ?_); (case side1 => repeat (first | exact (Kd.R_reads' HO_219001.out).2.2 | (with_reducible refine Kd.C_alloc ?_ _) | (with_reducible refine Kd.C_drewN ?_ _) | (with_reducible refine Kd.C_drew ?_))); (case side2 => exact (Kd.R_reads' HO_219001.out).2.1); rintro e w53 ⟨rfl, hb⟩; have n0_ := Aside0.mk (Kd.R_below (by (with_reducible repeat (first | apply rA | apply rN | apply Kd.R_drew)); exact HO_219001.out) hb); have n1_ := Aside0.mk (Kd.R_below (by (with_reducible repeat (first | apply rA | apply rN | apply Kd.R_drew)); exact HO_219002.out) hb); have n2_ := Aside0.mk (Kd.R_below (by (with_reducible repeat (first | apply rA | apply rN | apply Kd.R_drew)); exact HO_220001.out) hb); have n3_ := Aside0.mk (Kd.R_below (by (with_reducible repeat (first | apply rA | apply rN | apply Kd.R_drew)); exact HO_220002.out) hb); have n4_ := Aside0.mk (Kd.R_below (by (with_reducible repeat (first | apply rA | apply rN | apply Kd.R_drew)); exact HO_220003.out) hb); have n5_ := Aside0.mk (kB (g := gb199) (o := .cells #[.int .i64 a0_0, .slice A0_1 l0_1.length c0_1, .slice A0_2 l0_2.length c0_2, .slice A0_3 l0_3.length c0_3] 39 (0, 0)) (by (with_reducible repeat (first | refine kN ?_ _ | refine blk_drew ?_ | refine kA ?_ _)); exact BK199.out) hb); have n6_ := Aside0.mk (kB (g := gb218) (o := .cells #[.int .i64 t201, .slice Ao16 t202.length co16, .slice Ao17 t205.length co17] 42 (0, 0)) (by (with_reducible repeat (first | refine kN ?_ _ | refine blk_drew ?_ | refine kA ?_ _)); exact BK218.out) hb); have n7_ := Aside0.mk (kB (g := gb219) (o := .cells #[.int .i64 t208, .slice Ao20 t209.length co20, .slice Ao21 t212.length co21, .slice Ao22 t215.length co22] 43 (0, 0)) (by (with_reducible repeat (first | refine kN ?_ _ | refine blk_drew ?_ | refine kA ?_ _)); exact BK219.out) hb); have n8_ := Aside0.mk (below_step (by repeat (first | (with_reducible first | exact HB.out | apply bA | apply pN | apply bD | refine bS ?_ GE199.out | refine bS ?_ GE218.out | refine bS ?_ GE219.out) | exact HB.out)) hb); clear HO_219001; clear HO_219002; clear HO_220001; clear HO_220002; clear HO_220003; clear BK199; clear BK218; clear BK219; clear HB; have HO_219001 := n0_; have HO_219002 := n1_; have HO_220001 := n2_; have HO_220002 := n3_; have HO_220003 := n4_; have BK199 := n5_; have BK218 := n6_; have BK219 := n7_; have HB := n8_; clear n0_ n1_ n2_ n3_ n4_ n5_ n6_ n7_ n8_; (try clear hb); (try clear hb2); (try clear hk); (try clear hi)))
         go_ret
         exact ⟨by first | rfl | (simp [errW_none, errW_some] <;> rfl) | (simp [*, errW_none, errW_some] <;> rfl), by repeat (first | (with_reducible first | exact HB.out | apply bA | apply pN | apply bD | refine bS ?_ GE199.out | refine bS ?_ GE218.out | refine bS ?_ GE219.out) | exact HB.out)⟩
        ·rw [if_neg c46] at H
         have c46b0 : (t221 == 1) = false := beq_eq_false_iff_ne.mpr c46
         have c46b1 : (t221 != 1) = true := bne_iff_ne.mpr c46
         exact absurd ((Option.some.inj H).trans HRT.out) (by decide)
      ·rw [if_neg c37] at H
       have c37b0 : ((t221 == 0) == (t222.toList != ([] : List UInt8))) = false := by simpa using c37
       (try (have c37b1 : decide ((t221 == 0) = (t222.toList != ([] : List UInt8))) = false := by simpa using c37))
       (try (have c37b2 : ((t221 == 0) == (t222.toList != ([] : List UInt8))) = false := by simpa using c37))
       (try (have c37b3 : ¬ ((t221 == 0) = (t222.toList != ([] : List UInt8))) := by simpa using c37))
       clear c37
       exact absurd ((Option.some.inj H).trans HRT.out) (by decide)
     ·rw [if_neg c36] at H
      have c36b0 : (t220.toList == t222.toList) = false := beq_eq_false_iff_ne.mpr c36
      have c36b1 : (t220.toList != t222.toList) = true := bne_iff_ne.mpr c36
      exact absurd ((Option.some.inj H).trans HRT.out) (by decide)
 ·replace c3 := Bool.eq_false_iff.mpr c3
  subst c3
  have H1 : (some false) = some r := by rw [if_neg (show ¬ (false = true) by decide)] at H; exact H
  clear H
  have H := H1
  clear H1
  exact absurd ((Option.some.inj H).trans HRT.out) (by decide)
end Go.Proofs.YticpjnpafmehaaaDoor.U
