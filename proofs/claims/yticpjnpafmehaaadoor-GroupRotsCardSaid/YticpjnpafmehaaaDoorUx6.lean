-- printed by a program of a session (wip/tools/printx.py) over the kit's print; not typed by hand
import Derived.Test.YticpjnpafmehaaaDoorUx0
import Derived.Test.YticpjnpafmehaaaDoorUx2
import Derived.Test.YticpjnpafmehaaaDoorUx3
import Derived.Test.YticpjnpafmehaaaDoorUx4
import Derived.Test.YticpjnpafmehaaaDoorUx5
namespace Go.Proofs.YticpjnpafmehaaaDoor.U
open Go.RowKit Go.Proofs.YticpjnpafmehaaaDoorW.PrintWords Go.Proofs.YticpjnpafmehaaaDoorW.PrintLast Go.Proofs.YticpjnpafmehaaaDoorW.PrintMore
open Go.Proofs.YticpjnpafmehaaaDoorW.PrintWords.Kd renaming R_alloc → rA, R_drewN → rN
open Go.Proofs.YticpjnpafmehaaaDoorW.PrintWords renaming pw_below_drewN → pN, below_alloc → bA, below_drew1 → bD, below_set → bS, blk_drewN → kN, blk_alloc → kA, below_size → bZ, blk_below → kB
attribute [local go_sem] max2_int min2_int max_two min_two max_three min_three max_four min_four   -- for this text's walks alone
set_option linter.unusedVariables false
set_option linter.unusedSimpArgs false

/-! ### group_Decode: function 27 -/
mutual
def group_Decode.j0 : Nat → ByteArray → Bool → Option (Int × (List (S62)) × List ByteArray × Int × Int)
 | 0, _, _ => none
 | k + 1, x0, x27 => if x27 = true then (some (0, ([] : List (S62)), ([] : List ByteArray), 0, 10)) else (if 2 ≤ 8 then (if 8 ≤ (x0.size : Int) then ((nums_Get.f (x0.extract 2 8)).bind fun bt135 => (if 8 < (x0.size : Int) then (if (wrap64 (bt x0 8)) < 1 then (group_Decode.j1 k x0 (wrap64 (9 + (wrap64 (4 * (wrap64 (bt x0 8)))))) true bt135.1) else (if (wrap64 (bt x0 8)) > 6 then (group_Decode.j1 k x0 (wrap64 (9 + (wrap64 (4 * (wrap64 (bt x0 8)))))) true bt135.1) else (if 0 ≤ (wrap64 ((wrap64 (9 + (wrap64 (4 * (wrap64 (bt x0 8)))))) + 4)) then (if (wrap64 ((wrap64 (9 + (wrap64 (4 * (wrap64 (bt x0 8)))))) + 4)) ≤ 64 then (if 64 ≤ (x0.size : Int) then ((xor_Empty.f (x0.extract ((wrap64 ((wrap64 (9 + (wrap64 (4 * (wrap64 (bt x0 8)))))) + 4)) : Int).toNat 64)).bind fun t137 => (group_Decode.j1 k x0 (wrap64 (9 + (wrap64 (4 * (wrap64 (bt x0 8)))))) (!t137) bt135.1)) else (none)) else (none)) else (none)))) else (none))) else (none)) else (none))
def group_Decode.j1 : Nat → ByteArray → Int → Bool → Int → Option (Int × (List (S62)) × List ByteArray × Int × Int)
 | 0, _, _, _, _ => none
 | k + 1, x0, x7, x55, x135000 => if x55 = true then (some (0, ([] : List (S62)), ([] : List ByteArray), 0, 10)) else (group_Decode.l0 k x0 x7 9 x135000 ([] : List (S62)))
def group_Decode.l0 : Nat → ByteArray → Int → Int → Int → List (S62) → Option (Int × (List (S62)) × List ByteArray × Int × Int)
 | 0, _, _, _, _, _ => none
 | k + 1, x0, x7, x8, x135000, x135001 => if x8 < x7 then (if 0 ≤ x8 then (if x8 ≤ (wrap64 (x8 + 4)) then (if (wrap64 (x8 + 4)) ≤ (x0.size : Int) then ((nums_Get.f (x0.extract (x8 : Int).toNat ((wrap64 (x8 + 4)) : Int).toNat)).bind fun bt138 => (if x135001.length < 8796093022208 then (group_Decode.l0 k x0 x7 (wrap64 (x8 + 4)) x135000 (x135001 ++ [(⟨Go.bits .andNot .i64 bt138.1 2147483648, ((Go.bits .and .i64 bt138.1 2147483648) != 0)⟩ : S62)])) else (none))) else (none)) else (none)) else (none)) else ((group_Blocks.f k x135001).bind fun t143 => (if (x0.size : Int) < (wrap64 (t143 * 64)) then (some (0, ([] : List (S62)), ([] : List ByteArray), 0, 10)) else (if 64 ≤ (wrap64 (t143 * 64)) then (if (wrap64 (t143 * 64)) ≤ (x0.size : Int) then (group_Decode.l1 k x0 x7 t143 (x0.extract 64 ((wrap64 (t143 * 64)) : Int).toNat) x135001 (x135001.length : Int) 0 x135000 x135001 ([] : List ByteArray)) else (none)) else (none))))
def group_Decode.l1 : Nat → ByteArray → Int → Int → ByteArray → List (S62) → Int → Int → Int → List (S62) → List ByteArray → Option (Int × (List (S62)) × List ByteArray × Int × Int)
 | 0, _, _, _, _, _, _, _, _, _, _ => none
 | k + 1, x0, x7, x11, x12, x96, x97, x98, x135000, x135001, x135002 => if x98 < x97 then (if 0 ≤ x98 then (if x98 < (x96.length : Int) then ((group_Entry_wants.f ((rd_T62 x96 x98).f0) ((rd_T62 x96 x98).f1)).bind fun t146 => (if 0 ≤ t146 then (if t146 ≤ (x12.size : Int) then (if x135002.length < 8796093022208 then ((group_Entry_wants.f ((rd_T62 x96 x98).f0) ((rd_T62 x96 x98).f1)).bind fun t150 => (if 0 ≤ t150 then (if t150 ≤ (x12.size : Int) then (group_Decode.l1 k x0 x7 x11 (x12.extract (t150 : Int).toNat x12.size) x96 x97 (wrap64 (x98 + 1)) x135000 x135001 (x135002 ++ [x12.extract 0 (t146 : Int).toNat])) else (none)) else (none))) else (none)) else (none)) else (none))) else (none)) else (none)) else ((group_Group_right.f k x135000 x135001 x135002).bind fun t151 => (if t151 = true then (if 0 ≤ x7 then (if x7 ≤ (wrap64 (x7 + 4)) then (if (wrap64 (x7 + 4)) ≤ (x0.size : Int) then ((nums_Get.f (x0.extract (x7 : Int).toNat ((wrap64 (x7 + 4)) : Int).toNat)).bind fun bt152 => (if x7 ≤ (x0.size : Int) then (if 64 ≤ (wrap64 (x11 * 64)) then (if (wrap64 (x11 * 64)) ≤ (x0.size : Int) then ((crc_Sum.f (([x0.extract 0 (x7 : Int).toNat, x0.extract 64 ((wrap64 (x11 * 64)) : Int).toNat] : List ByteArray))).bind fun t157 => (if ((bt152.1) % 4294967296) = t157 then (some (x135000, x135001, x135002, x11, 0)) else (some (0, ([] : List (S62)), ([] : List ByteArray), 0, 11)))) else (none)) else (none)) else (none))) else (none)) else (none)) else (none)) else (some (0, ([] : List (S62)), ([] : List ByteArray), 0, 10))))
end
def group_Decode.f (k : Nat) (a0 : ByteArray) : Option (Int × (List (S62)) × List ByteArray × Int × Int) := if a0.toList = ([] : List UInt8) then (some (0, ([] : List (S62)), ([] : List ByteArray), 0, 13)) else (if (a0.size : Int) < 64 then (group_Decode.j0 k a0 true) else (if 0 ≤ 2 then (if 2 ≤ (a0.size : Int) then (group_Decode.j0 k a0 ((a0.extract 0 2).toList != ([67, 71] : List UInt8))) else (none)) else (none)))
theorem group_Decode.mono_l : ∀ k, (∀ y0 y1, LeO (group_Decode.j0 k y0 y1) (group_Decode.j0 (k + 1) y0 y1)) ∧ (∀ y0 y1 y2 y3, LeO (group_Decode.j1 k y0 y1 y2 y3) (group_Decode.j1 (k + 1) y0 y1 y2 y3)) ∧ (∀ y0 y1 y2 y3 y4, LeO (group_Decode.l0 k y0 y1 y2 y3 y4) (group_Decode.l0 (k + 1) y0 y1 y2 y3 y4)) ∧ (∀ y0 y1 y2 y3 y4 y5 y6 y7 y8 y9, LeO (group_Decode.l1 k y0 y1 y2 y3 y4 y5 y6 y7 y8 y9) (group_Decode.l1 (k + 1) y0 y1 y2 y3 y4 y5 y6 y7 y8 y9))
 | 0 => ⟨fun _ _ r h => by simp [group_Decode.j0] at h, fun _ _ _ _ r h => by simp [group_Decode.j1] at h, fun _ _ _ _ _ r h => by simp [group_Decode.l0] at h, fun _ _ _ _ _ _ _ _ _ _ r h => by simp [group_Decode.l1] at h⟩
 | k + 1 => by
  obtain ⟨ih0, ih1, ih2, ih3⟩ := group_Decode.mono_l k
  refine ⟨?_, ?_, ?_, ?_⟩
  ·intro y0 y1
   unfold group_Decode.j0
   repeat' first
   | (with_reducible exact ih0 _ _)
   | (with_reducible exact ih1 _ _ _ _)
   | (with_reducible exact ih2 _ _ _ _ _)
   | (with_reducible exact ih3 _ _ _ _ _ _ _ _ _ _)
   | (with_reducible exact group_Blocks.mono _ _)
   | (with_reducible exact group_Group_right.mono _ _ _ _)
   | (with_reducible exact LeO.refl _)
   | (with_reducible exact LeO.none _)
   | (with_reducible refine LeO.ite ?_ ?_)
   | (with_reducible refine LeO.bind ?_ (fun _ => ?_))
   | exact ih0 _ _
   | exact ih1 _ _ _ _
   | exact ih2 _ _ _ _ _
   | exact ih3 _ _ _ _ _ _ _ _ _ _
   | exact group_Blocks.mono _ _
   | exact group_Group_right.mono _ _ _ _
   | exact LeO.none _
   | refine LeO.ite ?_ ?_
   | refine LeO.bind ?_ (fun _ => ?_)
  ·intro y0 y1 y2 y3
   unfold group_Decode.j1
   repeat' first
   | (with_reducible exact ih0 _ _)
   | (with_reducible exact ih1 _ _ _ _)
   | (with_reducible exact ih2 _ _ _ _ _)
   | (with_reducible exact ih3 _ _ _ _ _ _ _ _ _ _)
   | (with_reducible exact group_Blocks.mono _ _)
   | (with_reducible exact group_Group_right.mono _ _ _ _)
   | (with_reducible exact LeO.refl _)
   | (with_reducible exact LeO.none _)
   | (with_reducible refine LeO.ite ?_ ?_)
   | (with_reducible refine LeO.bind ?_ (fun _ => ?_))
   | exact ih0 _ _
   | exact ih1 _ _ _ _
   | exact ih2 _ _ _ _ _
   | exact ih3 _ _ _ _ _ _ _ _ _ _
   | exact group_Blocks.mono _ _
   | exact group_Group_right.mono _ _ _ _
   | exact LeO.none _
   | refine LeO.ite ?_ ?_
   | refine LeO.bind ?_ (fun _ => ?_)
  ·intro y0 y1 y2 y3 y4
   unfold group_Decode.l0
   repeat' first
   | (with_reducible exact ih0 _ _)
   | (with_reducible exact ih1 _ _ _ _)
   | (with_reducible exact ih2 _ _ _ _ _)
   | (with_reducible exact ih3 _ _ _ _ _ _ _ _ _ _)
   | (with_reducible exact group_Blocks.mono _ _)
   | (with_reducible exact group_Group_right.mono _ _ _ _)
   | (with_reducible exact LeO.refl _)
   | (with_reducible exact LeO.none _)
   | (with_reducible refine LeO.ite ?_ ?_)
   | (with_reducible refine LeO.bind ?_ (fun _ => ?_))
   | exact ih0 _ _
   | exact ih1 _ _ _ _
   | exact ih2 _ _ _ _ _
   | exact ih3 _ _ _ _ _ _ _ _ _ _
   | exact group_Blocks.mono _ _
   | exact group_Group_right.mono _ _ _ _
   | exact LeO.none _
   | refine LeO.ite ?_ ?_
   | refine LeO.bind ?_ (fun _ => ?_)
  ·intro y0 y1 y2 y3 y4 y5 y6 y7 y8 y9
   unfold group_Decode.l1
   repeat' first
   | (with_reducible exact ih0 _ _)
   | (with_reducible exact ih1 _ _ _ _)
   | (with_reducible exact ih2 _ _ _ _ _)
   | (with_reducible exact ih3 _ _ _ _ _ _ _ _ _ _)
   | (with_reducible exact group_Blocks.mono _ _)
   | (with_reducible exact group_Group_right.mono _ _ _ _)
   | (with_reducible exact LeO.refl _)
   | (with_reducible exact LeO.none _)
   | (with_reducible refine LeO.ite ?_ ?_)
   | (with_reducible refine LeO.bind ?_ (fun _ => ?_))
   | exact ih0 _ _
   | exact ih1 _ _ _ _
   | exact ih2 _ _ _ _ _
   | exact ih3 _ _ _ _ _ _ _ _ _ _
   | exact group_Blocks.mono _ _
   | exact group_Group_right.mono _ _ _ _
   | exact LeO.none _
   | refine LeO.ite ?_ ?_
   | refine LeO.bind ?_ (fun _ => ?_)
theorem group_Decode.mono : ∀ a0 k, LeO (group_Decode.f k a0) (group_Decode.f (k + 1) a0) := by
 intro a0 k
 obtain ⟨ih0, ih1, ih2, ih3⟩ := group_Decode.mono_l k
 unfold group_Decode.f
 repeat' first
   | (with_reducible exact ih0 _ _)
   | (with_reducible exact ih1 _ _ _ _)
   | (with_reducible exact ih2 _ _ _ _ _)
   | (with_reducible exact ih3 _ _ _ _ _ _ _ _ _ _)
   | (with_reducible exact group_Blocks.mono _ _)
   | (with_reducible exact group_Group_right.mono _ _ _ _)
   | (with_reducible exact LeO.refl _)
   | (with_reducible exact LeO.none _)
   | (with_reducible refine LeO.ite ?_ ?_)
   | (with_reducible refine LeO.bind ?_ (fun _ => ?_))
   | exact ih0 _ _
   | exact ih1 _ _ _ _
   | exact ih2 _ _ _ _ _
   | exact ih3 _ _ _ _ _ _ _ _ _ _
   | exact group_Blocks.mono _ _
   | exact group_Group_right.mono _ _ _ _
   | exact LeO.none _
   | refine LeO.ite ?_ ?_
   | refine LeO.bind ?_ (fun _ => ?_)
def group_Decode.T23 : Bool × List (List Nat × List Nat) := (true, [([], []), ([0], [0]), ([], []), ([], []), ([3], [3]), ([2, 4], [2, 4]), ([5], [5]), ([1, 6, 4], [1, 6]), ([0, 1, 2, 3, 4, 5, 6, 7], []), ([8, 7, 7, 0, 1, 2, 3, 4, 5, 6, 7], [7, 8])])
def group_Decode.B23 : List Nat := [0, 1, 0, 0, 8, 28, 60, 127, 255, 511]
theorem group_Decode.tab23 : rtab .any (opsOf Tryd.f27 23) = group_Decode.T23 := by kernel_rfl
theorem group_Decode.bits23 : waitsOk group_Decode.T23.2 group_Decode.B23 = true := by kernel_rfl
def group_Decode.T29 : Bool × List (List Nat × List Nat) := (true, [([], []), ([0], [0]), ([], []), ([], []), ([2, 3], [2, 3]), ([], []), ([], []), ([6], [6]), ([5, 7], [5, 7]), ([4, 8], [4, 8]), ([9], [9]), ([1, 10], [1, 10])])
def group_Decode.B29 : List Nat := [0, 1, 0, 0, 12, 0, 0, 64, 224, 508, 1020, 2047]
theorem group_Decode.tab29 : rtab .any (opsOf Tryd.f27 29) = group_Decode.T29 := by kernel_rfl
theorem group_Decode.bits29 : waitsOk group_Decode.T29.2 group_Decode.B29 = true := by kernel_rfl
set_option maxHeartbeats 8000000 in
set_option maxRecDepth 100000 in
theorem group_Decode.calls (k : Nat) (a0 : ByteArray) (r1 : Int) (r2 : List (S62)) (r3 : List ByteArray) (r4 : Int) (r5 : Int) (w : World) (h : group_Decode.f k a0 = some (r1, r2, r3, r4, r5)) (hN : TabIn w) :
  Calls Tryd.prog 27 #[.string a0] w fun e w' => ∃ v1_ v2_ : Value, e = .returned (.tuple #[.agg #[.int .i64 r1, v1_, v2_], .int .i64 r4, .int .i64 r5]) ∧ Kd.R k62 62 w' w.heap.size (fun _ => True) v1_ r2 ∧ Kd.R Kd.string 9 w' w.heap.size (fun _ => True) v2_ r3 ∧ Below w.heap.size w w' := by
 have hu42 := Tryd.underlying42
 have hu62 := Tryd.underlying62
 have HB := Aside0.mk (Below.refl w.heap.size w)
 have HN := Aside0.mk hN
 clear hN
 have H : (if a0.toList = ([] : List UInt8) then (some (0, ([] : List (S62)), ([] : List ByteArray), 0, 13)) else (if (a0.size : Int) < 64 then (group_Decode.j0 k a0 true) else (if 0 ≤ 2 then (if 2 ≤ (a0.size : Int) then (group_Decode.j0 k a0 ((a0.extract 0 2).toList != ([67, 71] : List UInt8))) else (none)) else (none)))) = some (r1, r2, r3, r4, r5) := h
 clear h
 by_cases c2 : a0.toList = ([] : List UInt8)
 ·rw [if_pos c2] at H
  have c2b0 : (a0.toList == ([] : List UInt8)) = true := beq_iff_eq.mpr c2
  have c2b1 : (a0.toList != ([] : List UInt8)) = false := bne_eq_false_iff_eq.mpr c2
  clear c2
  simp only [Option.some.injEq, Prod.mk.injEq] at H
  obtain ⟨rfl, rfl, rfl, rfl, rfl⟩ := H
  go_enter Tryd.func27, Tryd.ntmps27
  go_wp2_with (first | ((with_reducible refine gate_dst (N := 2) rfl ?_); refine box_event ?hg (N := 2) ?hd (cs := #[.int .i64 0, .slice none 0 0, .slice none 0 0]) (t := 42) ?hr ?_; (case hd => rfl); (case hg => rfl); (case hr => first | (go_simp; done) | (go_simp; rfl)); intro gb133 hg w3 hbox hb; have n0_ := Aside0.mk (below_step (by repeat (first | (with_reducible first | exact HB.out | apply bA | apply pN | apply bD) | exact HB.out)) hb); have n1_ := Aside0.mk (hbox); have n2_ := Aside0.mk ((by rw [hg]; exact (bZ (by repeat (first | (with_reducible first | exact HB.out | apply bA | apply pN | apply bD) | exact HB.out))) : w.heap.size ≤ gb133)); have n3_ := Aside0.mk ((by rw [hg]; exact (bZ (by repeat (first | (with_reducible first | exact HB.out | apply bA | apply pN | apply bD) | exact HB.out))) : w.heap.size ≤ gb133)); clear HB; have HB := n0_; have BK133 := n1_; have GW133 := n2_; have GE133 := n3_; clear n0_ n1_ n2_ n3_; clear hb hbox hg; have hcz4_0 : w3.cell? ⟨gb133, 0, none⟩ = some (.int .i64 0) := (blk_cell BK133.out 0).trans rfl; have hcz4_1 : w3.cell? ⟨gb133, 1, none⟩ = some (.slice none 0 0) := (blk_cell BK133.out 1).trans rfl; have hcz4_2 : w3.cell? ⟨gb133, 2, none⟩ = some (.slice none 0 0) := (blk_cell BK133.out 2).trans rfl; have hfz4_0 := blk_frozen BK133.out 0; have hfz4_1 := blk_frozen BK133.out 1; have hfz4_2 := blk_frozen BK133.out 2))
  refine bodyPost_ret (results_ctt rfl _ _ gb133 42 #[.int .i64 0, .slice none 0 0, .slice none 0 0] (0, 0) _ rfl (by (with_reducible repeat (first | refine kN ?_ _ | refine blk_drew ?_ | refine kA ?_ _)); refine blk_put (cs := #[.int .i64 0, .slice none 0 0, .slice none 0 0]) ?_ 2 _ rfl; (with_reducible repeat (first | refine kN ?_ _ | refine blk_drew ?_ | refine kA ?_ _)); refine blk_put (cs := #[.int .i64 0, .slice none 0 0, .slice none 0 0]) ?_ 1 _ rfl; (with_reducible repeat (first | refine kN ?_ _ | refine blk_drew ?_ | refine kA ?_ _)); refine blk_put (cs := #[.int .i64 0, .slice none 0 0, .slice none 0 0]) ?_ 0 _ rfl; (with_reducible repeat (first | refine kN ?_ _ | refine blk_drew ?_ | refine kA ?_ _)); exact BK133.out) Tryd.underlying42 rfl (by kernel_rfl)) rfl ?_
  exact ⟨_, _, by first | rfl | (simp [errW_none, errW_some] <;> rfl) | (simp [*, errW_none, errW_some] <;> rfl), by first | exact Kd.R_nil _ _ _ _ _ | exact Kd.N_nil _ _ _ _ _ | exact Kd.V_nil _ _ _ _ _ | exact Kd.Q_nil _ _ _ _ _ | exact Kd.S_nil _ _ _ _ _, by first | exact Kd.R_nil _ _ _ _ _ | exact Kd.N_nil _ _ _ _ _ | exact Kd.V_nil _ _ _ _ _ | exact Kd.Q_nil _ _ _ _ _ | exact Kd.S_nil _ _ _ _ _, by repeat (first | (with_reducible first | exact HB.out | apply bA | apply pN | apply bD | refine bS ?_ GE133.out) | exact HB.out)⟩
 ·rw [if_neg c2] at H
  have c2b0 : (a0.toList == ([] : List UInt8)) = false := beq_eq_false_iff_ne.mpr c2
  have c2b1 : (a0.toList != ([] : List UInt8)) = true := bne_iff_ne.mpr c2
  have HC5 := Aside0.mk H
  clear H
  go_enter Tryd.func27, Tryd.ntmps27
  go_upto_region 3 with (first | ((with_reducible refine gate_dst (N := 2) rfl ?_); refine box_event ?hg (N := 2) ?hd (cs := #[.int .i64 0, .slice none 0 0, .slice none 0 0]) (t := 42) ?hr ?_; (case hd => rfl); (case hg => rfl); (case hr => first | (go_simp; done) | (go_simp; rfl)); intro gb133 hg w6 hbox hb; have n0_ := Aside0.mk (below_step (by repeat (first | (with_reducible first | exact HB.out | apply bA | apply pN | apply bD) | exact HB.out)) hb); have n1_ := Aside0.mk (hbox); have n2_ := Aside0.mk ((by rw [hg]; exact (bZ (by repeat (first | (with_reducible first | exact HB.out | apply bA | apply pN | apply bD) | exact HB.out))) : w.heap.size ≤ gb133)); have n3_ := Aside0.mk ((by rw [hg]; exact (bZ (by repeat (first | (with_reducible first | exact HB.out | apply bA | apply pN | apply bD) | exact HB.out))) : w.heap.size ≤ gb133)); clear HB; have HB := n0_; have BK133 := n1_; have GW133 := n2_; have GE133 := n3_; clear n0_ n1_ n2_ n3_; clear hb hbox hg))
  (try simp only [Act.put, List.setIfInBounds_toArray, List.set_cons_zero, List.set_cons_succ])
  go_cut [27] (fun v27 wc => ∃ (kq : Nat) (x27_4 : Bool), v27 = .bool x27_4 ∧ Aside0 (group_Decode.j0 kq a0 x27_4 = some (r1, r2, r3, r4, r5)) ∧ Aside0 (kq ≤ k) ∧ Aside0 (wc.heap[gb133]? = some (.cells #[.int .i64 0, (.slice none 0 0), (.slice none 0 0)] 42 (0, 0))) ∧ Aside0 (Below w.heap.size w wc))
  case first =>
   have H := HC5.out
   clear HC5
   by_cases c7 : (a0.size : Int) < 64
   ·rw [if_pos c7] at H
    have c7b0 : decide ((a0.size : Int) < 64) = true := decide_eq_true c7
    have c7b1 : decide (a0.size < 64) = true := decide_eq_true (by omega)
    clear c7
    (first | rw [c7b0] | (simp only [i64_w, i32_w]; rw [c7b0]) | skip)
    (try rw [c7b1])
    have H' := Aside0.mk H
    clear H
    go_wp2
    go_meet
    case rel => exact ⟨_, (true), (by first | rfl | (simp; done) | (simp [*]; done)), H', ⟨by first | omega | exact Nat.le_refl _⟩, ⟨by (with_reducible repeat (first | refine kN ?_ _ | refine blk_drew ?_ | refine kA ?_ _)); exact BK133.out⟩, ⟨by repeat (first | (with_reducible first | exact HB.out | apply bA | apply pN | apply bD | refine bS ?_ GE133.out) | exact HB.out)⟩⟩
   ·rw [if_neg c7] at H
    have c7b0 : decide ((a0.size : Int) < 64) = false := decide_eq_false c7
    have c7b1 : decide (a0.size < 64) = false := decide_eq_false (by omega)
    clear c7
    (first | rw [c7b0] | (simp only [i64_w, i32_w]; rw [c7b0]) | skip)
    (try rw [c7b1])
    by_cases c8 : 0 ≤ 2
    ·rw [if_pos c8] at H
     have c8b0 := eq_true c8
     have c8b1 : decide (0 ≤ 2) = true := decide_eq_true c8
     clear c8
     by_cases c9 : 2 ≤ (a0.size : Int)
     ·rw [if_pos c9] at H
      have c9b0 := eq_true c9
      have c9b1 : decide (2 ≤ (a0.size : Int)) = true := decide_eq_true c9
      clear c9
      have H' := Aside0.mk H
      clear H
      go_wp2
      go_meet
      case rel => exact ⟨_, (((a0.extract 0 2).toList != ([67, 71] : List UInt8))), (by first | rfl | (simp; done) | (simp [*]; done)), H', ⟨by first | omega | exact Nat.le_refl _⟩, ⟨by (with_reducible repeat (first | refine kN ?_ _ | refine blk_drew ?_ | refine kA ?_ _)); exact BK133.out⟩, ⟨by repeat (first | (with_reducible first | exact HB.out | apply bA | apply pN | apply bD | refine bS ?_ GE133.out) | exact HB.out)⟩⟩
     ·rw [if_neg c9] at H
      exact absurd H (by simp)
    ·rw [if_neg c8] at H
     exact absurd H (by simp)
  case rest =>
   clear HC5
   try clear c2
   try clear c2b0
   try clear c2b1
   try clear p2
   try clear c7
   try clear c7b0
   try clear c7b1
   try clear c8
   try clear c8b0
   try clear c8b1
   try clear c9
   try clear c9b0
   try clear c9b1
   try clear hcz4_0
   try clear hcz4_1
   try clear hcz4_2
   try clear hfz4_0
   try clear hfz4_1
   try clear hfz4_2
   obtain ⟨kq, x27_4, rfl, HA, HJ4, BK133, HB⟩ := hcut
   cases kq with
   | zero => exact absurd HA.out (by simp [group_Decode.j0])
   | succ kj4 =>
    have H := HA.out
    clear HA
    simp only [group_Decode.j0] at H
    by_cases c10 : x27_4 = true
    ·subst c10
     have H1 : (some (0, ([] : List (S62)), ([] : List ByteArray), 0, 10)) = some (r1, r2, r3, r4, r5) := by rw [if_pos rfl] at H; exact H
     clear H
     have H := H1
     clear H1
     simp only [Option.some.injEq, Prod.mk.injEq] at H
     obtain ⟨rfl, rfl, rfl, rfl, rfl⟩ := H
     have hcz11_0 : wc.cell? ⟨gb133, 0, none⟩ = some (.int .i64 0) := (blk_cell BK133.out 0).trans rfl
     have hcz11_1 : wc.cell? ⟨gb133, 1, none⟩ = some (.slice none 0 0) := (blk_cell BK133.out 1).trans rfl
     have hcz11_2 : wc.cell? ⟨gb133, 2, none⟩ = some (.slice none 0 0) := (blk_cell BK133.out 2).trans rfl
     have hfz11_0 := blk_frozen BK133.out 0
     have hfz11_1 := blk_frozen BK133.out 1
     have hfz11_2 := blk_frozen BK133.out 2
     go_wp2
     refine bodyPost_ret (results_ctt rfl _ _ gb133 42 #[.int .i64 0, .slice none 0 0, .slice none 0 0] (0, 0) _ rfl (by (with_reducible repeat (first | refine kN ?_ _ | refine blk_drew ?_ | refine kA ?_ _)); refine blk_put (cs := #[.int .i64 0, .slice none 0 0, .slice none 0 0]) ?_ 2 _ rfl; (with_reducible repeat (first | refine kN ?_ _ | refine blk_drew ?_ | refine kA ?_ _)); refine blk_put (cs := #[.int .i64 0, .slice none 0 0, .slice none 0 0]) ?_ 1 _ rfl; (with_reducible repeat (first | refine kN ?_ _ | refine blk_drew ?_ | refine kA ?_ _)); refine blk_put (cs := #[.int .i64 0, .slice none 0 0, .slice none 0 0]) ?_ 0 _ rfl; (with_reducible repeat (first | refine kN ?_ _ | refine blk_drew ?_ | refine kA ?_ _)); exact BK133.out) Tryd.underlying42 rfl (by kernel_rfl)) rfl ?_
     exact ⟨_, _, by first | rfl | (simp [errW_none, errW_some] <;> rfl) | (simp [*, errW_none, errW_some] <;> rfl), by first | exact Kd.R_nil _ _ _ _ _ | exact Kd.N_nil _ _ _ _ _ | exact Kd.V_nil _ _ _ _ _ | exact Kd.Q_nil _ _ _ _ _ | exact Kd.S_nil _ _ _ _ _, by first | exact Kd.R_nil _ _ _ _ _ | exact Kd.N_nil _ _ _ _ _ | exact Kd.V_nil _ _ _ _ _ | exact Kd.Q_nil _ _ _ _ _ | exact Kd.S_nil _ _ _ _ _, by repeat (first | (with_reducible first | exact HB.out | apply bA | apply pN | apply bD | refine bS ?_ GE133.out) | exact HB.out)⟩
    ·replace c10 := Bool.eq_false_iff.mpr c10
     subst c10
     have H1 : (if 2 ≤ 8 then (if 8 ≤ (a0.size : Int) then ((nums_Get.f (a0.extract 2 8)).bind fun bt135 => (if 8 < (a0.size : Int) then (if (wrap64 (bt a0 8)) < 1 then (group_Decode.j1 kj4 a0 (wrap64 (9 + (wrap64 (4 * (wrap64 (bt a0 8)))))) true bt135.1) else (if (wrap64 (bt a0 8)) > 6 then (group_Decode.j1 kj4 a0 (wrap64 (9 + (wrap64 (4 * (wrap64 (bt a0 8)))))) true bt135.1) else (if 0 ≤ (wrap64 ((wrap64 (9 + (wrap64 (4 * (wrap64 (bt a0 8)))))) + 4)) then (if (wrap64 ((wrap64 (9 + (wrap64 (4 * (wrap64 (bt a0 8)))))) + 4)) ≤ 64 then (if 64 ≤ (a0.size : Int) then ((xor_Empty.f (a0.extract ((wrap64 ((wrap64 (9 + (wrap64 (4 * (wrap64 (bt a0 8)))))) + 4)) : Int).toNat 64)).bind fun t137 => (group_Decode.j1 kj4 a0 (wrap64 (9 + (wrap64 (4 * (wrap64 (bt a0 8)))))) (!t137) bt135.1)) else (none)) else (none)) else (none)))) else (none))) else (none)) else (none)) = some (r1, r2, r3, r4, r5) := by rw [if_neg (show ¬ (false = true) by decide)] at H; exact H
     clear H
     have H := H1
     clear H1
     by_cases c12 : 2 ≤ 8
     ·rw [if_pos c12] at H
      have c12b0 := eq_true c12
      have c12b1 : decide (2 ≤ 8) = true := decide_eq_true c12
      clear c12
      by_cases c13 : 8 ≤ (a0.size : Int)
      ·rw [if_pos c13] at H
       have c13b0 := eq_true c13
       have c13b1 : decide (8 ≤ (a0.size : Int)) = true := decide_eq_true c13
       clear c13
       replace H := Option.bind_eq_some_iff.mp H
       obtain ⟨⟨t135, t136⟩, A140, H⟩ := H
       replace H : (if 8 < (a0.size : Int) then (if (wrap64 (bt a0 8)) < 1 then (group_Decode.j1 kj4 a0 (wrap64 (9 + (wrap64 (4 * (wrap64 (bt a0 8)))))) true t135) else (if (wrap64 (bt a0 8)) > 6 then (group_Decode.j1 kj4 a0 (wrap64 (9 + (wrap64 (4 * (wrap64 (bt a0 8)))))) true t135) else (if 0 ≤ (wrap64 ((wrap64 (9 + (wrap64 (4 * (wrap64 (bt a0 8)))))) + 4)) then (if (wrap64 ((wrap64 (9 + (wrap64 (4 * (wrap64 (bt a0 8)))))) + 4)) ≤ 64 then (if 64 ≤ (a0.size : Int) then ((xor_Empty.f (a0.extract ((wrap64 ((wrap64 (9 + (wrap64 (4 * (wrap64 (bt a0 8)))))) + 4)) : Int).toNat 64)).bind fun t137 => (group_Decode.j1 kj4 a0 (wrap64 (9 + (wrap64 (4 * (wrap64 (bt a0 8)))))) (!t137) t135)) else (none)) else (none)) else (none)))) else (none)) = some (r1, r2, r3, r4, r5) := H
       have A14 := Aside0.mk A140
       clear A140
       by_cases c15 : 8 < (a0.size : Int)
       ·rw [if_pos c15] at H
        have c15b0 : decide (8 < (a0.size : Int)) = true := decide_eq_true c15
        have c15b1 : decide (8 < a0.size) = true := decide_eq_true (by omega)
        clear c15
        have HC17 := Aside0.mk H
        clear H
        go_upto_region 9 with (first | ((with_reducible refine gate_dst (N := 5) rfl ?_); refine box_event ?hg (N := 5) ?hd (cs := #[.int .i64 0, .slice none 0 0, .slice none 0 0]) (t := 42) ?hr ?_; (case hd => rfl); (case hg => rfl); (case hr => first | (go_simp; done) | (go_simp; rfl)); intro gb134 hg w18 hbox hb; have n0_ := Aside0.mk (kB (g := gb133) (o := .cells #[.int .i64 0, .slice none 0 0, .slice none 0 0] 42 (0, 0)) (by (with_reducible repeat (first | refine kN ?_ _ | refine blk_drew ?_ | refine kA ?_ _)); exact BK133.out) hb); have n1_ := Aside0.mk (below_step (by repeat (first | (with_reducible first | exact HB.out | apply bA | apply pN | apply bD | refine bS ?_ GE133.out) | exact HB.out)) hb); have n2_ := Aside0.mk (hbox); have n3_ := Aside0.mk ((by rw [hg]; exact (bZ (by repeat (first | (with_reducible first | exact HB.out | apply bA | apply pN | apply bD | refine bS ?_ GE133.out) | exact HB.out))) : w.heap.size ≤ gb134)); have n4_ := Aside0.mk ((by rw [hg]; exact (bZ (by repeat (first | (with_reducible first | exact HB.out | apply bA | apply pN | apply bD | refine bS ?_ GE133.out) | exact HB.out))) : w.heap.size ≤ gb134)); have n5_ := Aside0.mk ((by rw [hg]; exact Nat.ne_of_lt (blk_lt (g := gb133) (o := .cells #[.int .i64 0, .slice none 0 0, .slice none 0 0] 42 (0, 0)) (by (with_reducible repeat (first | refine kN ?_ _ | refine blk_drew ?_ | refine kA ?_ _)); exact BK133.out)) : gb133 ≠ gb134)); have n6_ := Aside0.mk ((by rw [hg]; exact Nat.ne_of_gt (blk_lt (g := gb133) (o := .cells #[.int .i64 0, .slice none 0 0, .slice none 0 0] 42 (0, 0)) (by (with_reducible repeat (first | refine kN ?_ _ | refine blk_drew ?_ | refine kA ?_ _)); exact BK133.out)) : gb134 ≠ gb133)); clear BK133; clear HB; have BK133 := n0_; have HB := n1_; have BK134 := n2_; have GW134 := n3_; have GE134 := n4_; have NB133_134 := n5_; have NB134_133 := n6_; clear n0_ n1_ n2_ n3_ n4_ n5_ n6_; clear hb hbox hg) | ((with_reducible refine gate_callee (f := 40) rfl ?_); refine goesL_ (some 32) rfl rfl Tryd.func40 (by kernel_rfl) rfl #[.string (a0.extract 2 8)] rfl (by (try simp only [List.map_toArray, List.map_cons, List.map_nil]); first | done | rfl | (simp only [List.length_drop, List.length_take]; rfl)) ?_; (with_reducible refine (nums_Get.calls (a0.extract 2 8) t135 t136 _ A14.out).mono ?_); rintro e w' ⟨rfl, ⟨nd, rfl⟩⟩; refine ⟨_, rfl, ?_⟩; (try (rw [drewN_self w18]; generalize hq_ : World.drewN w18 _ = w18; have n0_ : Aside0 (w18.heap[gb133]? = some (.cells #[.int .i64 0, .slice none 0 0, .slice none 0 0] 42 (0, 0))) := ⟨by rw [← hq_]; exact (by (with_reducible repeat (first | refine kN ?_ _ | refine blk_drew ?_ | refine kA ?_ _)); exact BK133.out)⟩; have n1_ : Aside0 (w18.heap[gb134]? = some (.cells #[.int .i64 0, .slice none 0 0, .slice none 0 0] 42 (0, 0))) := ⟨by rw [← hq_]; exact (by (with_reducible repeat (first | refine kN ?_ _ | refine blk_drew ?_ | refine kA ?_ _)); exact BK134.out)⟩; have n2_ : Aside0 (Below w.heap.size w w18) := ⟨by rw [← hq_]; exact (by repeat (first | (with_reducible first | exact HB.out | apply bA | apply pN | apply bD | refine bS ?_ GE133.out | refine bS ?_ GE134.out) | exact HB.out))⟩; clear BK133 BK134 HB hq_; have BK133 := n0_; have BK134 := n1_; have HB := n2_; clear n0_ n1_ n2_)); have hnb19 := NB134_133.out; have hnc19 := NB133_134.out; have hcz20_0 : w18.cell? ⟨gb134, 0, none⟩ = some (.int .i64 0) := (blk_cell BK134.out 0).trans rfl; have hcz20_1 : w18.cell? ⟨gb134, 1, none⟩ = some (.slice none 0 0) := (blk_cell BK134.out 1).trans rfl; have hcz20_2 : w18.cell? ⟨gb134, 2, none⟩ = some (.slice none 0 0) := (blk_cell BK134.out 2).trans rfl; have hfz20_0 := blk_frozen BK134.out 0; have hfz20_1 := blk_frozen BK134.out 1; have hfz20_2 := blk_frozen BK134.out 2; have p16 : 0 ≤ (8 : Int) := (by omega); have q16 : 8 < a0.size := (by have : (8 : Int) < (a0.size : Int) := of_decide_eq_true (by first | (with_reducible assumption) | assumption); omega); have hx16 : ∀ h : 8 < a0.size, ((a0[8]'h).toNat : Int) = bt a0 8 := bt_at a0 8; clear p16; have qi16 : (8 < (a0.size : Int)) = True := eq_true (of_decide_eq_true (by first | (with_reducible assumption) | assumption)); replace q16 := eq_true q16))
        (try simp only [Act.put, List.setIfInBounds_toArray, List.set_cons_zero, List.set_cons_succ])
        go_cut [55] (fun v55 wc => ∃ (kq : Nat) (x55_16 : Bool), v55 = .bool x55_16 ∧ Aside0 (group_Decode.j1 kq a0 (wrap64 (9 + (wrap64 (4 * (wrap64 (bt a0 8)))))) x55_16 t135 = some (r1, r2, r3, r4, r5)) ∧ Aside0 (kq ≤ kj4) ∧ Aside0 (wc.heap[gb133]? = some (.cells #[.int .i64 0, (.slice none 0 0), (.slice none 0 0)] 42 (0, 0))) ∧ Aside0 (wc.heap[gb134]? = some (.cells #[.int .i64 t135, (.slice none 0 0), (.slice none 0 0)] 42 (0, 0))) ∧ Aside0 (Below w.heap.size w wc))
        case first =>
         have H := HC17.out
         clear HC17
         by_cases c21 : (wrap64 (bt a0 8)) < 1
         ·rw [if_pos c21] at H
          have c21b0 : decide ((wrap64 (bt a0 8)) < 1) = true := decide_eq_true c21
          clear c21
          (first | rw [c21b0] | (simp only [i64_w, i32_w]; rw [c21b0]) | skip)
          have H' := Aside0.mk H
          clear H
          go_wp2
          go_meet
          case rel => exact ⟨_, (true), (by first | rfl | (simp; done) | (simp [*]; done)), H', ⟨by have := HJ4.out; first | omega | exact Nat.le_refl _⟩, ⟨by (with_reducible repeat (first | refine kN ?_ _ | refine blk_drew ?_ | refine kA ?_ _)); refine blk_far ?_ NB133_134.out _; (with_reducible repeat (first | refine kN ?_ _ | refine blk_drew ?_ | refine kA ?_ _)); exact BK133.out⟩, ⟨by (with_reducible repeat (first | refine kN ?_ _ | refine blk_drew ?_ | refine kA ?_ _)); refine blk_put (cs := #[.int .i64 0, .slice none 0 0, .slice none 0 0]) ?_ 0 _ rfl; (with_reducible repeat (first | refine kN ?_ _ | refine blk_drew ?_ | refine kA ?_ _)); exact BK134.out⟩, ⟨by repeat (first | (with_reducible first | exact HB.out | apply bA | apply pN | apply bD | refine bS ?_ GE133.out | refine bS ?_ GE134.out) | exact HB.out)⟩⟩
         ·rw [if_neg c21] at H
          have c21b0 : decide ((wrap64 (bt a0 8)) < 1) = false := decide_eq_false c21
          clear c21
          (first | rw [c21b0] | (simp only [i64_w, i32_w]; rw [c21b0]) | skip)
          by_cases c22 : (wrap64 (bt a0 8)) > 6
          ·rw [if_pos c22] at H
           have c22b0 : decide (6 < (wrap64 (bt a0 8))) = true := decide_eq_true c22
           clear c22
           have H' := Aside0.mk H
           clear H
           go_wp2
           go_meet
           case rel => exact ⟨_, (true), (by first | rfl | (simp; done) | (simp [*]; done)), H', ⟨by have := HJ4.out; first | omega | exact Nat.le_refl _⟩, ⟨by (with_reducible repeat (first | refine kN ?_ _ | refine blk_drew ?_ | refine kA ?_ _)); refine blk_far ?_ NB133_134.out _; (with_reducible repeat (first | refine kN ?_ _ | refine blk_drew ?_ | refine kA ?_ _)); exact BK133.out⟩, ⟨by (with_reducible repeat (first | refine kN ?_ _ | refine blk_drew ?_ | refine kA ?_ _)); refine blk_put (cs := #[.int .i64 0, .slice none 0 0, .slice none 0 0]) ?_ 0 _ rfl; (with_reducible repeat (first | refine kN ?_ _ | refine blk_drew ?_ | refine kA ?_ _)); exact BK134.out⟩, ⟨by repeat (first | (with_reducible first | exact HB.out | apply bA | apply pN | apply bD | refine bS ?_ GE133.out | refine bS ?_ GE134.out) | exact HB.out)⟩⟩
          ·rw [if_neg c22] at H
           have c22b0 : decide (6 < (wrap64 (bt a0 8))) = false := decide_eq_false c22
           clear c22
           obtain ⟨ji23, hji23⟩ : ∃ j_ : Int, (wrap64 ((wrap64 (9 + (wrap64 (4 * (wrap64 (bt a0 8)))))) + 4)) = j_ := ⟨_, rfl⟩
           replace H : (if 0 ≤ (ji23) then (if (ji23) ≤ 64 then (if 64 ≤ (a0.size : Int) then ((xor_Empty.f (a0.extract ((ji23) : Int).toNat 64)).bind fun t137 => (group_Decode.j1 kj4 a0 (wrap64 (9 + (wrap64 (4 * (wrap64 (bt a0 8)))))) (!t137) t135)) else (none)) else (none)) else (none)) = some (r1, r2, r3, r4, r5) := by first | (rw [hji23] at H; exact H) | (simp only [hji23] at H ⊢; exact H)
           have hji23w : (IntKind.i64.wrap ((wrap64 (9 + (wrap64 (4 * (wrap64 (bt a0 8)))))) + 4)) = ji23 := (i64_w _).trans hji23
           by_cases c24 : 0 ≤ (ji23)
           ·rw [if_pos c24] at H
            have c24b0 := eq_true c24
            have c24b1 : decide (0 ≤ (ji23)) = true := decide_eq_true c24
            clear c24
            by_cases c25 : (ji23) ≤ 64
            ·rw [if_pos c25] at H
             have c25b0 := eq_true c25
             have c25b1 : decide ((ji23) ≤ 64) = true := decide_eq_true c25
             clear c25
             by_cases c26 : 64 ≤ (a0.size : Int)
             ·rw [if_pos c26] at H
              have c26b0 := eq_true c26
              have c26b1 : decide (64 ≤ (a0.size : Int)) = true := decide_eq_true c26
              clear c26
              replace H := Option.bind_eq_some_iff.mp H
              obtain ⟨t137, A270, H⟩ := H
              replace H : (group_Decode.j1 kj4 a0 (wrap64 (9 + (wrap64 (4 * (wrap64 (bt a0 8)))))) (!t137) t135) = some (r1, r2, r3, r4, r5) := H
              have A27 := Aside0.mk A270
              clear A270
              have H' := Aside0.mk H
              clear H
              go_wp2_with (first | (go_at_call 17; (with_reducible refine (xor_Empty.calls (a0.extract ((ji23) : Int).toNat 64) t137 _ A27.out).mono ?_); rintro e w' ⟨rfl, ⟨nd, rfl⟩⟩))
              go_meet
              case rel => exact ⟨_, (!t137), (by first | rfl | (simp; done) | (simp [*]; done)), H', ⟨by have := HJ4.out; first | omega | exact Nat.le_refl _⟩, ⟨by (with_reducible repeat (first | refine kN ?_ _ | refine blk_drew ?_ | refine kA ?_ _)); refine blk_far ?_ NB133_134.out _; (with_reducible repeat (first | refine kN ?_ _ | refine blk_drew ?_ | refine kA ?_ _)); exact BK133.out⟩, ⟨by (with_reducible repeat (first | refine kN ?_ _ | refine blk_drew ?_ | refine kA ?_ _)); refine blk_put (cs := #[.int .i64 0, .slice none 0 0, .slice none 0 0]) ?_ 0 _ rfl; (with_reducible repeat (first | refine kN ?_ _ | refine blk_drew ?_ | refine kA ?_ _)); exact BK134.out⟩, ⟨by repeat (first | (with_reducible first | exact HB.out | apply bA | apply pN | apply bD | refine bS ?_ GE133.out | refine bS ?_ GE134.out) | exact HB.out)⟩⟩
             ·rw [if_neg c26] at H
              exact absurd H (by simp)
            ·rw [if_neg c25] at H
             exact absurd H (by simp)
           ·rw [if_neg c24] at H
            exact absurd H (by simp)
        case rest =>
         clear HC17
         try clear c1
         try clear p1
         try clear q1
         try clear hx1
         try clear qi1
         try clear c2
         try clear c2b0
         try clear c2b1
         try clear p2
         try clear c4
         try clear p6
         try clear c7
         try clear c7b0
         try clear c7b1
         try clear c8
         try clear c8b0
         try clear c8b1
         try clear c9
         try clear c9b0
         try clear c9b1
         try clear c10
         try clear c12
         try clear c12b0
         try clear c12b1
         try clear c13
         try clear c13b0
         try clear c13b1
         try clear c15
         try clear c15b0
         try clear c15b1
         try clear p16
         try clear q16
         try clear hx16
         try clear qi16
         try clear c19
         try clear c21
         try clear c21b0
         try clear c22
         try clear c22b0
         try clear c24
         try clear c24b0
         try clear c24b1
         try clear c25
         try clear c25b0
         try clear c25b1
         try clear c26
         try clear c26b0
         try clear c26b1
         try clear c27
         try clear hcz11_0
         try clear hcz11_1
         try clear hcz11_2
         try clear hcz20_0
         try clear hcz20_1
         try clear hcz20_2
         try clear hcz4_0
         try clear hcz4_1
         try clear hcz4_2
         try clear hfz11_0
         try clear hfz11_1
         try clear hfz11_2
         try clear hfz20_0
         try clear hfz20_1
         try clear hfz20_2
         try clear hfz4_0
         try clear hfz4_1
         try clear hfz4_2
         try clear p16
         try clear p2
         try clear q16
         obtain ⟨kq, x55_16, rfl, HA, HJ16, BK133, BK134, HB⟩ := hcut
         cases kq with
         | zero => exact absurd HA.out (by simp [group_Decode.j1])
         | succ kj16 =>
          have H := HA.out
          clear HA
          simp only [group_Decode.j1] at H
          by_cases c28 : x55_16 = true
          ·subst c28
           have H1 : (some (0, ([] : List (S62)), ([] : List ByteArray), 0, 10)) = some (r1, r2, r3, r4, r5) := by rw [if_pos rfl] at H; exact H
           clear H
           have H := H1
           clear H1
           simp only [Option.some.injEq, Prod.mk.injEq] at H
           obtain ⟨rfl, rfl, rfl, rfl, rfl⟩ := H
           have hnb29 := NB133_134.out
           have hnc29 := NB134_133.out
           have hcz30_0 : wc.cell? ⟨gb133, 0, none⟩ = some (.int .i64 0) := (blk_cell BK133.out 0).trans rfl
           have hcz30_1 : wc.cell? ⟨gb133, 1, none⟩ = some (.slice none 0 0) := (blk_cell BK133.out 1).trans rfl
           have hcz30_2 : wc.cell? ⟨gb133, 2, none⟩ = some (.slice none 0 0) := (blk_cell BK133.out 2).trans rfl
           have hfz30_0 := blk_frozen BK133.out 0
           have hfz30_1 := blk_frozen BK133.out 1
           have hfz30_2 := blk_frozen BK133.out 2
           go_wp2
           refine bodyPost_ret (results_ctt rfl _ _ gb133 42 #[.int .i64 0, .slice none 0 0, .slice none 0 0] (0, 0) _ rfl (by (with_reducible repeat (first | refine kN ?_ _ | refine blk_drew ?_ | refine kA ?_ _)); refine blk_put (cs := #[.int .i64 0, .slice none 0 0, .slice none 0 0]) ?_ 2 _ rfl; (with_reducible repeat (first | refine kN ?_ _ | refine blk_drew ?_ | refine kA ?_ _)); refine blk_put (cs := #[.int .i64 0, .slice none 0 0, .slice none 0 0]) ?_ 1 _ rfl; (with_reducible repeat (first | refine kN ?_ _ | refine blk_drew ?_ | refine kA ?_ _)); refine blk_put (cs := #[.int .i64 0, .slice none 0 0, .slice none 0 0]) ?_ 0 _ rfl; (with_reducible repeat (first | refine kN ?_ _ | refine blk_drew ?_ | refine kA ?_ _)); exact BK133.out) Tryd.underlying42 rfl (by kernel_rfl)) rfl ?_
           exact ⟨_, _, by first | rfl | (simp [errW_none, errW_some] <;> rfl) | (simp [*, errW_none, errW_some] <;> rfl), by first | exact Kd.R_nil _ _ _ _ _ | exact Kd.N_nil _ _ _ _ _ | exact Kd.V_nil _ _ _ _ _ | exact Kd.Q_nil _ _ _ _ _ | exact Kd.S_nil _ _ _ _ _, by first | exact Kd.R_nil _ _ _ _ _ | exact Kd.N_nil _ _ _ _ _ | exact Kd.V_nil _ _ _ _ _ | exact Kd.Q_nil _ _ _ _ _ | exact Kd.S_nil _ _ _ _ _, by repeat (first | (with_reducible first | exact HB.out | apply bA | apply pN | apply bD | refine bS ?_ GE133.out | refine bS ?_ GE134.out) | exact HB.out)⟩
          ·replace c28 := Bool.eq_false_iff.mpr c28
           subst c28
           have H1 : (group_Decode.l0 kj16 a0 (wrap64 (9 + (wrap64 (4 * (wrap64 (bt a0 8)))))) 9 t135 ([] : List (S62))) = some (r1, r2, r3, r4, r5) := by rw [if_neg (show ¬ (false = true) by decide)] at H; exact H
           clear H
           have H := H1
           clear H1
           have H' := Aside0.mk H
           clear H
           go_wp2
           go_loopg [8] kj16 (fun kq v8 w' => ∃ (x8_3 : Int) (x135001_3 : List (S62)) (u135001 : Value), v8 = .int .i64 x8_3 ∧ Aside0 (group_Decode.l0 kq a0 (wrap64 (9 + (wrap64 (4 * (wrap64 (bt a0 8)))))) x8_3 t135 x135001_3 = some (r1, r2, r3, r4, r5)) ∧ Aside0 (kq ≤ kj16) ∧ Aside0 (Kd.R k62 62 w' w.heap.size (fun _ => True) u135001 x135001_3) ∧ Aside0 (w'.heap[gb133]? = some (.cells #[.int .i64 0, (.slice none 0 0), (.slice none 0 0)] 42 (0, 0))) ∧ Aside0 (w'.heap[gb134]? = some (.cells #[.int .i64 t135, u135001, (.slice none 0 0)] 42 (0, 0))) ∧ Aside0 (Below w.heap.size w w'))
           case atStart => exact ⟨(9), (([] : List (S62))), (.slice none 0 0), (by first | rfl | (simp; done) | (simp [*]; done)), H', ⟨Nat.le_refl _⟩, ⟨by first | exact Kd.R_nil _ _ _ _ _ | exact Kd.N_nil _ _ _ _ _ | exact Kd.V_nil _ _ _ _ _ | exact Kd.Q_nil _ _ _ _ _ | exact Kd.S_nil _ _ _ _ _⟩, ⟨by (with_reducible repeat (first | refine kN ?_ _ | refine blk_drew ?_ | refine kA ?_ _)); exact BK133.out⟩, ⟨by (with_reducible repeat (first | refine kN ?_ _ | refine blk_drew ?_ | refine kA ?_ _)); exact BK134.out⟩, ⟨by repeat (first | (with_reducible first | exact HB.out | apply bA | apply pN | apply bD | refine bS ?_ GE133.out | refine bS ?_ GE134.out) | exact HB.out)⟩⟩
           case round =>
            clear H'
            try clear c1
            try clear p1
            try clear q1
            try clear hx1
            try clear qi1
            try clear c2
            try clear c2b0
            try clear c2b1
            try clear p2
            try clear c4
            try clear p6
            try clear c7
            try clear c7b0
            try clear c7b1
            try clear c8
            try clear c8b0
            try clear c8b1
            try clear c9
            try clear c9b0
            try clear c9b1
            try clear c10
            try clear c12
            try clear c12b0
            try clear c12b1
            try clear c13
            try clear c13b0
            try clear c13b1
            try clear c15
            try clear c15b0
            try clear c15b1
            try clear p16
            try clear q16
            try clear hx16
            try clear qi16
            try clear c19
            try clear c21
            try clear c21b0
            try clear c22
            try clear c22b0
            try clear c24
            try clear c24b0
            try clear c24b1
            try clear c25
            try clear c25b0
            try clear c25b1
            try clear c26
            try clear c26b0
            try clear c26b1
            try clear c27
            try clear c28
            try clear c29
            try clear hcz11_0
            try clear hcz11_1
            try clear hcz11_2
            try clear hcz20_0
            try clear hcz20_1
            try clear hcz20_2
            try clear hcz30_0
            try clear hcz30_1
            try clear hcz30_2
            try clear hcz4_0
            try clear hcz4_1
            try clear hcz4_2
            try clear hfz11_0
            try clear hfz11_1
            try clear hfz11_2
            try clear hfz20_0
            try clear hfz20_1
            try clear hfz20_2
            try clear hfz30_0
            try clear hfz30_1
            try clear hfz30_2
            try clear hfz4_0
            try clear hfz4_1
            try clear hfz4_2
            try clear p1
            try clear p16
            try clear p2
            try clear p6
            try clear q1
            try clear q16
            obtain ⟨x8_3, x135001_3, u135001, rfl, HA, HK3, HO_135001, BK133, BK134, HB⟩ := hrel
            cases gk with
            | zero => exact absurd HA.out (by simp [group_Decode.l0])
            | succ k3 =>
             have H := HA.out
             clear HA
             simp only [group_Decode.l0] at H
             by_cases c31 : x8_3 < (wrap64 (9 + (wrap64 (4 * (wrap64 (bt a0 8))))))
             ·rw [if_pos c31] at H
              have c31b0 : decide (x8_3 < (wrap64 (9 + (wrap64 (4 * (wrap64 (bt a0 8))))))) = true := decide_eq_true c31
              clear c31
              by_cases c32 : 0 ≤ x8_3
              ·rw [if_pos c32] at H
               have c32b0 := eq_true c32
               have c32b1 : decide (0 ≤ x8_3) = true := decide_eq_true c32
               clear c32
               by_cases c33 : x8_3 ≤ (wrap64 (x8_3 + 4))
               ·rw [if_pos c33] at H
                have c33b0 := eq_true c33
                have c33b1 : decide (x8_3 ≤ (wrap64 (x8_3 + 4))) = true := decide_eq_true c33
                by_cases c34 : (wrap64 (x8_3 + 4)) ≤ (a0.size : Int)
                ·rw [if_pos c34] at H
                 have c34b0 := eq_true c34
                 have c34b1 : decide ((wrap64 (x8_3 + 4)) ≤ (a0.size : Int)) = true := decide_eq_true c34
                 replace H := Option.bind_eq_some_iff.mp H
                 obtain ⟨⟨t138, t139⟩, A350, H⟩ := H
                 replace H : (if x135001_3.length < 8796093022208 then (group_Decode.l0 k3 a0 (wrap64 (9 + (wrap64 (4 * (wrap64 (bt a0 8)))))) (wrap64 (x8_3 + 4)) t135 (x135001_3 ++ [(⟨Go.bits .andNot .i64 t138 2147483648, ((Go.bits .and .i64 t138 2147483648) != 0)⟩ : S62)])) else (none)) = some (r1, r2, r3, r4, r5) := H
                 have A35 := Aside0.mk A350
                 clear A350
                 by_cases c36 : x135001_3.length < 8796093022208
                 ·rw [if_pos c36] at H
                  have LMc36 := Aside0.mk c36
                  clear c36
                  obtain ⟨y140, hy140⟩ : ∃ y_ : List (S62), y_ = (x135001_3 ++ [(⟨Go.bits .andNot .i64 t138 2147483648, ((Go.bits .and .i64 t138 2147483648) != 0)⟩ : S62)]) := ⟨_, rfl⟩
                  replace H : (group_Decode.l0 k3 a0 (wrap64 (9 + (wrap64 (4 * (wrap64 (bt a0 8)))))) (wrap64 (x8_3 + 4)) t135 y140) = some (r1, r2, r3, r4, r5) := by first | (rw [hy140]; with_reducible exact H) | (have H2_ := (Option.bind_some _ _).symm.trans H; rw [hy140]; with_reducible exact H2_) | (have H2_ := (Option.bind_some _ _).symm.trans H; with_reducible exact H2_) | with_reducible exact H | (rw [hy140]; exact H) | exact H
                  have Ny140 := Aside0.mk hy140
                  clear hy140
                  have H' := Aside0.mk H
                  clear H
                  go_wp2_with (first | ((with_reducible refine gate_callee (f := 40) rfl ?_); refine goesL_ (some 68) rfl rfl Tryd.func40 (by kernel_rfl) rfl #[.string (a0.extract (x8_3 : Int).toNat ((wrap64 (x8_3 + 4)) : Int).toNat)] rfl (by (try simp only [List.map_toArray, List.map_cons, List.map_nil]); first | done | rfl | (simp only [List.length_drop, List.length_take]; rfl)) ?_; (with_reducible refine (nums_Get.calls (a0.extract (x8_3 : Int).toNat ((wrap64 (x8_3 + 4)) : Int).toNat) t138 t139 _ A35.out).mono ?_); rintro e w' ⟨rfl, ⟨nd, rfl⟩⟩; refine ⟨_, rfl, ?_⟩; (try (rw [drewN_self wr]; generalize hq_ : World.drewN wr _ = wr; have n0_ : Aside0 (Kd.R k62 62 wr w.heap.size (fun _ => True) u135001 x135001_3) := ⟨by rw [← hq_]; exact (by (with_reducible repeat (first | apply rA | apply rN | apply Kd.R_drew)); exact HO_135001.out)⟩; have n1_ : Aside0 (wr.heap[gb133]? = some (.cells #[.int .i64 0, .slice none 0 0, .slice none 0 0] 42 (0, 0))) := ⟨by rw [← hq_]; exact (by (with_reducible repeat (first | refine kN ?_ _ | refine blk_drew ?_ | refine kA ?_ _)); exact BK133.out)⟩; have n2_ : Aside0 (wr.heap[gb134]? = some (.cells #[.int .i64 t135, u135001, .slice none 0 0] 42 (0, 0))) := ⟨by rw [← hq_]; exact (by (with_reducible repeat (first | refine kN ?_ _ | refine blk_drew ?_ | refine kA ?_ _)); exact BK134.out)⟩; have n3_ : Aside0 (Below w.heap.size w wr) := ⟨by rw [← hq_]; exact (by repeat (first | (with_reducible first | exact HB.out | apply bA | apply pN | apply bD | refine bS ?_ GE133.out | refine bS ?_ GE134.out) | exact HB.out))⟩; clear HO_135001 BK133 BK134 HB hq_; have HO_135001 := n0_; have BK133 := n1_; have BK134 := n2_; have HB := n3_; clear n0_ n1_ n2_ n3_)); have hnb37 := NB134_133.out; have hnc37 := NB133_134.out; have hcz38_0 : wr.cell? ⟨gb134, 0, none⟩ = some (.int .i64 t135) := (blk_cell BK134.out 0).trans rfl; have hcz38_1 : wr.cell? ⟨gb134, 1, none⟩ = some (u135001) := (blk_cell BK134.out 1).trans rfl; have hcz38_2 : wr.cell? ⟨gb134, 2, none⟩ = some (.slice none 0 0) := (blk_cell BK134.out 2).trans rfl; have hfz38_0 := blk_frozen BK134.out 0; have hfz38_1 := blk_frozen BK134.out 1; have hfz38_2 := blk_frozen BK134.out 2) | ((with_reducible refine gate_builtin (b := .append) (xs := #[.tmp 72, .tmp 79]) rfl ?_); at_builtin; refine Kd.R_append k62 (w0 := w) w.heap.size rfl (.tmp 72) (.tmp 79) 40 62 (.agg #[(.int .i64 0), (.bool false)]) 16 rfl Tryd.underlying40 info62 rfl (by decide) (by omega) u135001 x135001_3 (⟨Go.bits .andNot .i64 t138 2147483648, ((Go.bits .and .i64 t138 2147483648) != 0)⟩ : S62) [.int .i64 (Go.bits .andNot .i64 t138 2147483648), .bool ((Go.bits .and .i64 t138 2147483648) != 0)] (fun _ => True) (fun _ => False) rfl rfl ?aP (fun _ hk => hk.elim) ?aF ?aO ?aB ?aS ?aL ?_; (case aP => exact k62_mkM _ _ _ (⟨Go.bits .andNot .i64 t138 2147483648, ((Go.bits .and .i64 t138 2147483648) != 0)⟩ : S62)); (case aB => exact (by repeat (first | (with_reducible first | exact HB.out | apply bA | apply pN | apply bD | refine bS ?_ GE133.out | refine bS ?_ GE134.out) | exact HB.out))); (case aF => exact (fun _ _ => trivial)); (case aO => exact (by (with_reducible repeat (first | apply rA | apply rN | apply Kd.R_drew)); exact HO_135001.out)); (case aS => exact (bZ (by repeat (first | (with_reducible first | exact HB.out | apply bA | apply pN | apply bD | refine bS ?_ GE133.out | refine bS ?_ GE134.out) | exact HB.out)))); (case aL => have := LMc36.out; omega); intro v141 w39 ho hb hg hat; rw [← Ny140.out] at ho; have n0_ := Aside0.mk (blk_grown (g := gb133) (o := .cells #[.int .i64 0, .slice none 0 0, .slice none 0 0] 42 (0, 0)) (by (with_reducible repeat (first | refine kN ?_ _ | refine blk_drew ?_ | refine kA ?_ _)); exact BK133.out) hg (Kd.R_ne HO_135001.out BK133.out (by decide))); have n1_ := Aside0.mk (blk_grown (g := gb134) (o := .cells #[.int .i64 t135, u135001, .slice none 0 0] 42 (0, 0)) (by (with_reducible repeat (first | refine kN ?_ _ | refine blk_drew ?_ | refine kA ?_ _)); exact BK134.out) hg (Kd.R_ne HO_135001.out BK134.out (by decide))); have n2_ := Aside0.mk (hb); have n3_ := Aside0.mk (ho); clear BK133; clear BK134; clear HB; clear HO_135001; have BK133 := n0_; have BK134 := n1_; have HB := n2_; have HO142 := n3_; clear n0_ n1_ n2_ n3_; clear ho hb hg hat; obtain ⟨Ao40, co40, eo40⟩ := Kd.R_slice HO142.out; subst eo40; have hcz41_0 : w39.cell? ⟨gb134, 0, none⟩ = some (.int .i64 t135) := (blk_cell BK134.out 0).trans rfl; have hcz41_1 : w39.cell? ⟨gb134, 1, none⟩ = some (u135001) := (blk_cell BK134.out 1).trans rfl; have hcz41_2 : w39.cell? ⟨gb134, 2, none⟩ = some (.slice none 0 0) := (blk_cell BK134.out 2).trans rfl; have hfz41_0 := blk_frozen BK134.out 0; have hfz41_1 := blk_frozen BK134.out 1; have hfz41_2 := blk_frozen BK134.out 2))
                  go_roundg k3
                  case measure => have := HJ4.out; have := HJ16.out; have := HK3.out; omega
                  case rel => exact ⟨(wrap64 (x8_3 + 4)), (y140), (.slice Ao40 y140.length co40), (by first | rfl | (simp; done) | (simp [*]; done)), H', ⟨by have := HJ4.out; have := HJ16.out; have := HK3.out; omega⟩, ⟨by (with_reducible repeat (first | apply rA | apply rN | apply Kd.R_drew)); exact Kd.R_mono (Kd.R_far (p := ⟨gb134, 1, none⟩) (Kd.R_types HO142.out BK134.out (by decide)) (fun _ hk => hk.2) (.slice Ao40 y140.length co40)) (fun _ hk => trivial)⟩, ⟨by (with_reducible repeat (first | refine kN ?_ _ | refine blk_drew ?_ | refine kA ?_ _)); refine blk_far ?_ NB133_134.out _; (with_reducible repeat (first | refine kN ?_ _ | refine blk_drew ?_ | refine kA ?_ _)); exact BK133.out⟩, ⟨by (with_reducible repeat (first | refine kN ?_ _ | refine blk_drew ?_ | refine kA ?_ _)); refine blk_put (cs := #[.int .i64 t135, u135001, .slice none 0 0]) ?_ 1 _ rfl; (with_reducible repeat (first | refine kN ?_ _ | refine blk_drew ?_ | refine kA ?_ _)); exact BK134.out⟩, ⟨by repeat (first | (with_reducible first | exact HB.out | apply bA | apply pN | apply bD | refine bS ?_ GE133.out | refine bS ?_ GE134.out) | exact HB.out)⟩⟩
                 ·rw [if_neg c36] at H
                  exact absurd H (by simp)
                ·rw [if_neg c34] at H
                 exact absurd H (by simp)
               ·rw [if_neg c33] at H
                exact absurd H (by simp)
              ·rw [if_neg c32] at H
               exact absurd H (by simp)
             ·rw [if_neg c31] at H
              have c31b0 : decide (x8_3 < (wrap64 (9 + (wrap64 (4 * (wrap64 (bt a0 8))))))) = false := decide_eq_false c31
              clear c31
              replace H := Option.bind_eq_some_iff.mp H
              obtain ⟨t143, A420, H⟩ := H
              replace H : (if (a0.size : Int) < (wrap64 (t143 * 64)) then (some (0, ([] : List (S62)), ([] : List ByteArray), 0, 10)) else (if 64 ≤ (wrap64 (t143 * 64)) then (if (wrap64 (t143 * 64)) ≤ (a0.size : Int) then (group_Decode.l1 k3 a0 (wrap64 (9 + (wrap64 (4 * (wrap64 (bt a0 8)))))) t143 (a0.extract 64 ((wrap64 (t143 * 64)) : Int).toNat) x135001_3 (x135001_3.length : Int) 0 t135 x135001_3 ([] : List ByteArray)) else (none)) else (none))) = some (r1, r2, r3, r4, r5) := H
              have A42 := Aside0.mk A420
              clear A420
              by_cases c43 : (a0.size : Int) < (wrap64 (t143 * 64))
              ·rw [if_pos c43] at H
               have c43b0 : decide ((a0.size : Int) < (wrap64 (t143 * 64))) = true := decide_eq_true c43
               clear c43
               simp only [Option.some.injEq, Prod.mk.injEq] at H
               obtain ⟨rfl, rfl, rfl, rfl, rfl⟩ := H
               have hnb44 := NB134_133.out
               have hnc44 := NB133_134.out
               have hcz45_0 : wr.cell? ⟨gb134, 0, none⟩ = some (.int .i64 t135) := (blk_cell BK134.out 0).trans rfl
               have hcz45_1 : wr.cell? ⟨gb134, 1, none⟩ = some (u135001) := (blk_cell BK134.out 1).trans rfl
               have hcz45_2 : wr.cell? ⟨gb134, 2, none⟩ = some (.slice none 0 0) := (blk_cell BK134.out 2).trans rfl
               have hfz45_0 := blk_frozen BK134.out 0
               have hfz45_1 := blk_frozen BK134.out 1
               have hfz45_2 := blk_frozen BK134.out 2
               obtain ⟨Ao46, co46, eo46⟩ := Kd.R_slice HO_135001.out
               subst eo46
               go_wp2_with (first | ((with_reducible refine gate_callee (f := 26) rfl ?_); refine goesL_ (some 84) rfl rfl Tryd.func26 (by kernel_rfl) rfl #[.slice Ao46 x135001_3.length co46] rfl (by (try simp only [List.map_toArray, List.map_cons, List.map_nil]); first | done | rfl | (simp only [List.length_drop, List.length_take]; rfl)) ?_; (with_reducible refine (group_Blocks.calls k3 _ _ x135001_3 t143 _ ?side1 ?side2 A42.out).mono ?_); (case side1 => repeat (first | exact (Kd.R_reads' HO_135001.out).2.2 | (with_reducible refine Kd.C_alloc ?_ _) | (with_reducible refine Kd.C_drewN ?_ _) | (with_reducible refine Kd.C_drew ?_))); (case side2 => exact (Kd.R_reads' HO_135001.out).2.1); rintro e w47 ⟨rfl, hb⟩; refine ⟨_, rfl, ?_⟩; have n0_ := Aside0.mk (Kd.R_below (by (with_reducible repeat (first | apply rA | apply rN | apply Kd.R_drew)); exact HO_135001.out) hb); have n1_ := Aside0.mk (kB (g := gb133) (o := .cells #[.int .i64 0, .slice none 0 0, .slice none 0 0] 42 (0, 0)) (by (with_reducible repeat (first | refine kN ?_ _ | refine blk_drew ?_ | refine kA ?_ _)); exact BK133.out) hb); have n2_ := Aside0.mk (kB (g := gb134) (o := .cells #[.int .i64 t135, .slice Ao46 x135001_3.length co46, .slice none 0 0] 42 (0, 0)) (by (with_reducible repeat (first | refine kN ?_ _ | refine blk_drew ?_ | refine kA ?_ _)); exact BK134.out) hb); have n3_ := Aside0.mk (below_step (by repeat (first | (with_reducible first | exact HB.out | apply bA | apply pN | apply bD | refine bS ?_ GE133.out | refine bS ?_ GE134.out) | exact HB.out)) hb); clear HO_135001; clear BK133; clear BK134; clear HB; have HO_135001 := n0_; have BK133 := n1_; have BK134 := n2_; have HB := n3_; clear n0_ n1_ n2_ n3_; (try clear hb); (try clear hb2); (try clear hk); (try clear hi); have hcz48_0 : w47.cell? ⟨gb133, 0, none⟩ = some (.int .i64 0) := (blk_cell BK133.out 0).trans rfl; have hcz48_1 : w47.cell? ⟨gb133, 1, none⟩ = some (.slice none 0 0) := (blk_cell BK133.out 1).trans rfl; have hcz48_2 : w47.cell? ⟨gb133, 2, none⟩ = some (.slice none 0 0) := (blk_cell BK133.out 2).trans rfl; have hfz48_0 := blk_frozen BK133.out 0; have hfz48_1 := blk_frozen BK133.out 1; have hfz48_2 := blk_frozen BK133.out 2))
               refine bodyPost_ret (results_ctt rfl _ _ gb133 42 #[.int .i64 0, .slice none 0 0, .slice none 0 0] (0, 0) _ rfl (by (with_reducible repeat (first | refine kN ?_ _ | refine blk_drew ?_ | refine kA ?_ _)); refine blk_put (cs := #[.int .i64 0, .slice none 0 0, .slice none 0 0]) ?_ 2 _ rfl; (with_reducible repeat (first | refine kN ?_ _ | refine blk_drew ?_ | refine kA ?_ _)); refine blk_put (cs := #[.int .i64 0, .slice none 0 0, .slice none 0 0]) ?_ 1 _ rfl; (with_reducible repeat (first | refine kN ?_ _ | refine blk_drew ?_ | refine kA ?_ _)); refine blk_put (cs := #[.int .i64 0, .slice none 0 0, .slice none 0 0]) ?_ 0 _ rfl; (with_reducible repeat (first | refine kN ?_ _ | refine blk_drew ?_ | refine kA ?_ _)); exact BK133.out) Tryd.underlying42 rfl (by kernel_rfl)) rfl ?_
               exact ⟨_, _, by first | rfl | (simp [errW_none, errW_some] <;> rfl) | (simp [*, errW_none, errW_some] <;> rfl), by first | exact Kd.R_nil _ _ _ _ _ | exact Kd.N_nil _ _ _ _ _ | exact Kd.V_nil _ _ _ _ _ | exact Kd.Q_nil _ _ _ _ _ | exact Kd.S_nil _ _ _ _ _, by first | exact Kd.R_nil _ _ _ _ _ | exact Kd.N_nil _ _ _ _ _ | exact Kd.V_nil _ _ _ _ _ | exact Kd.Q_nil _ _ _ _ _ | exact Kd.S_nil _ _ _ _ _, by repeat (first | (with_reducible first | exact HB.out | apply bA | apply pN | apply bD | refine bS ?_ GE133.out | refine bS ?_ GE134.out) | exact HB.out)⟩
              ·rw [if_neg c43] at H
               have c43b0 : decide ((a0.size : Int) < (wrap64 (t143 * 64))) = false := decide_eq_false c43
               clear c43
               by_cases c49 : 64 ≤ (wrap64 (t143 * 64))
               ·rw [if_pos c49] at H
                have c49b0 := eq_true c49
                have c49b1 : decide (64 ≤ (wrap64 (t143 * 64))) = true := decide_eq_true c49
                clear c49
                by_cases c50 : (wrap64 (t143 * 64)) ≤ (a0.size : Int)
                ·rw [if_pos c50] at H
                 have c50b0 := eq_true c50
                 have c50b1 : decide ((wrap64 (t143 * 64)) ≤ (a0.size : Int)) = true := decide_eq_true c50
                 clear c50
                 have H' := Aside0.mk H
                 clear H
                 have hnb51 := NB134_133.out
                 have hnc51 := NB133_134.out
                 have hcz52_0 : wr.cell? ⟨gb134, 0, none⟩ = some (.int .i64 t135) := (blk_cell BK134.out 0).trans rfl
                 have hcz52_1 : wr.cell? ⟨gb134, 1, none⟩ = some (u135001) := (blk_cell BK134.out 1).trans rfl
                 have hcz52_2 : wr.cell? ⟨gb134, 2, none⟩ = some (.slice none 0 0) := (blk_cell BK134.out 2).trans rfl
                 have hfz52_0 := blk_frozen BK134.out 0
                 have hfz52_1 := blk_frozen BK134.out 1
                 have hfz52_2 := blk_frozen BK134.out 2
                 obtain ⟨Ao53, co53, eo53⟩ := Kd.R_slice HO_135001.out
                 subst eo53
                 go_wp2_with (first | ((with_reducible refine gate_callee (f := 26) rfl ?_); refine goesL_ (some 84) rfl rfl Tryd.func26 (by kernel_rfl) rfl #[.slice Ao53 x135001_3.length co53] rfl (by (try simp only [List.map_toArray, List.map_cons, List.map_nil]); first | done | rfl | (simp only [List.length_drop, List.length_take]; rfl)) ?_; (with_reducible refine (group_Blocks.calls k3 _ _ x135001_3 t143 _ ?side1 ?side2 A42.out).mono ?_); (case side1 => repeat (first | exact (Kd.R_reads' HO_135001.out).2.2 | (with_reducible refine Kd.C_alloc ?_ _) | (with_reducible refine Kd.C_drewN ?_ _) | (with_reducible refine Kd.C_drew ?_))); (case side2 => exact (Kd.R_reads' HO_135001.out).2.1); rintro e w54 ⟨rfl, hb⟩; refine ⟨_, rfl, ?_⟩; have n0_ := Aside0.mk (Kd.R_below (by (with_reducible repeat (first | apply rA | apply rN | apply Kd.R_drew)); exact HO_135001.out) hb); have n1_ := Aside0.mk (kB (g := gb133) (o := .cells #[.int .i64 0, .slice none 0 0, .slice none 0 0] 42 (0, 0)) (by (with_reducible repeat (first | refine kN ?_ _ | refine blk_drew ?_ | refine kA ?_ _)); exact BK133.out) hb); have n2_ := Aside0.mk (kB (g := gb134) (o := .cells #[.int .i64 t135, .slice Ao53 x135001_3.length co53, .slice none 0 0] 42 (0, 0)) (by (with_reducible repeat (first | refine kN ?_ _ | refine blk_drew ?_ | refine kA ?_ _)); exact BK134.out) hb); have n3_ := Aside0.mk (below_step (by repeat (first | (with_reducible first | exact HB.out | apply bA | apply pN | apply bD | refine bS ?_ GE133.out | refine bS ?_ GE134.out) | exact HB.out)) hb); clear HO_135001; clear BK133; clear BK134; clear HB; have HO_135001 := n0_; have BK133 := n1_; have BK134 := n2_; have HB := n3_; clear n0_ n1_ n2_ n3_; (try clear hb); (try clear hb2); (try clear hk); (try clear hi); have hcz55_0 : w54.cell? ⟨gb134, 0, none⟩ = some (.int .i64 t135) := (blk_cell BK134.out 0).trans rfl; have hcz55_1 : w54.cell? ⟨gb134, 1, none⟩ = some (.slice Ao53 x135001_3.length co53) := (blk_cell BK134.out 1).trans rfl; have hcz55_2 : w54.cell? ⟨gb134, 2, none⟩ = some (.slice none 0 0) := (blk_cell BK134.out 2).trans rfl; have hfz55_0 := blk_frozen BK134.out 0; have hfz55_1 := blk_frozen BK134.out 1; have hfz55_2 := blk_frozen BK134.out 2))
                 go_loopg [12, 98] k3 (fun kq v12 v98 w' => ∃ (x12_4 : ByteArray) (x98_4 : Int) (x135002_4 : List ByteArray) (u135002 : Value), v12 = .string x12_4 ∧ v98 = .int .i64 x98_4 ∧ Aside0 (group_Decode.l1 kq a0 (wrap64 (9 + (wrap64 (4 * (wrap64 (bt a0 8)))))) t143 x12_4 x135001_3 (x135001_3.length : Int) x98_4 t135 x135001_3 x135002_4 = some (r1, r2, r3, r4, r5)) ∧ Aside0 (kq ≤ k3) ∧ Aside0 (Kd.R k62 62 w' w.heap.size (fun _ => True) (.slice Ao53 x135001_3.length co53) x135001_3) ∧ Aside0 (Kd.R k62 62 w' w.heap.size (fun _ => True) (.slice Ao53 x135001_3.length co53) x135001_3) ∧ Aside0 (Kd.R Kd.string 9 w' w.heap.size (fun _ => True) u135002 x135002_4) ∧ Aside0 (w'.heap[gb133]? = some (.cells #[.int .i64 0, (.slice none 0 0), (.slice none 0 0)] 42 (0, 0))) ∧ Aside0 (w'.heap[gb134]? = some (.cells #[.int .i64 t135, (.slice Ao53 x135001_3.length co53), u135002] 42 (0, 0))) ∧ Aside0 (Below w.heap.size w w'))
                 case atStart => exact ⟨(a0.extract 64 ((wrap64 (t143 * 64)) : Int).toNat), (0), (([] : List ByteArray)), (.slice none 0 0), (by first | rfl | (simp; done) | (simp [*]; done)), (by first | rfl | (simp; done) | (simp [*]; done)), H', ⟨Nat.le_refl _⟩, ⟨by (with_reducible repeat (first | apply rA | apply rN | apply Kd.R_drew)); exact HO_135001.out⟩, ⟨by (with_reducible repeat (first | apply rA | apply rN | apply Kd.R_drew)); exact HO_135001.out⟩, ⟨by first | exact Kd.R_nil _ _ _ _ _ | exact Kd.N_nil _ _ _ _ _ | exact Kd.V_nil _ _ _ _ _ | exact Kd.Q_nil _ _ _ _ _ | exact Kd.S_nil _ _ _ _ _⟩, ⟨by (with_reducible repeat (first | refine kN ?_ _ | refine blk_drew ?_ | refine kA ?_ _)); exact BK133.out⟩, ⟨by (with_reducible repeat (first | refine kN ?_ _ | refine blk_drew ?_ | refine kA ?_ _)); exact BK134.out⟩, ⟨by repeat (first | (with_reducible first | exact HB.out | apply bA | apply pN | apply bD | refine bS ?_ GE133.out | refine bS ?_ GE134.out) | exact HB.out)⟩⟩
                 case round =>
                  clear H'
                  try clear c1
                  try clear p1
                  try clear q1
                  try clear hx1
                  try clear qi1
                  try clear c2
                  try clear c2b0
                  try clear c2b1
                  try clear p2
                  try clear c3
                  try clear c4
                  try clear c5
                  try clear p6
                  try clear c7
                  try clear c7b0
                  try clear c7b1
                  try clear c8
                  try clear c8b0
                  try clear c8b1
                  try clear c9
                  try clear c9b0
                  try clear c9b1
                  try clear c10
                  try clear c12
                  try clear c12b0
                  try clear c12b1
                  try clear c13
                  try clear c13b0
                  try clear c13b1
                  try clear c15
                  try clear c15b0
                  try clear c15b1
                  try clear p16
                  try clear q16
                  try clear hx16
                  try clear qi16
                  try clear c19
                  try clear c21
                  try clear c21b0
                  try clear c22
                  try clear c22b0
                  try clear c24
                  try clear c24b0
                  try clear c24b1
                  try clear c25
                  try clear c25b0
                  try clear c25b1
                  try clear c26
                  try clear c26b0
                  try clear c26b1
                  try clear c27
                  try clear c28
                  try clear c29
                  try clear c31
                  try clear c31b0
                  try clear c32
                  try clear c32b0
                  try clear c32b1
                  try clear c33
                  try clear c33b0
                  try clear c33b1
                  try clear c34
                  try clear c34b0
                  try clear c34b1
                  try clear c36
                  try clear c37
                  try clear c40
                  try clear c43
                  try clear c43b0
                  try clear c44
                  try clear c49
                  try clear c49b0
                  try clear c49b1
                  try clear c50
                  try clear c50b0
                  try clear c50b1
                  try clear c51
                  try clear hcz11_0
                  try clear hcz11_1
                  try clear hcz11_2
                  try clear hcz20_0
                  try clear hcz20_1
                  try clear hcz20_2
                  try clear hcz30_0
                  try clear hcz30_1
                  try clear hcz30_2
                  try clear hcz38_0
                  try clear hcz38_1
                  try clear hcz38_2
                  try clear hcz41_0
                  try clear hcz41_1
                  try clear hcz41_2
                  try clear hcz45_0
                  try clear hcz45_1
                  try clear hcz45_2
                  try clear hcz48_0
                  try clear hcz48_1
                  try clear hcz48_2
                  try clear hcz4_0
                  try clear hcz4_1
                  try clear hcz4_2
                  try clear hcz52_0
                  try clear hcz52_1
                  try clear hcz52_2
                  try clear hcz55_0
                  try clear hcz55_1
                  try clear hcz55_2
                  try clear hfz11_0
                  try clear hfz11_1
                  try clear hfz11_2
                  try clear hfz20_0
                  try clear hfz20_1
                  try clear hfz20_2
                  try clear hfz30_0
                  try clear hfz30_1
                  try clear hfz30_2
                  try clear hfz38_0
                  try clear hfz38_1
                  try clear hfz38_2
                  try clear hfz41_0
                  try clear hfz41_1
                  try clear hfz41_2
                  try clear hfz45_0
                  try clear hfz45_1
                  try clear hfz45_2
                  try clear hfz48_0
                  try clear hfz48_1
                  try clear hfz48_2
                  try clear hfz4_0
                  try clear hfz4_1
                  try clear hfz4_2
                  try clear hfz52_0
                  try clear hfz52_1
                  try clear hfz52_2
                  try clear hfz55_0
                  try clear hfz55_1
                  try clear hfz55_2
                  try clear p1
                  try clear p16
                  try clear p2
                  try clear p6
                  try clear q1
                  try clear q16
                  obtain ⟨x12_4, x98_4, x135002_4, u135002, rfl, rfl, HA, HK4, HO_96, HO_135001, HO_135002, BK133, BK134, HB⟩ := hrel
                  cases gk with
                  | zero => exact absurd HA.out (by simp [group_Decode.l1])
                  | succ k4 =>
                   have H := HA.out
                   clear HA
                   simp only [group_Decode.l1] at H
                   by_cases c56 : x98_4 < (x135001_3.length : Int)
                   ·rw [if_pos c56] at H
                    have c56b0 : decide (x98_4 < (x135001_3.length : Int)) = true := decide_eq_true c56
                    clear c56
                    by_cases c57 : 0 ≤ x98_4
                    ·rw [if_pos c57] at H
                     have c57b0 : decide (0 ≤ x98_4) = true := decide_eq_true c57
                     clear c57
                     by_cases c58 : x98_4 < (x135001_3.length : Int)
                     ·rw [if_pos c58] at H
                      have c58b0 : decide (x98_4 < (x135001_3.length : Int)) = true := decide_eq_true c58
                      clear c58
                      replace H := Option.bind_eq_some_iff.mp H
                      obtain ⟨t146, A590, H⟩ := H
                      replace H : (if 0 ≤ t146 then (if t146 ≤ (x12_4.size : Int) then (if x135002_4.length < 8796093022208 then ((group_Entry_wants.f ((rd_T62 x135001_3 x98_4).f0) ((rd_T62 x135001_3 x98_4).f1)).bind fun t150 => (if 0 ≤ t150 then (if t150 ≤ (x12_4.size : Int) then (group_Decode.l1 k4 a0 (wrap64 (9 + (wrap64 (4 * (wrap64 (bt a0 8)))))) t143 (x12_4.extract (t150 : Int).toNat x12_4.size) x135001_3 (x135001_3.length : Int) (wrap64 (x98_4 + 1)) t135 x135001_3 (x135002_4 ++ [x12_4.extract 0 (t146 : Int).toNat])) else (none)) else (none))) else (none)) else (none)) else (none)) = some (r1, r2, r3, r4, r5) := H
                      have A59 := Aside0.mk A590
                      clear A590
                      by_cases c60 : 0 ≤ t146
                      ·rw [if_pos c60] at H
                       have c60b0 := eq_true c60
                       have c60b1 : decide (0 ≤ t146) = true := decide_eq_true c60
                       clear c60
                       by_cases c61 : t146 ≤ (x12_4.size : Int)
                       ·rw [if_pos c61] at H
                        have c61b0 := eq_true c61
                        have c61b1 : decide (t146 ≤ (x12_4.size : Int)) = true := decide_eq_true c61
                        clear c61
                        by_cases c62 : x135002_4.length < 8796093022208
                        ·rw [if_pos c62] at H
                         have LMc62 := Aside0.mk c62
                         clear c62
                         obtain ⟨y147, hy147⟩ : ∃ y_ : List ByteArray, y_ = (x135002_4 ++ [x12_4.extract 0 (t146 : Int).toNat]) := ⟨_, rfl⟩
                         replace H : ((group_Entry_wants.f ((rd_T62 x135001_3 x98_4).f0) ((rd_T62 x135001_3 x98_4).f1)).bind fun t150 => (if 0 ≤ t150 then (if t150 ≤ (x12_4.size : Int) then (group_Decode.l1 k4 a0 (wrap64 (9 + (wrap64 (4 * (wrap64 (bt a0 8)))))) t143 (x12_4.extract (t150 : Int).toNat x12_4.size) x135001_3 (x135001_3.length : Int) (wrap64 (x98_4 + 1)) t135 x135001_3 y147) else (none)) else (none))) = some (r1, r2, r3, r4, r5) := by first | (rw [hy147]; with_reducible exact H) | (have H2_ := (Option.bind_some _ _).symm.trans H; rw [hy147]; with_reducible exact H2_) | (have H2_ := (Option.bind_some _ _).symm.trans H; with_reducible exact H2_) | with_reducible exact H | (rw [hy147]; exact H) | exact H
                         have Ny147 := Aside0.mk hy147
                         clear hy147
                         replace H := Option.bind_eq_some_iff.mp H
                         obtain ⟨t150, A630, H⟩ := H
                         replace H : (if 0 ≤ t150 then (if t150 ≤ (x12_4.size : Int) then (group_Decode.l1 k4 a0 (wrap64 (9 + (wrap64 (4 * (wrap64 (bt a0 8)))))) t143 (x12_4.extract (t150 : Int).toNat x12_4.size) x135001_3 (x135001_3.length : Int) (wrap64 (x98_4 + 1)) t135 x135001_3 y147) else (none)) else (none)) = some (r1, r2, r3, r4, r5) := H
                         have A63 := Aside0.mk A630
                         clear A630
                         by_cases c64 : 0 ≤ t150
                         ·rw [if_pos c64] at H
                          have c64b0 := eq_true c64
                          have c64b1 : decide (0 ≤ t150) = true := decide_eq_true c64
                          clear c64
                          by_cases c65 : t150 ≤ (x12_4.size : Int)
                          ·rw [if_pos c65] at H
                           have c65b0 := eq_true c65
                           have c65b1 : decide (t150 ≤ (x12_4.size : Int)) = true := decide_eq_true c65
                           clear c65
                           have H' := Aside0.mk H
                           clear H
                           have p144 : 0 ≤ (x98_4 : Int) := of_decide_eq_true (by first | (with_reducible assumption) | assumption)
                           have q144 : x98_4 < (x135001_3.length : Int) := of_decide_eq_true (by first | (with_reducible assumption) | assumption)
                           obtain ⟨ad144, e144, hx144_0, hx144_1⟩ := at_T62 (Kd.R_reads' HO_96.out).2.2 x98_4 p144 q144
                           cases e144
                           replace p144 := eq_true p144
                           replace q144 := eq_true q144
                           try go_wp2_with (first | ((with_reducible refine gate_dst (N := 14) rfl ?_); refine box_event ?hg (N := 14) ?hd (cs := #[.int .i64 0, .bool false]) (t := 62) ?hr ?_; (case hd => rfl); (case hg => rfl); (case hr => first | (go_simp; done) | (go_simp; rfl)); intro gb145 hg w66 hbox hb; have n0_ := Aside0.mk (Kd.R_below (Kd.R_elderB (by (with_reducible repeat (first | apply rA | apply rN | apply Kd.R_drew)); exact HO_96.out) gb145 (Nat.le_of_eq hg.symm)) hb); have n1_ := Aside0.mk (Kd.R_below (Kd.R_elderB (by (with_reducible repeat (first | apply rA | apply rN | apply Kd.R_drew)); exact HO_135001.out) gb145 (Nat.le_of_eq hg.symm)) hb); have n2_ := Aside0.mk (Kd.R_below (by (with_reducible repeat (first | apply rA | apply rN | apply Kd.R_drew)); exact HO_135002.out) hb); have n3_ := Aside0.mk (kB (g := gb133) (o := .cells #[.int .i64 0, .slice none 0 0, .slice none 0 0] 42 (0, 0)) (by (with_reducible repeat (first | refine kN ?_ _ | refine blk_drew ?_ | refine kA ?_ _)); exact BK133.out) hb); have n4_ := Aside0.mk (kB (g := gb134) (o := .cells #[.int .i64 t135, .slice (some ad144) x135001_3.length co53, u135002] 42 (0, 0)) (by (with_reducible repeat (first | refine kN ?_ _ | refine blk_drew ?_ | refine kA ?_ _)); exact BK134.out) hb); have n5_ := Aside0.mk (below_step (by repeat (first | (with_reducible first | exact HB.out | apply bA | apply pN | apply bD | refine bS ?_ GE133.out | refine bS ?_ GE134.out) | exact HB.out)) hb); have n6_ := Aside0.mk (hbox); have n7_ := Aside0.mk ((by rw [hg]; exact (bZ (by repeat (first | (with_reducible first | exact HB.out | apply bA | apply pN | apply bD | refine bS ?_ GE133.out | refine bS ?_ GE134.out) | exact HB.out))) : w.heap.size ≤ gb145)); have n8_ := Aside0.mk ((by rw [hg]; exact (bZ (by repeat (first | (with_reducible first | exact HB.out | apply bA | apply pN | apply bD | refine bS ?_ GE133.out | refine bS ?_ GE134.out) | exact HB.out))) : w.heap.size ≤ gb145)); have n9_ := Aside0.mk ((by rw [hg]; exact Nat.ne_of_lt (blk_lt (g := gb133) (o := .cells #[.int .i64 0, .slice none 0 0, .slice none 0 0] 42 (0, 0)) (by (with_reducible repeat (first | refine kN ?_ _ | refine blk_drew ?_ | refine kA ?_ _)); exact BK133.out)) : gb133 ≠ gb145)); have n10_ := Aside0.mk ((by rw [hg]; exact Nat.ne_of_gt (blk_lt (g := gb133) (o := .cells #[.int .i64 0, .slice none 0 0, .slice none 0 0] 42 (0, 0)) (by (with_reducible repeat (first | refine kN ?_ _ | refine blk_drew ?_ | refine kA ?_ _)); exact BK133.out)) : gb145 ≠ gb133)); have n11_ := Aside0.mk ((by rw [hg]; exact Nat.ne_of_lt (blk_lt (g := gb134) (o := .cells #[.int .i64 t135, .slice (some ad144) x135001_3.length co53, u135002] 42 (0, 0)) (by (with_reducible repeat (first | refine kN ?_ _ | refine blk_drew ?_ | refine kA ?_ _)); exact BK134.out)) : gb134 ≠ gb145)); have n12_ := Aside0.mk ((by rw [hg]; exact Nat.ne_of_gt (blk_lt (g := gb134) (o := .cells #[.int .i64 t135, .slice (some ad144) x135001_3.length co53, u135002] 42 (0, 0)) (by (with_reducible repeat (first | refine kN ?_ _ | refine blk_drew ?_ | refine kA ?_ _)); exact BK134.out)) : gb145 ≠ gb134)); clear HO_96; clear HO_135001; clear HO_135002; clear BK133; clear BK134; clear HB; have HO_96 := n0_; have HO_135001 := n1_; have HO_135002 := n2_; have BK133 := n3_; have BK134 := n4_; have HB := n5_; have BK145 := n6_; have GW145 := n7_; have GE145 := n8_; have NB133_145 := n9_; have NB145_133 := n10_; have NB134_145 := n11_; have NB145_134 := n12_; clear n0_ n1_ n2_ n3_ n4_ n5_ n6_ n7_ n8_ n9_ n10_ n11_ n12_; clear hb hbox hg; have hnb67 := NB145_133.out; have hnc67 := NB133_145.out; have hnb68 := NB145_134.out; have hnc68 := NB134_145.out; have hcz69_0 : w66.cell? ⟨gb145, 0, none⟩ = some (.int .i64 0) := (blk_cell BK145.out 0).trans rfl; have hcz69_1 : w66.cell? ⟨gb145, 1, none⟩ = some (.bool false) := (blk_cell BK145.out 1).trans rfl; have hfz69_0 := blk_frozen BK145.out 0; have hfz69_1 := blk_frozen BK145.out 1))
                           have n0_ : Aside0 (Kd.R k62 62 ((w66.setCell ⟨gb145, 0, none⟩ (.int .i64 ((rd_T62 x135001_3 x98_4).f0))).setCell ⟨gb145, 1, none⟩ (.bool ((rd_T62 x135001_3 x98_4).f1))) w.heap.size (fun k_ => k_ ≠ gb145) (.slice (some ad144) x135001_3.length co53) x135001_3) := ⟨by (with_reducible repeat (first | apply rA | apply rN | apply Kd.R_drew)); exact Kd.R_mono (Kd.R_far (p := ⟨gb145, 1, none⟩) (Kd.R_far (p := ⟨gb145, 0, none⟩) (Kd.R_mono HO_96.out (fun k_ hk => (⟨hk, hk.2⟩ : _ ∧ k_ ≠ gb145))) (fun _ hk => hk.2) (.int .i64 ((rd_T62 x135001_3 x98_4).f0))) (fun _ hk => hk.2) (.bool ((rd_T62 x135001_3 x98_4).f1))) (fun _ hk => hk.1.2)⟩
                           have n1_ : Aside0 (Kd.R k62 62 ((w66.setCell ⟨gb145, 0, none⟩ (.int .i64 ((rd_T62 x135001_3 x98_4).f0))).setCell ⟨gb145, 1, none⟩ (.bool ((rd_T62 x135001_3 x98_4).f1))) w.heap.size (fun k_ => k_ ≠ gb145) (.slice (some ad144) x135001_3.length co53) x135001_3) := ⟨by (with_reducible repeat (first | apply rA | apply rN | apply Kd.R_drew)); exact Kd.R_mono (Kd.R_far (p := ⟨gb145, 1, none⟩) (Kd.R_far (p := ⟨gb145, 0, none⟩) (Kd.R_mono HO_135001.out (fun k_ hk => (⟨hk, hk.2⟩ : _ ∧ k_ ≠ gb145))) (fun _ hk => hk.2) (.int .i64 ((rd_T62 x135001_3 x98_4).f0))) (fun _ hk => hk.2) (.bool ((rd_T62 x135001_3 x98_4).f1))) (fun _ hk => hk.1.2)⟩
                           have n2_ : Aside0 (Kd.R Kd.string 9 ((w66.setCell ⟨gb145, 0, none⟩ (.int .i64 ((rd_T62 x135001_3 x98_4).f0))).setCell ⟨gb145, 1, none⟩ (.bool ((rd_T62 x135001_3 x98_4).f1))) w.heap.size (fun _ => True) u135002 x135002_4) := ⟨by (with_reducible repeat (first | apply rA | apply rN | apply Kd.R_drew)); exact Kd.R_mono (Kd.R_far (p := ⟨gb145, 1, none⟩) (Kd.R_far (p := ⟨gb145, 0, none⟩) (Kd.R_types HO_135002.out BK145.out (by decide)) (fun _ hk => hk.2) (.int .i64 ((rd_T62 x135001_3 x98_4).f0))) (fun _ hk => hk.2) (.bool ((rd_T62 x135001_3 x98_4).f1))) (fun _ hk => trivial)⟩
                           have n3_ : Aside0 (((w66.setCell ⟨gb145, 0, none⟩ (.int .i64 ((rd_T62 x135001_3 x98_4).f0))).setCell ⟨gb145, 1, none⟩ (.bool ((rd_T62 x135001_3 x98_4).f1))).heap[gb133]? = some (.cells #[.int .i64 0, .slice none 0 0, .slice none 0 0] 42 (0, 0))) := ⟨by (with_reducible repeat (first | refine kN ?_ _ | refine blk_drew ?_ | refine kA ?_ _)); refine blk_far ?_ NB133_145.out _; (with_reducible repeat (first | refine kN ?_ _ | refine blk_drew ?_ | refine kA ?_ _)); refine blk_far ?_ NB133_145.out _; (with_reducible repeat (first | refine kN ?_ _ | refine blk_drew ?_ | refine kA ?_ _)); exact BK133.out⟩
                           have n4_ : Aside0 (((w66.setCell ⟨gb145, 0, none⟩ (.int .i64 ((rd_T62 x135001_3 x98_4).f0))).setCell ⟨gb145, 1, none⟩ (.bool ((rd_T62 x135001_3 x98_4).f1))).heap[gb134]? = some (.cells #[.int .i64 t135, .slice (some ad144) x135001_3.length co53, u135002] 42 (0, 0))) := ⟨by (with_reducible repeat (first | refine kN ?_ _ | refine blk_drew ?_ | refine kA ?_ _)); refine blk_far ?_ NB134_145.out _; (with_reducible repeat (first | refine kN ?_ _ | refine blk_drew ?_ | refine kA ?_ _)); refine blk_far ?_ NB134_145.out _; (with_reducible repeat (first | refine kN ?_ _ | refine blk_drew ?_ | refine kA ?_ _)); exact BK134.out⟩
                           have n5_ : Aside0 (((w66.setCell ⟨gb145, 0, none⟩ (.int .i64 ((rd_T62 x135001_3 x98_4).f0))).setCell ⟨gb145, 1, none⟩ (.bool ((rd_T62 x135001_3 x98_4).f1))).heap[gb145]? = some (.cells #[.int .i64 ((rd_T62 x135001_3 x98_4).f0), .bool ((rd_T62 x135001_3 x98_4).f1)] 62 (0, 0))) := ⟨by (with_reducible repeat (first | refine kN ?_ _ | refine blk_drew ?_ | refine kA ?_ _)); refine blk_put (cs := #[.int .i64 ((rd_T62 x135001_3 x98_4).f0), .bool false]) ?_ 1 _ rfl; (with_reducible repeat (first | refine kN ?_ _ | refine blk_drew ?_ | refine kA ?_ _)); refine blk_put (cs := #[.int .i64 0, .bool false]) ?_ 0 _ rfl; (with_reducible repeat (first | refine kN ?_ _ | refine blk_drew ?_ | refine kA ?_ _)); exact BK145.out⟩
                           have n6_ : Aside0 (Below w.heap.size w ((w66.setCell ⟨gb145, 0, none⟩ (.int .i64 ((rd_T62 x135001_3 x98_4).f0))).setCell ⟨gb145, 1, none⟩ (.bool ((rd_T62 x135001_3 x98_4).f1)))) := ⟨by repeat (first | (with_reducible first | exact HB.out | apply bA | apply pN | apply bD | refine bS ?_ GE133.out | refine bS ?_ GE134.out | refine bS ?_ GE145.out) | exact HB.out)⟩
                           (try clear HO_96)
                           (try clear HO_135001)
                           (try clear HO_135002)
                           (try clear BK133)
                           (try clear BK134)
                           (try clear BK145)
                           (try clear HB)
                           generalize ((w66.setCell ⟨gb145, 0, none⟩ (.int .i64 ((rd_T62 x135001_3 x98_4).f0))).setCell ⟨gb145, 1, none⟩ (.bool ((rd_T62 x135001_3 x98_4).f1))) = w70 at n0_ n1_ n2_ n3_ n4_ n5_ n6_ ⊢
                           have HO_96 := n0_
                           have HO_135001 := n1_
                           have HO_135002 := n2_
                           have BK133 := n3_
                           have BK134 := n4_
                           have BK145 := n5_
                           have HB := n6_
                           clear n0_ n1_ n2_ n3_ n4_ n5_ n6_
                           have n0_ := Aside0.mk (Kd.R_drew HO_96.out)
                           have n1_ := Aside0.mk (Kd.R_drew HO_135001.out)
                           have n2_ := Aside0.mk (Kd.R_drew HO_135002.out)
                           have n3_ := Aside0.mk (blk_drew BK133.out)
                           have n4_ := Aside0.mk (blk_drew BK134.out)
                           have n5_ := Aside0.mk (blk_drew BK145.out)
                           have n6_ := Aside0.mk (bD HB.out)
                           clear HO_96
                           clear HO_135001
                           clear HO_135002
                           clear BK133
                           clear BK134
                           clear BK145
                           clear HB
                           have HO_96 := n0_
                           have HO_135001 := n1_
                           have HO_135002 := n2_
                           have BK133 := n3_
                           have BK134 := n4_
                           have BK145 := n5_
                           have HB := n6_
                           clear n0_ n1_ n2_ n3_ n4_ n5_ n6_
                           refine start_ (n := 10) (S := fun w' => w'.cell? ⟨gb134, 0, none⟩ = some (.int .i64 t135) ∧ w'.cell? ⟨gb134, 1, none⟩ = some (.slice (some ad144) x135001_3.length co53) ∧ w'.cell? ⟨gb134, 2, none⟩ = some (u135002) ∧ w'.cell? ⟨gb145, 0, none⟩ = some (.int .i64 ((rd_T62 x135001_3 x98_4).f0)) ∧ w'.cell? ⟨gb145, 1, none⟩ = some (.bool ((rd_T62 x135001_3 x98_4).f1))) (ds := [9]) #[false, false, false, false, false, false, false, false, false, false] (by kernel_rfl) rfl rfl ⟨(blk_cell BK134.out 0).trans rfl, (blk_cell BK134.out 1).trans rfl, (blk_cell BK134.out 2).trans rfl, (blk_cell BK145.out 0).trans rfl, (blk_cell BK145.out 1).trans rfl⟩ (fun hHeld => ?_); refine with_tabW group_Decode.tab23 group_Decode.bits23 (fun HT_ HW_ => ?_)
                           generalize w70.drew = w71 at HO_96 HO_135001 HO_135002 BK133 BK134 BK145 HB hHeld ⊢
                           refine pure_ (i := 0) (N := some 102) (v := ?_) (a' := ?_) #[true, false, false, false, false, false, false, false, false, false] rfl rfl (any_of HT_.out (by kernel_rfl)) (fun _ _ _ h => h) (Or.inl ⟨by rfl, ?_⟩) ?_ ?_
                           rotate_left
                           ·intro w'
                            go_simp
                            with_reducible rfl
                           rotate_left
                           ·simp only [Act.put, List.setIfInBounds_toArray, List.set_cons_zero, List.set_cons_succ, i64_w, i32_w]
                            rfl
                           refine pure_ (i := 2) (N := some 104) (v := ?_) (a' := ?_) #[true, false, true, false, false, false, false, false, false, false] rfl rfl (any_of HT_.out (by kernel_rfl)) (fun _ _ _ h => h) (Or.inl ⟨by rfl, ?_⟩) ?_ ?_
                           rotate_left
                           ·intro w'
                            go_simp
                            with_reducible rfl
                           rotate_left
                           ·simp only [Act.put, List.setIfInBounds_toArray, List.set_cons_zero, List.set_cons_succ, i64_w, i32_w]
                            rfl
                           refine take_ (i := 1) (N := some 103) (v := ?_) (a' := ?_) #[true, true, true, false, false, false, false, false, false, false] rfl rfl (take_ofW HT_.out HW_.out (by kernel_rfl)) (fun _ _ _ h => h) (Or.inl ⟨by rfl, ?_⟩) hHeld ?_ ?_
                           rotate_left
                           ·rintro w' ⟨s0, s1, s2, s3, s4⟩
                            go_simp
                            with_reducible rfl
                           rotate_left
                           ·simp only [Act.put, List.setIfInBounds_toArray, List.set_cons_zero, List.set_cons_succ, i64_w, i32_w]
                            rfl
                           refine take_ (i := 3) (N := some 105) (v := ?_) (a' := ?_) #[true, true, true, true, false, false, false, false, false, false] rfl rfl (take_ofW HT_.out HW_.out (by kernel_rfl)) (fun _ _ _ h => h) (Or.inl ⟨by rfl, ?_⟩) hHeld ?_ ?_
                           rotate_left
                           ·rintro w' ⟨s0, s1, s2, s3, s4⟩
                            go_simp
                            with_reducible rfl
                           rotate_left
                           ·simp only [Act.put, List.setIfInBounds_toArray, List.set_cons_zero, List.set_cons_succ, i64_w, i32_w]
                            rfl
                           refine one_ (i := 4) (N := some 106) #[true, true, true, true, true, false, false, false, false, false] rfl rfl (one_of HT_.out (by kernel_rfl)) (by decide) (fun K hK => ?_)
                           refine goes_ Tryd.func39 (by kernel_rfl) rfl #[.agg #[.int .i64 ((rd_T62 x135001_3 x98_4).f0), .bool ((rd_T62 x135001_3 x98_4).f1)]] (by rfl) rfl rfl (by (try simp only [List.map_toArray, List.map_cons, List.map_nil]); first | done | rfl | (simp only [List.length_drop, List.length_take]; rfl)) ?_
                           with_reducible refine (group_Entry_wants.calls ((rd_T62 x135001_3 x98_4).f0) ((rd_T62 x135001_3 x98_4).f1) t146 _ A59.out).mono ?_
                           rintro e w72 ⟨rfl, hb⟩
                           refine ⟨_, rfl, ?_⟩
                           have n0_ := Aside0.mk (Kd.R_below (by (with_reducible repeat (first | apply rA | apply rN | apply Kd.R_drew)); exact HO_96.out) hb)
                           have n1_ := Aside0.mk (Kd.R_below (by (with_reducible repeat (first | apply rA | apply rN | apply Kd.R_drew)); exact HO_135001.out) hb)
                           have n2_ := Aside0.mk (Kd.R_below (by (with_reducible repeat (first | apply rA | apply rN | apply Kd.R_drew)); exact HO_135002.out) hb)
                           have n3_ := Aside0.mk (kB (g := gb133) (o := .cells #[.int .i64 0, .slice none 0 0, .slice none 0 0] 42 (0, 0)) (by (with_reducible repeat (first | refine kN ?_ _ | refine blk_drew ?_ | refine kA ?_ _)); exact BK133.out) hb)
                           have n4_ := Aside0.mk (kB (g := gb134) (o := .cells #[.int .i64 t135, .slice (some ad144) x135001_3.length co53, u135002] 42 (0, 0)) (by (with_reducible repeat (first | refine kN ?_ _ | refine blk_drew ?_ | refine kA ?_ _)); exact BK134.out) hb)
                           have n5_ := Aside0.mk (kB (g := gb145) (o := .cells #[.int .i64 ((rd_T62 x135001_3 x98_4).f0), .bool ((rd_T62 x135001_3 x98_4).f1)] 62 (0, 0)) (by (with_reducible repeat (first | refine kN ?_ _ | refine blk_drew ?_ | refine kA ?_ _)); exact BK145.out) hb)
                           have n6_ := Aside0.mk (below_step (by repeat (first | (with_reducible first | exact HB.out | apply bA | apply pN | apply bD | refine bS ?_ GE133.out | refine bS ?_ GE134.out | refine bS ?_ GE145.out) | exact HB.out)) hb)
                           clear HO_96
                           clear HO_135001
                           clear HO_135002
                           clear BK133
                           clear BK134
                           clear BK145
                           clear HB
                           have HO_96 := n0_
                           have HO_135001 := n1_
                           have HO_135002 := n2_
                           have BK133 := n3_
                           have BK134 := n4_
                           have BK145 := n5_
                           have HB := n6_
                           clear n0_ n1_ n2_ n3_ n4_ n5_ n6_
                           (try clear hb)
                           (try clear hb2)
                           (try clear hk)
                           (try clear hi)
                           refine hK.out _ _ ⟨(blk_cell BK134.out 0).trans rfl, (blk_cell BK134.out 1).trans rfl, (blk_cell BK134.out 2).trans rfl, (blk_cell BK145.out 0).trans rfl, (blk_cell BK145.out 1).trans rfl⟩ (fun hHeld => ?_)
                           clear hK K
                           refine norm_ (a' := ?_) ?_ ?_
                           rotate_left
                           ·show Act.put _ (some 106) _ = _
                            simp only [Act.put, List.setIfInBounds_toArray, List.set_cons_zero, List.set_cons_succ, i64_w, i32_w]
                            rfl
                           refine pure_ (i := 5) (N := some 107) (v := ?_) (a' := ?_) #[true, true, true, true, true, true, false, false, false, false] rfl rfl (any_of HT_.out (by kernel_rfl)) (fun _ _ _ h => h) (Or.inl ⟨by rfl, ?_⟩) ?_ ?_
                           rotate_left
                           ·intro w'
                            go_simp
                            with_reducible rfl
                           rotate_left
                           ·simp only [Act.put, List.setIfInBounds_toArray, List.set_cons_zero, List.set_cons_succ, i64_w, i32_w]
                            rfl
                           refine one_ (i := 6) (N := some 108) #[true, true, true, true, true, true, true, false, false, false] rfl rfl (one_of HT_.out (by kernel_rfl)) (by decide) (fun K hK => ?_)
                           refine value_ (w1 := ?_) (v := ?_) (by rfl) rfl ?_ ?_
                           rotate_left 2
                           ·go_simp
                            constructor
                            ·rfl
                            ·rfl
                           refine hK.out _ _ ⟨(blk_cell (kA BK134.out _) 0).trans rfl, (blk_cell (kA BK134.out _) 1).trans rfl, (blk_cell (kA BK134.out _) 2).trans rfl, (blk_cell (kA BK145.out _) 0).trans rfl, (blk_cell (kA BK145.out _) 1).trans rfl⟩ (fun hHeld => ?_)
                           clear hK K
                           refine norm_ (a' := ?_) ?_ ?_
                           rotate_left
                           ·show Act.put _ (some 108) _ = _
                            simp only [Act.put, List.setIfInBounds_toArray, List.set_cons_zero, List.set_cons_succ, i64_w, i32_w]
                            rfl
                           refine one_ (i := 7) (N := some 109) #[true, true, true, true, true, true, true, true, false, false] rfl rfl (one_of HT_.out (by kernel_rfl)) (by decide) (fun K hK => ?_)
                           refine Kd.R_append_step Kd.string (w0 := w) w.heap.size (by rfl) (.tmp 103) (.tmp 108) 22 9 (.string ⟨#[]⟩) 16 rfl Tryd.underlying22 info9 rfl (by decide) (by omega) u135002 x135002_4 (x12_4.extract 0 (t146 : Int).toNat) [.string (x12_4.extract 0 (t146 : Int).toNat)] (fun _ => True) (fun _ => False) rfl rfl ?aP (fun _ hk => hk.elim) ?aF ?aO ?aB ?aS ?aL ?_
                           (case aP => exact rfl)
                           (case aB => exact (by repeat (first | (with_reducible first | exact HB.out | apply bA | apply pN | apply bD | refine bS ?_ GE133.out | refine bS ?_ GE134.out | refine bS ?_ GE145.out) | exact HB.out)))
                           (case aF => exact (fun _ _ => trivial))
                           (case aO => exact (by (with_reducible repeat (first | apply rA | apply rN | apply Kd.R_drew)); exact HO_135002.out))
                           (case aS => exact (bZ (by repeat (first | (with_reducible first | exact HB.out | apply bA | apply pN | apply bD | refine bS ?_ GE133.out | refine bS ?_ GE134.out | refine bS ?_ GE145.out) | exact HB.out))))
                           (case aL => have := LMc62.out; omega)
                           intro v148 w73 ho hb hg hat
                           rw [← Ny147.out] at ho
                           have n0_ := Aside0.mk (Kd.R_over' (by (with_reducible repeat (first | apply rA | apply rN | apply Kd.R_drew)); exact HO_96.out) (Kd.R_typed (by (with_reducible repeat (first | apply rA | apply rN | apply Kd.R_drew)); exact HO_135002.out)) (by decide) hg)
                           have n1_ := Aside0.mk (Kd.R_over' (by (with_reducible repeat (first | apply rA | apply rN | apply Kd.R_drew)); exact HO_135001.out) (Kd.R_typed (by (with_reducible repeat (first | apply rA | apply rN | apply Kd.R_drew)); exact HO_135002.out)) (by decide) hg)
                           have n2_ := Aside0.mk (blk_grown (g := gb133) (o := .cells #[.int .i64 0, .slice none 0 0, .slice none 0 0] 42 (0, 0)) (by (with_reducible repeat (first | refine kN ?_ _ | refine blk_drew ?_ | refine kA ?_ _)); exact BK133.out) hg (Kd.R_ne HO_135002.out BK133.out (by decide)))
                           have n3_ := Aside0.mk (blk_grown (g := gb134) (o := .cells #[.int .i64 t135, .slice (some ad144) x135001_3.length co53, u135002] 42 (0, 0)) (by (with_reducible repeat (first | refine kN ?_ _ | refine blk_drew ?_ | refine kA ?_ _)); exact BK134.out) hg (Kd.R_ne HO_135002.out BK134.out (by decide)))
                           have n4_ := Aside0.mk (blk_grown (g := gb145) (o := .cells #[.int .i64 ((rd_T62 x135001_3 x98_4).f0), .bool ((rd_T62 x135001_3 x98_4).f1)] 62 (0, 0)) (by (with_reducible repeat (first | refine kN ?_ _ | refine blk_drew ?_ | refine kA ?_ _)); exact BK145.out) hg (Kd.R_ne HO_135002.out BK145.out (by decide)))
                           have n5_ := Aside0.mk (hb)
                           have n6_ := Aside0.mk (ho)
                           clear HO_96
                           clear HO_135001
                           clear BK133
                           clear BK134
                           clear BK145
                           clear HB
                           clear HO_135002
                           have HO_96 := n0_
                           have HO_135001 := n1_
                           have BK133 := n2_
                           have BK134 := n3_
                           have BK145 := n4_
                           have HB := n5_
                           have HO149 := n6_
                           clear n0_ n1_ n2_ n3_ n4_ n5_ n6_
                           clear ho hb hg hat
                           obtain ⟨Ao74, co74, eo74⟩ := Kd.R_slice HO149.out
                           (first | subst eo74 | (injection eo74 with f1_ f2_ f3_; have f4_ := f1_.symm; have f5_ := f3_.symm; clear f1_ f2_ f3_; subst f4_; subst f5_))
                           refine hK.out _ _ ⟨(blk_cell BK134.out 0).trans rfl, (blk_cell BK134.out 1).trans rfl, (blk_cell BK134.out 2).trans rfl, (blk_cell BK145.out 0).trans rfl, (blk_cell BK145.out 1).trans rfl⟩ (fun hHeld => ?_)
                           clear hK K
                           refine norm_ (a' := ?_) ?_ ?_
                           rotate_left
                           ·show Act.put _ (some 109) _ = _
                            simp only [Act.put, List.setIfInBounds_toArray, List.set_cons_zero, List.set_cons_succ, i64_w, i32_w]
                            rfl
                           refine pure_ (i := 8) (N := some 110) (v := ?_) (a' := ?_) #[true, true, true, true, true, true, true, true, true, false] rfl rfl (any_of HT_.out (by kernel_rfl)) (fun _ _ _ h => h) (Or.inl ⟨by rfl, ?_⟩) ?_ ?_
                           rotate_left
                           ·intro w'
                            go_simp
                            with_reducible rfl
                           rotate_left
                           ·simp only [Act.put, List.setIfInBounds_toArray, List.set_cons_zero, List.set_cons_succ, i64_w, i32_w]
                            rfl
                           refine last_ (i := 9) (N := none) #[true, true, true, true, true, true, true, true, true, true] rfl rfl (one_of HT_.out (by kernel_rfl)) (by decide) (fun K hK => ?_)
                           have hs75 : w73.cell? ⟨gb134, 2, none⟩ = some (u135002) := (blk_cell BK134.out 2).trans rfl
                           have hfs75 := blk_frozen BK134.out 2
                           have hns75_0 := NB133_134.out
                           have hns75_2 := NB145_134.out
                           have hms75_0 := NB134_133.out
                           have hms75_2 := NB134_145.out
                           refine skip_ (w1 := ?_) (by rfl) rfl ?_ ?_
                           rotate_left
                           ·go_simp
                            rfl
                           refine hK.out _ _ ?_
                           clear hK K
                           refine done_ (done_of HT_.out (by kernel_rfl)) ?_
                           have hcz76_0 : w73.cell? ⟨gb145, 0, none⟩ = some (.int .i64 ((rd_T62 x135001_3 x98_4).f0)) := (blk_cell BK145.out 0).trans rfl
                           have hcz76_1 : w73.cell? ⟨gb145, 1, none⟩ = some (.bool ((rd_T62 x135001_3 x98_4).f1)) := (blk_cell BK145.out 1).trans rfl
                           have hfz76_0 := blk_frozen BK145.out 0
                           have hfz76_1 := blk_frozen BK145.out 1
                           try go_wp2_with (first | ((with_reducible refine gate_callee (f := 39) rfl ?_); refine goesL_ (some 113) rfl rfl Tryd.func39 (by kernel_rfl) rfl #[.agg #[.int .i64 ((rd_T62 x135001_3 x98_4).f0), .bool ((rd_T62 x135001_3 x98_4).f1)]] rfl (by (try simp only [List.map_toArray, List.map_cons, List.map_nil]); first | done | rfl | (simp only [List.length_drop, List.length_take]; rfl)) ?_; (with_reducible refine (group_Entry_wants.calls ((rd_T62 x135001_3 x98_4).f0) ((rd_T62 x135001_3 x98_4).f1) t150 _ A63.out).mono ?_); rintro e w77 ⟨rfl, hb⟩; refine ⟨_, rfl, ?_⟩; have n0_ := Aside0.mk (Kd.R_below (by (with_reducible repeat (first | apply rA | apply rN | apply Kd.R_drew)); exact (Kd.R_mono (Kd.R_far (p := ⟨gb134, 2, none⟩) (Kd.R_types HO_96.out BK134.out (by decide)) (fun _ hk => hk.2) (.slice Ao74 y147.length co74)) (fun _ h_ => h_.1))) hb); have n1_ := Aside0.mk (Kd.R_below (by (with_reducible repeat (first | apply rA | apply rN | apply Kd.R_drew)); exact (Kd.R_mono (Kd.R_far (p := ⟨gb134, 2, none⟩) (Kd.R_types HO_135001.out BK134.out (by decide)) (fun _ hk => hk.2) (.slice Ao74 y147.length co74)) (fun _ h_ => h_.1))) hb); have n2_ := Aside0.mk (Kd.R_below (by (with_reducible repeat (first | apply rA | apply rN | apply Kd.R_drew)); exact (Kd.R_mono (Kd.R_far (p := ⟨gb134, 2, none⟩) (Kd.R_types HO149.out BK134.out (by decide)) (fun _ hk => hk.2) (.slice Ao74 y147.length co74)) (fun _ h_ => h_.1))) hb); have n3_ := Aside0.mk (kB (g := gb133) (o := .cells #[.int .i64 0, .slice none 0 0, .slice none 0 0] 42 (0, 0)) (by (with_reducible repeat (first | refine kN ?_ _ | refine blk_drew ?_ | refine kA ?_ _)); refine blk_far ?_ NB133_134.out _; (with_reducible repeat (first | refine kN ?_ _ | refine blk_drew ?_ | refine kA ?_ _)); exact BK133.out) hb); have n4_ := Aside0.mk (kB (g := gb134) (o := .cells #[.int .i64 t135, .slice (some ad144) x135001_3.length co53, .slice Ao74 y147.length co74] 42 (0, 0)) (by (with_reducible repeat (first | refine kN ?_ _ | refine blk_drew ?_ | refine kA ?_ _)); refine blk_put (cs := #[.int .i64 t135, .slice (some ad144) x135001_3.length co53, u135002]) ?_ 2 _ rfl; (with_reducible repeat (first | refine kN ?_ _ | refine blk_drew ?_ | refine kA ?_ _)); exact BK134.out) hb); have n5_ := Aside0.mk (kB (g := gb145) (o := .cells #[.int .i64 ((rd_T62 x135001_3 x98_4).f0), .bool ((rd_T62 x135001_3 x98_4).f1)] 62 (0, 0)) (by (with_reducible repeat (first | refine kN ?_ _ | refine blk_drew ?_ | refine kA ?_ _)); refine blk_far ?_ NB145_134.out _; (with_reducible repeat (first | refine kN ?_ _ | refine blk_drew ?_ | refine kA ?_ _)); exact BK145.out) hb); have n6_ := Aside0.mk (below_step (by repeat (first | (with_reducible first | exact HB.out | apply bA | apply pN | apply bD | refine bS ?_ GE133.out | refine bS ?_ GE134.out | refine bS ?_ GE145.out) | exact HB.out)) hb); clear HO_96; clear HO_135001; clear HO149; clear BK133; clear BK134; clear BK145; clear HB; have HO_96 := n0_; have HO_135001 := n1_; have HO149 := n2_; have BK133 := n3_; have BK134 := n4_; have BK145 := n5_; have HB := n6_; clear n0_ n1_ n2_ n3_ n4_ n5_ n6_; (try clear hb); (try clear hb2); (try clear hk); (try clear hi)))
                           go_roundg k4
                           case measure => have := HJ4.out; have := HJ16.out; have := HK3.out; have := HK4.out; omega
                           case rel => exact ⟨(x12_4.extract (t150 : Int).toNat x12_4.size), (wrap64 (x98_4 + 1)), (y147), (.slice Ao74 y147.length co74), (by first | rfl | (simp; done) | (simp [*]; done)), (by first | rfl | (simp; done) | (simp [*]; done)), H', ⟨by have := HJ4.out; have := HJ16.out; have := HK3.out; have := HK4.out; omega⟩, ⟨by (with_reducible repeat (first | apply rA | apply rN | apply Kd.R_drew)); exact Kd.R_mono HO_96.out (fun _ hk => trivial)⟩, ⟨by (with_reducible repeat (first | apply rA | apply rN | apply Kd.R_drew)); exact Kd.R_mono HO_135001.out (fun _ hk => trivial)⟩, ⟨by (with_reducible repeat (first | apply rA | apply rN | apply Kd.R_drew)); exact HO149.out⟩, ⟨by (with_reducible repeat (first | refine kN ?_ _ | refine blk_drew ?_ | refine kA ?_ _)); exact BK133.out⟩, ⟨by (with_reducible repeat (first | refine kN ?_ _ | refine blk_drew ?_ | refine kA ?_ _)); exact BK134.out⟩, ⟨by repeat (first | (with_reducible first | exact HB.out | apply bA | apply pN | apply bD | refine bS ?_ GE133.out | refine bS ?_ GE134.out | refine bS ?_ GE145.out) | exact HB.out)⟩⟩
                          ·rw [if_neg c65] at H
                           exact absurd H (by simp)
                         ·rw [if_neg c64] at H
                          exact absurd H (by simp)
                        ·rw [if_neg c62] at H
                         exact absurd H (by simp)
                       ·rw [if_neg c61] at H
                        exact absurd H (by simp)
                      ·rw [if_neg c60] at H
                       exact absurd H (by simp)
                     ·rw [if_neg c58] at H
                      exact absurd H (by simp)
                    ·rw [if_neg c57] at H
                     exact absurd H (by simp)
                   ·rw [if_neg c56] at H
                    have c56b0 : decide (x98_4 < (x135001_3.length : Int)) = false := decide_eq_false c56
                    clear c56
                    replace H := Option.bind_eq_some_iff.mp H
                    obtain ⟨t151, A780, H⟩ := H
                    replace H : (if t151 = true then (if 0 ≤ (wrap64 (9 + (wrap64 (4 * (wrap64 (bt a0 8)))))) then (if (wrap64 (9 + (wrap64 (4 * (wrap64 (bt a0 8)))))) ≤ (wrap64 ((wrap64 (9 + (wrap64 (4 * (wrap64 (bt a0 8)))))) + 4)) then (if (wrap64 ((wrap64 (9 + (wrap64 (4 * (wrap64 (bt a0 8)))))) + 4)) ≤ (a0.size : Int) then ((nums_Get.f (a0.extract ((wrap64 (9 + (wrap64 (4 * (wrap64 (bt a0 8)))))) : Int).toNat ((wrap64 ((wrap64 (9 + (wrap64 (4 * (wrap64 (bt a0 8)))))) + 4)) : Int).toNat)).bind fun bt152 => (if (wrap64 (9 + (wrap64 (4 * (wrap64 (bt a0 8)))))) ≤ (a0.size : Int) then (if 64 ≤ (wrap64 (t143 * 64)) then (if (wrap64 (t143 * 64)) ≤ (a0.size : Int) then ((crc_Sum.f (([a0.extract 0 ((wrap64 (9 + (wrap64 (4 * (wrap64 (bt a0 8)))))) : Int).toNat, a0.extract 64 ((wrap64 (t143 * 64)) : Int).toNat] : List ByteArray))).bind fun t157 => (if ((bt152.1) % 4294967296) = t157 then (some (t135, x135001_3, x135002_4, t143, 0)) else (some (0, ([] : List (S62)), ([] : List ByteArray), 0, 11)))) else (none)) else (none)) else (none))) else (none)) else (none)) else (none)) else (some (0, ([] : List (S62)), ([] : List ByteArray), 0, 10))) = some (r1, r2, r3, r4, r5) := H
                    have A78 := Aside0.mk A780
                    clear A780
                    by_cases c79 : t151 = true
                    ·subst c79
                     have H1 : (if 0 ≤ (wrap64 (9 + (wrap64 (4 * (wrap64 (bt a0 8)))))) then (if (wrap64 (9 + (wrap64 (4 * (wrap64 (bt a0 8)))))) ≤ (wrap64 ((wrap64 (9 + (wrap64 (4 * (wrap64 (bt a0 8)))))) + 4)) then (if (wrap64 ((wrap64 (9 + (wrap64 (4 * (wrap64 (bt a0 8)))))) + 4)) ≤ (a0.size : Int) then ((nums_Get.f (a0.extract ((wrap64 (9 + (wrap64 (4 * (wrap64 (bt a0 8)))))) : Int).toNat ((wrap64 ((wrap64 (9 + (wrap64 (4 * (wrap64 (bt a0 8)))))) + 4)) : Int).toNat)).bind fun bt152 => (if (wrap64 (9 + (wrap64 (4 * (wrap64 (bt a0 8)))))) ≤ (a0.size : Int) then (if 64 ≤ (wrap64 (t143 * 64)) then (if (wrap64 (t143 * 64)) ≤ (a0.size : Int) then ((crc_Sum.f (([a0.extract 0 ((wrap64 (9 + (wrap64 (4 * (wrap64 (bt a0 8)))))) : Int).toNat, a0.extract 64 ((wrap64 (t143 * 64)) : Int).toNat] : List ByteArray))).bind fun t157 => (if ((bt152.1) % 4294967296) = t157 then (some (t135, x135001_3, x135002_4, t143, 0)) else (some (0, ([] : List (S62)), ([] : List ByteArray), 0, 11)))) else (none)) else (none)) else (none))) else (none)) else (none)) else (none)) = some (r1, r2, r3, r4, r5) := by rw [if_pos rfl] at H; exact H
                     clear H
                     have H := H1
                     clear H1
                     obtain ⟨ji80, hji80⟩ : ∃ j_ : Int, (wrap64 (9 + (wrap64 (4 * (wrap64 (bt a0 8)))))) = j_ := ⟨_, rfl⟩
                     replace H : (if 0 ≤ (ji80) then (if (ji80) ≤ (wrap64 ((ji80) + 4)) then (if (wrap64 ((ji80) + 4)) ≤ (a0.size : Int) then ((nums_Get.f (a0.extract ((ji80) : Int).toNat ((wrap64 ((ji80) + 4)) : Int).toNat)).bind fun bt152 => (if (ji80) ≤ (a0.size : Int) then (if 64 ≤ (wrap64 (t143 * 64)) then (if (wrap64 (t143 * 64)) ≤ (a0.size : Int) then ((crc_Sum.f (([a0.extract 0 ((ji80) : Int).toNat, a0.extract 64 ((wrap64 (t143 * 64)) : Int).toNat] : List ByteArray))).bind fun t157 => (if ((bt152.1) % 4294967296) = t157 then (some (t135, x135001_3, x135002_4, t143, 0)) else (some (0, ([] : List (S62)), ([] : List ByteArray), 0, 11)))) else (none)) else (none)) else (none))) else (none)) else (none)) else (none)) = some (r1, r2, r3, r4, r5) := by first | (rw [hji80] at H; exact H) | (simp only [hji80] at H ⊢; exact H)
                     (try rw [hji80] at c31b0)
                     (try rw [hji80] at A78)
                     have hji80w : (IntKind.i64.wrap (9 + (wrap64 (4 * (wrap64 (bt a0 8)))))) = ji80 := (i64_w _).trans hji80
                     by_cases c81 : 0 ≤ (ji80)
                     ·rw [if_pos c81] at H
                      have c81b0 := eq_true c81
                      have c81b1 : decide (0 ≤ (ji80)) = true := decide_eq_true c81
                      clear c81
                      by_cases c82 : (ji80) ≤ (wrap64 ((ji80) + 4))
                      ·rw [if_pos c82] at H
                       have c82b0 := eq_true c82
                       have c82b1 : decide ((ji80) ≤ (wrap64 ((ji80) + 4))) = true := decide_eq_true c82
                       by_cases c83 : (wrap64 ((ji80) + 4)) ≤ (a0.size : Int)
                       ·rw [if_pos c83] at H
                        have c83b0 := eq_true c83
                        have c83b1 : decide ((wrap64 ((ji80) + 4)) ≤ (a0.size : Int)) = true := decide_eq_true c83
                        replace H := Option.bind_eq_some_iff.mp H
                        obtain ⟨⟨t152, t153⟩, A840, H⟩ := H
                        replace H : (if (ji80) ≤ (a0.size : Int) then (if 64 ≤ (wrap64 (t143 * 64)) then (if (wrap64 (t143 * 64)) ≤ (a0.size : Int) then ((crc_Sum.f (([a0.extract 0 ((ji80) : Int).toNat, a0.extract 64 ((wrap64 (t143 * 64)) : Int).toNat] : List ByteArray))).bind fun t157 => (if ((t152) % 4294967296) = t157 then (some (t135, x135001_3, x135002_4, t143, 0)) else (some (0, ([] : List (S62)), ([] : List ByteArray), 0, 11)))) else (none)) else (none)) else (none)) = some (r1, r2, r3, r4, r5) := H
                        have A84 := Aside0.mk A840
                        clear A840
                        have c85b0 := eq_true (of_decide_eq_true (by first | (with_reducible assumption) | assumption) : 0 ≤ (ji80))
                        by_cases c86 : (ji80) ≤ (a0.size : Int)
                        ·rw [if_pos c86] at H
                         have c86b0 := eq_true c86
                         have c86b1 : decide ((ji80) ≤ (a0.size : Int)) = true := decide_eq_true c86
                         clear c86
                         by_cases c87 : 64 ≤ (wrap64 (t143 * 64))
                         ·rw [if_pos c87] at H
                          have c87b0 := eq_true c87
                          have c87b1 : decide (64 ≤ (wrap64 (t143 * 64))) = true := decide_eq_true c87
                          clear c87
                          by_cases c88 : (wrap64 (t143 * 64)) ≤ (a0.size : Int)
                          ·rw [if_pos c88] at H
                           have c88b0 := eq_true c88
                           have c88b1 : decide ((wrap64 (t143 * 64)) ≤ (a0.size : Int)) = true := decide_eq_true c88
                           clear c88
                           obtain ⟨y154, hy154⟩ : ∃ y_ : List ByteArray, y_ = (([a0.extract 0 ((ji80) : Int).toNat, a0.extract 64 ((wrap64 (t143 * 64)) : Int).toNat] : List ByteArray)) := ⟨_, rfl⟩
                           replace H : ((crc_Sum.f y154).bind fun t157 => (if ((t152) % 4294967296) = t157 then (some (t135, x135001_3, x135002_4, t143, 0)) else (some (0, ([] : List (S62)), ([] : List ByteArray), 0, 11)))) = some (r1, r2, r3, r4, r5) := by first | (rw [hy154]; with_reducible exact H) | (have H2_ := (Option.bind_some _ _).symm.trans H; rw [hy154]; with_reducible exact H2_) | (have H2_ := (Option.bind_some _ _).symm.trans H; with_reducible exact H2_) | with_reducible exact H | (rw [hy154]; exact H) | exact H
                           have Ny154 := Aside0.mk hy154
                           clear hy154
                           replace H := Option.bind_eq_some_iff.mp H
                           obtain ⟨t157, A890, H⟩ := H
                           replace H : (if ((t152) % 4294967296) = t157 then (some (t135, x135001_3, x135002_4, t143, 0)) else (some (0, ([] : List (S62)), ([] : List ByteArray), 0, 11))) = some (r1, r2, r3, r4, r5) := H
                           have A89 := Aside0.mk A890
                           clear A890
                           by_cases c90 : ((t152) % 4294967296) = t157
                           ·rw [if_pos c90] at H
                            have c90b0 : (((t152) % 4294967296) == t157) = true := beq_iff_eq.mpr c90
                            have c90b6 : (IntKind.u32.wrap t152 == t157) = true := by rw [IntKind.wrap_u32]; exact c90b0
                            have c90b1 : (((t152) % 4294967296) != t157) = false := bne_eq_false_iff_eq.mpr c90
                            have c90b7 : (IntKind.u32.wrap t152 != t157) = false := by rw [IntKind.wrap_u32]; exact c90b1
                            clear c90
                            simp only [Option.some.injEq, Prod.mk.injEq] at H
                            obtain ⟨rfl, rfl, rfl, rfl, rfl⟩ := H
                            have hnb91 := NB134_133.out
                            have hnc91 := NB133_134.out
                            have hcz92_0 : wr.cell? ⟨gb134, 0, none⟩ = some (.int .i64 t135) := (blk_cell BK134.out 0).trans rfl
                            have hcz92_1 : wr.cell? ⟨gb134, 1, none⟩ = some (.slice Ao53 x135001_3.length co53) := (blk_cell BK134.out 1).trans rfl
                            have hcz92_2 : wr.cell? ⟨gb134, 2, none⟩ = some (u135002) := (blk_cell BK134.out 2).trans rfl
                            have hfz92_0 := blk_frozen BK134.out 0
                            have hfz92_1 := blk_frozen BK134.out 1
                            have hfz92_2 := blk_frozen BK134.out 2
                            obtain ⟨Ao93, co93, eo93⟩ := Kd.R_slice HO_135002.out
                            subst eo93
                            try go_wp2_with (first | ((with_reducible refine gate_callee (f := 32) rfl ?_); refine goesL_ (some 117) rfl rfl Tryd.func32 (by kernel_rfl) rfl #[.agg #[.int .i64 t135, .slice Ao53 x135001_3.length co53, .slice Ao93 x135002_4.length co93]] rfl (by (try simp only [List.map_toArray, List.map_cons, List.map_nil]); first | done | rfl | (simp only [List.length_drop, List.length_take]; rfl)) ?_; (with_reducible refine (group_Group_right.calls k4 t135 _ _ x135001_3 _ _ x135002_4 true _ ?side1 ?side2 ?side3 ?side4 A78.out).mono ?_); (case side1 => repeat (first | exact (Kd.R_reads' HO_135001.out).2.2 | (with_reducible refine Kd.C_alloc ?_ _) | (with_reducible refine Kd.C_drewN ?_ _) | (with_reducible refine Kd.C_drew ?_))); (case side2 => exact (Kd.R_reads' HO_135001.out).2.1); (case side3 => repeat (first | exact (Kd.R_reads' HO_135002.out).2.2 | (with_reducible refine Kd.C_alloc ?_ _) | (with_reducible refine Kd.C_drewN ?_ _) | (with_reducible refine Kd.C_drew ?_))); (case side4 => exact (Kd.R_reads' HO_135002.out).2.1); rintro e w94 ⟨rfl, hb⟩; refine ⟨_, rfl, ?_⟩; have n0_ := Aside0.mk (Kd.R_below (by (with_reducible repeat (first | apply rA | apply rN | apply Kd.R_drew)); exact HO_96.out) hb); have n1_ := Aside0.mk (Kd.R_below (by (with_reducible repeat (first | apply rA | apply rN | apply Kd.R_drew)); exact HO_135001.out) hb); have n2_ := Aside0.mk (Kd.R_below (by (with_reducible repeat (first | apply rA | apply rN | apply Kd.R_drew)); exact HO_135002.out) hb); have n3_ := Aside0.mk (kB (g := gb133) (o := .cells #[.int .i64 0, .slice none 0 0, .slice none 0 0] 42 (0, 0)) (by (with_reducible repeat (first | refine kN ?_ _ | refine blk_drew ?_ | refine kA ?_ _)); exact BK133.out) hb); have n4_ := Aside0.mk (kB (g := gb134) (o := .cells #[.int .i64 t135, .slice Ao53 x135001_3.length co53, .slice Ao93 x135002_4.length co93] 42 (0, 0)) (by (with_reducible repeat (first | refine kN ?_ _ | refine blk_drew ?_ | refine kA ?_ _)); exact BK134.out) hb); have n5_ := Aside0.mk (below_step (by repeat (first | (with_reducible first | exact HB.out | apply bA | apply pN | apply bD | refine bS ?_ GE133.out | refine bS ?_ GE134.out) | exact HB.out)) hb); clear HO_96; clear HO_135001; clear HO_135002; clear BK133; clear BK134; clear HB; have HO_96 := n0_; have HO_135001 := n1_; have HO_135002 := n2_; have BK133 := n3_; have BK134 := n4_; have HB := n5_; clear n0_ n1_ n2_ n3_ n4_ n5_; (try clear hb); (try clear hb2); (try clear hk); (try clear hi)) | ((with_reducible refine gate_callee (f := 40) rfl ?_); refine goesL_ (some 126) rfl rfl Tryd.func40 (by kernel_rfl) rfl #[.string (a0.extract ((ji80) : Int).toNat ((wrap64 ((ji80) + 4)) : Int).toNat)] rfl (by (try simp only [List.map_toArray, List.map_cons, List.map_nil]); first | done | (simp only [hji80]; rfl) | rfl | (simp only [List.length_drop, List.length_take]; rfl)) ?_; (with_reducible refine (nums_Get.calls (a0.extract ((ji80) : Int).toNat ((wrap64 ((ji80) + 4)) : Int).toNat) t152 t153 _ A84.out).mono ?_); rintro e w' ⟨rfl, ⟨nd, rfl⟩⟩; refine ⟨_, rfl, ?_⟩; (try (rw [drewN_self w94]; generalize hq_ : World.drewN w94 _ = w94; have n0_ : Aside0 (Kd.R k62 62 w94 w.heap.size (fun _ => True) (.slice Ao53 x135001_3.length co53) x135001_3) := ⟨by rw [← hq_]; exact (by (with_reducible repeat (first | apply rA | apply rN | apply Kd.R_drew)); exact HO_135001.out)⟩; have n1_ : Aside0 (Kd.R Kd.string 9 w94 w.heap.size (fun _ => True) (.slice Ao93 x135002_4.length co93) x135002_4) := ⟨by rw [← hq_]; exact (by (with_reducible repeat (first | apply rA | apply rN | apply Kd.R_drew)); exact HO_135002.out)⟩; have n2_ : Aside0 (Kd.R k62 62 w94 w.heap.size (fun _ => True) (.slice Ao53 x135001_3.length co53) x135001_3) := ⟨by rw [← hq_]; exact (by (with_reducible repeat (first | apply rA | apply rN | apply Kd.R_drew)); exact HO_96.out)⟩; have n3_ : Aside0 (w94.heap[gb133]? = some (.cells #[.int .i64 0, .slice none 0 0, .slice none 0 0] 42 (0, 0))) := ⟨by rw [← hq_]; exact (by (with_reducible repeat (first | refine kN ?_ _ | refine blk_drew ?_ | refine kA ?_ _)); exact BK133.out)⟩; have n4_ : Aside0 (w94.heap[gb134]? = some (.cells #[.int .i64 t135, .slice Ao53 x135001_3.length co53, .slice Ao93 x135002_4.length co93] 42 (0, 0))) := ⟨by rw [← hq_]; exact (by (with_reducible repeat (first | refine kN ?_ _ | refine blk_drew ?_ | refine kA ?_ _)); exact BK134.out)⟩; have n5_ : Aside0 (Below w.heap.size w w94) := ⟨by rw [← hq_]; exact (by repeat (first | (with_reducible first | exact HB.out | apply bA | apply pN | apply bD | refine bS ?_ GE133.out | refine bS ?_ GE134.out) | exact HB.out))⟩; clear HO_135001 HO_135002 HO_96 BK133 BK134 HB hq_; have HO_135001 := n0_; have HO_135002 := n1_; have HO_96 := n2_; have BK133 := n3_; have BK134 := n4_; have HB := n5_; clear n0_ n1_ n2_ n3_ n4_ n5_))))
                            have n0_ := Aside0.mk (Kd.R_drew HO_96.out)
                            have n1_ := Aside0.mk (Kd.R_drew HO_135001.out)
                            have n2_ := Aside0.mk (Kd.R_drew HO_135002.out)
                            have n3_ := Aside0.mk (blk_drew BK133.out)
                            have n4_ := Aside0.mk (blk_drew BK134.out)
                            have n5_ := Aside0.mk (bD HB.out)
                            clear HO_96
                            clear HO_135001
                            clear HO_135002
                            clear BK133
                            clear BK134
                            clear HB
                            have HO_96 := n0_
                            have HO_135001 := n1_
                            have HO_135002 := n2_
                            have BK133 := n3_
                            have BK134 := n4_
                            have HB := n5_
                            clear n0_ n1_ n2_ n3_ n4_ n5_
                            refine start_ (n := 12) (S := fun w' => True) (ds := []) #[false, false, false, false, false, false, false, false, false, false, false, false] (by kernel_rfl) rfl rfl trivial (fun hHeld => ?_); refine with_tabW group_Decode.tab29 group_Decode.bits29 (fun HT_ HW_ => ?_)
                            generalize w94.drew = w95 at HO_96 HO_135001 HO_135002 BK133 BK134 HB hHeld ⊢
                            refine pure_ (i := 0) (N := some 129) (v := ?_) (a' := ?_) #[true, false, false, false, false, false, false, false, false, false, false, false] rfl rfl (any_of HT_.out (by kernel_rfl)) (fun _ _ _ h => h) (Or.inl ⟨by rfl, ?_⟩) ?_ ?_
                            rotate_left
                            ·intro w'
                             go_simp
                             with_reducible rfl
                            rotate_left
                            ·simp only [Act.put, List.setIfInBounds_toArray, List.set_cons_zero, List.set_cons_succ, i64_w, i32_w]
                             rfl
                            refine pure_ (i := 1) (N := some 130) (v := ?_) (a' := ?_) #[true, true, false, false, false, false, false, false, false, false, false, false] rfl rfl (any_of HT_.out (by kernel_rfl)) (fun _ _ _ h => h) (Or.inl ⟨by rfl, ?_⟩) ?_ ?_
                            rotate_left
                            ·intro w'
                             go_simp
                             with_reducible rfl
                            rotate_left
                            ·simp only [Act.put, List.setIfInBounds_toArray, List.set_cons_zero, List.set_cons_succ, i64_w, i32_w]
                             rfl
                            refine pure_ (i := 2) (N := some 131) (v := ?_) (a' := ?_) #[true, true, true, false, false, false, false, false, false, false, false, false] rfl rfl (any_of HT_.out (by kernel_rfl)) (fun _ _ _ h => h) (Or.inl ⟨by rfl, ?_⟩) ?_ ?_
                            rotate_left
                            ·intro w'
                             go_simp
                             with_reducible rfl
                            rotate_left
                            ·simp only [Act.put, List.setIfInBounds_toArray, List.set_cons_zero, List.set_cons_succ, i64_w, i32_w]
                             rfl
                            refine pure_ (i := 3) (N := some 132) (v := ?_) (a' := ?_) #[true, true, true, true, false, false, false, false, false, false, false, false] rfl rfl (any_of HT_.out (by kernel_rfl)) (fun _ _ _ h => h) (Or.inl ⟨by rfl, ?_⟩) ?_ ?_
                            rotate_left
                            ·intro w'
                             go_simp
                             with_reducible rfl
                            rotate_left
                            ·simp only [Act.put, List.setIfInBounds_toArray, List.set_cons_zero, List.set_cons_succ, i64_w, i32_w]
                             rfl
                            refine pure_ (i := 4) (N := some 133) (v := ?_) (a' := ?_) #[true, true, true, true, true, false, false, false, false, false, false, false] rfl rfl (any_of HT_.out (by kernel_rfl)) (fun _ _ _ h => h) (Or.inl ⟨by rfl, ?_⟩) ?_ ?_
                            rotate_left
                            ·intro w'
                             go_simp
                             with_reducible rfl
                            rotate_left
                            ·simp only [Act.put, List.setIfInBounds_toArray, List.set_cons_zero, List.set_cons_succ, i64_w, i32_w]
                             rfl
                            refine pure_ (i := 5) (N := some 134) (v := ?_) (a' := ?_) #[true, true, true, true, true, true, false, false, false, false, false, false] rfl rfl (any_of HT_.out (by kernel_rfl)) (fun _ _ _ h => h) (Or.inl ⟨by rfl, ?_⟩) ?_ ?_
                            rotate_left
                            ·intro w'
                             go_simp
                             with_reducible rfl
                            rotate_left
                            ·simp only [Act.put, List.setIfInBounds_toArray, List.set_cons_zero, List.set_cons_succ, i64_w, i32_w]
                             rfl
                            refine pure_ (i := 6) (N := some 135) (v := ?_) (a' := ?_) #[true, true, true, true, true, true, true, false, false, false, false, false] rfl rfl (any_of HT_.out (by kernel_rfl)) (fun _ _ _ h => h) (Or.inl ⟨by rfl, ?_⟩) ?_ ?_
                            rotate_left
                            ·intro w'
                             go_simp
                             with_reducible rfl
                            rotate_left
                            ·simp only [Act.put, List.setIfInBounds_toArray, List.set_cons_zero, List.set_cons_succ, i64_w, i32_w]
                             rfl
                            refine pure_ (i := 7) (N := some 136) (v := ?_) (a' := ?_) #[true, true, true, true, true, true, true, true, false, false, false, false] rfl rfl (any_of HT_.out (by kernel_rfl)) (fun _ _ _ h => h) (Or.inl ⟨by rfl, ?_⟩) ?_ ?_
                            rotate_left
                            ·intro w'
                             go_simp
                             with_reducible rfl
                            rotate_left
                            ·simp only [Act.put, List.setIfInBounds_toArray, List.set_cons_zero, List.set_cons_succ, i64_w, i32_w]
                             rfl
                            refine pure_ (i := 8) (N := some 137) (v := ?_) (a' := ?_) #[true, true, true, true, true, true, true, true, true, false, false, false] rfl rfl (any_of HT_.out (by kernel_rfl)) (fun _ _ _ h => h) (Or.inl ⟨by rfl, ?_⟩) ?_ ?_
                            rotate_left
                            ·intro w'
                             go_simp
                             with_reducible rfl
                            rotate_left
                            ·simp only [Act.put, List.setIfInBounds_toArray, List.set_cons_zero, List.set_cons_succ, i64_w, i32_w]
                             rfl
                            refine one_ (i := 9) (N := some 138) #[true, true, true, true, true, true, true, true, true, true, false, false] rfl rfl (one_of HT_.out (by kernel_rfl)) (by decide) (fun K hK => ?_)
                            refine Kd.R_lit_step Kd.string _ 9 ?hg (N := 138) ?hd (xs := ([a0.extract 0 ((ji80) : Int).toNat, a0.extract 64 ((wrap64 (t143 * 64)) : Int).toNat] : List ByteArray)) (inner := [.string (a0.extract 0 ((ji80) : Int).toNat), .string (a0.extract 64 ((wrap64 (t143 * 64)) : Int).toNat)]) (ok := fun _ => True) (okp := fun _ => True) ?hr ?hp (fun _ hk => hk) trivial (Below.refl _ _) (Nat.le_refl _) (by simp) ?_; (case hd => rfl); (case hg => rfl); (case hr => first | (go_simp; done) | (go_simp; rfl)); (case hp => exact (Reps.one (show Kd.M Kd.string _ _ _ (a0.extract 0 ((ji80) : Int).toNat) [.string (a0.extract 0 ((ji80) : Int).toNat)] from rfl) (Reps.one (show Kd.M Kd.string _ _ _ (a0.extract 64 ((wrap64 (t143 * 64)) : Int).toNat) [.string (a0.extract 64 ((wrap64 (t143 * 64)) : Int).toNat)] from rfl) (Reps.none _ _))))
                            intro v155 w96 ho97 hb hg_ hnew_
                            clear hg_ hnew_
                            (first | rw [← Ny154.out] at ho97 | (simp only [Int.reduceToNat] at ho97; rw [← Ny154.out] at ho97))
                            have n0_ := Aside0.mk (Kd.R_below (by (with_reducible repeat (first | apply rA | apply rN | apply Kd.R_drew)); exact HO_96.out) hb)
                            have n1_ := Aside0.mk (Kd.R_below (by (with_reducible repeat (first | apply rA | apply rN | apply Kd.R_drew)); exact HO_135001.out) hb)
                            have n2_ := Aside0.mk (Kd.R_elder' (by (with_reducible repeat (first | apply rA | apply rN | apply Kd.R_drew)); exact HO_135002.out) (Kd.R_base ho97) hb)
                            have n3_ := Aside0.mk (Kd.R_lower (Kd.R_new' ho97 (Kd.R_lt (by (with_reducible repeat (first | apply rA | apply rN | apply Kd.R_drew)); exact HO_135002.out))) (bZ (by repeat (first | (with_reducible first | exact HB.out | apply bA | apply pN | apply bD | refine bS ?_ GE133.out | refine bS ?_ GE134.out) | exact HB.out))))
                            have n4_ := Aside0.mk (kB (g := gb133) (o := .cells #[.int .i64 0, .slice none 0 0, .slice none 0 0] 42 (0, 0)) (by (with_reducible repeat (first | refine kN ?_ _ | refine blk_drew ?_ | refine kA ?_ _)); exact BK133.out) hb)
                            have n5_ := Aside0.mk (kB (g := gb134) (o := .cells #[.int .i64 t135, .slice Ao53 x135001_3.length co53, .slice Ao93 x135002_4.length co93] 42 (0, 0)) (by (with_reducible repeat (first | refine kN ?_ _ | refine blk_drew ?_ | refine kA ?_ _)); exact BK134.out) hb)
                            have n6_ := Aside0.mk (below_step (by repeat (first | (with_reducible first | exact HB.out | apply bA | apply pN | apply bD | refine bS ?_ GE133.out | refine bS ?_ GE134.out) | exact HB.out)) hb)
                            clear HO_96
                            clear HO_135001
                            clear HO_135002
                            clear BK133
                            clear BK134
                            clear HB
                            have HO_96 := n0_
                            have HO_135001 := n1_
                            have HO_135002 := n2_
                            have HO156 := n3_
                            have BK133 := n4_
                            have BK134 := n5_
                            have HB := n6_
                            clear n0_ n1_ n2_ n3_ n4_ n5_ n6_
                            clear hb ho97
                            obtain ⟨Ao98, co98, eo98⟩ := Kd.R_slice HO156.out
                            (first | subst eo98 | (injection eo98 with f1_ f2_ f3_; have f4_ := f1_.symm; have f5_ := f3_.symm; clear f1_ f2_ f3_; subst f4_; subst f5_))
                            refine hK.out _ _ trivial (fun hHeld => ?_)
                            clear hK K
                            refine norm_ (a' := ?_) ?_ ?_
                            rotate_left
                            ·show Act.put _ (some 138) _ = _
                             simp only [Act.put, List.setIfInBounds_toArray, List.set_cons_zero, List.set_cons_succ, i64_w, i32_w]
                             rfl
                            refine one_ (i := 10) (N := some 139) #[true, true, true, true, true, true, true, true, true, true, true, false] rfl rfl (one_of HT_.out (by kernel_rfl)) (by decide) (fun K hK => ?_)
                            refine goes_ Tryd.func36 (by kernel_rfl) rfl #[.slice Ao98 y154.length co98] (by rfl) rfl rfl (by (try simp only [List.map_toArray, List.map_cons, List.map_nil]); first | done | rfl | (simp only [List.length_drop, List.length_take]; rfl)) ?_
                            with_reducible refine (crc_Sum.calls _ _ y154 t157 _ ?side1 ?side2 A89.out (HN.out.below (by repeat (first | (with_reducible first | exact HB.out | apply bA | apply pN | apply bD | refine bS ?_ GE133.out | refine bS ?_ GE134.out | refine bS ?_ GE145.out) | exact HB.out)) (Nat.lt_of_lt_of_le HN.out.lt (Nat.le_refl _)))).mono ?_
                            (case side1 => repeat (first | exact (Kd.R_reads' HO156.out).2.2 | (with_reducible refine Kd.C_alloc ?_ _) | (with_reducible refine Kd.C_drewN ?_ _) | (with_reducible refine Kd.C_drew ?_)))
                            (case side2 => exact (Kd.R_reads' HO156.out).2.1)
                            rintro e w' ⟨rfl, ⟨nd, rfl⟩⟩
                            refine ⟨_, rfl, ?_⟩
                            refine hK.out _ _ trivial (fun hHeld => ?_)
                            clear hK K
                            refine norm_ (a' := ?_) ?_ ?_
                            rotate_left
                            ·show Act.put _ (some 139) _ = _
                             simp only [Act.put, List.setIfInBounds_toArray, List.set_cons_zero, List.set_cons_succ, i64_w, i32_w]
                             rfl
                            refine pure_ (i := 11) (N := some 140) (v := ?_) (a' := ?_) #[true, true, true, true, true, true, true, true, true, true, true, true] rfl rfl (any_of HT_.out (by kernel_rfl)) (fun _ _ _ h => h) (Or.inl ⟨by rfl, ?_⟩) ?_ ?_
                            rotate_left
                            ·intro w'
                             go_simp
                             with_reducible rfl
                            rotate_left
                            ·simp only [Act.put, List.setIfInBounds_toArray, List.set_cons_zero, List.set_cons_succ, i64_w, i32_w]
                             rfl
                            refine done_ (done_of HT_.out (by kernel_rfl)) ?_
                            have hcz99_0 : w96.cell? ⟨gb134, 0, none⟩ = some (.int .i64 t135) := (blk_cell BK134.out 0).trans rfl
                            have hcz99_1 : w96.cell? ⟨gb134, 1, none⟩ = some (.slice Ao53 x135001_3.length co53) := (blk_cell BK134.out 1).trans rfl
                            have hcz99_2 : w96.cell? ⟨gb134, 2, none⟩ = some (.slice Ao93 x135002_4.length co93) := (blk_cell BK134.out 2).trans rfl
                            have hfz99_0 := blk_frozen BK134.out 0
                            have hfz99_1 := blk_frozen BK134.out 1
                            have hfz99_2 := blk_frozen BK134.out 2
                            have hcz100_0 : w96.cell? ⟨gb133, 0, none⟩ = some (.int .i64 0) := (blk_cell BK133.out 0).trans rfl
                            have hcz100_1 : w96.cell? ⟨gb133, 1, none⟩ = some (.slice none 0 0) := (blk_cell BK133.out 1).trans rfl
                            have hcz100_2 : w96.cell? ⟨gb133, 2, none⟩ = some (.slice none 0 0) := (blk_cell BK133.out 2).trans rfl
                            have hfz100_0 := blk_frozen BK133.out 0
                            have hfz100_1 := blk_frozen BK133.out 1
                            have hfz100_2 := blk_frozen BK133.out 2
                            try go_wp2
                            refine bodyPost_ret (results_ctt rfl _ _ gb133 42 #[.int .i64 t135, .slice Ao53 x135001_3.length co53, .slice Ao93 x135002_4.length co93] (0, 0) _ rfl (by (with_reducible repeat (first | refine kN ?_ _ | refine blk_drew ?_ | refine kA ?_ _)); refine blk_put (cs := #[.int .i64 t135, .slice Ao53 x135001_3.length co53, .slice none 0 0]) ?_ 2 _ rfl; (with_reducible repeat (first | refine kN ?_ _ | refine blk_drew ?_ | refine kA ?_ _)); refine blk_put (cs := #[.int .i64 t135, .slice none 0 0, .slice none 0 0]) ?_ 1 _ rfl; (with_reducible repeat (first | refine kN ?_ _ | refine blk_drew ?_ | refine kA ?_ _)); refine blk_put (cs := #[.int .i64 0, .slice none 0 0, .slice none 0 0]) ?_ 0 _ rfl; (with_reducible repeat (first | refine kN ?_ _ | refine blk_drew ?_ | refine kA ?_ _)); exact BK133.out) Tryd.underlying42 rfl (by kernel_rfl)) rfl ?_
                            exact ⟨_, _, by first | rfl | (simp [errW_none, errW_some] <;> rfl) | (simp only [← hji80]; first | rfl | (simp [errW_none, errW_some] <;> rfl)) | (simp [*, errW_none, errW_some] <;> rfl), by (with_reducible repeat (first | apply rA | apply rN | apply Kd.R_drew)); exact Kd.R_mono (Kd.R_far (p := ⟨gb133, 2, none⟩) (Kd.R_far (p := ⟨gb133, 1, none⟩) (Kd.R_far (p := ⟨gb133, 0, none⟩) (Kd.R_types HO_135001.out BK133.out (by decide)) (fun _ hk => hk.2) (.int .i64 t135)) (fun _ hk => hk.2) (.slice Ao53 x135001_3.length co53)) (fun _ hk => hk.2) (.slice Ao93 x135002_4.length co93)) (fun _ hk => trivial), by (with_reducible repeat (first | apply rA | apply rN | apply Kd.R_drew)); exact Kd.R_mono (Kd.R_far (p := ⟨gb133, 2, none⟩) (Kd.R_far (p := ⟨gb133, 1, none⟩) (Kd.R_far (p := ⟨gb133, 0, none⟩) (Kd.R_types HO_135002.out BK133.out (by decide)) (fun _ hk => hk.2) (.int .i64 t135)) (fun _ hk => hk.2) (.slice Ao53 x135001_3.length co53)) (fun _ hk => hk.2) (.slice Ao93 x135002_4.length co93)) (fun _ hk => trivial), by repeat (first | (with_reducible first | exact HB.out | apply bA | apply pN | apply bD | refine bS ?_ GE133.out | refine bS ?_ GE134.out) | exact HB.out)⟩
                           ·rw [if_neg c90] at H
                            have c90b0 : (((t152) % 4294967296) == t157) = false := beq_eq_false_iff_ne.mpr c90
                            have c90b6 : (IntKind.u32.wrap t152 == t157) = false := by rw [IntKind.wrap_u32]; exact c90b0
                            have c90b1 : (((t152) % 4294967296) != t157) = true := bne_iff_ne.mpr c90
                            have c90b7 : (IntKind.u32.wrap t152 != t157) = true := by rw [IntKind.wrap_u32]; exact c90b1
                            simp only [Option.some.injEq, Prod.mk.injEq] at H
                            obtain ⟨rfl, rfl, rfl, rfl, rfl⟩ := H
                            have hnb101 := NB134_133.out
                            have hnc101 := NB133_134.out
                            have hcz102_0 : wr.cell? ⟨gb134, 0, none⟩ = some (.int .i64 t135) := (blk_cell BK134.out 0).trans rfl
                            have hcz102_1 : wr.cell? ⟨gb134, 1, none⟩ = some (.slice Ao53 x135001_3.length co53) := (blk_cell BK134.out 1).trans rfl
                            have hcz102_2 : wr.cell? ⟨gb134, 2, none⟩ = some (u135002) := (blk_cell BK134.out 2).trans rfl
                            have hfz102_0 := blk_frozen BK134.out 0
                            have hfz102_1 := blk_frozen BK134.out 1
                            have hfz102_2 := blk_frozen BK134.out 2
                            obtain ⟨Ao103, co103, eo103⟩ := Kd.R_slice HO_135002.out
                            subst eo103
                            try go_wp2_with (first | ((with_reducible refine gate_callee (f := 32) rfl ?_); refine goesL_ (some 117) rfl rfl Tryd.func32 (by kernel_rfl) rfl #[.agg #[.int .i64 t135, .slice Ao53 x135001_3.length co53, .slice Ao103 x135002_4.length co103]] rfl (by (try simp only [List.map_toArray, List.map_cons, List.map_nil]); first | done | rfl | (simp only [List.length_drop, List.length_take]; rfl)) ?_; (with_reducible refine (group_Group_right.calls k4 t135 _ _ x135001_3 _ _ x135002_4 true _ ?side1 ?side2 ?side3 ?side4 A78.out).mono ?_); (case side1 => repeat (first | exact (Kd.R_reads' HO_135001.out).2.2 | (with_reducible refine Kd.C_alloc ?_ _) | (with_reducible refine Kd.C_drewN ?_ _) | (with_reducible refine Kd.C_drew ?_))); (case side2 => exact (Kd.R_reads' HO_135001.out).2.1); (case side3 => repeat (first | exact (Kd.R_reads' HO_135002.out).2.2 | (with_reducible refine Kd.C_alloc ?_ _) | (with_reducible refine Kd.C_drewN ?_ _) | (with_reducible refine Kd.C_drew ?_))); (case side4 => exact (Kd.R_reads' HO_135002.out).2.1); rintro e w104 ⟨rfl, hb⟩; refine ⟨_, rfl, ?_⟩; have n0_ := Aside0.mk (Kd.R_below (by (with_reducible repeat (first | apply rA | apply rN | apply Kd.R_drew)); exact HO_96.out) hb); have n1_ := Aside0.mk (Kd.R_below (by (with_reducible repeat (first | apply rA | apply rN | apply Kd.R_drew)); exact HO_135001.out) hb); have n2_ := Aside0.mk (Kd.R_below (by (with_reducible repeat (first | apply rA | apply rN | apply Kd.R_drew)); exact HO_135002.out) hb); have n3_ := Aside0.mk (kB (g := gb133) (o := .cells #[.int .i64 0, .slice none 0 0, .slice none 0 0] 42 (0, 0)) (by (with_reducible repeat (first | refine kN ?_ _ | refine blk_drew ?_ | refine kA ?_ _)); exact BK133.out) hb); have n4_ := Aside0.mk (kB (g := gb134) (o := .cells #[.int .i64 t135, .slice Ao53 x135001_3.length co53, .slice Ao103 x135002_4.length co103] 42 (0, 0)) (by (with_reducible repeat (first | refine kN ?_ _ | refine blk_drew ?_ | refine kA ?_ _)); exact BK134.out) hb); have n5_ := Aside0.mk (below_step (by repeat (first | (with_reducible first | exact HB.out | apply bA | apply pN | apply bD | refine bS ?_ GE133.out | refine bS ?_ GE134.out) | exact HB.out)) hb); clear HO_96; clear HO_135001; clear HO_135002; clear BK133; clear BK134; clear HB; have HO_96 := n0_; have HO_135001 := n1_; have HO_135002 := n2_; have BK133 := n3_; have BK134 := n4_; have HB := n5_; clear n0_ n1_ n2_ n3_ n4_ n5_; (try clear hb); (try clear hb2); (try clear hk); (try clear hi)) | ((with_reducible refine gate_callee (f := 40) rfl ?_); refine goesL_ (some 126) rfl rfl Tryd.func40 (by kernel_rfl) rfl #[.string (a0.extract ((ji80) : Int).toNat ((wrap64 ((ji80) + 4)) : Int).toNat)] rfl (by (try simp only [List.map_toArray, List.map_cons, List.map_nil]); first | done | (simp only [hji80]; rfl) | rfl | (simp only [List.length_drop, List.length_take]; rfl)) ?_; (with_reducible refine (nums_Get.calls (a0.extract ((ji80) : Int).toNat ((wrap64 ((ji80) + 4)) : Int).toNat) t152 t153 _ A84.out).mono ?_); rintro e w' ⟨rfl, ⟨nd, rfl⟩⟩; refine ⟨_, rfl, ?_⟩; (try (rw [drewN_self w104]; generalize hq_ : World.drewN w104 _ = w104; have n0_ : Aside0 (Kd.R k62 62 w104 w.heap.size (fun _ => True) (.slice Ao53 x135001_3.length co53) x135001_3) := ⟨by rw [← hq_]; exact (by (with_reducible repeat (first | apply rA | apply rN | apply Kd.R_drew)); exact HO_135001.out)⟩; have n1_ : Aside0 (Kd.R Kd.string 9 w104 w.heap.size (fun _ => True) (.slice Ao103 x135002_4.length co103) x135002_4) := ⟨by rw [← hq_]; exact (by (with_reducible repeat (first | apply rA | apply rN | apply Kd.R_drew)); exact HO_135002.out)⟩; have n2_ : Aside0 (Kd.R k62 62 w104 w.heap.size (fun _ => True) (.slice Ao53 x135001_3.length co53) x135001_3) := ⟨by rw [← hq_]; exact (by (with_reducible repeat (first | apply rA | apply rN | apply Kd.R_drew)); exact HO_96.out)⟩; have n3_ : Aside0 (w104.heap[gb133]? = some (.cells #[.int .i64 0, .slice none 0 0, .slice none 0 0] 42 (0, 0))) := ⟨by rw [← hq_]; exact (by (with_reducible repeat (first | refine kN ?_ _ | refine blk_drew ?_ | refine kA ?_ _)); exact BK133.out)⟩; have n4_ : Aside0 (w104.heap[gb134]? = some (.cells #[.int .i64 t135, .slice Ao53 x135001_3.length co53, .slice Ao103 x135002_4.length co103] 42 (0, 0))) := ⟨by rw [← hq_]; exact (by (with_reducible repeat (first | refine kN ?_ _ | refine blk_drew ?_ | refine kA ?_ _)); exact BK134.out)⟩; have n5_ : Aside0 (Below w.heap.size w w104) := ⟨by rw [← hq_]; exact (by repeat (first | (with_reducible first | exact HB.out | apply bA | apply pN | apply bD | refine bS ?_ GE133.out | refine bS ?_ GE134.out) | exact HB.out))⟩; clear HO_135001 HO_135002 HO_96 BK133 BK134 HB hq_; have HO_135001 := n0_; have HO_135002 := n1_; have HO_96 := n2_; have BK133 := n3_; have BK134 := n4_; have HB := n5_; clear n0_ n1_ n2_ n3_ n4_ n5_))))
                            have n0_ := Aside0.mk (Kd.R_drew HO_96.out)
                            have n1_ := Aside0.mk (Kd.R_drew HO_135001.out)
                            have n2_ := Aside0.mk (Kd.R_drew HO_135002.out)
                            have n3_ := Aside0.mk (blk_drew BK133.out)
                            have n4_ := Aside0.mk (blk_drew BK134.out)
                            have n5_ := Aside0.mk (bD HB.out)
                            clear HO_96
                            clear HO_135001
                            clear HO_135002
                            clear BK133
                            clear BK134
                            clear HB
                            have HO_96 := n0_
                            have HO_135001 := n1_
                            have HO_135002 := n2_
                            have BK133 := n3_
                            have BK134 := n4_
                            have HB := n5_
                            clear n0_ n1_ n2_ n3_ n4_ n5_
                            refine start_ (n := 12) (S := fun w' => True) (ds := []) #[false, false, false, false, false, false, false, false, false, false, false, false] (by kernel_rfl) rfl rfl trivial (fun hHeld => ?_); refine with_tabW group_Decode.tab29 group_Decode.bits29 (fun HT_ HW_ => ?_)
                            generalize w104.drew = w105 at HO_96 HO_135001 HO_135002 BK133 BK134 HB hHeld ⊢
                            refine pure_ (i := 0) (N := some 129) (v := ?_) (a' := ?_) #[true, false, false, false, false, false, false, false, false, false, false, false] rfl rfl (any_of HT_.out (by kernel_rfl)) (fun _ _ _ h => h) (Or.inl ⟨by rfl, ?_⟩) ?_ ?_
                            rotate_left
                            ·intro w'
                             go_simp
                             with_reducible rfl
                            rotate_left
                            ·simp only [Act.put, List.setIfInBounds_toArray, List.set_cons_zero, List.set_cons_succ, i64_w, i32_w]
                             rfl
                            refine pure_ (i := 1) (N := some 130) (v := ?_) (a' := ?_) #[true, true, false, false, false, false, false, false, false, false, false, false] rfl rfl (any_of HT_.out (by kernel_rfl)) (fun _ _ _ h => h) (Or.inl ⟨by rfl, ?_⟩) ?_ ?_
                            rotate_left
                            ·intro w'
                             go_simp
                             with_reducible rfl
                            rotate_left
                            ·simp only [Act.put, List.setIfInBounds_toArray, List.set_cons_zero, List.set_cons_succ, i64_w, i32_w]
                             rfl
                            refine pure_ (i := 2) (N := some 131) (v := ?_) (a' := ?_) #[true, true, true, false, false, false, false, false, false, false, false, false] rfl rfl (any_of HT_.out (by kernel_rfl)) (fun _ _ _ h => h) (Or.inl ⟨by rfl, ?_⟩) ?_ ?_
                            rotate_left
                            ·intro w'
                             go_simp
                             with_reducible rfl
                            rotate_left
                            ·simp only [Act.put, List.setIfInBounds_toArray, List.set_cons_zero, List.set_cons_succ, i64_w, i32_w]
                             rfl
                            refine pure_ (i := 3) (N := some 132) (v := ?_) (a' := ?_) #[true, true, true, true, false, false, false, false, false, false, false, false] rfl rfl (any_of HT_.out (by kernel_rfl)) (fun _ _ _ h => h) (Or.inl ⟨by rfl, ?_⟩) ?_ ?_
                            rotate_left
                            ·intro w'
                             go_simp
                             with_reducible rfl
                            rotate_left
                            ·simp only [Act.put, List.setIfInBounds_toArray, List.set_cons_zero, List.set_cons_succ, i64_w, i32_w]
                             rfl
                            refine pure_ (i := 4) (N := some 133) (v := ?_) (a' := ?_) #[true, true, true, true, true, false, false, false, false, false, false, false] rfl rfl (any_of HT_.out (by kernel_rfl)) (fun _ _ _ h => h) (Or.inl ⟨by rfl, ?_⟩) ?_ ?_
                            rotate_left
                            ·intro w'
                             go_simp
                             with_reducible rfl
                            rotate_left
                            ·simp only [Act.put, List.setIfInBounds_toArray, List.set_cons_zero, List.set_cons_succ, i64_w, i32_w]
                             rfl
                            refine pure_ (i := 5) (N := some 134) (v := ?_) (a' := ?_) #[true, true, true, true, true, true, false, false, false, false, false, false] rfl rfl (any_of HT_.out (by kernel_rfl)) (fun _ _ _ h => h) (Or.inl ⟨by rfl, ?_⟩) ?_ ?_
                            rotate_left
                            ·intro w'
                             go_simp
                             with_reducible rfl
                            rotate_left
                            ·simp only [Act.put, List.setIfInBounds_toArray, List.set_cons_zero, List.set_cons_succ, i64_w, i32_w]
                             rfl
                            refine pure_ (i := 6) (N := some 135) (v := ?_) (a' := ?_) #[true, true, true, true, true, true, true, false, false, false, false, false] rfl rfl (any_of HT_.out (by kernel_rfl)) (fun _ _ _ h => h) (Or.inl ⟨by rfl, ?_⟩) ?_ ?_
                            rotate_left
                            ·intro w'
                             go_simp
                             with_reducible rfl
                            rotate_left
                            ·simp only [Act.put, List.setIfInBounds_toArray, List.set_cons_zero, List.set_cons_succ, i64_w, i32_w]
                             rfl
                            refine pure_ (i := 7) (N := some 136) (v := ?_) (a' := ?_) #[true, true, true, true, true, true, true, true, false, false, false, false] rfl rfl (any_of HT_.out (by kernel_rfl)) (fun _ _ _ h => h) (Or.inl ⟨by rfl, ?_⟩) ?_ ?_
                            rotate_left
                            ·intro w'
                             go_simp
                             with_reducible rfl
                            rotate_left
                            ·simp only [Act.put, List.setIfInBounds_toArray, List.set_cons_zero, List.set_cons_succ, i64_w, i32_w]
                             rfl
                            refine pure_ (i := 8) (N := some 137) (v := ?_) (a' := ?_) #[true, true, true, true, true, true, true, true, true, false, false, false] rfl rfl (any_of HT_.out (by kernel_rfl)) (fun _ _ _ h => h) (Or.inl ⟨by rfl, ?_⟩) ?_ ?_
                            rotate_left
                            ·intro w'
                             go_simp
                             with_reducible rfl
                            rotate_left
                            ·simp only [Act.put, List.setIfInBounds_toArray, List.set_cons_zero, List.set_cons_succ, i64_w, i32_w]
                             rfl
                            refine one_ (i := 9) (N := some 138) #[true, true, true, true, true, true, true, true, true, true, false, false] rfl rfl (one_of HT_.out (by kernel_rfl)) (by decide) (fun K hK => ?_)
                            refine Kd.R_lit_step Kd.string _ 9 ?hg (N := 138) ?hd (xs := ([a0.extract 0 ((ji80) : Int).toNat, a0.extract 64 ((wrap64 (t143 * 64)) : Int).toNat] : List ByteArray)) (inner := [.string (a0.extract 0 ((ji80) : Int).toNat), .string (a0.extract 64 ((wrap64 (t143 * 64)) : Int).toNat)]) (ok := fun _ => True) (okp := fun _ => True) ?hr ?hp (fun _ hk => hk) trivial (Below.refl _ _) (Nat.le_refl _) (by simp) ?_; (case hd => rfl); (case hg => rfl); (case hr => first | (go_simp; done) | (go_simp; rfl)); (case hp => exact (Reps.one (show Kd.M Kd.string _ _ _ (a0.extract 0 ((ji80) : Int).toNat) [.string (a0.extract 0 ((ji80) : Int).toNat)] from rfl) (Reps.one (show Kd.M Kd.string _ _ _ (a0.extract 64 ((wrap64 (t143 * 64)) : Int).toNat) [.string (a0.extract 64 ((wrap64 (t143 * 64)) : Int).toNat)] from rfl) (Reps.none _ _))))
                            intro v155 w106 ho107 hb hg_ hnew_
                            clear hg_ hnew_
                            (first | rw [← Ny154.out] at ho107 | (simp only [Int.reduceToNat] at ho107; rw [← Ny154.out] at ho107))
                            have n0_ := Aside0.mk (Kd.R_below (by (with_reducible repeat (first | apply rA | apply rN | apply Kd.R_drew)); exact HO_96.out) hb)
                            have n1_ := Aside0.mk (Kd.R_below (by (with_reducible repeat (first | apply rA | apply rN | apply Kd.R_drew)); exact HO_135001.out) hb)
                            have n2_ := Aside0.mk (Kd.R_elder' (by (with_reducible repeat (first | apply rA | apply rN | apply Kd.R_drew)); exact HO_135002.out) (Kd.R_base ho107) hb)
                            have n3_ := Aside0.mk (Kd.R_lower (Kd.R_new' ho107 (Kd.R_lt (by (with_reducible repeat (first | apply rA | apply rN | apply Kd.R_drew)); exact HO_135002.out))) (bZ (by repeat (first | (with_reducible first | exact HB.out | apply bA | apply pN | apply bD | refine bS ?_ GE133.out | refine bS ?_ GE134.out) | exact HB.out))))
                            have n4_ := Aside0.mk (kB (g := gb133) (o := .cells #[.int .i64 0, .slice none 0 0, .slice none 0 0] 42 (0, 0)) (by (with_reducible repeat (first | refine kN ?_ _ | refine blk_drew ?_ | refine kA ?_ _)); exact BK133.out) hb)
                            have n5_ := Aside0.mk (kB (g := gb134) (o := .cells #[.int .i64 t135, .slice Ao53 x135001_3.length co53, .slice Ao103 x135002_4.length co103] 42 (0, 0)) (by (with_reducible repeat (first | refine kN ?_ _ | refine blk_drew ?_ | refine kA ?_ _)); exact BK134.out) hb)
                            have n6_ := Aside0.mk (below_step (by repeat (first | (with_reducible first | exact HB.out | apply bA | apply pN | apply bD | refine bS ?_ GE133.out | refine bS ?_ GE134.out) | exact HB.out)) hb)
                            clear HO_96
                            clear HO_135001
                            clear HO_135002
                            clear BK133
                            clear BK134
                            clear HB
                            have HO_96 := n0_
                            have HO_135001 := n1_
                            have HO_135002 := n2_
                            have HO156 := n3_
                            have BK133 := n4_
                            have BK134 := n5_
                            have HB := n6_
                            clear n0_ n1_ n2_ n3_ n4_ n5_ n6_
                            clear hb ho107
                            obtain ⟨Ao108, co108, eo108⟩ := Kd.R_slice HO156.out
                            (first | subst eo108 | (injection eo108 with f1_ f2_ f3_; have f4_ := f1_.symm; have f5_ := f3_.symm; clear f1_ f2_ f3_; subst f4_; subst f5_))
                            refine hK.out _ _ trivial (fun hHeld => ?_)
                            clear hK K
                            refine norm_ (a' := ?_) ?_ ?_
                            rotate_left
                            ·show Act.put _ (some 138) _ = _
                             simp only [Act.put, List.setIfInBounds_toArray, List.set_cons_zero, List.set_cons_succ, i64_w, i32_w]
                             rfl
                            refine one_ (i := 10) (N := some 139) #[true, true, true, true, true, true, true, true, true, true, true, false] rfl rfl (one_of HT_.out (by kernel_rfl)) (by decide) (fun K hK => ?_)
                            refine goes_ Tryd.func36 (by kernel_rfl) rfl #[.slice Ao108 y154.length co108] (by rfl) rfl rfl (by (try simp only [List.map_toArray, List.map_cons, List.map_nil]); first | done | rfl | (simp only [List.length_drop, List.length_take]; rfl)) ?_
                            with_reducible refine (crc_Sum.calls _ _ y154 t157 _ ?side1 ?side2 A89.out (HN.out.below (by repeat (first | (with_reducible first | exact HB.out | apply bA | apply pN | apply bD | refine bS ?_ GE133.out | refine bS ?_ GE134.out | refine bS ?_ GE145.out) | exact HB.out)) (Nat.lt_of_lt_of_le HN.out.lt (Nat.le_refl _)))).mono ?_
                            (case side1 => repeat (first | exact (Kd.R_reads' HO156.out).2.2 | (with_reducible refine Kd.C_alloc ?_ _) | (with_reducible refine Kd.C_drewN ?_ _) | (with_reducible refine Kd.C_drew ?_)))
                            (case side2 => exact (Kd.R_reads' HO156.out).2.1)
                            rintro e w' ⟨rfl, ⟨nd, rfl⟩⟩
                            refine ⟨_, rfl, ?_⟩
                            refine hK.out _ _ trivial (fun hHeld => ?_)
                            clear hK K
                            refine norm_ (a' := ?_) ?_ ?_
                            rotate_left
                            ·show Act.put _ (some 139) _ = _
                             simp only [Act.put, List.setIfInBounds_toArray, List.set_cons_zero, List.set_cons_succ, i64_w, i32_w]
                             rfl
                            refine pure_ (i := 11) (N := some 140) (v := ?_) (a' := ?_) #[true, true, true, true, true, true, true, true, true, true, true, true] rfl rfl (any_of HT_.out (by kernel_rfl)) (fun _ _ _ h => h) (Or.inl ⟨by rfl, ?_⟩) ?_ ?_
                            rotate_left
                            ·intro w'
                             go_simp
                             with_reducible rfl
                            rotate_left
                            ·simp only [Act.put, List.setIfInBounds_toArray, List.set_cons_zero, List.set_cons_succ, i64_w, i32_w]
                             rfl
                            refine done_ (done_of HT_.out (by kernel_rfl)) ?_
                            have hcz109_0 : w106.cell? ⟨gb133, 0, none⟩ = some (.int .i64 0) := (blk_cell BK133.out 0).trans rfl
                            have hcz109_1 : w106.cell? ⟨gb133, 1, none⟩ = some (.slice none 0 0) := (blk_cell BK133.out 1).trans rfl
                            have hcz109_2 : w106.cell? ⟨gb133, 2, none⟩ = some (.slice none 0 0) := (blk_cell BK133.out 2).trans rfl
                            have hfz109_0 := blk_frozen BK133.out 0
                            have hfz109_1 := blk_frozen BK133.out 1
                            have hfz109_2 := blk_frozen BK133.out 2
                            try go_wp2
                            refine bodyPost_ret (results_ctt rfl _ _ gb133 42 #[.int .i64 0, .slice none 0 0, .slice none 0 0] (0, 0) _ rfl (by (with_reducible repeat (first | refine kN ?_ _ | refine blk_drew ?_ | refine kA ?_ _)); refine blk_put (cs := #[.int .i64 0, .slice none 0 0, .slice none 0 0]) ?_ 2 _ rfl; (with_reducible repeat (first | refine kN ?_ _ | refine blk_drew ?_ | refine kA ?_ _)); refine blk_put (cs := #[.int .i64 0, .slice none 0 0, .slice none 0 0]) ?_ 1 _ rfl; (with_reducible repeat (first | refine kN ?_ _ | refine blk_drew ?_ | refine kA ?_ _)); refine blk_put (cs := #[.int .i64 0, .slice none 0 0, .slice none 0 0]) ?_ 0 _ rfl; (with_reducible repeat (first | refine kN ?_ _ | refine blk_drew ?_ | refine kA ?_ _)); exact BK133.out) Tryd.underlying42 rfl (by kernel_rfl)) rfl ?_
                            exact ⟨_, _, by first | rfl | (simp [errW_none, errW_some] <;> rfl) | (simp only [← hji80]; first | rfl | (simp [errW_none, errW_some] <;> rfl)) | (simp [*, errW_none, errW_some] <;> rfl), by first | exact Kd.R_nil _ _ _ _ _ | exact Kd.N_nil _ _ _ _ _ | exact Kd.V_nil _ _ _ _ _ | exact Kd.Q_nil _ _ _ _ _ | exact Kd.S_nil _ _ _ _ _, by first | exact Kd.R_nil _ _ _ _ _ | exact Kd.N_nil _ _ _ _ _ | exact Kd.V_nil _ _ _ _ _ | exact Kd.Q_nil _ _ _ _ _ | exact Kd.S_nil _ _ _ _ _, by repeat (first | (with_reducible first | exact HB.out | apply bA | apply pN | apply bD | refine bS ?_ GE133.out | refine bS ?_ GE134.out) | exact HB.out)⟩
                          ·rw [if_neg c88] at H
                           exact absurd H (by simp)
                         ·rw [if_neg c87] at H
                          exact absurd H (by simp)
                        ·rw [if_neg c86] at H
                         exact absurd H (by simp)
                       ·rw [if_neg c83] at H
                        exact absurd H (by simp)
                      ·rw [if_neg c82] at H
                       exact absurd H (by simp)
                     ·rw [if_neg c81] at H
                      exact absurd H (by simp)
                    ·replace c79 := Bool.eq_false_iff.mpr c79
                     subst c79
                     have H1 : (some (0, ([] : List (S62)), ([] : List ByteArray), 0, 10)) = some (r1, r2, r3, r4, r5) := by rw [if_neg (show ¬ (false = true) by decide)] at H; exact H
                     clear H
                     have H := H1
                     clear H1
                     simp only [Option.some.injEq, Prod.mk.injEq] at H
                     obtain ⟨rfl, rfl, rfl, rfl, rfl⟩ := H
                     have hnb110 := NB134_133.out
                     have hnc110 := NB133_134.out
                     have hcz111_0 : wr.cell? ⟨gb134, 0, none⟩ = some (.int .i64 t135) := (blk_cell BK134.out 0).trans rfl
                     have hcz111_1 : wr.cell? ⟨gb134, 1, none⟩ = some (.slice Ao53 x135001_3.length co53) := (blk_cell BK134.out 1).trans rfl
                     have hcz111_2 : wr.cell? ⟨gb134, 2, none⟩ = some (u135002) := (blk_cell BK134.out 2).trans rfl
                     have hfz111_0 := blk_frozen BK134.out 0
                     have hfz111_1 := blk_frozen BK134.out 1
                     have hfz111_2 := blk_frozen BK134.out 2
                     obtain ⟨Ao112, co112, eo112⟩ := Kd.R_slice HO_135002.out
                     subst eo112
                     go_wp2_with (first | ((with_reducible refine gate_callee (f := 32) rfl ?_); refine goesL_ (some 117) rfl rfl Tryd.func32 (by kernel_rfl) rfl #[.agg #[.int .i64 t135, .slice Ao53 x135001_3.length co53, .slice Ao112 x135002_4.length co112]] rfl (by (try simp only [List.map_toArray, List.map_cons, List.map_nil]); first | done | rfl | (simp only [List.length_drop, List.length_take]; rfl)) ?_; (with_reducible refine (group_Group_right.calls k4 t135 _ _ x135001_3 _ _ x135002_4 false _ ?side1 ?side2 ?side3 ?side4 A78.out).mono ?_); (case side1 => repeat (first | exact (Kd.R_reads' HO_135001.out).2.2 | (with_reducible refine Kd.C_alloc ?_ _) | (with_reducible refine Kd.C_drewN ?_ _) | (with_reducible refine Kd.C_drew ?_))); (case side2 => exact (Kd.R_reads' HO_135001.out).2.1); (case side3 => repeat (first | exact (Kd.R_reads' HO_135002.out).2.2 | (with_reducible refine Kd.C_alloc ?_ _) | (with_reducible refine Kd.C_drewN ?_ _) | (with_reducible refine Kd.C_drew ?_))); (case side4 => exact (Kd.R_reads' HO_135002.out).2.1); rintro e w113 ⟨rfl, hb⟩; refine ⟨_, rfl, ?_⟩; have n0_ := Aside0.mk (Kd.R_below (by (with_reducible repeat (first | apply rA | apply rN | apply Kd.R_drew)); exact HO_96.out) hb); have n1_ := Aside0.mk (Kd.R_below (by (with_reducible repeat (first | apply rA | apply rN | apply Kd.R_drew)); exact HO_135001.out) hb); have n2_ := Aside0.mk (Kd.R_below (by (with_reducible repeat (first | apply rA | apply rN | apply Kd.R_drew)); exact HO_135002.out) hb); have n3_ := Aside0.mk (kB (g := gb133) (o := .cells #[.int .i64 0, .slice none 0 0, .slice none 0 0] 42 (0, 0)) (by (with_reducible repeat (first | refine kN ?_ _ | refine blk_drew ?_ | refine kA ?_ _)); exact BK133.out) hb); have n4_ := Aside0.mk (kB (g := gb134) (o := .cells #[.int .i64 t135, .slice Ao53 x135001_3.length co53, .slice Ao112 x135002_4.length co112] 42 (0, 0)) (by (with_reducible repeat (first | refine kN ?_ _ | refine blk_drew ?_ | refine kA ?_ _)); exact BK134.out) hb); have n5_ := Aside0.mk (below_step (by repeat (first | (with_reducible first | exact HB.out | apply bA | apply pN | apply bD | refine bS ?_ GE133.out | refine bS ?_ GE134.out) | exact HB.out)) hb); clear HO_96; clear HO_135001; clear HO_135002; clear BK133; clear BK134; clear HB; have HO_96 := n0_; have HO_135001 := n1_; have HO_135002 := n2_; have BK133 := n3_; have BK134 := n4_; have HB := n5_; clear n0_ n1_ n2_ n3_ n4_ n5_; (try clear hb); (try clear hb2); (try clear hk); (try clear hi); have hcz114_0 : w113.cell? ⟨gb133, 0, none⟩ = some (.int .i64 0) := (blk_cell BK133.out 0).trans rfl; have hcz114_1 : w113.cell? ⟨gb133, 1, none⟩ = some (.slice none 0 0) := (blk_cell BK133.out 1).trans rfl; have hcz114_2 : w113.cell? ⟨gb133, 2, none⟩ = some (.slice none 0 0) := (blk_cell BK133.out 2).trans rfl; have hfz114_0 := blk_frozen BK133.out 0; have hfz114_1 := blk_frozen BK133.out 1; have hfz114_2 := blk_frozen BK133.out 2))
                     refine bodyPost_ret (results_ctt rfl _ _ gb133 42 #[.int .i64 0, .slice none 0 0, .slice none 0 0] (0, 0) _ rfl (by (with_reducible repeat (first | refine kN ?_ _ | refine blk_drew ?_ | refine kA ?_ _)); refine blk_put (cs := #[.int .i64 0, .slice none 0 0, .slice none 0 0]) ?_ 2 _ rfl; (with_reducible repeat (first | refine kN ?_ _ | refine blk_drew ?_ | refine kA ?_ _)); refine blk_put (cs := #[.int .i64 0, .slice none 0 0, .slice none 0 0]) ?_ 1 _ rfl; (with_reducible repeat (first | refine kN ?_ _ | refine blk_drew ?_ | refine kA ?_ _)); refine blk_put (cs := #[.int .i64 0, .slice none 0 0, .slice none 0 0]) ?_ 0 _ rfl; (with_reducible repeat (first | refine kN ?_ _ | refine blk_drew ?_ | refine kA ?_ _)); exact BK133.out) Tryd.underlying42 rfl (by kernel_rfl)) rfl ?_
                     exact ⟨_, _, by first | rfl | (simp [errW_none, errW_some] <;> rfl) | (simp [*, errW_none, errW_some] <;> rfl), by first | exact Kd.R_nil _ _ _ _ _ | exact Kd.N_nil _ _ _ _ _ | exact Kd.V_nil _ _ _ _ _ | exact Kd.Q_nil _ _ _ _ _ | exact Kd.S_nil _ _ _ _ _, by first | exact Kd.R_nil _ _ _ _ _ | exact Kd.N_nil _ _ _ _ _ | exact Kd.V_nil _ _ _ _ _ | exact Kd.Q_nil _ _ _ _ _ | exact Kd.S_nil _ _ _ _ _, by repeat (first | (with_reducible first | exact HB.out | apply bA | apply pN | apply bD | refine bS ?_ GE133.out | refine bS ?_ GE134.out) | exact HB.out)⟩
                ·rw [if_neg c50] at H
                 exact absurd H (by simp)
               ·rw [if_neg c49] at H
                exact absurd H (by simp)
       ·rw [if_neg c15] at H
        exact absurd H (by simp)
      ·rw [if_neg c13] at H
       exact absurd H (by simp)
     ·rw [if_neg c12] at H
      exact absurd H (by simp)

end Go.Proofs.YticpjnpafmehaaaDoor.U
