-- printed by a program of a session (wip/tools/printx.py) over the kit's print; not typed by hand
import Derived.Test.YticpjnpafmehaaaDoorUx0
import Derived.Test.YticpjnpafmehaaaDoorUx4
import Derived.Test.YticpjnpafmehaaaDoorUx5
import Derived.Test.YticpjnpafmehaaaDoorUx6
import Derived.Test.YticpjnpafmehaaaDoorUM
namespace Go.Proofs.YticpjnpafmehaaaDoor.U
open Go.RowKit Go.Proofs.YticpjnpafmehaaaDoorW.PrintWords Go.Proofs.YticpjnpafmehaaaDoorW.PrintLast Go.Proofs.YticpjnpafmehaaaDoorW.PrintMore
open Go.Proofs.YticpjnpafmehaaaDoorW.PrintWords.Kd renaming R_alloc → rA, R_drewN → rN
open Go.Proofs.YticpjnpafmehaaaDoorW.PrintWords renaming pw_below_drewN → pN, below_alloc → bA, below_drew1 → bD, below_set → bS, blk_drewN → kN, blk_alloc → kA, below_size → bZ, blk_below → kB
attribute [local go_sem] max2_int min2_int max_two min_two max_three min_three max_four min_four   -- for this text's walks alone
set_option linter.unusedVariables false
set_option linter.unusedSimpArgs false

/-! ### group_Scan: function 28 -/
def group_Scan.l0 : Nat → ByteArray → List (S42) → List Int → Int → Option ((List (S42)) × List Int)
 | 0, _, _, _, _ => none
 | k + 1, x0, x4, x5, x6 => if 0 ≤ (wrap64 (x6 * 64)) then (if (wrap64 (x6 * 64)) ≤ (x0.size : Int) then ((group_Decode.f k (x0.extract ((wrap64 (x6 * 64)) : Int).toNat x0.size)).bind fun bt226 => (if bt226.2.2.2.2 = 0 then (if x4.length < 2513169434916 then (if x5.length < 17592186044416 then (group_Scan.l0 k x0 (x4 ++ [(⟨bt226.1, bt226.2.1, bt226.2.2.1⟩ : S42)]) (x5 ++ [x6]) (wrap64 (x6 + bt226.2.2.2.1))) else (none)) else (none)) else (some (x4, x5)))) else (none)) else (none)
def group_Scan.f (k : Nat) (a0 : ByteArray) : Option ((List (S42)) × List Int) := group_Scan.l0 k a0 ([] : List (S42)) ([] : List Int) 0
theorem group_Scan.mono_l : ∀ k, (∀ y0 y1 y2 y3, LeO (group_Scan.l0 k y0 y1 y2 y3) (group_Scan.l0 (k + 1) y0 y1 y2 y3))
 | 0 => fun _ _ _ _ r h => by simp [group_Scan.l0] at h
 | k + 1 => by
  have ih0 := group_Scan.mono_l k
  ·intro y0 y1 y2 y3
   unfold group_Scan.l0
   repeat' first
   | (with_reducible exact ih0 _ _ _ _)
   | (with_reducible exact group_Decode.mono _ _)
   | (with_reducible exact LeO.refl _)
   | (with_reducible exact LeO.none _)
   | (with_reducible refine LeO.ite ?_ ?_)
   | (with_reducible refine LeO.bind ?_ (fun _ => ?_))
   | exact ih0 _ _ _ _
   | exact group_Decode.mono _ _
   | exact LeO.none _
   | refine LeO.ite ?_ ?_
   | refine LeO.bind ?_ (fun _ => ?_)
theorem group_Scan.mono : ∀ a0 k, LeO (group_Scan.f k a0) (group_Scan.f (k + 1) a0) := by
 intro a0 k
 have ih0 := group_Scan.mono_l k
 unfold group_Scan.f
 repeat' first
   | (with_reducible exact ih0 _ _ _ _)
   | (with_reducible exact group_Decode.mono _ _)
   | (with_reducible exact LeO.refl _)
   | (with_reducible exact LeO.none _)
   | (with_reducible refine LeO.ite ?_ ?_)
   | (with_reducible refine LeO.bind ?_ (fun _ => ?_))
   | exact ih0 _ _ _ _
   | exact group_Decode.mono _ _
   | exact LeO.none _
   | refine LeO.ite ?_ ?_
   | refine LeO.bind ?_ (fun _ => ?_)
set_option maxHeartbeats 8000000 in
set_option maxRecDepth 100000 in
theorem group_Scan.calls (k : Nat) (a0 : ByteArray) (r1 : List (S42)) (r2 : List Int) (w : World) (h : group_Scan.f k a0 = some (r1, r2)) (hN : TabIn w) :
  Calls Tryd.prog 28 #[.string a0] w fun e w' => ∃ v0_ v1_ : Value, e = .returned (.tuple #[v0_, v1_]) ∧ Kd.S k42 42 w' w.heap.size (fun _ => True) v0_ r1 ∧ Kd.R (Kd.int .i64) 3 w' w.heap.size (fun _ => True) v1_ r2 ∧ Below w.heap.size w w' := by
 have hu42 := Tryd.underlying42
 have HB := Aside0.mk (Below.refl w.heap.size w)
 have HN := Aside0.mk hN
 clear hN
 have H : (group_Scan.l0 k a0 ([] : List (S42)) ([] : List Int) 0) = some (r1, r2) := h
 clear h
 have H' := Aside0.mk H
 clear H
 go_enter Tryd.func28, Tryd.ntmps28
 go_wp2
 go_loopg [4, 5, 6] k (fun kq v4 v5 v6 w' => ∃ (x4_1 : List (S42)) (x5_1 : List Int) (x6_1 : Int), v6 = .int .i64 x6_1 ∧ Aside0 (group_Scan.l0 kq a0 x4_1 x5_1 x6_1 = some (r1, r2)) ∧ Aside0 (kq ≤ k) ∧ Aside0 (Kd.S k42 42 w' w.heap.size (fun _ => True) v4 x4_1) ∧ Aside0 (Kd.R (Kd.int .i64) 3 w' w.heap.size (fun _ => True) v5 x5_1) ∧ Aside0 (Below w.heap.size w w'))
 case atStart => exact ⟨(([] : List (S42))), (([] : List Int)), (0), (by first | rfl | (simp; done) | (simp [*]; done)), H', ⟨Nat.le_refl _⟩, ⟨by first | exact Kd.S_nil _ _ _ _ _ | exact Kd.N_nil _ _ _ _ _ | exact Kd.V_nil _ _ _ _ _ | exact Kd.Q_nil _ _ _ _ _ | exact Kd.R_nil _ _ _ _ _⟩, ⟨by first | exact Kd.R_nil _ _ _ _ _ | exact Kd.N_nil _ _ _ _ _ | exact Kd.V_nil _ _ _ _ _ | exact Kd.Q_nil _ _ _ _ _ | exact Kd.S_nil _ _ _ _ _⟩, ⟨by repeat (first | (with_reducible first | exact HB.out | apply bA | apply pN | apply bD) | exact HB.out)⟩⟩
 case round =>
  clear H'
  obtain ⟨x4_1, x5_1, x6_1, rfl, HA, HK1, HO_4, HO_5, HB⟩ := hrel
  cases gk with
  | zero => exact absurd HA.out (by simp [group_Scan.l0])
  | succ k1 =>
   have H := HA.out
   clear HA
   simp only [group_Scan.l0] at H
   obtain ⟨ji2, hji2⟩ : ∃ j_ : Int, (wrap64 (x6_1 * 64)) = j_ := ⟨_, rfl⟩
   replace H : (if 0 ≤ (ji2) then (if (ji2) ≤ (a0.size : Int) then ((group_Decode.f k1 (a0.extract ((ji2) : Int).toNat a0.size)).bind fun bt226 => (if bt226.2.2.2.2 = 0 then (if x4_1.length < 2513169434916 then (if x5_1.length < 17592186044416 then (group_Scan.l0 k1 a0 (x4_1 ++ [(⟨bt226.1, bt226.2.1, bt226.2.2.1⟩ : S42)]) (x5_1 ++ [x6_1]) (wrap64 (x6_1 + bt226.2.2.2.1))) else (none)) else (none)) else (some (x4_1, x5_1)))) else (none)) else (none)) = some (r1, r2) := by first | (rw [hji2] at H; exact H) | (simp only [hji2] at H ⊢; exact H)
   have hji2w : (IntKind.i64.wrap (x6_1 * 64)) = ji2 := (i64_w _).trans hji2
   by_cases c3 : 0 ≤ (ji2)
   ·rw [if_pos c3] at H
    have c3b0 := eq_true c3
    have c3b1 : decide (0 ≤ (ji2)) = true := decide_eq_true c3
    clear c3
    by_cases c4 : (ji2) ≤ (a0.size : Int)
    ·rw [if_pos c4] at H
     have c4b0 := eq_true c4
     have c4b1 : decide ((ji2) ≤ (a0.size : Int)) = true := decide_eq_true c4
     clear c4
     replace H := Option.bind_eq_some_iff.mp H
     obtain ⟨⟨t226, t227, t230, t233, t234⟩, A50, H⟩ := H
     replace H : (if t234 = 0 then (if x4_1.length < 2513169434916 then (if x5_1.length < 17592186044416 then (group_Scan.l0 k1 a0 (x4_1 ++ [(⟨t226, t227, t230⟩ : S42)]) (x5_1 ++ [x6_1]) (wrap64 (x6_1 + t233))) else (none)) else (none)) else (some (x4_1, x5_1))) = some (r1, r2) := H
     have A5 := Aside0.mk A50
     clear A50
     by_cases c6 : t234 = 0
     ·rw [if_pos c6] at H
      have c6b0 : (t234 == 0) = true := beq_iff_eq.mpr c6
      have c6b1 : (t234 != 0) = false := bne_eq_false_iff_eq.mpr c6
      clear c6
      by_cases c7 : x4_1.length < 2513169434916
      ·rw [if_pos c7] at H
       have LMc7 := Aside0.mk c7
       clear c7
       obtain ⟨y236, hy236⟩ : ∃ y_ : List (S42), y_ = (x4_1 ++ [(⟨t226, t227, t230⟩ : S42)]) := ⟨_, rfl⟩
       replace H : (if x5_1.length < 17592186044416 then (group_Scan.l0 k1 a0 y236 (x5_1 ++ [x6_1]) (wrap64 (x6_1 + t233))) else (none)) = some (r1, r2) := by first | (rw [hy236]; with_reducible exact H) | (have H2_ := (Option.bind_some _ _).symm.trans H; rw [hy236]; with_reducible exact H2_) | (have H2_ := (Option.bind_some _ _).symm.trans H; with_reducible exact H2_) | with_reducible exact H | (rw [hy236]; exact H) | exact H
       have Ny236 := Aside0.mk hy236
       clear hy236
       by_cases c8 : x5_1.length < 17592186044416
       ·rw [if_pos c8] at H
        have LMc8 := Aside0.mk c8
        clear c8
        obtain ⟨y239, hy239⟩ : ∃ y_ : List Int, y_ = (x5_1 ++ [x6_1]) := ⟨_, rfl⟩
        replace H : (group_Scan.l0 k1 a0 y236 y239 (wrap64 (x6_1 + t233))) = some (r1, r2) := by first | (rw [hy239]; with_reducible exact H) | (have H2_ := (Option.bind_some _ _).symm.trans H; rw [hy239]; with_reducible exact H2_) | (have H2_ := (Option.bind_some _ _).symm.trans H; with_reducible exact H2_) | with_reducible exact H | (rw [hy239]; exact H) | exact H
        have Ny239 := Aside0.mk hy239
        clear hy239
        have H' := Aside0.mk H
        clear H
        go_wp2_with (first | ((with_reducible refine gate_callee (f := 27) rfl ?_); refine goesL_ (some 15) rfl rfl Tryd.func27 (by kernel_rfl) rfl #[.string (a0.extract ((ji2) : Int).toNat a0.size)] rfl (by (try simp only [List.map_toArray, List.map_cons, List.map_nil]); first | done | (simp only [hji2]; rfl) | rfl | (simp only [List.length_drop, List.length_take]; rfl)) ?_; (with_reducible refine (group_Decode.calls k1 (a0.extract ((ji2) : Int).toNat a0.size) t226 t227 t230 t233 t234 _ A5.out (HN.out.below (by repeat (first | (with_reducible first | exact HB.out | apply bA | apply pN | apply bD | refine bS ?_ GE235.out) | exact HB.out)) (Nat.lt_of_lt_of_le HN.out.lt (Nat.le_refl _)))).mono ?_); rintro e w9 ⟨v228, v231, rfl, ho0, ho1, hb⟩; refine ⟨_, rfl, ?_⟩; have n0_ := Aside0.mk (Kd.S_mono (Kd.S_told (Kd.S_told (Kd.S_old (by (with_reducible repeat (first | apply Kd.S_alloc | apply Kd.S_drewN | apply Kd.S_drew)); exact HO_4.out) hb) (Kd.R_base ho0)) (Kd.R_base ho1)) (fun _ h_ => h_.1)); have n1_ := Aside0.mk (Kd.R_below (by (with_reducible repeat (first | apply rA | apply rN | apply Kd.R_drew)); exact HO_5.out) hb); have n2_ := Aside0.mk (Kd.R_lower ho0 (bZ (by repeat (first | (with_reducible first | exact HB.out | apply bA | apply pN | apply bD) | exact HB.out)))); have n3_ := Aside0.mk (Kd.R_lower ho1 (bZ (by repeat (first | (with_reducible first | exact HB.out | apply bA | apply pN | apply bD) | exact HB.out)))); have n4_ := Aside0.mk (below_step (by repeat (first | (with_reducible first | exact HB.out | apply bA | apply pN | apply bD) | exact HB.out)) hb); clear HO_4; clear HO_5; clear HB; have HO_4 := n0_; have HO_5 := n1_; have HO229 := n2_; have HO232 := n3_; have HB := n4_; clear n0_ n1_ n2_ n3_ n4_; (try clear hb); (try clear hb2); (try clear hk); (try clear hi); (try clear ho0); (try clear ho1)) | ((with_reducible refine gate_dst (N := 7) rfl ?_); refine box_event ?hg (N := 7) ?hd (cs := #[.int .i64 0, .slice none 0 0, .slice none 0 0]) (t := 42) ?hr ?_; (case hd => rfl); (case hg => rfl); (case hr => first | (go_simp; done) | (go_simp; rfl)); intro gb235 hg w10 hbox hb; have n0_ := Aside0.mk (Kd.S_below (Kd.S_elderB (by (with_reducible repeat (first | apply Kd.S_alloc | apply Kd.S_drewN | apply Kd.S_drew)); exact HO_4.out) gb235 (Nat.le_of_eq hg.symm)) hb); have n1_ := Aside0.mk (Kd.R_below (by (with_reducible repeat (first | apply rA | apply rN | apply Kd.R_drew)); exact HO_5.out) hb); have n2_ := Aside0.mk (Kd.R_below (by (with_reducible repeat (first | apply rA | apply rN | apply Kd.R_drew)); exact HO229.out) hb); have n3_ := Aside0.mk (Kd.R_below (by (with_reducible repeat (first | apply rA | apply rN | apply Kd.R_drew)); exact HO232.out) hb); have n4_ := Aside0.mk (below_step (by repeat (first | (with_reducible first | exact HB.out | apply bA | apply pN | apply bD) | exact HB.out)) hb); have n5_ := Aside0.mk (hbox); have n6_ := Aside0.mk ((by rw [hg]; exact (bZ (by repeat (first | (with_reducible first | exact HB.out | apply bA | apply pN | apply bD) | exact HB.out))) : w.heap.size ≤ gb235)); have n7_ := Aside0.mk ((by rw [hg]; exact (bZ (by repeat (first | (with_reducible first | exact HB.out | apply bA | apply pN | apply bD) | exact HB.out))) : w.heap.size ≤ gb235)); clear HO_4; clear HO_5; clear HO229; clear HO232; clear HB; have HO_4 := n0_; have HO_5 := n1_; have HO229 := n2_; have HO232 := n3_; have HB := n4_; have BK235 := n5_; have GW235 := n6_; have GE235 := n7_; clear n0_ n1_ n2_ n3_ n4_ n5_ n6_ n7_; clear hb hbox hg; have hcz11_0 : w10.cell? ⟨gb235, 0, none⟩ = some (.int .i64 0) := (blk_cell BK235.out 0).trans rfl; have hcz11_1 : w10.cell? ⟨gb235, 1, none⟩ = some (.slice none 0 0) := (blk_cell BK235.out 1).trans rfl; have hcz11_2 : w10.cell? ⟨gb235, 2, none⟩ = some (.slice none 0 0) := (blk_cell BK235.out 2).trans rfl; have hfz11_0 := blk_frozen BK235.out 0; have hfz11_1 := blk_frozen BK235.out 1; have hfz11_2 := blk_frozen BK235.out 2; obtain ⟨Ao12, co12, eo12⟩ := Kd.R_slice HO229.out; subst eo12; obtain ⟨Ao13, co13, eo13⟩ := Kd.R_slice HO232.out; subst eo13) | ((with_reducible refine gate_store (t := 42) (p := 7) rfl ?_); refine store_event (t := 42) (p := 7) (v := ?vo_w14) (w1 := (((w10.setCell ⟨gb235, 0, none⟩ (.int .i64 t226)).setCell ⟨gb235, 1, none⟩ (.slice Ao12 t227.length co12)).setCell ⟨gb235, 2, none⟩ (.slice Ao13 t230.length co13))) ?hg ?ho ?hn ?hr ?_; (case ho => rfl); (case hg => rfl); (case hn => rfl); (case hr => first | (go_simp; done) | (go_simp; rfl)); intro w14 hw; have n0_ : Aside0 (Kd.S k42 42 w14 w.heap.size (fun k_ => some k_ ≠ (.slice Ao12 t227.length co12 : Value).ownBlock ∧ some k_ ≠ (.slice Ao13 t230.length co13 : Value).ownBlock ∧ k_ ≠ gb235) u4 x4_1) := ⟨(by rw [hw]; exact (by (with_reducible repeat (first | apply Kd.S_alloc | apply Kd.S_drewN | apply Kd.S_drew)); exact Kd.S_mono (Kd.S_far (p := ⟨gb235, 2, none⟩) (Kd.S_far (p := ⟨gb235, 1, none⟩) (Kd.S_far (p := ⟨gb235, 0, none⟩) (Kd.S_mono HO_4.out (fun k_ hk => (⟨hk, hk.2⟩ : _ ∧ k_ ≠ gb235))) (fun _ hk => hk.2) (.int .i64 t226)) (fun _ hk => hk.2) (.slice Ao12 t227.length co12)) (fun _ hk => hk.2) (.slice Ao13 t230.length co13)) (fun _ hk => ⟨hk.1.1.1.2, ⟨hk.1.1.2, hk.1.2⟩⟩)))⟩; have n1_ : Aside0 (Kd.R (Kd.int .i64) 3 w14 w.heap.size (fun _ => True) u5 x5_1) := ⟨(by rw [hw]; exact (by (with_reducible repeat (first | apply rA | apply rN | apply Kd.R_drew)); exact Kd.R_mono (Kd.R_far (p := ⟨gb235, 2, none⟩) (Kd.R_far (p := ⟨gb235, 1, none⟩) (Kd.R_far (p := ⟨gb235, 0, none⟩) (Kd.R_types HO_5.out BK235.out (by decide)) (fun _ hk => hk.2) (.int .i64 t226)) (fun _ hk => hk.2) (.slice Ao12 t227.length co12)) (fun _ hk => hk.2) (.slice Ao13 t230.length co13)) (fun _ hk => trivial)))⟩; have n2_ : Aside0 (Kd.R k62 62 w14 w.heap.size (fun _ => True) (.slice Ao12 t227.length co12) t227) := ⟨(by rw [hw]; exact (by (with_reducible repeat (first | apply rA | apply rN | apply Kd.R_drew)); exact Kd.R_mono (Kd.R_far (p := ⟨gb235, 2, none⟩) (Kd.R_far (p := ⟨gb235, 1, none⟩) (Kd.R_far (p := ⟨gb235, 0, none⟩) (Kd.R_types HO229.out BK235.out (by decide)) (fun _ hk => hk.2) (.int .i64 t226)) (fun _ hk => hk.2) (.slice Ao12 t227.length co12)) (fun _ hk => hk.2) (.slice Ao13 t230.length co13)) (fun _ hk => trivial)))⟩; have n3_ : Aside0 (Kd.R Kd.string 9 w14 w.heap.size (fun _ => True) (.slice Ao13 t230.length co13) t230) := ⟨(by rw [hw]; exact (by (with_reducible repeat (first | apply rA | apply rN | apply Kd.R_drew)); exact Kd.R_mono (Kd.R_far (p := ⟨gb235, 2, none⟩) (Kd.R_far (p := ⟨gb235, 1, none⟩) (Kd.R_far (p := ⟨gb235, 0, none⟩) (Kd.R_types HO232.out BK235.out (by decide)) (fun _ hk => hk.2) (.int .i64 t226)) (fun _ hk => hk.2) (.slice Ao12 t227.length co12)) (fun _ hk => hk.2) (.slice Ao13 t230.length co13)) (fun _ hk => trivial)))⟩; have n4_ : Aside0 (w14.heap[gb235]? = some (.cells #[.int .i64 t226, .slice Ao12 t227.length co12, .slice Ao13 t230.length co13] 42 (0, 0))) := ⟨(by rw [hw]; exact (by (with_reducible repeat (first | refine kN ?_ _ | refine blk_drew ?_ | refine kA ?_ _)); refine blk_put (cs := #[.int .i64 t226, .slice Ao12 t227.length co12, .slice none 0 0]) ?_ 2 _ rfl; (with_reducible repeat (first | refine kN ?_ _ | refine blk_drew ?_ | refine kA ?_ _)); refine blk_put (cs := #[.int .i64 t226, .slice none 0 0, .slice none 0 0]) ?_ 1 _ rfl; (with_reducible repeat (first | refine kN ?_ _ | refine blk_drew ?_ | refine kA ?_ _)); refine blk_put (cs := #[.int .i64 0, .slice none 0 0, .slice none 0 0]) ?_ 0 _ rfl; (with_reducible repeat (first | refine kN ?_ _ | refine blk_drew ?_ | refine kA ?_ _)); exact BK235.out))⟩; have n5_ : Aside0 (Below w.heap.size w w14) := ⟨(by rw [hw]; exact (by repeat (first | (with_reducible first | exact HB.out | apply bA | apply pN | apply bD | refine bS ?_ GE235.out) | exact HB.out)))⟩; clear hw; clear HO_4; clear HO_5; clear HO229; clear HO232; clear BK235; clear HB; have HO_4 := n0_; have HO_5 := n1_; have HO229 := n2_; have HO232 := n3_; have BK235 := n4_; have HB := n5_; clear n0_ n1_ n2_ n3_ n4_ n5_; have hcz15_0 : w14.cell? ⟨gb235, 0, none⟩ = some (.int .i64 t226) := (blk_cell BK235.out 0).trans rfl; have hcz15_1 : w14.cell? ⟨gb235, 1, none⟩ = some (.slice Ao12 t227.length co12) := (blk_cell BK235.out 1).trans rfl; have hcz15_2 : w14.cell? ⟨gb235, 2, none⟩ = some (.slice Ao13 t230.length co13) := (blk_cell BK235.out 2).trans rfl; have hfz15_0 := blk_frozen BK235.out 0; have hfz15_1 := blk_frozen BK235.out 1; have hfz15_2 := blk_frozen BK235.out 2) | ((with_reducible refine gate_builtin (b := .append) (xs := #[.tmp 23, .tmp 25]) rfl ?_); at_builtin; refine Kd.S_append k42 (w0 := w) w.heap.size rfl (.tmp 23) (.tmp 25) 57 42 (.agg #[(.int .i64 0), (.slice none 0 0), (.slice none 0 0)]) 56 rfl Tryd.underlying57 info42 rfl (by decide) (by omega) u4 x4_1 (⟨t226, t227, t230⟩ : S42) [.int .i64 t226, .slice Ao12 t227.length co12, .slice Ao13 t230.length co13] (fun k_ => k_ ≠ gb235) (fun k_ => some k_ = (.slice Ao12 t227.length co12 : Value).ownBlock ∨ some k_ = (.slice Ao13 t230.length co13 : Value).ownBlock) rfl rfl ?aP (fun k_ hk_ => hk_.elim (fun h_ => ((Kd.R_mono (ok' := fun k_ => ((fun k_ => k_ ≠ gb235)) k_ ∧ some k_ ≠ (u4 : Value).ownBlock) (Kd.R_types (Kd.R_apart' (HO229.out) (Kd.S_typed HO_4.out) (by decide)) BK235.out (by decide)) (fun k_ hk => ⟨hk.2, hk.1.2⟩))).1 k_ h_.symm) (fun h_ => ((Kd.R_mono (ok' := fun k_ => ((fun k_ => k_ ≠ gb235)) k_ ∧ some k_ ≠ (u4 : Value).ownBlock) (Kd.R_types (Kd.R_apart' (HO232.out) (Kd.S_typed HO_4.out) (by decide)) BK235.out (by decide)) (fun k_ hk => ⟨hk.2, hk.1.2⟩))).1 k_ h_.symm)) ?aF ?aO ?aB ?aS ?aL ?_; (case aP => exact k42_mkM _ _ _ (⟨t226, t227, t230⟩ : S42) (Kd.R_mono (Kd.R_tight rfl (Kd.R_mono (ok' := fun k_ => ((fun k_ => k_ ≠ gb235)) k_ ∧ some k_ ≠ (u4 : Value).ownBlock) (Kd.R_types (Kd.R_apart' (HO229.out) (Kd.S_typed HO_4.out) (by decide)) BK235.out (by decide)) (fun k_ hk => ⟨hk.2, hk.1.2⟩))) (fun _ h_ => Or.inl h_)) (Kd.R_mono (Kd.R_tight rfl (Kd.R_mono (ok' := fun k_ => ((fun k_ => k_ ≠ gb235)) k_ ∧ some k_ ≠ (u4 : Value).ownBlock) (Kd.R_types (Kd.R_apart' (HO232.out) (Kd.S_typed HO_4.out) (by decide)) BK235.out (by decide)) (fun k_ hk => ⟨hk.2, hk.1.2⟩))) (fun _ h_ => Or.inr (h_)))); (case aB => exact (by repeat (first | (with_reducible first | exact HB.out | apply bA | apply pN | apply bD | refine bS ?_ GE235.out) | exact HB.out))); (case aF => exact (fun k_ hk => Kd.freshB (g := gb235) (o := .cells #[.int .i64 t226, .slice Ao12 t227.length co12, .slice Ao13 t230.length co13] 42 (0, 0)) (by (with_reducible repeat (first | refine kN ?_ _ | refine blk_drew ?_ | refine kA ?_ _)); exact BK235.out) k_ hk)); (case aO => exact (by (with_reducible repeat (first | apply Kd.S_alloc | apply Kd.S_drewN | apply Kd.S_drew)); exact Kd.S_mono HO_4.out (fun k_ hk => ⟨hk.2.2, fun e_ => e_.elim (fun h_ => hk.1 h_) (fun h_ => hk.2.1 h_)⟩))); (case aS => exact (bZ (by repeat (first | (with_reducible first | exact HB.out | apply bA | apply pN | apply bD | refine bS ?_ GE235.out) | exact HB.out)))); (case aL => have := LMc7.out; omega); intro v237 w16 ho hb hg hat; rw [← Ny236.out] at ho; have n0_ := Aside0.mk (Kd.R_over' (by (with_reducible repeat (first | apply rA | apply rN | apply Kd.R_drew)); exact HO_5.out) (Kd.S_typed (by (with_reducible repeat (first | apply Kd.S_alloc | apply Kd.S_drewN | apply Kd.S_drew)); exact HO_4.out)) (by decide) hg); have n1_ := Aside0.mk (blk_grown (g := gb235) (o := .cells #[.int .i64 t226, .slice Ao12 t227.length co12, .slice Ao13 t230.length co13] 42 (0, 0)) (by (with_reducible repeat (first | refine kN ?_ _ | refine blk_drew ?_ | refine kA ?_ _)); exact BK235.out) hg (Kd.S_away HO_4.out (fun _ hk => hk.2.2))); have n2_ := Aside0.mk (hb); have n3_ := Aside0.mk (ho); clear HO_5; clear BK235; clear HB; clear HO_4; clear HO229; clear HO232; have HO_5 := n0_; have BK235 := n1_; have HB := n2_; have HO238 := n3_; clear n0_ n1_ n2_ n3_; clear ho hb hg hat) | ((with_reducible refine gate_builtin (b := .append) (xs := #[.tmp 27, .tmp 29]) rfl ?_); at_builtin; refine Kd.R_append (Kd.int .i64) (w0 := w) w.heap.size rfl (.tmp 27) (.tmp 29) 36 3 (.int .i64 0) 8 rfl Tryd.underlying36 info3 rfl (by decide) (by omega) u5 x5_1 x6_1 [.int .i64 x6_1] (fun _ => True) (fun _ => False) rfl rfl ?aP (fun _ hk => hk.elim) ?aF ?aO ?aB ?aS ?aL ?_; (case aP => exact rfl); (case aB => exact (by repeat (first | (with_reducible first | exact HB.out | apply bA | apply pN | apply bD | refine bS ?_ GE235.out) | exact HB.out))); (case aF => exact (fun _ _ => trivial)); (case aO => exact (by (with_reducible repeat (first | apply rA | apply rN | apply Kd.R_drew)); exact HO_5.out)); (case aS => exact (bZ (by repeat (first | (with_reducible first | exact HB.out | apply bA | apply pN | apply bD | refine bS ?_ GE235.out) | exact HB.out)))); (case aL => have := LMc8.out; omega); intro v240 w17 ho hb hg hat; rw [← Ny239.out] at ho; have n0_ := Aside0.mk (blk_grown (g := gb235) (o := .cells #[.int .i64 t226, .slice Ao12 t227.length co12, .slice Ao13 t230.length co13] 42 (0, 0)) (by (with_reducible repeat (first | refine kN ?_ _ | refine blk_drew ?_ | refine kA ?_ _)); exact BK235.out) hg (Kd.R_ne HO_5.out BK235.out (by decide))); have n1_ := Aside0.mk (Kd.S_over' (by (with_reducible repeat (first | apply Kd.S_alloc | apply Kd.S_drewN | apply Kd.S_drew)); exact HO238.out) (Kd.R_typed (by (with_reducible repeat (first | apply rA | apply rN | apply Kd.R_drew)); exact HO_5.out)) (by decide) hg); have n2_ := Aside0.mk (hb); have n3_ := Aside0.mk (ho); clear BK235; clear HO238; clear HB; clear HO_5; have BK235 := n0_; have HO238 := n1_; have HB := n2_; have HO241 := n3_; clear n0_ n1_ n2_ n3_; clear ho hb hg hat))
        go_roundg k1
        case measure => have := HK1.out; omega
        case rel => exact ⟨(y236), (y239), (wrap64 (x6_1 + t233)), (by first | rfl | (simp; done) | (simp [*]; done)), H', ⟨by have := HK1.out; omega⟩, ⟨by (with_reducible repeat (first | apply Kd.S_alloc | apply Kd.S_drewN | apply Kd.S_drew)); exact Kd.S_mono HO238.out (fun _ hk => trivial)⟩, ⟨by (with_reducible repeat (first | apply rA | apply rN | apply Kd.R_drew)); exact HO241.out⟩, ⟨by repeat (first | (with_reducible first | exact HB.out | apply bA | apply pN | apply bD | refine bS ?_ GE235.out) | exact HB.out)⟩⟩
       ·rw [if_neg c8] at H
        exact absurd H (by simp)
      ·rw [if_neg c7] at H
       exact absurd H (by simp)
     ·rw [if_neg c6] at H
      have c6b0 : (t234 == 0) = false := beq_eq_false_iff_ne.mpr c6
      have c6b1 : (t234 != 0) = true := bne_iff_ne.mpr c6
      simp only [Option.some.injEq, Prod.mk.injEq] at H
      obtain ⟨rfl, rfl⟩ := H
      go_wp2_with (first | ((with_reducible refine gate_callee (f := 27) rfl ?_); refine goesL_ (some 15) rfl rfl Tryd.func27 (by kernel_rfl) rfl #[.string (a0.extract ((ji2) : Int).toNat a0.size)] rfl (by (try simp only [List.map_toArray, List.map_cons, List.map_nil]); first | done | (simp only [hji2]; rfl) | rfl | (simp only [List.length_drop, List.length_take]; rfl)) ?_; (with_reducible refine (group_Decode.calls k1 (a0.extract ((ji2) : Int).toNat a0.size) t226 t227 t230 t233 t234 _ A5.out (HN.out.below (by repeat (first | (with_reducible first | exact HB.out | apply bA | apply pN | apply bD | refine bS ?_ GE235.out) | exact HB.out)) (Nat.lt_of_lt_of_le HN.out.lt (Nat.le_refl _)))).mono ?_); rintro e w18 ⟨v228, v231, rfl, ho0, ho1, hb⟩; refine ⟨_, rfl, ?_⟩; have n0_ := Aside0.mk (Kd.S_mono (Kd.S_told (Kd.S_told (Kd.S_old (by (with_reducible repeat (first | apply Kd.S_alloc | apply Kd.S_drewN | apply Kd.S_drew)); exact HO_4.out) hb) (Kd.R_base ho0)) (Kd.R_base ho1)) (fun _ h_ => h_.1)); have n1_ := Aside0.mk (Kd.R_below (by (with_reducible repeat (first | apply rA | apply rN | apply Kd.R_drew)); exact HO_5.out) hb); have n2_ := Aside0.mk (Kd.R_lower ho0 (bZ (by repeat (first | (with_reducible first | exact HB.out | apply bA | apply pN | apply bD) | exact HB.out)))); have n3_ := Aside0.mk (Kd.R_lower ho1 (bZ (by repeat (first | (with_reducible first | exact HB.out | apply bA | apply pN | apply bD) | exact HB.out)))); have n4_ := Aside0.mk (below_step (by repeat (first | (with_reducible first | exact HB.out | apply bA | apply pN | apply bD) | exact HB.out)) hb); clear HO_4; clear HO_5; clear HB; have HO_4 := n0_; have HO_5 := n1_; have HO229 := n2_; have HO232 := n3_; have HB := n4_; clear n0_ n1_ n2_ n3_ n4_; (try clear hb); (try clear hb2); (try clear hk); (try clear hi); (try clear ho0); (try clear ho1)) | ((with_reducible refine gate_dst (N := 7) rfl ?_); refine box_event ?hg (N := 7) ?hd (cs := #[.int .i64 0, .slice none 0 0, .slice none 0 0]) (t := 42) ?hr ?_; (case hd => rfl); (case hg => rfl); (case hr => first | (go_simp; done) | (go_simp; rfl)); intro gb235 hg w19 hbox hb; have n0_ := Aside0.mk (Kd.S_below (Kd.S_elderB (by (with_reducible repeat (first | apply Kd.S_alloc | apply Kd.S_drewN | apply Kd.S_drew)); exact HO_4.out) gb235 (Nat.le_of_eq hg.symm)) hb); have n1_ := Aside0.mk (Kd.R_below (by (with_reducible repeat (first | apply rA | apply rN | apply Kd.R_drew)); exact HO_5.out) hb); have n2_ := Aside0.mk (Kd.R_below (by (with_reducible repeat (first | apply rA | apply rN | apply Kd.R_drew)); exact HO229.out) hb); have n3_ := Aside0.mk (Kd.R_below (by (with_reducible repeat (first | apply rA | apply rN | apply Kd.R_drew)); exact HO232.out) hb); have n4_ := Aside0.mk (below_step (by repeat (first | (with_reducible first | exact HB.out | apply bA | apply pN | apply bD) | exact HB.out)) hb); have n5_ := Aside0.mk (hbox); have n6_ := Aside0.mk ((by rw [hg]; exact (bZ (by repeat (first | (with_reducible first | exact HB.out | apply bA | apply pN | apply bD) | exact HB.out))) : w.heap.size ≤ gb235)); have n7_ := Aside0.mk ((by rw [hg]; exact (bZ (by repeat (first | (with_reducible first | exact HB.out | apply bA | apply pN | apply bD) | exact HB.out))) : w.heap.size ≤ gb235)); clear HO_4; clear HO_5; clear HO229; clear HO232; clear HB; have HO_4 := n0_; have HO_5 := n1_; have HO229 := n2_; have HO232 := n3_; have HB := n4_; have BK235 := n5_; have GW235 := n6_; have GE235 := n7_; clear n0_ n1_ n2_ n3_ n4_ n5_ n6_ n7_; clear hb hbox hg; have hcz20_0 : w19.cell? ⟨gb235, 0, none⟩ = some (.int .i64 0) := (blk_cell BK235.out 0).trans rfl; have hcz20_1 : w19.cell? ⟨gb235, 1, none⟩ = some (.slice none 0 0) := (blk_cell BK235.out 1).trans rfl; have hcz20_2 : w19.cell? ⟨gb235, 2, none⟩ = some (.slice none 0 0) := (blk_cell BK235.out 2).trans rfl; have hfz20_0 := blk_frozen BK235.out 0; have hfz20_1 := blk_frozen BK235.out 1; have hfz20_2 := blk_frozen BK235.out 2; obtain ⟨Ao21, co21, eo21⟩ := Kd.R_slice HO229.out; subst eo21; obtain ⟨Ao22, co22, eo22⟩ := Kd.R_slice HO232.out; subst eo22))
      go_ret2
      exact ⟨_, _, by first | rfl | (simp [errW_none, errW_some] <;> rfl) | (simp only [← hji2]; first | rfl | (simp [errW_none, errW_some] <;> rfl)) | (simp [*, errW_none, errW_some] <;> rfl), by (with_reducible repeat (first | apply Kd.S_alloc | apply Kd.S_drewN | apply Kd.S_drew)); exact Kd.S_mono (Kd.S_far (p := ⟨gb235, 2, none⟩) (Kd.S_far (p := ⟨gb235, 1, none⟩) (Kd.S_far (p := ⟨gb235, 0, none⟩) (Kd.S_mono HO_4.out (fun k_ hk => (⟨hk, hk.2⟩ : _ ∧ k_ ≠ gb235))) (fun _ hk => hk.2) (.int .i64 t226)) (fun _ hk => hk.2) (.slice Ao21 t227.length co21)) (fun _ hk => hk.2) (.slice Ao22 t230.length co22)) (fun _ hk => trivial), by (with_reducible repeat (first | apply rA | apply rN | apply Kd.R_drew)); exact Kd.R_mono (Kd.R_far (p := ⟨gb235, 2, none⟩) (Kd.R_far (p := ⟨gb235, 1, none⟩) (Kd.R_far (p := ⟨gb235, 0, none⟩) (Kd.R_types HO_5.out BK235.out (by decide)) (fun _ hk => hk.2) (.int .i64 t226)) (fun _ hk => hk.2) (.slice Ao21 t227.length co21)) (fun _ hk => hk.2) (.slice Ao22 t230.length co22)) (fun _ hk => trivial), by repeat (first | (with_reducible first | exact HB.out | apply bA | apply pN | apply bD | refine bS ?_ GE235.out) | exact HB.out)⟩
    ·rw [if_neg c4] at H
     exact absurd H (by simp)
   ·rw [if_neg c3] at H
    exact absurd H (by simp)

end Go.Proofs.YticpjnpafmehaaaDoor.U
