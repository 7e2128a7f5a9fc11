/-
  Walks of the laws of layer 5: speaks, ZoneNil.
-/
import Derived.Test.YtojceddgmmapdaaZ9
namespace Go.Proofs.Ytojceddgmmapdaa
open Go.RowKit

theorem newF_ok {z b o a : Int} (h : newOk z b o a = true) : (newF z b o a).ok := by
  simp only [newOk, Bool.and_eq_true, decide_eq_true_eq] at h
  refine ⟨?_, ?_, ?_, ?_, ?_, ?_, ?_, ?_⟩ <;> simp only [newF, List.length_replicate] <;> try omega
  intro i hi
  have e : (List.replicate z.toNat ((0 : Int), (0 : Int))).getD i (0, 0) = (0, 0) := by simp [List.getD_eq_getElem?_getD, hi]
  simp only [stOf, lnOf, e]; omega

def sp0 : Mc := ⟨[(0, 0), (0, 0)], 4, 1, 2⟩
def sp1 : Mc := ⟨[(1, 2), (0, 0)], 4, 1, 2⟩
def sp2 : Mc := ⟨[(3, 2), (1, 1)], 4, 1, 2⟩
theorem sp_ok1 : sp1.ok := ⟨by decide, by decide, by decide, by decide, by decide, by decide, by decide, fun i hi => by
  match i, hi with | 0, _ => exact ⟨by decide, by decide, by decide, by decide⟩ | 1, _ => exact ⟨by decide, by decide, by decide, by decide⟩⟩

set_option maxHeartbeats 1000000 in
set_option maxRecDepth 100000 in
theorem speaks05 (w : World) : Calls Try.prog 14 #[] w fun e w' => e = .returned (.bool true) ∧ Below w.heap.size w w' := by
  have hix0 : newOk 2 4 1 2 = true := by decide
  have H0 := Lib.hid hix0; clear hix0
  go_enter Try.func14, Try.ntmps14
  go_wp2_with fail
  refine (znew_ok 2 4 1 2 _ H0.out).mono ?_
  rintro e w1 ⟨bm, bz, rfl, hI1, hm1, hb1, hb2⟩
  go_wp2_with fail
  refine (do_any bm bz sp0 2 0 0 2 _ hI1 (newF_ok H0.out)).mono ?_
  rintro e w2 ⟨rfl, hI2, hm2⟩
  have e2 : doF sp0 2 0 0 2 = ((0, 0), sp1) := by kernel_rfl
  rw [e2] at hI2 ⊢
  clear e2 hI1
  go_wp2_with fail
  refine (do_any bm bz sp1 1 1 0 1 _ hI2 sp_ok1).mono ?_
  rintro e w3 ⟨rfl, hI3, hm3⟩
  have e3 : doF sp1 1 1 0 1 = ((0, 0), sp2) := by kernel_rfl
  rw [e3] at hI3 ⊢
  clear e3 hI2
  go_wp2_with fail
  refine (get_any bm bz sp2 0 _ hI3).mono ?_
  rintro e w4 ⟨rfl, hb4⟩
  have e4 : getF sp2 0 = ((3, 2), true) := by kernel_rfl
  rw [e4]
  clear e4
  go_wp2
  go_ret
  refine ⟨rfl, ?_⟩
  have hm : Mod [bz] w _ := (((hm1.mono (T := [bz]) (by simp)).trans' hm2).trans' hm3).trans' (Mod.of_below hb4 _)
  exact ((hm.mono (T := []) (fun i hi hS => by simp at hS; omega)).alloc _).below (Nat.le_refl _)

theorem counts_none (w : World) : Calls Try.prog 18 #[.pointer none] w fun e w' => e = .returned (.tuple #[.int .i64 0, .int .i64 0]) ∧ w = w' := by
  go_enter Try.func18, Try.ntmps18
  go_wp2
  go_ret2
  exact ⟨rfl, rfl⟩

set_option maxHeartbeats 1000000 in
set_option maxRecDepth 100000 in
theorem zoneNil_walk (k z a n i : Int) (w : World) :
    Calls Try.prog 8 #[.agg #[.int .i64 k, .int .i64 z, .int .i64 a, .int .i64 n], .int .i64 i] w fun e w' => e = .returned (.bool true) ∧ Below w.heap.size w w' := by
  go_enter Try.func8, Try.ntmps8
  go_wp2_with fail
  refine (speaks05 _).mono ?_
  rintro e w1 ⟨rfl, hb1⟩
  have hbx : Blk w1 w.heap.size #[.int .i64 k, .int .i64 z, .int .i64 a, .int .i64 n] 34 := (Mod.of_below hb1 []).blk (Blk.new w _ _) (by simp)
  have hM1 : Mod [] w w1 := ((Mod.refl [] w).alloc _).trans' (Mod.of_below hb1 [])
  have HM1 := Lib.hid hM1
  clear hM1 hb1
  have c0 := hbx.cell (i := 0) rfl
  have c1 := hbx.cell (i := 1) rfl
  have c2 := hbx.cell (i := 2) rfl
  have c3 := hbx.cell (i := 3) rfl
  clear hbx
  go_wp2_with fail
  refine (do_none k z a n _).mono ?_
  rintro e w2 ⟨rfl, hb2⟩
  go_wp2_with fail
  refine (get_none i _).mono ?_
  rintro e w3 ⟨rfl, hb3⟩
  go_wp2_with fail
  refine (counts_none _).mono ?_
  rintro e w4 ⟨rfl, rfl⟩
  go_wp2_with fail
  refine (lost_none _ _).mono ?_
  rintro e w5 ⟨rfl, rfl⟩
  go_wp2_with (go_at_call 19; refine (clone_none _).mono ?_; rintro e w' ⟨rfl, rfl⟩)
  go_ret
  refine ⟨rfl, ?_⟩
  have hm : Mod [] w w3 := (HM1.out.trans' (Mod.of_below hb2 [])).trans' (Mod.of_below hb3 [])
  exact ((hm.alloc _).alloc _).below (Nat.le_refl _)

end Go.Proofs.Ytojceddgmmapdaa
