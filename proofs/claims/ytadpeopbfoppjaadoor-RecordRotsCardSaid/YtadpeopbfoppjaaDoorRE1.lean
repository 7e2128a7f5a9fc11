/-
  Walk of record.Encode.
-/
import Derived.Test.YtadpeopbfoppjaaDoorRF1
import Derived.Test.YtadpeopbfoppjaaDoorRN0
import Derived.Deep.RegionHeld3
import Derived.Deep.DeepCutAuto
namespace Go.Proofs.YtadpeopbfoppjaaDoor
open Go.RowKit

theorem below_undrew {B : Nat} {w w1 : World} (h : Below B w.drew w1) : Below B w w1 := ⟨h.os, h.tape, h.output, h.size, h.block⟩

/-- The record's own block, in a world behind a call. -/
theorem rc_block {x : Rc} {w w1 : World} (hb : Below (w.heap.size + 1) (w.alloc (.cells (rcCells x) 29)) w1) : Blk w1 w.heap.size (rcCells x) 29 :=
  (Mod.of_below (a := w.alloc (.cells (rcCells x) 29)) (by simpa using hb) []).blk (Blk.new w _ _) (by simp)

theorem rc_block1 {x : Rc} {w w1 : World} (hb : Below ((w.alloc (.cells (rcCells x) 29)).drew).heap.size ((w.alloc (.cells (rcCells x) 29)).drew) w1) : Blk w1 w.heap.size (rcCells x) 29 :=
  (Mod.of_below hb []).blk ((Blk.new w _ _).drew) (by simp)
theorem rc_below1 {x : Rc} {w w1 : World} (hb : Below ((w.alloc (.cells (rcCells x) 29)).drew).heap.size ((w.alloc (.cells (rcCells x) 29)).drew) w1) : Below w.heap.size w w1 :=
  ((Below.refl w.heap.size w).alloc (Nat.le_refl _) _).trans ((below_undrew hb).mono (by show w.heap.size ≤ (w.heap.push _).size; simp))

set_option maxHeartbeats 4000000 in
set_option maxRecDepth 100000 in
/-- A record whose numbers aren't as they may be. -/
theorem encode_wrong (x : Rc) (w : World) (hr : rightF x = false) :
    Calls Tryd.prog 10 #[.agg #[.int .i64 x.kind, .int .i64 x.seq, .int .i64 x.a, .int .i64 x.b, .int .i64 x.c, .int .i64 x.d, .string x.body]] w fun e w' => e = .returned (.tuple #[.string ⟨#[]⟩, .int .i64 1]) ∧ Below w.heap.size w w' := by
  have Hr := Lib.hid hr
  clear hr
  have hR : ∀ n, Blk ((w.alloc (.cells (rcCells x) 29)).drewN n) w.heap.size (rcCells x) 29 := fun n => (Blk.new w _ _).drewN n
  have HR := Lib.hid hR
  clear hR
  go_enter Tryd.func10, Tryd.ntmps10
  go_upto_region 1 with fail
  first | (go_region_with (first | (go_at_call 17; refine (right_any w.heap.size x _ (by first | exact HR.out 0 | exact HR.out 1 | exact HR.out _)).mono ?_; rintro e w1 ⟨rfl, hb1⟩; rw [Hr.out]; have HB1 := Lib.hid hb1; clear hb1))) | (exfalso; fail)
  all_goals
    go_wp2_with fail
    go_ret2
    have h1 : Below w.heap.size (w.alloc (.cells (rcCells x) 29)) w1 := (below_undrew HB1.out).mono (by show w.heap.size ≤ (w.heap.push _).size; simp)
    exact ⟨rfl, ((Below.refl w.heap.size w).alloc (Nat.le_refl _) _).trans h1⟩

end Go.Proofs.YtadpeopbfoppjaaDoor
