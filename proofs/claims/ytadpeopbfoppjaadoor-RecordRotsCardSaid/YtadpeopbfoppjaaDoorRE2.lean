/-
  Walk of record.Encode: a body of another length.
-/
import Derived.Test.YtadpeopbfoppjaaDoorRE1
namespace Go.Proofs.YtadpeopbfoppjaaDoor
open Go.RowKit
set_option linter.unusedVariables false
set_option linter.unusedSimpArgs false

/-- How many bytes a kind's body has. -/
def bodyLen (k : Int) : Int := if k = 4 then 64 else 0

set_option maxHeartbeats 4000000 in
set_option maxRecDepth 100000 in
/-- A record whose body has not the length of its kind's. -/
theorem encode_long (x : Rc) (w : World) (hb : x.body.size ≤ 140737488355328) (hr : rightF x = true) (hl : (x.body.size : Int) ≠ bodyLen x.kind) :
    Calls Tryd.prog 10 #[.agg #[.int .i64 x.kind, .int .i64 x.seq, .int .i64 x.a, .int .i64 x.b, .int .i64 x.c, .int .i64 x.d, .string x.body]] w fun e w' => e = .returned (.tuple #[.string ⟨#[]⟩, .int .i64 1]) ∧ Below w.heap.size w w' := by
  have Hr := Lib.hid hr
  have hk : 1 ≤ x.kind ∧ x.kind ≤ 6 := by
    unfold rightF Rc.okTo at hr
    simp only [Bool.and_eq_true, decide_eq_true_eq, List.all_eq_true, List.mem_range] at hr
    exact ⟨hr.2, (hr.1 0 (by omega)).2⟩
  have hbl : (if x.kind < 1 ∨ 6 < x.kind then (0 : Int) else if x.kind = 4 then 2 else 1) = bodyLen x.kind / 64 + 1 := by
    rw [if_neg (by omega)]
    unfold bodyLen
    split <;> rfl
  have hbc : bodyLen x.kind = 0 ∨ bodyLen x.kind = 64 := by unfold bodyLen; split <;> simp
  have Hbl := Lib.hid hbl
  clear hr hbl hk
  generalize bodyLen x.kind = L at *
  have hR : ∀ n, Blk ((w.alloc (.cells (rcCells x) 29)).drewN n) w.heap.size (rcCells x) 29 := fun n => (Blk.new w _ _).drewN n
  have HR := Lib.hid hR
  clear hR
  rcases hbc with rfl | rfl
  all_goals
    have hz := bne_iff_ne.2 hl
    first
      | (have hz3 : ((x.body.size : Int) != IntKind.i64.wrap (IntKind.i64.wrap 0 * 64)) = true := by rw [show IntKind.i64.wrap (IntKind.i64.wrap 0 * 64) = 0 by decide]; exact hz)
      | (have hz3 : ((x.body.size : Int) != IntKind.i64.wrap (IntKind.i64.wrap 1 * 64)) = true := by rw [show IntKind.i64.wrap (IntKind.i64.wrap 1 * 64) = 64 by decide]; exact hz)
    have Hl := Lib.hid hl
    clear hl
    go_enter Tryd.func10, Tryd.ntmps10
    go_upto_region 1 with fail
    first | (go_region_with (first | (go_at_call 17; refine (right_any w.heap.size x _ (by first | exact HR.out 0 | exact HR.out 1 | exact HR.out _)).mono ?_; rintro e w1 ⟨rfl, hb1⟩; rw [Hr.out]; have hB1 := rc_block1 hb1; have q0 : w1.cell? ⟨w.heap.size, 0, none⟩ = some (.int .i64 x.kind) := hB1.cell rfl; have q6 : w1.cell? ⟨w.heap.size, 6, none⟩ = some (.string x.body) := hB1.cell rfl; have HB1 := Lib.hid hb1; clear hb1 hB1) | (go_at_call 12; refine (blocks_any x.kind _).mono ?_; rintro e w2 ⟨rfl, rfl⟩; rw [Hbl.out]))) | (exfalso; fail)
    all_goals
      go_wp2_with fail
      go_ret2
      exact ⟨rfl, rc_below1 HB1.out⟩

end Go.Proofs.YtadpeopbfoppjaaDoor
