/-
  No drive: Do, Flush.
-/
import Derived.Test.YtadpeopbfoppjaaD10
namespace Go.Proofs.Ytadpeopbfoppjaa
open Go.RowKit

theorem ddo_none (k z a n : Int) (s : ByteArray) (w : World) :
    Calls Try.prog 25 #[.pointer none, .agg #[.int .i64 k, .int .i64 z, .int .i64 a, .int .i64 n], .string s] w fun e w' => e = .returned (.tuple #[.string ByteArray.empty, .int .i64 0, .int .i64 1]) ∧ Below w.heap.size w w' := by
  go_enter Try.func25, Try.ntmps25
  go_wp2_with fail
  refine (alive_none _).mono ?_
  rintro e w1 ⟨rfl, rfl⟩
  go_wp2_with fail
  refine bodyPost_ret (results_tmp3 rfl _ _ _) rfl ?_
  exact ⟨rfl, (Below.refl _ _).alloc (Nat.le_refl _) _⟩

theorem dflush_none (w : World) : Calls Try.prog 26 #[.pointer none] w fun e w' => e = .returned (.int .i64 1) ∧ w = w' := by
  go_enter Try.func26, Try.ntmps26
  go_wp2_with fail
  refine (alive_none _).mono ?_
  rintro e w1 ⟨rfl, rfl⟩
  go_wp2_with fail
  go_ret
  exact ⟨rfl, rfl⟩

end Go.Proofs.Ytadpeopbfoppjaa
