/-
  The argument's groups that may be made.
-/
import Derived.Test.YticpjnpafmehaaaDoorUG
namespace Go.Proofs.YticpjnpafmehaaaDoor.U
open Go.RowKit Go.Proofs.YticpjnpafmehaaaDoorW.PrintWords Go.Proofs.YticpjnpafmehaaaDoorW.PrintLast Go.Proofs.YticpjnpafmehaaaDoorW.PrintMore
set_option linter.unusedVariables false
set_option linter.unusedSimpArgs false

/-- The groups of the argument that may be made. -/
def gof (x : S39) : Gp := gvG x.f0 x.f1 x.f2 x.f3
def goods (l : List S39) : List Gp := (l.map gof).filter goodG
theorem goods_good (l : List S39) : ∀ g ∈ goods l, goodG g = true := by
  intro x hx; unfold goods at hx; exact (List.mem_filter.1 hx).2
theorem goods_snoc (l : List S39) (i : Nat) (h : i < l.length) : goods (l.take (i + 1)) = goods (l.take i) ++ (if goodG (gof l[i]) = true then [gof l[i]] else []) := by
  unfold goods
  rw [List.take_succ_eq_append_getElem h, List.map_append, List.filter_append]
  congr 1
  simp only [List.map_cons, List.map_nil, List.filter_cons, List.filter_nil]
theorem goods_le (l : List S39) : (goods l).length ≤ l.length := by
  unfold goods
  exact Nat.le_trans (List.length_filter_le _ _) (by simp)
theorem rdL (l : List S39) (i : Nat) (h : i < l.length) : rd_T39 l (i : Int) = l[i] := by
  unfold rd_T39; rw [Int.toNat_natCast, List.getD_eq_getElem?_getD, List.getElem?_eq_getElem h]; rfl

end Go.Proofs.YticpjnpafmehaaaDoor.U
