/-
  A slice of commands (four numbers each) in the heap.
-/
import Derived.Test.YtojceddgmmapdaaZ9
namespace Go.Proofs.Ytojceddgmmapdaa
open Go.RowKit

/-- The slice value v reads as the commands cs (four numbers each); its cells lie in block b (where there are any). -/
def CmdsAt (w : World) (v : Value) (cs : List (Int × Int × Int × Int)) (b : Nat) : Prop :=
  ∃ (a : Option Addr) (c : Nat), v = .slice a cs.length c ∧ (0 < cs.length → ∃ off, a = some ⟨b, off, none⟩ ∧ b < w.heap.size ∧ ∀ j, j < cs.length →
    w.cell? ⟨b, off + j * 4, none⟩ = some (.int .i64 (cs.getD j (0, 0, 0, 0)).1) ∧ w.cell? ⟨b, off + j * 4 + 1, none⟩ = some (.int .i64 (cs.getD j (0, 0, 0, 0)).2.1) ∧
    w.cell? ⟨b, off + j * 4 + 2, none⟩ = some (.int .i64 (cs.getD j (0, 0, 0, 0)).2.2.1) ∧ w.cell? ⟨b, off + j * 4 + 3, none⟩ = some (.int .i64 (cs.getD j (0, 0, 0, 0)).2.2.2))

end Go.Proofs.Ytojceddgmmapdaa
