/-
  The table of sums, out of a row's condition.
-/
import Derived.Test.YticpjnpafmehaaaDoorRC1
import Derived.Test.YticpjnpafmehaaaDoorRows
import Derived.Lib.LaidTab
import Derived.MakeChecks
namespace Go.Proofs.YticpjnpafmehaaaDoor
open Go.RowKit
set_option linter.unusedVariables false
set_option linter.unusedSimpArgs false

/-- The table's numbers. -/
def nibZ : List Int := tab.map fun c => (c.toNat : Int)
theorem laid_nib : (Rows.laid_corbel_crc_nibbles : DataW Unit) = Lib.tabData .u32 nibZ := rfl
theorem nibZ_get : ∀ i : Fin 16, nibZ.getD i.val 0 = ((tab.getD i.val 0#32).toNat : Int) := by decide
theorem tabIn_laid (W : World) (rest : List (String × DataW Unit)) (h : laidMet Tryd.prog (("corbel/crc.nibbles", Rows.laid_corbel_crc_nibbles) :: rest) W) : TabIn W := by
  have hg : Tryd.prog.globalNamed "corbel/crc.nibbles" = some 0 := by kernel_rfl
  have hT : Lib.TabIs Tryd.prog W "corbel/crc.nibbles" .u32 nibZ := Lib.tabIs_of_head (g := 0) (t := 106) (e := 69) (n := 16) hg (by kernel_rfl) Tryd.underlying106 Tryd.underlying69 (by kernel_rfl) (by kernel_rfl) (laid_nib ▸ h)
  have hc : ∀ i, i < 16 → W.cell? ⟨0, i, none⟩ = some (.int .u32 ((tab.getD i 0#32).toNat : Int)) := fun i hi => by
    have h1 := hT.cell hg i (by exact hi)
    rw [nibZ_get ⟨i, hi⟩] at h1
    exact h1
  exact ⟨World.block_lt_of_cell? _ _ (hc 0 (by omega)), hc⟩

end Go.Proofs.YticpjnpafmehaaaDoor
