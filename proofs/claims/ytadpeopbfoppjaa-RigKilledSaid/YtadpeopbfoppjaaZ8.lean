/-
  Walks: Get and Clone of the zones' machine.
-/
import Derived.Test.YtadpeopbfoppjaaZ7
namespace Go.Proofs.Ytadpeopbfoppjaa
open Go.RowKit

/-- What Get answers. -/
def getF (m : Mc) (z : Int) : (Int × Int) × Bool := if 0 ≤ z ∧ z < m.zs.length then ((m.st z.toNat, m.ln z.toNat), true) else ((0, 0), false)

abbrev zoneV (p : Int × Int) : Value := .agg #[.int .i64 p.1, .int .i64 p.2]

theorem get_none (z : Int) (w : World) :
    Calls Try.prog 39 #[.pointer none, .int .i64 z] w fun e w' => e = .returned (.tuple #[zoneV (0, 0), .bool false]) ∧ Below w.heap.size w w' := by
  go_enter Try.func39, Try.ntmps39
  go_wp2
  exact bodyPost_ret (v := .tuple #[zoneV (0, 0), .bool false]) (by simp [results, Try.results39, go_sem]) rfl ⟨rfl, (Below.refl _ _).alloc (Nat.le_refl _) _⟩

theorem get_any (bm bz : Nat) (m : Mc) (z : Int) (w : World) (hI : IsM TM TZ w bm bz m) :
    Calls Try.prog 39 #[.pointer (some ⟨bm, 0, none⟩), .int .i64 z] w fun e w' => e = .returned (.tuple #[zoneV (getF m z).1, .bool (getF m z).2]) ∧ Below w.heap.size w w' := by
  have HI := Lib.hid hI; clear hI
  have hlt := HI.out.lt
  obtain ⟨hlm, hlz⟩ := hlt
  obtain ⟨cap, hcz⟩ := HI.out.cellZ
  by_cases h0 : z < 0
  · have hfin : getF m z = ((0, 0), false) := by unfold getF; rw [if_neg (by omega)]
    have Hfin := Lib.hid hfin; clear hfin
    go_enter Try.func39, Try.ntmps39
    go_wp2
    rw [Hfin.out]
    exact bodyPost_ret (v := .tuple #[zoneV (0, 0), .bool false]) (by simp [results, Try.results39, go_sem]) rfl ⟨rfl, (Below.refl _ _).alloc (Nat.le_refl _) _⟩
  · obtain ⟨i, rfl⟩ := Int.eq_ofNat_of_zero_le (show 0 ≤ z by omega)
    by_cases h1 : i < m.zs.length
    · have hfin : getF m i = ((m.st i, m.ln i), true) := by unfold getF; rw [if_pos (by omega)]; rfl
      have Hfin := Lib.hid hfin; clear hfin
      have k0 := HI.out.cellSt h1
      have k1 := HI.out.cellLn h1
      have hd : decide (m.zs.length ≤ i) = false := by simp; omega
      clear h0
      go_enter Try.func39, Try.ntmps39
      go_wp2
      rw [Hfin.out]
      exact bodyPost_ret (v := .tuple #[zoneV (m.st i, m.ln i), .bool true]) (by simp [results, Try.results39, go_sem]) rfl ⟨rfl, (Below.refl _ _).alloc (Nat.le_refl _) _⟩
    · have hfin : getF m i = ((0, 0), false) := by unfold getF; rw [if_neg (by omega)]
      have Hfin := Lib.hid hfin; clear hfin
      have hd : decide (m.zs.length ≤ i) = true := by simp; omega
      clear h0
      go_enter Try.func39, Try.ntmps39
      go_wp2
      rw [Hfin.out]
      exact bodyPost_ret (v := .tuple #[zoneV (0, 0), .bool false]) (by simp [results, Try.results39, go_sem]) rfl ⟨rfl, (Below.refl _ _).alloc (Nat.le_refl _) _⟩


end Go.Proofs.Ytadpeopbfoppjaa
