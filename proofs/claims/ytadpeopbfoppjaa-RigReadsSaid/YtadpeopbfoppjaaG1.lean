/-
  Walks of the rig's small functions.
-/
import Derived.Test.YtadpeopbfoppjaaG0
namespace Go.Proofs.Ytadpeopbfoppjaa
open Go.RowKit

structure RCells (w : World) (P : Pl) (r : Rg) : Prop where
  c0 : w.cell? ⟨P.br, 0, none⟩ = some P.dv
  c1 : w.cell? ⟨P.br, 1, none⟩ = some (.int .i64 r.bl)
  c2 : w.cell? ⟨P.br, 2, none⟩ = some P.sv
  c3 : w.cell? ⟨P.br, 3, none⟩ = some (.bool r.off)
  c4 : w.cell? ⟨P.br, 4, none⟩ = some (.int .i64 r.cnt)
  lt : P.br < w.heap.size

theorem IsR.cells {w : World} {P : Pl} {r : Rg} (h : IsR w P r) : RCells w P r :=
  ⟨h.rig.cell rfl, h.rig.cell rfl, h.rig.cell rfl, h.rig.cell rfl, h.rig.cell rfl, h.rig.lt⟩

/-- The drives' slice. -/
theorem IsR.slice {w : World} {P : Pl} {r : Rg} (h : IsR w P r) : ∃ (a : Option Addr) (c : Nat), P.dv = .slice a r.ds.length c ∧
    ∀ i, i < r.ds.length → ∃ g, a = some ⟨g, 0, none⟩ ∧ g < w.heap.size ∧ w.cell? ⟨g, i, none⟩ = some (.pointer (some ⟨P.ps.getD i 0, 0, none⟩)) := by
  have hrow := h.row
  obtain ⟨hl, ⟨h1, h2⟩ | ⟨g, cap, cur, h1, h2⟩⟩ := hrow
  · exact ⟨none, 0, by rw [h1, h2], fun i hi => by omega⟩
  · refine ⟨_, cap, h1, fun i hi => ⟨g, rfl, ownsRow_lt h.row (by rw [h1]; rfl), ?_⟩⟩
    have hc := h.row.cells (g := g) (by rw [h1]; rfl) i (.pointer (some ⟨P.ps.getD i 0, 0, none⟩)) (by
      have : i < P.ps.length := by rw [h.np]; exact hi
      simp [List.getD_eq_getElem?_getD, this])
    rwa [Addr.add_lit, Nat.zero_add] at hc

def gatV (P : Pl) (r : Rg) (n : Int) : Value := if thereF r n then .pointer (some ⟨P.ps.getD n.toNat 0, 0, none⟩) else .pointer none

theorem gat_none (n : Int) (w : World) : Calls Try.prog 27 #[.pointer none, .int .i64 n] w fun e w' => e = .returned (.pointer none) ∧ w = w' := by
  go_enter Try.func27, Try.ntmps27
  go_wp2
  go_ret
  exact ⟨rfl, rfl⟩

theorem thereF_nat {r : Rg} {i : Nat} (h : i < r.ds.length) : thereF r (i : Int) = true := by
  simp only [thereF, Bool.and_eq_true, decide_eq_true_eq]; omega
theorem thereF_no {r : Rg} {n : Int} (h : n < 0 ∨ (r.ds.length : Int) ≤ n) : thereF r n = false := by
  simp only [thereF, Bool.and_eq_false_iff, decide_eq_false_iff_not]; omega
theorem thereF_cases (r : Rg) (n : Int) : (∃ i : Nat, n = i ∧ i < r.ds.length ∧ thereF r n = true) ∨ thereF r n = false := by
  cases h : thereF r n with
  | false => exact .inr rfl
  | true =>
    simp only [thereF, Bool.and_eq_true, decide_eq_true_eq] at h
    exact .inl ⟨n.toNat, by omega, by omega, rfl⟩

theorem gat_there {P : Pl} {r : Rg} {i : Nat} {w : World} (hI : IsR w P r) (h2 : i < r.ds.length) :
    Calls Try.prog 27 #[.pointer (some ⟨P.br, 0, none⟩), .int .i64 i] w fun e w' => e = .returned (.pointer (some ⟨P.ps.getD i 0, 0, none⟩)) ∧ w = w' := by
  have c0 := hI.cells.c0
  have hll := hI.len
  obtain ⟨a, c, hd, hs⟩ := hI.slice
  rw [hd] at c0
  obtain ⟨g, rfl, hg, hc⟩ := hs i h2
  have hdd : decide (r.ds.length ≤ i) = false := by simpa using h2
  clear hI hd hs
  go_enter Try.func27, Try.ntmps27
  go_wp2
  go_ret
  exact ⟨rfl, rfl⟩

theorem gat_no {P : Pl} {r : Rg} {n : Int} {w : World} (hI : IsR w P r) (h : thereF r n = false) :
    Calls Try.prog 27 #[.pointer (some ⟨P.br, 0, none⟩), .int .i64 n] w fun e w' => e = .returned (.pointer none) ∧ w = w' := by
  have c0 := hI.cells.c0
  have hll := hI.len
  obtain ⟨a, c, hd, hs⟩ := hI.slice
  rw [hd] at c0
  by_cases h1 : n < 0
  · clear hI hd hs h
    go_enter Try.func27, Try.ntmps27
    go_wp2
    go_ret
    exact ⟨rfl, rfl⟩
  · obtain ⟨i, rfl⟩ := Int.eq_ofNat_of_zero_le (show 0 ≤ n by omega)
    have h2 : ¬ i < r.ds.length := fun h2 => by rw [thereF_nat h2] at h; cases h
    have hdd : decide (r.ds.length ≤ i) = true := by simpa using h2
    clear hI hd hs h
    go_enter Try.func27, Try.ntmps27
    go_wp2
    go_ret
    exact ⟨rfl, rfl⟩

theorem goff_none (w : World) : Calls Try.prog 11 #[.pointer none] w fun e w' => e = .returned (.bool false) ∧ w = w' := by
  go_enter Try.func11, Try.ntmps11
  go_wp2
  go_ret
  exact ⟨rfl, rfl⟩
theorem goff_any {P : Pl} {r : Rg} {w : World} (hI : IsR w P r) : Calls Try.prog 11 #[.pointer (some ⟨P.br, 0, none⟩)] w fun e w' => e = .returned (.bool r.off) ∧ w = w' := by
  have c3 := hI.cells.c3
  clear hI
  go_enter Try.func11, Try.ntmps11
  go_wp2
  go_ret
  exact ⟨rfl, rfl⟩

theorem gdrives_none (w : World) : Calls Try.prog 19 #[.pointer none] w fun e w' => e = .returned (.int .i64 0) ∧ w = w' := by
  go_enter Try.func19, Try.ntmps19
  go_wp2
  go_ret
  exact ⟨rfl, rfl⟩
theorem gdrives_any {P : Pl} {r : Rg} {w : World} (hI : IsR w P r) : Calls Try.prog 19 #[.pointer (some ⟨P.br, 0, none⟩)] w fun e w' => e = .returned (.int .i64 (r.ds.length : Int)) ∧ w = w' := by
  have c0 := hI.cells.c0
  obtain ⟨a, c, hd, hs⟩ := hI.slice
  rw [hd] at c0
  clear hI hd hs
  go_enter Try.func19, Try.ntmps19
  go_wp2
  go_ret
  exact ⟨rfl, rfl⟩

theorem gcount_none (w : World) : Calls Try.prog 12 #[.pointer none] w fun e w' => e = .returned (.int .i64 0) ∧ w = w' := by
  go_enter Try.func12, Try.ntmps12
  go_wp2
  go_ret
  exact ⟨rfl, rfl⟩
theorem gcount_any {P : Pl} {r : Rg} {w : World} (hI : IsR w P r) : Calls Try.prog 12 #[.pointer (some ⟨P.br, 0, none⟩)] w fun e w' => e = .returned (.int .i64 r.cnt) ∧ w = w' := by
  have c4 := hI.cells.c4
  clear hI
  go_enter Try.func12, Try.ntmps12
  go_wp2
  go_ret
  exact ⟨rfl, rfl⟩

theorem gblocks_none (w : World) : Calls Try.prog 20 #[.pointer none] w fun e w' => e = .returned (.int .i64 0) ∧ w = w' := by
  go_enter Try.func20, Try.ntmps20
  go_wp2
  go_ret
  exact ⟨rfl, rfl⟩
theorem gblocks_any {P : Pl} {r : Rg} {w : World} (hI : IsR w P r) : Calls Try.prog 20 #[.pointer (some ⟨P.br, 0, none⟩)] w fun e w' => e = .returned (.int .i64 r.bl) ∧ w = w' := by
  have c1 := hI.cells.c1
  clear hI
  go_enter Try.func20, Try.ntmps20
  go_wp2
  go_ret
  exact ⟨rfl, rfl⟩

end Go.Proofs.Ytadpeopbfoppjaa
