/-
  A record by value among the arguments, opened.
-/
import Derived.Test.YticpjnpafmehaaaDoorOS0
namespace Go.Proofs.YticpjnpafmehaaaDoor.OS
open Go.ChangeShapes Go.WideShapes Go.ChangeAt Go.RowKit Go.Joins Go.Deep
set_option linter.unusedVariables false
set_option linter.unusedSimpArgs false

section
variable {H : Type} {enc : TypeId × Value → H} {P : Program} {w : World} {base : Nat} {spare : Nat → Bool} {held : Bool}

/-- A struct whose fields are one cell each: each field's cell, what it reads as, its weight. -/
theorem open_agg {r : Reach} {b0 : Nat} {t : TypeId} {fs : Array Field} {v : Value} {d : DataW H} {p : List MemPlace} (ht : P.underlying t = some (.struct fs))
    (hk : ∀ (j : Nat) (f : Field), fs[j]? = some f → f.offset = j ∧ P.cellsOf f.type = 1) (hC : P.cellsOf t = fs.size) (hv : Value.okWide P w r b0 t v) (h : DataW.Trod enc P w base spare held t v d p) :
    ∃ l : List Value, v = .agg l.toArray ∧ l.length = fs.size ∧ ∀ (j : Nat) (f : Field), fs[j]? = some f → ∃ (u : Value) (n : Nat) (y : DataW H × List MemPlace), l[j]? = some u ∧ DataW.trod enc P w base spare held n f.type [u] = some y ∧ ∀ m ∈ y.1.weights P f.type, m ∈ d.weights P t := by
  simp only [Value.okWide, ht] at hv
  obtain ⟨cs, rfl, hsz, _⟩ := hv
  obtain ⟨fuel, hf⟩ := h
  obtain ⟨ys, n', hn', hy, hlen, hyl, hff⟩ := DataW.trod_struct ht hf
  obtain ⟨l⟩ := cs
  have hl : l.length = fs.size := by rw [← hC]; simpa using hsz
  refine ⟨l, rfl, hl, fun j f hj => ?_⟩
  have hjs : j < fs.size := (Array.getElem?_eq_some_iff.1 hj).1
  obtain ⟨ho, hk1⟩ := hk j f hj
  have h1 := hff j f hj
  rw [ho, hk1] at h1
  have ecs : (Value.agg l.toArray).cells.toList = l := rfl
  rw [ecs] at h1
  have hone : (l.drop j).take 1 = [l[j]'(by omega)] := by
    rw [List.drop_eq_getElem_cons (by omega)]; rfl
  have hys : j < ys.length := by omega
  rw [hone, List.getElem?_eq_getElem hys] at h1
  refine ⟨l[j]'(by omega), n', ys[j]'hys, List.getElem?_eq_getElem (by omega), h1, fun q hq => ?_⟩
  have e1 : d = .agg (ys.map (·.1)) := (Prod.ext_iff.1 hy).1
  rw [e1]
  simp only [DataW.weights, ht]
  refine DataW.weights_mem_each (j := j) (t := f.type) (d := (ys[j]'hys).1) ?_ ?_ q hq
  · simp [hj]
  · simp [hys]
