/-
  A record by value among the arguments, opened.
-/
import Derived.Test.YtadpeopbfoppjaaDoorOS0
namespace Go.Proofs.YtadpeopbfoppjaaDoor.OS
open Go.ChangeShapes Go.WideShapes Go.ChangeAt Go.RowKit Go.Joins Go.Deep

section
variable {H : Type} {enc : TypeId × Value → H} {P : Program} {w : World} {base : Nat} {spare : Nat → Bool} {held : Bool}

/-- A struct whose fields are one cell each: each field's cell, what it reads as, its weight. -/
theorem open_agg {r : Reach} {b0 : Nat} {t : TypeId} {fs : Array Field} {v : Value} {d : DataW H} {p : List MemPlace} (ht : P.underlying t = some (.struct fs))
    (hk : ∀ (j : Nat) (f : Field), fs[j]? = some f → f.offset = j ∧ P.cellsOf f.type = 1) (hC : P.cellsOf t = fs.size) (hv : Value.okWide P w r b0 t v) (h : DataW.Trod enc P w base spare held t v d p) :
    ∃ l : List Value, v = .agg l.toArray ∧ l.length = fs.size ∧ ∀ (j : Nat) (f : Field), fs[j]? = some f → ∃ (u : Value) (n : Nat) (y : DataW H × List MemPlace), l[j]? = some u ∧ DataW.trod enc P w base spare held n f.type [u] = some y ∧ ∀ m ∈ y.1.weights P f.type, m ∈ d.weights P t := by
  simp only [Value.okWide, ht] at hv
  obtain ⟨cs, rfl, hsz, _⟩ := hv
  obtain ⟨fuel, hf⟩ := h
  obtain ⟨ys, n', hn', hy, hlen, hyl, hff⟩ := DataW.trod_struct ht hf
  obtain ⟨l⟩ := cs
  have hl : l.length = fs.size := by rw [← hC]; simpa using hsz
  refine ⟨l, rfl, hl, fun j f hj => ?_⟩
  have hjs : j < fs.size := (Array.getElem?_eq_some_iff.1 hj).1
  obtain ⟨ho, hk1⟩ := hk j f hj
  have h1 := hff j f hj
  rw [ho, hk1] at h1
  have ecs : (Value.agg l.toArray).cells.toList = l := rfl
  rw [ecs] at h1
  have hone : (l.drop j).take 1 = [l[j]'(by omega)] := by
    rw [List.drop_eq_getElem_cons (by omega)]; rfl
  have hys : j < ys.length := by omega
  rw [hone, List.getElem?_eq_getElem hys] at h1
  refine ⟨l[j]'(by omega), n', ys[j]'hys, List.getElem?_eq_getElem (by omega), h1, fun q hq => ?_⟩
  have e1 : d = .agg (ys.map (·.1)) := (Prod.ext_iff.1 hy).1
  rw [e1]
  simp only [DataW.weights, ht]
  refine DataW.weights_mem_each (j := j) (t := f.type) (d := (ys[j]'hys).1) ?_ ?_ q hq
  · simp [hj]
  · simp [hys]

set_option maxRecDepth 100000 in
theorem open_rec {r : Reach} {b0 : Nat} {v : Value} {d : DataW H} {p : List MemPlace} (hsz : ∀ n ∈ d.weights Tryd.prog 23, n ≤ 140737488351232) (hv : Value.okWide Tryd.prog w r b0 23 v) (h : DataW.Trod enc Tryd.prog w base spare held 23 v d p) :
    ∃ (x0 x1 x2 x3 x4 x5 : Int) (x6 : ByteArray), v = .agg #[.int .i64 x0, .int .i64 x1, .int .i64 x2, .int .i64 x3, .int .i64 x4, .int .i64 x5, .string x6] ∧ x6.size ≤ 140737488351232 := by
  obtain ⟨l, rfl, hl, hc⟩ := open_agg (fs := _) Tryd.underlying23 (structfields (by kernel_rfl)) (by kernel_rfl) hv h
  obtain ⟨u0, n0, y0, hc0, ht0, hw0⟩ := hc 0 _ rfl
  obtain ⟨u1, n1, y1, hc1, ht1, hw1⟩ := hc 1 _ rfl
  obtain ⟨u2, n2, y2, hc2, ht2, hw2⟩ := hc 2 _ rfl
  obtain ⟨u3, n3, y3, hc3, ht3, hw3⟩ := hc 3 _ rfl
  obtain ⟨u4, n4, y4, hc4, ht4, hw4⟩ := hc 4 _ rfl
  obtain ⟨u5, n5, y5, hc5, ht5, hw5⟩ := hc 5 _ rfl
  obtain ⟨u6, n6, y6, hc6, ht6, hw6⟩ := hc 6 _ rfl
  obtain ⟨x0, rfl, -⟩ := cell_int Tryd.underlying3 ht0
  obtain ⟨x1, rfl, -⟩ := cell_int Tryd.underlying3 ht1
  obtain ⟨x2, rfl, -⟩ := cell_int Tryd.underlying3 ht2
  obtain ⟨x3, rfl, -⟩ := cell_int Tryd.underlying3 ht3
  obtain ⟨x4, rfl, -⟩ := cell_int Tryd.underlying3 ht4
  obtain ⟨x5, rfl, -⟩ := cell_int Tryd.underlying3 ht5
  obtain ⟨x6, rfl, hz⟩ := cell_str Tryd.underlying9 ht6
  refine ⟨x0, x1, x2, x3, x4, x5, x6, ?_, hsz _ (hw6 _ hz)⟩
  have hl7 : l.length = 7 := hl
  match l, hl7, hc0, hc1, hc2, hc3, hc4, hc5, hc6 with
  | [a, b, c, d, e, f, g], _, hc0, hc1, hc2, hc3, hc4, hc5, hc6 =>
    simp at hc0 hc1 hc2 hc3 hc4 hc5 hc6
    subst hc0 hc1 hc2 hc3 hc4 hc5 hc6
    rfl
end
end Go.Proofs.YtadpeopbfoppjaaDoor.OS
