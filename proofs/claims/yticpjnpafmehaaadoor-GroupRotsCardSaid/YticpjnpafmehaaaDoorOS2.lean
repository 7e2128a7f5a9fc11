/-
  Four bytes by value among the arguments, opened.
-/
import Derived.Test.YticpjnpafmehaaaDoorOS1
namespace Go.Proofs.YticpjnpafmehaaaDoor.OS
open Go.ChangeShapes Go.WideShapes Go.ChangeAt Go.RowKit Go.Joins Go.Deep
set_option linter.unusedVariables false
set_option linter.unusedSimpArgs false

section
variable {H : Type} {enc : TypeId × Value → H} {P : Program} {w : World} {base : Nat} {spare : Nat → Bool} {held : Bool}

theorem open_arr4k {k : IntKind} {r : Reach} {b0 : Nat} {t e : TypeId} {v : Value} {d : DataW H} {p : List MemPlace} (ht : P.underlying t = some (.array 4 e)) (he : P.underlying e = some (.int k)) (hc : P.cellsOf e = 1) (hC4 : P.cellsOf t = 4)
    (hv : Value.okWide P w r b0 t v) (h : DataW.Trod enc P w base spare held t v d p) :
    ∃ x0 x1 x2 x3 : Int, v = .agg #[.int k x0, .int k x1, .int k x2, .int k x3] ∧ (Lit.int k x0).wf = true ∧ (Lit.int k x1).wf = true ∧ (Lit.int k x2).wf = true ∧ (Lit.int k x3).wf = true := by
  simp only [Value.okWide, ht] at hv
  obtain ⟨cs, rfl, hsz, _⟩ := hv
  obtain ⟨fuel, hf⟩ := h
  obtain ⟨xs, m, _, _, _, hlen, hx⟩ := DataW.trod_array ht hf
  obtain ⟨l⟩ := cs
  have hl : l.length = P.cellsOf t := by simpa using hsz
  rw [hc] at hx
  have h0 := hx 0 (by decide)
  have h1 := hx 1 (by decide)
  have h2 := hx 2 (by decide)
  have h3 := hx 3 (by decide)
  have key : ∀ i, i < 4 → ∃ y, DataW.trod enc P w base spare held m e (((Value.agg l.toArray).cells.toList.drop (i * 1)).take 1) = some y := by
    intro i hi
    have := hx i hi
    cases hxi : xs[i]? with
    | none =>
      have := List.getElem?_eq_none_iff.1 hxi
      omega
    | some y => exact ⟨y, by rw [this, hxi]⟩
  have get : ∀ i, i < 4 → ∃ x : Int, l[i]? = some (.int k x) ∧ (Lit.int k x).wf = true := by
    intro i hi
    obtain ⟨y, hy⟩ := key i hi
    obtain ⟨n, hn, _, wn⟩ := DataW.trod_int he hy
    refine ⟨n, ?_, wn⟩
    have e : (Value.agg l.toArray).cells.toList = l := rfl
    rw [e, Nat.mul_one] at hn
    have : (l.drop i)[0]? = some (.int k n) := by
      have h' : ((l.drop i).take 1)[0]? = some (.int k n) := by rw [hn]; rfl
      rwa [List.getElem?_take_of_lt (by decide)] at h'
    simpa using this
  obtain ⟨x0, e0, wx0⟩ := get 0 (by decide)
  obtain ⟨x1, e1, wx1⟩ := get 1 (by decide)
  obtain ⟨x2, e2, wx2⟩ := get 2 (by decide)
  obtain ⟨x3, e3, wx3⟩ := get 3 (by decide)
  have hl4 : l.length = 4 := hl.trans hC4
  refine ⟨x0, x1, x2, x3, ?_, wx0, wx1, wx2, wx3⟩
  match l, hl4, e0, e1, e2, e3 with
  | [a, b, c, d], _, e0, e1, e2, e3 =>
    simp at e0 e1 e2 e3
    subst e0 e1 e2 e3
    rfl


theorem u8_of_wf {x : Int} (h : (Lit.int .u8 x).wf = true) : ∃ y : UInt8, x = (y.toNat : Int) := by
  have hb : 0 ≤ x ∧ x < 256 := by
    have e1 : IntKind.u8.min = 0 := rfl
    have e2 : IntKind.u8.max = 255 := rfl
    simp [Lit.wf, e1, e2] at h
    omega
  refine ⟨UInt8.ofNat x.toNat, ?_⟩
  rw [UInt8.toNat_ofNat']
  omega
end
end Go.Proofs.YticpjnpafmehaaaDoor.OS
