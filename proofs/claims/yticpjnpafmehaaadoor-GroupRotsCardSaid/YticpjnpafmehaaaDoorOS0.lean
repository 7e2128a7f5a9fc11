/-
  Arguments opened: a slice of structs whose fields are one cell each.
-/
import Derived.Test.YticpjnpafmehaaaDoorProg
import Derived.Test.YticpjnpafmehaaaDoorRows
import Derived.ProofKit
import Derived.OpenShut
import Derived.ChangeOld
import Derived.Below
import Derived.SizedLaws
import Derived.SliceStrings
import Derived.ShutString
import Derived.Lib.SmallJoins
import Derived.Deep.Slices
import Derived.Deep.Fields
import Derived.ChangeSame
namespace Go.Proofs.YticpjnpafmehaaaDoor.OS
open Go.ChangeShapes Go.WideShapes Go.ChangeAt Go.RowKit Go.Joins Go.Deep
set_option linter.unusedVariables false
set_option linter.unusedSimpArgs false

theorem int_bounds {x : Int} (h : (Lit.int .i64 x).wf = true) : -9223372036854775808 ≤ x ∧ x ≤ 9223372036854775807 := by
  simp [Lit.wf, IntKind.min, IntKind.max, IntKind.signed, IntKind.bits] at h
  exact ⟨by omega, by omega⟩

theorem own : ownKnob Tryd.prog.godebug = none := by kernel_rfl
theorem laidOut : laidOutB Tryd.prog = true := by kernel_rfl

section
variable {H : Type} {enc : TypeId × Value → H} {P : Program} {w : World} {base : Nat} {spare : Nat → Bool} {held : Bool}

theorem mem_weightsAll {e : TypeId} {n : Nat} {d : DataW H} : ∀ (l : List (DataW H)), d ∈ l → n ∈ d.weights P e → n ∈ DataW.weightsAll P e l
  | x :: l, h, hn => by
    simp only [DataW.weightsAll, List.mem_append]
    rcases List.mem_cons.1 h with rfl | h
    · exact .inl hn
    · exact .inr (mem_weightsAll l h hn)

/-- A text that a cell holds, and its weight. -/
theorem cell_str {t : TypeId} {u : Value} {n : Nat} {y : DataW H × List MemPlace} (ht : P.underlying t = some .string) (h : DataW.trod enc P w base spare held n t [u] = some y) : ∃ s : ByteArray, u = .string s ∧ s.size ∈ y.1.weights P t := by
  obtain ⟨s, hx, hy, _⟩ := DataW.trod_string ht h
  exact ⟨s, by simpa using hx, by rw [hy]; simp [DataW.weights]⟩

theorem open_structs {t e : TypeId} {fs : Array Field} {v : Value} {d : DataW H} {p : List MemPlace} {a0 : Option Addr} {len0 cap0 : Nat} (ht : P.underlying t = some (.slice e)) (he : P.underlying e = some (.struct fs))
    (hk : ∀ (j : Nat) (f : Field), fs[j]? = some f → f.offset = j ∧ P.cellsOf f.type = 1) (hC : P.cellsOf e = fs.size) (hpos : 0 < fs.size) (hv : v = .slice a0 len0 cap0)
    (h : DataW.Trod enc P w base spare held t v d p) :
    len0 ≤ maxLen ∧ (0 < len0 → ∃ b off, a0 = some ⟨b, off, none⟩ ∧ base ≤ b ∧ ∀ (i j : Nat) (f : Field), i < len0 → fs[j]? = some f → ∃ (u : Value) (n : Nat) (y : DataW H × List MemPlace), w.cell? ⟨b, off + (i * fs.size + j), none⟩ = some u ∧
      DataW.trod enc P w base spare held n f.type [u] = some y ∧ ∀ m ∈ y.1.weights P f.type, m ∈ d.weights P t) := by
  obtain ⟨fuel, hf⟩ := h
  subst hv
  rcases open_slice ht hf with ⟨hcs, _⟩ | ⟨a, len, cap, m, n, D, Pl, hcs, hb, hl, hm, hmm, hx, hi⟩
  · simp [Value.cells] at hcs
    obtain ⟨rfl, rfl, rfl⟩ := hcs
    exact ⟨Nat.zero_le _, fun h => absurd h (by omega)⟩
  · simp [Value.cells] at hcs
    obtain ⟨rfl, rfl, rfl⟩ := hcs
    refine ⟨Nat.le_trans hl hm, fun h0 => ?_⟩
    have hlm : len0 ≤ m := by rw [hmm]; split <;> omega
    have hd : d = _ := (Prod.ext_iff.1 hx).1
    have key : ∀ (i j : Nat) (f : Field), i < len0 → fs[j]? = some f → ∃ (u : Value) (n : Nat) (y : DataW H × List MemPlace), w.cell? (a.add (i * fs.size + j)) = some u ∧
        DataW.trod enc P w base spare held n f.type [u] = some y ∧ ∀ m ∈ y.1.weights P f.type, m ∈ d.weights P t := by
      intro i j f hi' hfj
      have hj : j < fs.size := (Array.getElem?_eq_some_iff.1 hfj).1
      obtain ⟨cs', hc, ht'⟩ := hi i (by omega)
      rw [hC] at hc
      obtain ⟨ys, n', hn', hy, hlen, hyl, hff⟩ := DataW.trod_struct he ht'
      obtain ⟨_, hcl, hat⟩ := World.cells?_some hc
      obtain ⟨ho, hk1⟩ := hk j f hfj
      have h1 := hff j f hfj
      rw [ho, hk1] at h1
      have hone' : (cs'.drop j).take 1 = [cs'[j]'(by omega)] := by
        rw [List.drop_eq_getElem_cons (by omega)]
        rfl
      rw [hone', List.getElem?_eq_getElem (by omega)] at h1
      refine ⟨cs'[j]'(by omega), n', ys[j]'(by omega), ?_, h1, fun q hq => ?_⟩
      · rw [← Go.Deep.add_add, hat j hj, List.getElem?_eq_getElem (by omega)]
      · have e1 : D i = .agg (ys.map (·.1)) := (Prod.ext_iff.1 hy).1
        have h2 : q ∈ (D i).weights P e := by
          rw [e1]
          simp only [DataW.weights, he]
          refine DataW.weights_mem_each (j := j) (t := f.type) (d := (ys[j]'(by omega)).1) ?_ ?_ q hq
          · simp [hfj]
          · simp [show j < ys.length by omega]
        rw [hd]
        simp only [DataW.weights, ht]
        exact List.mem_cons_of_mem _ (List.mem_append_left _ (mem_weightsAll _ (List.mem_map.2 ⟨i, List.mem_range.2 hi', rfl⟩) h2))
    obtain ⟨b, off, spot⟩ := a
    obtain ⟨x, _, _, hx', _⟩ := key 0 0 fs[0] h0 (Array.getElem?_eq_getElem hpos)
    have hspot : spot = none := by simpa [Addr.add] using World.cell?_spot hx'
    subst hspot
    refine ⟨b, off, rfl, hb, fun i j f hi' hj => ?_⟩
    obtain ⟨u, n2, y, hx, h2, h3⟩ := key i j f hi' hj
    refine ⟨u, n2, y, ?_, h2, h3⟩
    have e : (⟨b, off, none⟩ : Addr).add (i * fs.size + j) = ⟨b, off + (i * fs.size + j), none⟩ := by
      simp [Addr.add]
    rwa [e] at hx

theorem structfields {fs : Array Field} (h : (fs.toList.zipIdx.all fun x => decide (x.1.offset = x.2) && decide (P.cellsOf x.1.type = 1)) = true) : ∀ (j : Nat) (f : Field), fs[j]? = some f → f.offset = j ∧ P.cellsOf f.type = 1 := by
  intro j f hj
  have h1 : (f, j) ∈ fs.toList.zipIdx := List.mem_zipIdx_iff_getElem?.2 (by simpa using hj)
  have h2 := List.all_eq_true.1 h _ h1
  simpa using h2

/-- A number that a cell holds. -/
theorem cell_int {t : TypeId} {k : IntKind} {u : Value} {n : Nat} {y : DataW H × List MemPlace} (ht : P.underlying t = some (.int k)) (h : DataW.trod enc P w base spare held n t [u] = some y) : ∃ x : Int, u = .int k x ∧ (Lit.int k x).wf = true := by
  obtain ⟨x, hx, _, wx⟩ := DataW.trod_int ht h
  exact ⟨x, by simpa using hx, wx⟩

end
end Go.Proofs.YticpjnpafmehaaaDoor.OS
