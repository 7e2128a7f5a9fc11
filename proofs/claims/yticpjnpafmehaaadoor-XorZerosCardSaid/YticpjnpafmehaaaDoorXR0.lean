/-
  A slice of texts among the arguments, opened.
-/
import Derived.Test.YticpjnpafmehaaaDoorXx5
import Derived.Test.YticpjnpafmehaaaDoorRows
import Derived.ProofKit
import Derived.OpenShut
import Derived.ChangeOld
import Derived.Below
import Derived.SizedLaws
import Derived.SliceStrings
import Derived.ShutString
import Derived.Lib.SmallJoins
namespace Go.Proofs.YticpjnpafmehaaaDoor.XPlain
open Go.ChangeShapes Go.WideShapes Go.ChangeAt Go.RowKit Go.Joins
open Go.Proofs.YticpjnpafmehaaaDoorW.PrintWords

theorem int_bounds {x : Int} (h : (Lit.int .i64 x).wf = true) : -9223372036854775808 ≤ x ∧ x ≤ 9223372036854775807 := by
  simp [Lit.wf, IntKind.min, IntKind.max, IntKind.signed, IntKind.bits] at h
  exact ⟨by omega, by omega⟩

theorem own : ownKnob Tryd.prog.godebug = none := by kernel_rfl
theorem laidOut : laidOutB Tryd.prog = true := by kernel_rfl

section
variable {H : Type} {enc : TypeId × Value → H} {P : Program} {w : World} {base : Nat} {spare : Nat → Bool} {held : Bool}

theorem weightsAll_mem {e : TypeId} {n : Nat} {d : DataW H} : ∀ (l : List (DataW H)), d ∈ l → n ∈ d.weights P e → n ∈ DataW.weightsAll P e l
  | x :: l, h, hn => by
    simp only [DataW.weightsAll, List.mem_append]
    rcases List.mem_cons.1 h with rfl | h
    · exact .inl hn
    · exact .inr (weightsAll_mem l h hn)

theorem open_strs {t e : TypeId} {v : Value} {d : DataW H} {p : List MemPlace} {r : Reach} {b0 : Nat} (ht : P.underlying t = some (.slice e)) (he : P.underlying e = some .string) (hc : P.cellsOf e = 1) (hby : P.bytesOf e = 16)
    (hsz : ∀ n ∈ d.weights P t, n ≤ 140737488355328) (hv : Value.okWide P w r b0 t v) (h : DataW.Trod enc P w base spare held t v d p) :
    ∃ (A : Option Addr) (c : Nat) (l : List ByteArray), v = .slice A l.length c ∧ Kd.C Kd.string w A l.length l ∧ l.length ≤ c ∧ l.length ≤ 8796093022208 ∧ ∀ s ∈ l, s.size ≤ 140737488355328 := by
  obtain ⟨a0, len0, cap0, rfl⟩ := okWide_slice ht hv
  obtain ⟨fuel, hf⟩ := h
  rcases open_strings ht he hc hf with ⟨hcs, _⟩ | ⟨a, len, cap, ss, hcs, _, hl, hm, hz, hx, hcell, _⟩
  · simp [Value.cells] at hcs
    obtain ⟨rfl, rfl, rfl⟩ := hcs
    exact ⟨none, 0, [], rfl, ⟨rfl, by simp, fun h => absurd h (by simp)⟩, Nat.le_refl _, by simp, by simp⟩
  · simp [Value.cells] at hcs
    obtain ⟨rfl, rfl, rfl⟩ := hcs
    unfold maxLen at hm
    have hlz : len0 ≤ ss.length := by rw [hz]; split <;> omega
    have hlen : (ss.take len0).length = len0 := by simp; omega
    have hd : d = _ := (Prod.ext_iff.1 hx).1
    have hw1 := hsz (ss.length * 16) (by rw [hd]; simp [DataW.weights, ht, hby, strs]; exact .inl (by omega))
    refine ⟨some a, cap0, ss.take len0, by rw [hlen], ⟨rfl, by omega, fun _ => ⟨a, rfl, fun j q hj => ?_⟩⟩, by omega, by omega, fun s hs => ?_⟩
    · have hjl : j < len0 := by have := (List.getElem?_eq_some_iff.1 hj).1; omega
      refine ⟨[.string q], rfl, rfl, fun i u hu => ?_⟩
      have hi : i = 0 := by have := (List.getElem?_eq_some_iff.1 hu).1; simpa using this
      subst hi
      have e1 : u = .string q := by simpa using hu.symm
      subst e1
      have h1 := hcell j (by omega)
      show w.cell? (a.add (j * 1 + 0)) = _
      rw [show j * 1 + 0 = j by omega, h1]
      rw [List.getElem?_take_of_lt hjl] at hj
      rw [List.getD_eq_getElem?_getD, hj]
      rfl
    · have h1 := hsz s.data.toList.length (by
        rw [hd]
        simp only [DataW.weights, ht]
        refine List.mem_cons_of_mem _ (List.mem_append_left _ (weightsAll_mem _ (List.mem_map.2 ⟨s, hs, rfl⟩) ?_))
        simp [DataW.weights])
      exact h1
end
end Go.Proofs.YticpjnpafmehaaaDoor.XPlain
