/-
  A slice of records among the arguments, opened.
-/
import Derived.Test.YtadpeopbfoppjaaDoorOS0
import Derived.Test.YtadpeopbfoppjaaDoorYx0
namespace Go.Proofs.YtadpeopbfoppjaaDoor.Y
open Go.ChangeShapes Go.WideShapes Go.ChangeAt Go.RowKit Go.Joins Go.Deep Go.Proofs.YtadpeopbfoppjaaDoor.OS
open Go.Proofs.YtadpeopbfoppjaaDoorW.PrintWords

instance : Inhabited S23 := ⟨z23⟩

section
variable {H : Type} {enc : TypeId × Value → H} {w : World} {base : Nat} {spare : Nat → Bool} {held : Bool}

set_option maxRecDepth 100000 in
theorem open_recs {v : Value} {d : DataW H} {p : List MemPlace} {r : Reach} {b0 : Nat} (hsz : ∀ n ∈ d.weights Tryd.prog 49, n ≤ 140737488351232)
    (hv : Value.okWide Tryd.prog w r b0 49 v) (h : DataW.Trod enc Tryd.prog w base spare held 49 v d p) :
    ∃ (A : Option Addr) (c : Nat) (l : List S23), v = .slice A l.length c ∧ Kd.C k23 w A l.length l ∧ l.length ≤ c ∧ l.length ≤ 9223372036854775807 ∧ ∀ x ∈ l, x.f6.size ≤ 140737488351232 := by
  obtain ⟨a, len, cap, rfl⟩ := okWide_slice Tryd.underlying49 hv
  obtain ⟨hm, ho⟩ := open_structs (fs := _) Tryd.underlying49 Tryd.underlying23 (structfields (by kernel_rfl)) (by kernel_rfl) (by decide) rfl h
  unfold maxLen at hm
  have hcap : len ≤ cap := by
    obtain ⟨fuel, hf⟩ := h
    rcases open_slice Tryd.underlying49 hf with ⟨hcs, _⟩ | ⟨a', len', cap', m, n, D, Pl, hcs, hb, hl, hm', hmm, hx, hi⟩
    · simp [Value.cells] at hcs
      omega
    · simp [Value.cells] at hcs
      omega
  by_cases h0 : len = 0
  · subst h0
    refine ⟨a, cap, [], rfl, ⟨rfl, by simp, fun h => absurd h (by simp)⟩, by simp, by simp, by simp⟩
  · obtain ⟨b, off, rfl, _, hc⟩ := ho (by omega)
    obtain ⟨f, hf⟩ := choose_lt (α := S23) (n := len) (p := fun i x => (∀ j u, [Value.int .i64 x.f0, .int .i64 x.f1, .int .i64 x.f2, .int .i64 x.f3, .int .i64 x.f4, .int .i64 x.f5, .string x.f6][j]? = some u → w.cell? ⟨b, off + (i * 7 + j), none⟩ = some u) ∧ x.f6.size ≤ 140737488351232) (fun i hi => by
      obtain ⟨u0, n0, y0, hc0, ht0, hw0⟩ := hc i 0 _ hi rfl
      obtain ⟨u1, n1, y1, hc1, ht1, hw1⟩ := hc i 1 _ hi rfl
      obtain ⟨u2, n2, y2, hc2, ht2, hw2⟩ := hc i 2 _ hi rfl
      obtain ⟨u3, n3, y3, hc3, ht3, hw3⟩ := hc i 3 _ hi rfl
      obtain ⟨u4, n4, y4, hc4, ht4, hw4⟩ := hc i 4 _ hi rfl
      obtain ⟨u5, n5, y5, hc5, ht5, hw5⟩ := hc i 5 _ hi rfl
      obtain ⟨u6, n6, y6, hc6, ht6, hw6⟩ := hc i 6 _ hi rfl
      obtain ⟨x0, rfl, -⟩ := cell_int Tryd.underlying3 ht0
      obtain ⟨x1, rfl, -⟩ := cell_int Tryd.underlying3 ht1
      obtain ⟨x2, rfl, -⟩ := cell_int Tryd.underlying3 ht2
      obtain ⟨x3, rfl, -⟩ := cell_int Tryd.underlying3 ht3
      obtain ⟨x4, rfl, -⟩ := cell_int Tryd.underlying3 ht4
      obtain ⟨x5, rfl, -⟩ := cell_int Tryd.underlying3 ht5
      obtain ⟨x6, rfl, hz⟩ := cell_str Tryd.underlying9 ht6
      refine ⟨⟨x0, x1, x2, x3, x4, x5, x6⟩, fun j u hj => ?_, hsz _ (hw6 _ hz)⟩
      have hj7 : j < 7 := (List.getElem?_eq_some_iff.1 hj).1
      have hcase : j = 0 ∨ j = 1 ∨ j = 2 ∨ j = 3 ∨ j = 4 ∨ j = 5 ∨ j = 6 := by omega
      rcases hcase with rfl | rfl | rfl | rfl | rfl | rfl | rfl
      · rw [← Option.some.inj hj]; exact hc0
      · rw [← Option.some.inj hj]; exact hc1
      · rw [← Option.some.inj hj]; exact hc2
      · rw [← Option.some.inj hj]; exact hc3
      · rw [← Option.some.inj hj]; exact hc4
      · rw [← Option.some.inj hj]; exact hc5
      · rw [← Option.some.inj hj]; exact hc6)
    have hlen : ((List.range len).map f).length = len := by simp
    refine ⟨some ⟨b, off, none⟩, cap, (List.range len).map f, by rw [hlen], ?_, by omega, by omega, fun x hx => ?_⟩
    · refine ⟨rfl, by rw [hlen]; omega, fun _ => ⟨_, rfl, fun j q hj => ?_⟩⟩
      have hj' : j < len := by have := (List.getElem?_eq_some_iff.1 hj).1; simpa using this
      have hq : q = f j := by
        rw [List.getElem?_map, List.getElem?_range hj'] at hj; exact (Option.some.inj hj).symm
      subst hq
      refine ⟨_, rfl, k23_mk w (f j), fun i u hu => ?_⟩
      have := (hf j hj').1 i u hu
      rw [Addr.add_lit]
      exact this
    · obtain ⟨j, hj, rfl⟩ := List.mem_map.1 hx
      exact (hf j (List.mem_range.1 hj)).2
end
end Go.Proofs.YtadpeopbfoppjaaDoor.Y
