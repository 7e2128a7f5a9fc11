/-
  Groups among the arguments, opened: by value, and a slice of them.
-/
import Derived.Test.YticpjnpafmehaaaDoorOS1
import Derived.Test.YticpjnpafmehaaaDoorUx0
namespace Go.Proofs.YticpjnpafmehaaaDoor.U
open Go.ChangeShapes Go.WideShapes Go.ChangeAt Go.RowKit Go.Joins Go.Deep Go.Proofs.YticpjnpafmehaaaDoor.OS
open Go.Proofs.YticpjnpafmehaaaDoorW.PrintWords
set_option linter.unusedVariables false
set_option linter.unusedSimpArgs false

instance : Inhabited S39 := ⟨z39⟩

section
variable {H : Type} {enc : TypeId × Value → H} {P : Program} {w : World} {base : Nat} {spare : Nat → Bool} {held : Bool}

theorem add_zero' (a : Addr) : a.add 0 = a := by
  unfold Addr.add
  obtain ⟨b, o, s⟩ := a
  cases s <;> rfl

/-- A row of elements of one cell, that a cell's slice leads to. -/
theorem trod_row {α : Type} [Inhabited α] (d : Kd α) (mk : α → Value) (hsz : d.sz = 1) (hK : ∀ x, d.K w x [mk x]) {t e : TypeId} {v : Value} {fuel : Nat} {X : DataW H × List MemPlace} (ht : P.underlying t = some (.slice e)) (hc : P.cellsOf e = 1) (Q : α → Prop)
    (hopen : ∀ (u : Value) (n : Nat) (y : DataW H × List MemPlace), (∀ m ∈ y.1.weights P e, m ∈ X.1.weights P t) → DataW.trod enc P w base spare held n e [u] = some y → ∃ x, u = mk x ∧ Q x)
    (h : DataW.trod enc P w base spare held fuel t [v] = some X) :
    ∃ (A : Option Addr) (c : Nat) (l : List α), v = .slice A l.length c ∧ d.C w A l.length l ∧ l.length ≤ c ∧ l.length ≤ 9223372036854775807 ∧ ∀ x ∈ l, Q x := by
  rcases open_slice ht h with ⟨hcs, _⟩ | ⟨a, len, cap, m, n, D, Pl, hcs, hb, hl, hm, hmm, hx, hi⟩
  · have hv : v = .slice none 0 0 := by simpa using hcs
    subst hv
    exact ⟨none, 0, [], rfl, ⟨rfl, by simp, fun h => absurd h (by simp)⟩, Nat.le_refl _, by simp, by simp⟩
  · have hv : v = .slice (some a) len cap := by simpa using hcs
    subst hv
    unfold maxLen at hm
    have hlm : len ≤ m := by rw [hmm]; split <;> omega
    obtain ⟨f, hf⟩ := choose_lt (α := α) (n := len) (p := fun i x => w.cell? (a.add i) = some (mk x) ∧ Q x) (fun i hi' => by
      obtain ⟨cs', hcc, ht'⟩ := hi i (by omega)
      rw [hc] at hcc
      obtain ⟨_, hcl, hat⟩ := World.cells?_some hcc
      obtain ⟨u, hu⟩ : ∃ u, cs' = [u] := by
        match cs', hcl with
        | [u], _ => exact ⟨u, rfl⟩
      subst hu
      have h1 := hat 0 (by omega)
      obtain ⟨x, rfl, hq⟩ := hopen u n _ (fun q hq => by
        have e1 : X.1 = _ := (Prod.ext_iff.1 hx).1
        rw [e1]
        simp only [DataW.weights, ht]
        exact List.mem_cons_of_mem _ (List.mem_append_left _ (mem_weightsAll _ (List.mem_map.2 ⟨i, List.mem_range.2 hi', rfl⟩) hq))) ht'
      refine ⟨x, ?_, hq⟩
      rw [Nat.mul_one, add_zero'] at h1
      simpa using h1)
    have hlen : ((List.range len).map f).length = len := by simp
    refine ⟨some a, cap, (List.range len).map f, by rw [hlen], ⟨rfl, by rw [hlen]; omega, fun _ => ⟨a, rfl, fun j q hj => ?_⟩⟩, by omega, by omega, fun x hx' => ?_⟩
    · have hj' : j < len := by have := (List.getElem?_eq_some_iff.1 hj).1; simpa using this
      have hq : q = f j := by
        rw [List.getElem?_map, List.getElem?_range hj'] at hj; exact (Option.some.inj hj).symm
      subst hq
      refine ⟨[mk (f j)], by rw [hsz]; rfl, hK (f j), fun i u hu => ?_⟩
      have hi0 : i = 0 := by have := (List.getElem?_eq_some_iff.1 hu).1; simpa using this
      subst hi0
      obtain rfl : mk (f j) = u := by simpa using hu
      rw [hsz, Nat.mul_one, Nat.add_zero]
      exact (hf j hj').1
    · obtain ⟨j, hj, rfl⟩ := List.mem_map.1 hx'
      exact (hf j (List.mem_range.1 hj)).2

theorem row_ints {v : Value} {fuel : Nat} {X : DataW H × List MemPlace} (h : DataW.trod enc Tryd.prog w base spare held fuel 36 [v] = some X) :
    ∃ (A : Option Addr) (c : Nat) (l : List Int), v = .slice A l.length c ∧ (Kd.int .i64).C w A l.length l ∧ l.length ≤ c ∧ l.length ≤ 9223372036854775807 := by
  obtain ⟨A, c, l, h1, h2, h3, h4, _⟩ := trod_row (Kd.int .i64) (Value.int .i64) rfl (fun _ => rfl) Tryd.underlying36 (by kernel_rfl) (fun _ => True) (fun u n y _ hy => by
    obtain ⟨x, hx, _⟩ := cell_int Tryd.underlying3 hy
    exact ⟨x, hx, trivial⟩) h
  exact ⟨A, c, l, h1, h2, h3, h4⟩
theorem row_bools {v : Value} {fuel : Nat} {X : DataW H × List MemPlace} (h : DataW.trod enc Tryd.prog w base spare held fuel 37 [v] = some X) :
    ∃ (A : Option Addr) (c : Nat) (l : List Bool), v = .slice A l.length c ∧ Kd.bool.C w A l.length l ∧ l.length ≤ c ∧ l.length ≤ 9223372036854775807 := by
  obtain ⟨A, c, l, h1, h2, h3, h4, _⟩ := trod_row Kd.bool Value.bool rfl (fun _ => rfl) Tryd.underlying37 (by kernel_rfl) (fun _ => True) (fun u n y _ hy => by
    obtain ⟨x, hx, _⟩ := DataW.trod_bool Tryd.underlying4 hy
    exact ⟨x, by simpa using hx, trivial⟩) h
  exact ⟨A, c, l, h1, h2, h3, h4⟩
theorem row_strs {v : Value} {fuel : Nat} {X : DataW H × List MemPlace} (N : Nat) (hN : ∀ m ∈ X.1.weights Tryd.prog 22, m ≤ N) (h : DataW.trod enc Tryd.prog w base spare held fuel 22 [v] = some X) :
    ∃ (A : Option Addr) (c : Nat) (l : List ByteArray), v = .slice A l.length c ∧ Kd.string.C w A l.length l ∧ l.length ≤ c ∧ l.length ≤ 9223372036854775807 ∧ ∀ s ∈ l, s.size ≤ N :=
  trod_row Kd.string Value.string rfl (fun _ => rfl) Tryd.underlying22 (by kernel_rfl) (fun s => s.size ≤ N) (fun u n y hw hy => by
    obtain ⟨s, hs, hz⟩ := cell_str Tryd.underlying9 hy
    exact ⟨s, hs, hN _ (hw _ hz)⟩) h

set_option maxRecDepth 100000 in
/-- A group by value. -/
theorem open_group {r : Reach} {b0 : Nat} {v : Value} {d : DataW H} {p : List MemPlace} (hsz : ∀ n ∈ d.weights Tryd.prog 39, n ≤ 140737488351232) (hv : Value.okWide Tryd.prog w r b0 39 v) (h : DataW.Trod enc Tryd.prog w base spare held 39 v d p) :
    ∃ (x0 : Int) (A1 : Option Addr) (c1 : Nat) (l1 : List Int) (A2 : Option Addr) (c2 : Nat) (l2 : List Bool) (A3 : Option Addr) (c3 : Nat) (l3 : List ByteArray), v = .agg #[.int .i64 x0, .slice A1 l1.length c1, .slice A2 l2.length c2, .slice A3 l3.length c3] ∧
      ((Kd.int .i64).C w A1 l1.length l1 ∧ l1.length ≤ c1) ∧ (Kd.bool.C w A2 l2.length l2 ∧ l2.length ≤ c2) ∧ (Kd.string.C w A3 l3.length l3 ∧ l3.length ≤ c3) ∧ ∀ s ∈ l3, s.size ≤ 140737488351232 := by
  obtain ⟨l, rfl, hl, hc⟩ := open_agg (fs := _) Tryd.underlying39 (structfields (by kernel_rfl)) (by kernel_rfl) hv h
  obtain ⟨u0, n0, y0, hc0, ht0, hw0⟩ := hc 0 _ rfl
  obtain ⟨u1, n1, y1, hc1, ht1, hw1⟩ := hc 1 _ rfl
  obtain ⟨u2, n2, y2, hc2, ht2, hw2⟩ := hc 2 _ rfl
  obtain ⟨u3, n3, y3, hc3, ht3, hw3⟩ := hc 3 _ rfl
  obtain ⟨x0, rfl, -⟩ := cell_int Tryd.underlying3 ht0
  obtain ⟨A1, c1, l1, rfl, g1, g2, g3⟩ := row_ints ht1
  obtain ⟨A2, c2, l2, rfl, g4, g5, g6⟩ := row_bools ht2
  obtain ⟨A3, c3, l3, rfl, g7, g8, g9, g10⟩ := row_strs 140737488351232 (fun m hm => hsz _ (hw3 _ hm)) ht3
  refine ⟨x0, A1, c1, l1, A2, c2, l2, A3, c3, l3, ?_, ⟨g1, g2⟩, ⟨g4, g5⟩, ⟨g7, g8⟩, g10⟩
  have hl4 : l.length = 4 := hl
  match l, hl4 with
  | [a, b, c, d], _ =>
    simp only [List.getElem?_cons_zero, List.getElem?_cons_succ, Option.some.injEq] at hc0 hc1 hc2 hc3
    rw [hc0, hc1, hc2, hc3]

set_option maxRecDepth 100000 in
theorem open_groups {v : Value} {d : DataW H} {p : List MemPlace} {r : Reach} {b0 : Nat} (hsz : ∀ n ∈ d.weights Tryd.prog 56, n ≤ 140737488351232)
    (hv : Value.okWide Tryd.prog w r b0 56 v) (h : DataW.Trod enc Tryd.prog w base spare held 56 v d p) :
    ∃ (A : Option Addr) (c : Nat) (l : List S39), v = .slice A l.length c ∧ Kd.C k39 w A l.length l ∧ l.length ≤ c ∧ l.length ≤ 9223372036854775807 ∧ ∀ x ∈ l, ∀ s ∈ x.f3, s.size ≤ 140737488351232 := by
  obtain ⟨a, len, cap, rfl⟩ := okWide_slice Tryd.underlying56 hv
  obtain ⟨hm, ho⟩ := open_structs (fs := _) Tryd.underlying56 Tryd.underlying39 (structfields (by kernel_rfl)) (by kernel_rfl) (by decide) rfl h
  unfold maxLen at hm
  have hcap : len ≤ cap := by
    obtain ⟨fuel, hf⟩ := h
    rcases open_slice Tryd.underlying56 hf with ⟨hcs, _⟩ | ⟨a', len', cap', m, n, D, Pl, hcs, hb, hl, hm', hmm, hx, hi⟩
    · simp [Value.cells] at hcs
      omega
    · simp [Value.cells] at hcs
      omega
  by_cases h0 : len = 0
  · subst h0
    refine ⟨a, cap, [], rfl, ⟨rfl, by simp, fun h => absurd h (by simp)⟩, by simp, by simp, by simp⟩
  · obtain ⟨b, off, rfl, _, hc⟩ := ho (by omega)
    obtain ⟨f, hf⟩ := choose_lt (α := S39) (n := len) (p := fun i x => (∃ cs : List Value, cs.length = 4 ∧ k39.K w x cs ∧ ∀ j u, cs[j]? = some u → w.cell? ⟨b, off + (i * 4 + j), none⟩ = some u) ∧ ∀ s ∈ x.f3, s.size ≤ 140737488351232) (fun i hi => by
      obtain ⟨u0, n0, y0, hc0, ht0, hw0⟩ := hc i 0 _ hi rfl
      obtain ⟨u1, n1, y1, hc1, ht1, hw1⟩ := hc i 1 _ hi rfl
      obtain ⟨u2, n2, y2, hc2, ht2, hw2⟩ := hc i 2 _ hi rfl
      obtain ⟨u3, n3, y3, hc3, ht3, hw3⟩ := hc i 3 _ hi rfl
      obtain ⟨x0, rfl, -⟩ := cell_int Tryd.underlying3 ht0
      obtain ⟨A1, c1, l1, rfl, g1, g2, g3⟩ := row_ints ht1
      obtain ⟨A2, c2, l2, rfl, g4, g5, g6⟩ := row_bools ht2
      obtain ⟨A3, c3, l3, rfl, g7, g8, g9, g10⟩ := row_strs 140737488351232 (fun m hm => hsz _ (hw3 _ hm)) ht3
      refine ⟨⟨x0, l1, l2, l3⟩, ⟨[.int .i64 x0, .slice A1 l1.length c1, .slice A2 l2.length c2, .slice A3 l3.length c3], rfl, k39_mk w ⟨x0, l1, l2, l3⟩ g2 g1 g5 g4 g8 g7, fun j u hj => ?_⟩, g10⟩
      have hj4 : j < 4 := (List.getElem?_eq_some_iff.1 hj).1
      have hcase : j = 0 ∨ j = 1 ∨ j = 2 ∨ j = 3 := by omega
      rcases hcase with rfl | rfl | rfl | rfl
      · rw [← Option.some.inj hj]; exact hc0
      · rw [← Option.some.inj hj]; exact hc1
      · rw [← Option.some.inj hj]; exact hc2
      · rw [← Option.some.inj hj]; exact hc3)
    have hlen : ((List.range len).map f).length = len := by simp
    refine ⟨some ⟨b, off, none⟩, cap, (List.range len).map f, by rw [hlen], ?_, by omega, by omega, fun x hx => ?_⟩
    · refine ⟨rfl, by rw [hlen]; omega, fun _ => ⟨_, rfl, fun j q hj => ?_⟩⟩
      have hj' : j < len := by have := (List.getElem?_eq_some_iff.1 hj).1; simpa using this
      have hq : q = f j := by
        rw [List.getElem?_map, List.getElem?_range hj'] at hj; exact (Option.some.inj hj).symm
      subst hq
      obtain ⟨cs, h4, hk, hcell⟩ := (hf j hj').1
      refine ⟨cs, h4, hk, fun i u hu => ?_⟩
      have := hcell i u hu
      rw [Addr.add_lit]
      exact this
    · obtain ⟨j, hj, rfl⟩ := List.mem_map.1 hx
      exact (hf j (List.mem_range.1 hj)).2
end
end Go.Proofs.YticpjnpafmehaaaDoor.U
