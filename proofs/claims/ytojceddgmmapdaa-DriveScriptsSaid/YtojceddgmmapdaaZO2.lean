/-
  Slices of slices of numbers opened; a copy of a slice of numbers.
-/
import Derived.Test.YtojceddgmmapdaaZO
import Derived.Laws.AppendOwnNone
import Derived.SizedLaws
namespace Go.Proofs.Ytojceddgmmapdaa
open Go.ChangeShapes Go.WideShapes Go.ChangeAt Go.RowKit Go.Joins Go.Deep

/-- IntsAt, and the value is nil or bears an address. -/
def IntsS (w : World) (v : Value) (ls : List Int) (b : Nat) : Prop :=
  (v = .slice none 0 0 ∧ ls = []) ∨
  (∃ (ad : Addr) (c : Nat), v = .slice (some ad) ls.length c ∧ (0 < ls.length → ∃ off, ad = ⟨b, off, none⟩ ∧ b < w.heap.size ∧ ∀ j, j < ls.length → w.cell? ⟨b, off + j, none⟩ = some (.int .i64 (ls.getD j 0))))

theorem IntsS.at {w : World} {v : Value} {ls : List Int} {b : Nat} (h : IntsS w v ls b) : IntsAt w v ls b := by
  rcases h with ⟨rfl, rfl⟩ | ⟨ad, c, rfl, h⟩
  · exact ⟨none, 0, rfl, fun h => absurd h (by simp)⟩
  · exact ⟨some ad, c, rfl, fun h0 => by obtain ⟨off, rfl, h1, h2⟩ := h h0; exact ⟨off, rfl, h1, h2⟩⟩

theorem IntsS.mod {w w' : World} {v : Value} {ls : List Int} {b : Nat} {S : List Nat} (h : IntsS w v ls b) (hm : Mod S w w') (hb : b < w.heap.size → b ∉ S) : IntsS w' v ls b := by
  rcases h with h | ⟨ad, c, rfl, h⟩
  · exact .inl h
  · refine .inr ⟨ad, c, rfl, fun h0 => ?_⟩
    obtain ⟨off, rfl, h1, h2⟩ := h h0
    exact ⟨off, rfl, Nat.lt_of_lt_of_le h1 hm.size, fun j hj => (hm.cell h1 (hb h1)).trans (h2 j hj)⟩

section
variable {H : Type} {enc : TypeId × Value → H} {P : Program} {w : World} {base : Nat} {spare : Nat → Bool} {held : Bool}

theorem intsS_of_trod {t e : TypeId} {v : Value} {fuel : Nat} {x : DataW H × List MemPlace} (ht : P.underlying t = some (.slice e)) (he : P.underlying e = some (.int .i64)) (hc : P.cellsOf e = 1)
    (hby : P.bytesOf e = 8) (hsz : ∀ n ∈ x.1.weights P t, n ≤ 140737488355328)
    (h : DataW.trod enc P w base spare held fuel t [v] = some x) : ∃ (ls : List Int) (b : Nat), IntsS w v ls b ∧ ls.length * 8 ≤ 140737488355328 ∧ ∀ x ∈ ls, (Lit.int .i64 x).wf = true := by
  rcases open_ints ht he hc h with ⟨hcs, _⟩ | ⟨a, len, cap, zs, hcs, _, hl, hm, hz, hx, hcell, hwz⟩
  · simp at hcs
    subst hcs
    exact ⟨[], 0, .inl ⟨rfl, rfl⟩, by simp, by simp⟩
  · simp at hcs
    subst hcs
    unfold maxLen at hm
    have hlz : len ≤ zs.length := by rw [hz]; split <;> omega
    have hlen : (zs.take len).length = len := by simp; omega
    have hwt := hsz (zs.length * 8) (by rw [hx]; simp [DataW.weights, ht, hby, lits]; exact .inl (by omega))
    refine ⟨zs.take len, a.block, .inr ⟨a, cap, by rw [hlen], fun h0 => ?_⟩, by omega, fun x hx => hwz x (List.mem_of_mem_take hx)⟩
    obtain ⟨b, off, spot⟩ := a
    have h1 := hcell 0 (by omega)
    have hspot : spot = none := by simpa [Addr.add] using World.cell?_spot h1
    subst hspot
    have hadd : ∀ j, (⟨b, off, none⟩ : Addr).add j = ⟨b, off + j, none⟩ := by
      intro j; simp [Addr.add]
    refine ⟨off, rfl, World.block_lt_of_cell? _ _ h1, fun j hj => ?_⟩
    have hj' : j < len := by omega
    have := hcell j (by omega)
    rw [hadd] at this
    rw [this]
    simp [List.getD_eq_getElem?_getD, hj']

theorem mem_weightsAll {e : TypeId} {n : Nat} {d : DataW H} : ∀ (l : List (DataW H)), d ∈ l → n ∈ d.weights P e → n ∈ DataW.weightsAll P e l
  | x :: l, h, hn => by
    simp only [DataW.weightsAll, List.mem_append]
    rcases List.mem_cons.1 h with rfl | h
    · exact .inl hn
    · exact .inr (mem_weightsAll l h hn)

/-- A slice of slices of numbers: each element's cell, and what it reads as. -/
def IntssAt (w : World) (v : Value) (lss : List (List Int)) (b : Nat) : Prop :=
  ∃ (a : Option Addr) (c : Nat), v = .slice a lss.length c ∧ (0 < lss.length → ∃ off, a = some ⟨b, off, none⟩ ∧ b < w.heap.size ∧ ∀ j, j < lss.length →
    ∃ (u : Value) (g : Nat), w.cell? ⟨b, off + j, none⟩ = some u ∧ IntsS w u (lss.getD j []) g ∧ (lss.getD j []).length * 8 ≤ 140737488355328)

theorem open_intss {t t' e : TypeId} {v : Value} {d : DataW H} {p : List MemPlace} {r : Reach} {b0 : Nat} (ht : P.underlying t = some (.slice t')) (ht' : P.underlying t' = some (.slice e)) (he : P.underlying e = some (.int .i64)) (hc' : P.cellsOf t' = 1) (hc : P.cellsOf e = 1)
    (hby : P.bytesOf e = 8) (hsz : ∀ n ∈ d.weights P t, n ≤ 140737488355328) (hv : Value.okWide P w r b0 t v) (h : DataW.Trod enc P w base spare held t v d p) :
    ∃ (lss : List (List Int)) (b : Nat), IntssAt w v lss b ∧ lss.length ≤ 9223372036854775807 := by
  obtain ⟨a, len, cap, rfl⟩ := okWide_slice ht hv
  obtain ⟨fuel, hf⟩ := h
  rcases open_slice1 ht hc' hf with ⟨hcs, _⟩ | ⟨x, l, c, m, n, V, D, Pl, hcs, _, hl, hm, hmm, hx, hi⟩
  · simp [Value.cells] at hcs
    obtain ⟨rfl, rfl, rfl⟩ := hcs
    exact ⟨[], 0, ⟨none, 0, rfl, fun h => absurd h (by simp)⟩, by simp⟩
  · simp [Value.cells] at hcs
    obtain ⟨rfl, rfl, rfl⟩ := hcs
    unfold maxLen at hm
    have hlm : len ≤ m := by rw [hmm]; split <;> omega
    by_cases h0 : len = 0
    · subst h0
      exact ⟨[], 0, ⟨some x, cap, rfl, fun h => absurd h (by simp)⟩, by simp⟩
    · obtain ⟨b, off, spot⟩ := x
      have h1 := (hi 0 (by omega)).1
      have hspot : spot = none := by simpa [Addr.add] using World.cell?_spot h1
      subst hspot
      have hadd : ∀ j, (⟨b, off, none⟩ : Addr).add j = ⟨b, off + j, none⟩ := by
        intro j; simp [Addr.add]
      obtain ⟨f, hf'⟩ := choose_lt (α := List Int) (n := len) (p := fun i ls => ∃ g, IntsS w (V i) ls g ∧ ls.length * 8 ≤ 140737488355328) (fun i hi' => by
        obtain ⟨ls, g, h2, h3, _⟩ := intsS_of_trod ht' he hc hby (fun n hn => hsz n (by
          have hd : d = _ := (Prod.ext_iff.1 hx).1
          rw [hd]
          simp only [DataW.weights, ht]
          exact List.mem_cons_of_mem _ (List.mem_append_left _ (mem_weightsAll _ (List.mem_map.2 ⟨i, List.mem_range.2 hi', rfl⟩) hn)))) (hi i (by omega)).2
        exact ⟨ls, g, h2, h3⟩)
      refine ⟨(List.range len).map f, b, ⟨some ⟨b, off, none⟩, cap, by simp, fun _ => ⟨off, rfl, World.block_lt_of_cell? _ _ h1, fun j hj => ?_⟩⟩, by simp; omega⟩
      have hj' : j < len := by simpa using hj
      have e : ((List.range len).map f).getD j [] = f j := by simp [List.getD_eq_getElem?_getD, hj']
      rw [e]
      obtain ⟨g, h2, h3⟩ := hf' j hj'
      have hc1 := (hi j (by omega)).1
      rw [hadd] at hc1
      exact ⟨V j, g, hc1, h2, h3⟩
end

/-- What the call owns, as numbers. -/
theorem ints_of_own {w : World} {base : Nat} {e : TypeId} {v : Value} {n : Nat} {ls : List Int} (h : w.ownsRow base e 1 v n (ls.map (Value.int .i64))) : ∃ b, base ≤ b ∧ IntsAt w v ls b := by
  obtain ⟨hl, ⟨rfl, rfl⟩ | ⟨g, cap, cur, rfl, hg, hb, hle, _, hsz, htk⟩⟩ := h
  · have : ls = [] := by simpa using hl
    subst this
    exact ⟨base, Nat.le_refl _, ⟨none, 0, rfl, fun h => absurd h (by simp)⟩⟩
  · have hn : ls.length = n := by simpa using hl
    subst hn
    refine ⟨g, hg, ⟨some ⟨g, 0, none⟩, cap, rfl, fun _ => ⟨0, rfl, Blk.lt hb, fun j hj => ?_⟩⟩⟩
    have hb : Blk w g cur e := hb
    refine hb.cell ?_
    rw [Nat.zero_add, ← Array.getElem?_toList]
    have : (cur.toList.take (ls.length * 1))[j]? = some (.int .i64 (ls.getD j 0)) := by
      rw [htk]; simp [List.getD_eq_getElem?_getD, hj]
    rwa [List.getElem?_take_of_lt (by omega)] at this

/-- Old numbers, in a block that is none of the call's own. -/
theorem IntsS.apart {w w' : World} {v : Value} {ls : List Int} {b : Nat} (h : IntsS w v ls b) (hm : Mod [] w w') {rz : Nat} (hr : w.heap.size ≤ rz) : ∃ g, g ≠ rz ∧ IntsAt w' v ls g := by
  have h' := (h.mod hm (by simp)).at
  by_cases h0 : 0 < ls.length
  · refine ⟨b, ?_, h'⟩
    rcases h with ⟨_, rfl⟩ | ⟨ad, c, rfl, h⟩
    · simp at h0
    · obtain ⟨_, _, h1, _⟩ := h h0
      omega
  · obtain ⟨a, c, rfl, _⟩ := h'
    exact ⟨rz + 1, by omega, ⟨a, c, rfl, fun h => absurd h h0⟩⟩

theorem Try.infoI : (Try.prog.info? 3).map (fun i => (i.zero, i.size, i.bytes)) = some (some (.int .i64 0), 1, 8) := by kernel_rfl

/-- append([]int{}, old...): a copy that is the call's own. -/
theorem wpList_append_ints {ops : Array Oper} {rest : List Oper} {o : Oper} {a : Act} {Q : Exit → Act → World → Prop} {wc : World} (hgd : o.guard = none) (s x : Operand)
    (ho : o.op = .call { callee := .builtin .append, args := #[s, x], argTypes := #[41, 41] }) (hs : a.eval s = .slice (some ⟨wc.heap.size, 0, none⟩) 0 0)
    (u : Value) (ls : List Int) (g : Nat) (hx : a.eval x = u) (hu : IntsS wc u ls g) (hl : ls.length * 8 ≤ 140737488355328)
    (h : ∀ (v' : Value) (w' : World) (b' : Nat), wc.heap.size ≤ b' → IntsAt w' v' ls b' → Mod [] wc w' → wpList Try.prog ops Q rest (a.put o.dst v') w') :
    wpList Try.prog ops Q (o :: rest) a (wc.alloc (.cells #[] 3)) := by
  have hown : (wc.alloc (.cells #[] 3)).ownsRow wc.heap.size 3 1 (.slice (some ⟨wc.heap.size, 0, none⟩) 0 0) 0 [] :=
    ⟨rfl, .inr ⟨wc.heap.size, 0, #[], rfl, Nat.le_refl _, Blk.new wc #[] 3, Nat.le_refl _, Nat.zero_le _, rfl, rfl⟩⟩
  obtain ⟨i0, hi, hz0, hz1, hz2⟩ := info_parts Try.infoI
  have hm0 : Mod [] wc (wc.alloc (.cells #[] 3)) := (Mod.refl [] wc).alloc _
  rcases hu with ⟨rfl, rfl⟩ | ⟨ad, c, rfl, hrow⟩
  · refine wpList_append_own_none hgd s x 41 ho wc.heap.size 3 i0 1 Try.underlying41 hi _ _ _ hs hown hx ?_
    exact h _ _ wc.heap.size (Nat.le_refl _) ⟨some ⟨wc.heap.size, 0, none⟩, 0, rfl, fun h => absurd h (by simp)⟩ hm0
  · have hnews : ∀ (j : Nat) (u : Value), (ls.map (Value.int .i64))[j]? = some u → (wc.alloc (.cells #[] 3)).cell? (ad.add j) = some u := by
      intro j u hj
      have hjl : j < ls.length := by simpa using (List.getElem?_eq_some_iff.1 hj).1
      obtain ⟨off, rfl, h1, h2⟩ := hrow (by omega)
      have e : (⟨g, off, none⟩ : Addr).add j = ⟨g, off + j, none⟩ := by simp [Addr.add]
      rw [e, hm0.cell h1 (by simp), h2 j hjl, ← hj]
      simp [List.getD_eq_getElem?_getD, hjl]
    have hone : ∀ u ∈ ls.map (Value.int .i64), u.oneCell' = true := by
      intro u hu
      obtain ⟨z, _, rfl⟩ := List.mem_map.1 hu
      rfl
    refine wpList_append_own _ hgd s x 41 ho wc.heap.size 3 i0 _ 1 8 Try.underlying41 hi hz0 hz1 hz2 rfl (by decide) _ _ _ hs hown ad ls.length c (ls.map (Value.int .i64)) hx (by simp) hnews hone (by unfold maxLen; omega) (by omega) (by simp) ?_
    intro v' w' hown' hgrow _
    rw [Nat.zero_add, List.nil_append] at hown'
    obtain ⟨b', hb', hv'⟩ := ints_of_own hown'
    have hgrow : (wc.alloc (.cells #[] 3)).grownBy w' (some wc.heap.size) := hgrow
    have hm : Mod [wc.heap.size] wc w' := ((Mod.refl _ _).alloc _).trans' ⟨hgrow.os, hgrow.tape, hgrow.output, hgrow.size, fun k hk hS => hgrow.block k hk (by intro e; injection e with e; subst e; simp at hS)⟩
    exact h _ _ b' hb' hv' (hm.mono (fun i hi hS => by simp at hS; omega))

end Go.Proofs.Ytojceddgmmapdaa
