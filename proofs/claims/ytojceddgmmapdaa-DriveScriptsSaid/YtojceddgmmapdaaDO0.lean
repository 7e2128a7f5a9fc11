/-
  A slice of structs opened: each field's cell, what it reads as, its weight.
  A slice of the drive laws' acts opened.
-/
import Derived.Test.YtojceddgmmapdaaZO2
import Derived.Test.YtojceddgmmapdaaDT
namespace Go.Proofs.Ytojceddgmmapdaa
open Go.ChangeShapes Go.WideShapes Go.ChangeAt Go.RowKit Go.Joins Go.Deep

section
variable {H : Type} {enc : TypeId × Value → H} {P : Program} {w : World} {base : Nat} {spare : Nat → Bool} {held : Bool}

theorem open_structs {t e : TypeId} {fs : Array Field} {v : Value} {d : DataW H} {p : List MemPlace} {a0 : Option Addr} {len0 cap0 : Nat} (ht : P.underlying t = some (.slice e)) (he : P.underlying e = some (.struct fs))
    (hk : ∀ (j : Nat) (f : Field), fs[j]? = some f → f.offset = j ∧ P.cellsOf f.type = 1) (hC : P.cellsOf e = fs.size) (hpos : 0 < fs.size) (hv : v = .slice a0 len0 cap0)
    (h : DataW.Trod enc P w base spare held t v d p) :
    len0 ≤ maxLen ∧ (0 < len0 → ∃ b off, a0 = some ⟨b, off, none⟩ ∧ base ≤ b ∧ ∀ (i j : Nat) (f : Field), i < len0 → fs[j]? = some f → ∃ (u : Value) (n : Nat) (y : DataW H × List MemPlace), w.cell? ⟨b, off + (i * fs.size + j), none⟩ = some u ∧
      DataW.trod enc P w base spare held n f.type [u] = some y ∧ ∀ m ∈ y.1.weights P f.type, m ∈ d.weights P t) := by
  obtain ⟨fuel, hf⟩ := h
  subst hv
  rcases open_slice ht hf with ⟨hcs, _⟩ | ⟨a, len, cap, m, n, D, Pl, hcs, hb, hl, hm, hmm, hx, hi⟩
  · simp [Value.cells] at hcs
    obtain ⟨rfl, rfl, rfl⟩ := hcs
    exact ⟨Nat.zero_le _, fun h => absurd h (by omega)⟩
  · simp [Value.cells] at hcs
    obtain ⟨rfl, rfl, rfl⟩ := hcs
    refine ⟨Nat.le_trans hl hm, fun h0 => ?_⟩
    have hlm : len0 ≤ m := by rw [hmm]; split <;> omega
    have hd : d = _ := (Prod.ext_iff.1 hx).1
    have key : ∀ (i j : Nat) (f : Field), i < len0 → fs[j]? = some f → ∃ (u : Value) (n : Nat) (y : DataW H × List MemPlace), w.cell? (a.add (i * fs.size + j)) = some u ∧
        DataW.trod enc P w base spare held n f.type [u] = some y ∧ ∀ m ∈ y.1.weights P f.type, m ∈ d.weights P t := by
      intro i j f hi' hfj
      have hj : j < fs.size := (Array.getElem?_eq_some_iff.1 hfj).1
      obtain ⟨cs', hc, ht'⟩ := hi i (by omega)
      rw [hC] at hc
      obtain ⟨ys, n', hn', hy, hlen, hyl, hff⟩ := DataW.trod_struct he ht'
      obtain ⟨_, hcl, hat⟩ := World.cells?_some hc
      obtain ⟨ho, hk1⟩ := hk j f hfj
      have h1 := hff j f hfj
      rw [ho, hk1] at h1
      have hone' : (cs'.drop j).take 1 = [cs'[j]'(by omega)] := by
        rw [List.drop_eq_getElem_cons (by omega)]
        rfl
      rw [hone', List.getElem?_eq_getElem (by omega)] at h1
      refine ⟨cs'[j]'(by omega), n', ys[j]'(by omega), ?_, h1, fun q hq => ?_⟩
      · rw [← Go.Deep.add_add, hat j hj, List.getElem?_eq_getElem (by omega)]
      · have e1 : D i = .agg (ys.map (·.1)) := (Prod.ext_iff.1 hy).1
        have h2 : q ∈ (D i).weights P e := by
          rw [e1]
          simp only [DataW.weights, he]
          refine DataW.weights_mem_each (j := j) (t := f.type) (d := (ys[j]'(by omega)).1) ?_ ?_ q hq
          · simp [hfj]
          · simp [show j < ys.length by omega]
        rw [hd]
        simp only [DataW.weights, ht]
        exact List.mem_cons_of_mem _ (List.mem_append_left _ (mem_weightsAll _ (List.mem_map.2 ⟨i, List.mem_range.2 hi', rfl⟩) h2))
    obtain ⟨b, off, spot⟩ := a
    obtain ⟨x, _, _, hx', _⟩ := key 0 0 fs[0] h0 (Array.getElem?_eq_getElem hpos)
    have hspot : spot = none := by simpa [Addr.add] using World.cell?_spot hx'
    subst hspot
    refine ⟨b, off, rfl, hb, fun i j f hi' hj => ?_⟩
    obtain ⟨u, n2, y, hx, h2, h3⟩ := key i j f hi' hj
    refine ⟨u, n2, y, ?_, h2, h3⟩
    have e : (⟨b, off, none⟩ : Addr).add (i * fs.size + j) = ⟨b, off + (i * fs.size + j), none⟩ := by
      simp [Addr.add]
    rwa [e] at hx

theorem structfields {fs : Array Field} (h : (fs.toList.zipIdx.all fun x => decide (x.1.offset = x.2) && decide (P.cellsOf x.1.type = 1)) = true) : ∀ (j : Nat) (f : Field), fs[j]? = some f → f.offset = j ∧ P.cellsOf f.type = 1 := by
  intro j f hj
  have h1 : (f, j) ∈ fs.toList.zipIdx := List.mem_zipIdx_iff_getElem?.2 (by simpa using hj)
  have h2 := List.all_eq_true.1 h _ h1
  simpa using h2

/-- A number that a cell holds. -/
theorem cell_int {t : TypeId} {k : IntKind} {u : Value} {n : Nat} {y : DataW H × List MemPlace} (ht : P.underlying t = some (.int k)) (h : DataW.trod enc P w base spare held n t [u] = some y) : ∃ x : Int, u = .int k x ∧ (Lit.int k x).wf = true := by
  obtain ⟨x, hx, _, wx⟩ := DataW.trod_int ht h
  exact ⟨x, by simpa using hx, wx⟩

end
end Go.Proofs.Ytojceddgmmapdaa

namespace Go.Proofs.Ytojceddgmmapdaa
open Go.ChangeShapes Go.WideShapes Go.ChangeAt Go.RowKit Go.Joins Go.Deep

structure ActD where
  a0 : Int
  a1 : Int
  a2 : Int
  a3 : Int
  a4 : Int
  a5 : Int
  keep : List Int
  kv : Value

def ActD.no : ActD := ⟨0, 0, 0, 0, 0, 0, [], .bool false⟩

instance : Inhabited ActD := ⟨.no⟩

/-- The cells of act j, laid in block b from off on. -/
structure ActCells (w : World) (b off j : Nat) (x : ActD) : Prop where
  c0 : w.cell? ⟨b, off + j * 7, none⟩ = some (.int .i64 x.a0)
  c1 : w.cell? ⟨b, off + j * 7 + 1, none⟩ = some (.int .i64 x.a1)
  c2 : w.cell? ⟨b, off + j * 7 + 2, none⟩ = some (.int .i64 x.a2)
  c3 : w.cell? ⟨b, off + j * 7 + 3, none⟩ = some (.int .i64 x.a3)
  c4 : w.cell? ⟨b, off + j * 7 + 4, none⟩ = some (.int .i64 x.a4)
  c5 : w.cell? ⟨b, off + j * 7 + 5, none⟩ = some (.int .u8 x.a5)
  c6 : w.cell? ⟨b, off + j * 7 + 6, none⟩ = some x.kv

theorem ActCells.mod {w w' : World} {b off j : Nat} {x : ActD} (h : ActCells w b off j x) (hb : b < w.heap.size) (hm : Mod [] w w') : ActCells w' b off j x := by
  have e := fun o => hm.cell (o := o) hb (by simp)
  exact ⟨(e _).trans h.c0, (e _).trans h.c1, (e _).trans h.c2, (e _).trans h.c3, (e _).trans h.c4, (e _).trans h.c5, (e _).trans h.c6⟩

def ActsAt (w : World) (v : Value) (xs : List ActD) (b : Nat) : Prop :=
  ∃ (a : Option Addr) (c : Nat), v = .slice a xs.length c ∧ (0 < xs.length → ∃ off, a = some ⟨b, off, none⟩ ∧ b < w.heap.size ∧ ∀ j, j < xs.length → ActCells w b off j (xs.getD j .no) ∧ (∃ g, IntsS w (xs.getD j .no).kv (xs.getD j .no).keep g) ∧
    (xs.getD j .no).keep.length * 8 ≤ 140737488355328 ∧ (∀ y ∈ (xs.getD j .no).keep, -9223372036854775808 ≤ y ∧ y ≤ 9223372036854775807))

theorem act_cells {w : World} {v : Value} {xs : List ActD} {b : Nat} (h : ActsAt w v xs b) (k : Nat) (hk : k < xs.length) : ∃ (off cc : Nat) (a0 a1 a2 a3 a4 a5 : Int) (keep : List Int) (ka : Option Addr) (kl kc : Nat), v = .slice (some ⟨b, off, none⟩) xs.length cc ∧ xs.getD k .no = ⟨a0, a1, a2, a3, a4, a5, keep, .slice ka kl kc⟩ ∧ b < w.heap.size ∧
    ∀ w', Mod [] w w' → ActCells w' b off k ⟨a0, a1, a2, a3, a4, a5, keep, .slice ka kl kc⟩ := by
  obtain ⟨a, c, hv, h⟩ := h
  obtain ⟨off, rfl, hb, h⟩ := h (by omega)
  obtain ⟨h1, ⟨g, h2⟩, -⟩ := h k hk
  generalize xs.getD k .no = x at h1 h2
  obtain ⟨a0, a1, a2, a3, a4, a5, keep, kv⟩ := x
  obtain ⟨ka, kl, kc, rfl⟩ : ∃ ka kl kc, kv = .slice ka kl kc := by
    rcases h2 with ⟨h2, _⟩ | ⟨ad, c', h2, _⟩ <;> exact ⟨_, _, _, h2⟩
  exact ⟨off, c, a0, a1, a2, a3, a4, a5, keep, ka, kl, kc, hv, rfl, hb, fun w' hm => h1.mod hb hm⟩

section
variable {H : Type} {enc : TypeId × Value → H} {w : World} {base : Nat} {spare : Nat → Bool} {held : Bool}

set_option maxRecDepth 100000 in
theorem open_acts {v : Value} {d : DataW H} {p : List MemPlace} {r : Reach} {b0 : Nat} (hsz : ∀ n ∈ d.weights Try.prog 56, n ≤ 140737488355328)
    (hv : Value.okWide Try.prog w r b0 56 v) (h : DataW.Trod enc Try.prog w base spare held 56 v d p) :
    ∃ (xs : List ActD) (b : Nat), ActsAt w v xs b ∧ xs.length ≤ 9223372036854775807 := by
  obtain ⟨a, len, cap, rfl⟩ := okWide_slice Try.underlying56 hv
  obtain ⟨hm, ho⟩ := open_structs (fs := _) Try.underlying56 Try.underlying61 (structfields (by kernel_rfl)) (by kernel_rfl) (by decide) rfl h
  unfold maxLen at hm
  by_cases h0 : len = 0
  · subst h0
    exact ⟨[], 0, ⟨a, cap, rfl, fun h => absurd h (by simp)⟩, by simp⟩
  · obtain ⟨b, off, rfl, _, hc⟩ := ho (by omega)
    have hblt : b < w.heap.size := by
      obtain ⟨u, _, _, h1, _⟩ := hc 0 0 _ (by omega) rfl
      exact World.block_lt_of_cell? _ _ h1
    obtain ⟨f, hf⟩ := choose_lt (α := ActD) (n := len) (p := fun i x => ActCells w b off i x ∧ (∃ g, IntsS w x.kv x.keep g) ∧ x.keep.length * 8 ≤ 140737488355328 ∧ ∀ y ∈ x.keep, -9223372036854775808 ≤ y ∧ y ≤ 9223372036854775807) (fun i hi => by
      obtain ⟨u0, n0, y0, hc0, ht0, hw0⟩ := hc i 0 _ hi rfl
      obtain ⟨u1, n1, y1, hc1, ht1, hw1⟩ := hc i 1 _ hi rfl
      obtain ⟨u2, n2, y2, hc2, ht2, hw2⟩ := hc i 2 _ hi rfl
      obtain ⟨u3, n3, y3, hc3, ht3, hw3⟩ := hc i 3 _ hi rfl
      obtain ⟨u4, n4, y4, hc4, ht4, hw4⟩ := hc i 4 _ hi rfl
      obtain ⟨u5, n5, y5, hc5, ht5, hw5⟩ := hc i 5 _ hi rfl
      obtain ⟨u6, n6, y6, hc6, ht6, hw6⟩ := hc i 6 _ hi rfl
      obtain ⟨x0, rfl, -⟩ := cell_int Try.underlying3 ht0
      obtain ⟨x1, rfl, -⟩ := cell_int Try.underlying3 ht1
      obtain ⟨x2, rfl, -⟩ := cell_int Try.underlying3 ht2
      obtain ⟨x3, rfl, -⟩ := cell_int Try.underlying3 ht3
      obtain ⟨x4, rfl, -⟩ := cell_int Try.underlying3 ht4
      obtain ⟨x5, rfl, -⟩ := cell_int Try.underlying5 ht5
      obtain ⟨ls, g, h6, h7, h8⟩ := intsS_of_trod Try.underlying41 Try.underlying3 (by kernel_rfl) (by kernel_rfl) (fun n hn => hsz n (hw6 n hn)) ht6
      exact ⟨⟨x0, x1, x2, x3, x4, x5, ls, u6⟩, ⟨hc0, hc1, hc2, hc3, hc4, hc5, hc6⟩, ⟨g, h6⟩, h7, fun y hy => int_bounds (h8 y hy)⟩)
    refine ⟨(List.range len).map f, b, ⟨some ⟨b, off, none⟩, cap, by simp, fun _ => ⟨off, rfl, hblt, fun j hj => ?_⟩⟩, by simp; omega⟩
    have hj' : j < len := by simpa using hj
    have e : ((List.range len).map f).getD j .no = f j := by simp [List.getD_eq_getElem?_getD, hj']
    rw [e]
    exact hf j hj'

end
end Go.Proofs.Ytojceddgmmapdaa
