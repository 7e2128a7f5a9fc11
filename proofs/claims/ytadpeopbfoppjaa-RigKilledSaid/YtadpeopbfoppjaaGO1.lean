/-
  A slice of the rig laws' acts opened.
-/
import Derived.Test.YtadpeopbfoppjaaDO0
import Derived.Test.YtadpeopbfoppjaaDA
namespace Go.Proofs.Ytadpeopbfoppjaa
open Go.ChangeShapes Go.WideShapes Go.ChangeAt Go.RowKit Go.Joins Go.Deep

structure ActD where
  a0 : Int
  a1 : Int
  a2 : Int
  a3 : Int
  a4 : Int
  a5 : Int
  keep : List Int
  kv : Value

def ActD.no : ActD := ⟨0, 0, 0, 0, 0, 0, [], .bool false⟩

instance : Inhabited ActD := ⟨.no⟩

/-- The cells of act j, laid in block b from off on. -/
structure ActCells (w : World) (b off j : Nat) (x : ActD) : Prop where
  c0 : w.cell? ⟨b, off + j * 7, none⟩ = some (.int .i64 x.a0)
  c1 : w.cell? ⟨b, off + j * 7 + 1, none⟩ = some (.int .i64 x.a1)
  c2 : w.cell? ⟨b, off + j * 7 + 2, none⟩ = some (.int .i64 x.a2)
  c3 : w.cell? ⟨b, off + j * 7 + 3, none⟩ = some (.int .i64 x.a3)
  c4 : w.cell? ⟨b, off + j * 7 + 4, none⟩ = some (.int .i64 x.a4)
  c5 : w.cell? ⟨b, off + j * 7 + 5, none⟩ = some (.int .u8 x.a5)
  c6 : w.cell? ⟨b, off + j * 7 + 6, none⟩ = some x.kv

theorem ActCells.mod {w w' : World} {b off j : Nat} {x : ActD} (h : ActCells w b off j x) (hb : b < w.heap.size) (hm : Mod [] w w') : ActCells w' b off j x := by
  have e := fun o => hm.cell (o := o) hb (by simp)
  exact ⟨(e _).trans h.c0, (e _).trans h.c1, (e _).trans h.c2, (e _).trans h.c3, (e _).trans h.c4, (e _).trans h.c5, (e _).trans h.c6⟩

def ActsAt (w : World) (v : Value) (xs : List ActD) (b : Nat) : Prop :=
  ∃ (a : Option Addr) (c : Nat), v = .slice a xs.length c ∧ (0 < xs.length → ∃ off, a = some ⟨b, off, none⟩ ∧ b < w.heap.size ∧ ∀ j, j < xs.length → ActCells w b off j (xs.getD j .no) ∧ (∃ g, IntsS w (xs.getD j .no).kv (xs.getD j .no).keep g) ∧
    (xs.getD j .no).keep.length * 8 ≤ 140737488355328 ∧ (∀ y ∈ (xs.getD j .no).keep, -9223372036854775808 ≤ y ∧ y ≤ 9223372036854775807))

theorem act_cells {w : World} {v : Value} {xs : List ActD} {b : Nat} (h : ActsAt w v xs b) (k : Nat) (hk : k < xs.length) : ∃ (off cc : Nat) (a0 a1 a2 a3 a4 a5 : Int) (keep : List Int) (ka : Option Addr) (kl kc : Nat), v = .slice (some ⟨b, off, none⟩) xs.length cc ∧ xs.getD k .no = ⟨a0, a1, a2, a3, a4, a5, keep, .slice ka kl kc⟩ ∧ b < w.heap.size ∧
    ∀ w', Mod [] w w' → ActCells w' b off k ⟨a0, a1, a2, a3, a4, a5, keep, .slice ka kl kc⟩ := by
  obtain ⟨a, c, hv, h⟩ := h
  obtain ⟨off, rfl, hb, h⟩ := h (by omega)
  obtain ⟨h1, ⟨g, h2⟩, -⟩ := h k hk
  generalize xs.getD k .no = x at h1 h2
  obtain ⟨a0, a1, a2, a3, a4, a5, keep, kv⟩ := x
  obtain ⟨ka, kl, kc, rfl⟩ : ∃ ka kl kc, kv = .slice ka kl kc := by
    rcases h2 with ⟨h2, _⟩ | ⟨ad, c', h2, _⟩ <;> exact ⟨_, _, _, h2⟩
  exact ⟨off, c, a0, a1, a2, a3, a4, a5, keep, ka, kl, kc, hv, rfl, hb, fun w' hm => h1.mod hb hm⟩

section
variable {H : Type} {enc : TypeId × Value → H} {w : World} {base : Nat} {spare : Nat → Bool} {held : Bool}

set_option maxRecDepth 100000 in
theorem open_acts {v : Value} {d : DataW H} {p : List MemPlace} {r : Reach} {b0 : Nat} (hsz : ∀ n ∈ d.weights Try.prog 38, n ≤ 140737488355328)
    (hv : Value.okWide Try.prog w r b0 38 v) (h : DataW.Trod enc Try.prog w base spare held 38 v d p) :
    ∃ (xs : List ActD) (b : Nat), ActsAt w v xs b ∧ xs.length ≤ 9223372036854775807 := by
  obtain ⟨a, len, cap, rfl⟩ := okWide_slice Try.underlying38 hv
  obtain ⟨hm, ho⟩ := open_structs (fs := _) Try.underlying38 Try.underlying42 (structfields (by kernel_rfl)) (by kernel_rfl) (by decide) rfl h
  unfold maxLen at hm
  by_cases h0 : len = 0
  · subst h0
    exact ⟨[], 0, ⟨a, cap, rfl, fun h => absurd h (by simp)⟩, by simp⟩
  · obtain ⟨b, off, rfl, _, hc⟩ := ho (by omega)
    have hblt : b < w.heap.size := by
      obtain ⟨u, _, _, h1, _⟩ := hc 0 0 _ (by omega) rfl
      exact World.block_lt_of_cell? _ _ h1
    obtain ⟨f, hf⟩ := choose_lt (α := ActD) (n := len) (p := fun i x => ActCells w b off i x ∧ (∃ g, IntsS w x.kv x.keep g) ∧ x.keep.length * 8 ≤ 140737488355328 ∧ ∀ y ∈ x.keep, -9223372036854775808 ≤ y ∧ y ≤ 9223372036854775807) (fun i hi => by
      obtain ⟨u0, n0, y0, hc0, ht0, hw0⟩ := hc i 0 _ hi rfl
      obtain ⟨u1, n1, y1, hc1, ht1, hw1⟩ := hc i 1 _ hi rfl
      obtain ⟨u2, n2, y2, hc2, ht2, hw2⟩ := hc i 2 _ hi rfl
      obtain ⟨u3, n3, y3, hc3, ht3, hw3⟩ := hc i 3 _ hi rfl
      obtain ⟨u4, n4, y4, hc4, ht4, hw4⟩ := hc i 4 _ hi rfl
      obtain ⟨u5, n5, y5, hc5, ht5, hw5⟩ := hc i 5 _ hi rfl
      obtain ⟨u6, n6, y6, hc6, ht6, hw6⟩ := hc i 6 _ hi rfl
      obtain ⟨x0, rfl, -⟩ := cell_int Try.underlying3 ht0
      obtain ⟨x1, rfl, -⟩ := cell_int Try.underlying3 ht1
      obtain ⟨x2, rfl, -⟩ := cell_int Try.underlying3 ht2
      obtain ⟨x3, rfl, -⟩ := cell_int Try.underlying3 ht3
      obtain ⟨x4, rfl, -⟩ := cell_int Try.underlying3 ht4
      obtain ⟨x5, rfl, -⟩ := cell_int Try.underlying5 ht5
      obtain ⟨ls, g, h6, h7, h8⟩ := intsS_of_trod Try.underlying40 Try.underlying3 (by kernel_rfl) (by kernel_rfl) (fun n hn => hsz n (hw6 n hn)) ht6
      exact ⟨⟨x0, x1, x2, x3, x4, x5, ls, u6⟩, ⟨hc0, hc1, hc2, hc3, hc4, hc5, hc6⟩, ⟨g, h6⟩, h7, fun y hy => int_bounds (h8 y hy)⟩)
    refine ⟨(List.range len).map f, b, ⟨some ⟨b, off, none⟩, cap, by simp, fun _ => ⟨off, rfl, hblt, fun j hj => ?_⟩⟩, by simp; omega⟩
    have hj' : j < len := by simpa using hj
    have e : ((List.range len).map f).getD j .no = f j := by simp [List.getD_eq_getElem?_getD, hj']
    rw [e]
    exact hf j hj'

end
end Go.Proofs.Ytadpeopbfoppjaa
