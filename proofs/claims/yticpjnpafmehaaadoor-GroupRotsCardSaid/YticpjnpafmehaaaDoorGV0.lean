/-
  The ground of corbellaw18.given's walk: two structs that it makes, five rows that it owns.
-/
import Derived.Test.YticpjnpafmehaaaDoorGP0
import Derived.Test.YticpjnpafmehaaaDoorWLast
import Derived.Deep.AppendLies
namespace Go.Proofs.YticpjnpafmehaaaDoor
open Go.RowKit
set_option linter.unusedVariables false
set_option linter.unusedSimpArgs false

/-- A row that is owned: where, how many elements, the room, the cells. -/
structure Rw where
  A : Option Addr
  n : Nat
  c : Nat
  xs : List Value
abbrev Rw.v (r : Rw) : Value := .slice r.A r.n r.c
def nilRw : Rw := ⟨none, 0, 0, []⟩
def Owns (w : World) (b e s : Nat) (r : Rw) : Prop := w.ownsRow b e s r.v r.n r.xs

theorem owns_nil (w : World) (b e s : Nat) : Owns w b e s nilRw := ⟨by simp [nilRw], .inl ⟨rfl, rfl⟩⟩
theorem Owns.lt {w : World} {b e s : Nat} {r : Rw} (h : Owns w b e s r) {k : Nat} (hk : r.v.ownBlock = some k) : b ≤ k ∧ k < w.heap.size ∧ ∃ C, w.heap[k]? = some (.cells C e (0, 0)) := by
  rcases h.2 with ⟨h1, _⟩ | ⟨g, cap, cur, h1, hb, hh, _⟩
  · rw [h1] at hk; cases hk
  · rw [h1] at hk
    obtain rfl : g = k := by simpa [Value.ownBlock] using hk
    refine ⟨hb, ?_, cur, hh⟩
    rcases Nat.lt_or_ge g w.heap.size with h' | h'
    · exact h'
    · rw [Array.getElem?_eq_none h'] at hh; cases hh
theorem Owns.move {w w' : World} {b e s : Nat} {r : Rw} (h : Owns w b e s r) (hm : ∀ k, r.v.ownBlock = some k → w'.heap[k]? = w.heap[k]?) : Owns w' b e s r := by
  refine ⟨h.1, ?_⟩
  rcases h.2 with h2 | ⟨g, cap, cur, h1, hb, hh, r'⟩
  · exact .inl h2
  · exact .inr ⟨g, cap, cur, h1, hb, (hm g (by rw [h1]; rfl)).trans hh, r'⟩
theorem Owns.alloc {w : World} {b e s : Nat} {r : Rw} (h : Owns w b e s r) (o : Obj) : Owns (w.alloc o) b e s r := h.move fun k hk => Below.heap_alloc _ _ _ (h.lt hk).2.1
theorem Owns.set {w : World} {b e s : Nat} {r : Rw} (h : Owns w b e s r) {p : Addr} (hp : p.block < b) (u : Value) : Owns (w.setCell p u) b e s r :=
  h.move fun k hk => Below.heap_setCell _ _ _ _ (by have := (h.lt hk).1; omega)
theorem Owns.ne {w : World} {b e s e' s' : Nat} {r r' : Rw} (h : Owns w b e s r) (h' : Owns w b e' s' r') (he : e ≠ e') {k : Nat} (hk : r.v.ownBlock = some k) : r'.v.ownBlock ≠ some k := fun hk' => by
  obtain ⟨_, _, C, h1⟩ := h.lt hk
  obtain ⟨_, _, C', h2⟩ := h'.lt hk'
  rw [h1] at h2
  injection h2 with h2
  injection h2 with _ h3
  exact he h3
theorem Owns.grown {w w' : World} {b e s : Nat} {r : Rw} (h : Owns w b e s r) {row : Option Nat} (hg : w.grownBy w' row) (hr : ∀ k, r.v.ownBlock = some k → row ≠ some k) : Owns w' b e s r :=
  h.move fun k hk => hg.block k (h.lt hk).2.1 (fun e => hr k hk e.symm)
theorem blk_grown' {w w' : World} {b : Nat} {C : Array Value} {E : TypeId} (h : Blk w b C E) {row : Option Nat} (hg : w.grownBy w' row) (hr : row ≠ some b) : Blk w' b C E := by
  unfold Blk
  rw [hg.block b h.lt (fun e => hr e.symm)]
  exact h

/-- given's state. -/
structure GT (g : Nat) (x : Array Value) (seq : Int) (qa qs qb qt qr : Value) (ra rs rb rt rr : Rw) (W w : World) : Prop where
  gW : g = W.heap.size
  hx : Blk w g x 39
  h2 : Blk w (g + 1) #[.int .i64 0, .slice none 0 0, .slice none 0 0] 42
  h3 : Blk w (g + 2) #[.int .i64 0, .slice none 0 0, .slice none 0 0, .slice none 0 0] 43
  ha : Blk w (g + 3) #[.int .i64 seq, qa, qs] 42
  hb : Blk w (g + 4) #[.int .i64 seq, qb, qt, qr] 43
  oa : Owns w (g + 5) 62 2 ra
  os : Owns w (g + 5) 9 1 rs
  ob : Owns w (g + 5) 3 1 rb
  ot : Owns w (g + 5) 4 1 rt
  oq : Owns w (g + 5) 9 1 rr
  ap : ∀ k, rs.v.ownBlock = some k → rr.v.ownBlock ≠ some k
  bel : Below W.heap.size W w

section
variable {g : Nat} {x : Array Value} {seq : Int} {qa qs qb qt qr : Value} {ra rs rb rt rr : Rw} {W w w' : World}
theorem GT.lt (h : GT g x seq qa qs qb qt qr ra rs rb rt rr W w) : g + 4 < w.heap.size := h.hb.lt
theorem GT.alloc (h : GT g x seq qa qs qb qt qr ra rs rb rt rr W w) (o : Obj) : GT g x seq qa qs qb qt qr ra rs rb rt rr W (w.alloc o) :=
  ⟨h.gW, h.hx.alloc o, h.h2.alloc o, h.h3.alloc o, h.ha.alloc o, h.hb.alloc o, h.oa.alloc o, h.os.alloc o, h.ob.alloc o, h.ot.alloc o, h.oq.alloc o, h.ap, h.bel.alloc (by have := h.lt; have := h.gW; omega) o⟩
theorem GT.drew (h : GT g x seq qa qs qb qt qr ra rs rb rt rr W w) : GT g x seq qa qs qb qt qr ra rs rb rt rr W w.drew :=
  ⟨h.gW, h.hx, h.h2, h.h3, h.ha, h.hb, h.oa, h.os, h.ob, h.ot, h.oq, h.ap, ⟨h.bel.os, h.bel.tape, h.bel.output, h.bel.size, h.bel.block⟩⟩
theorem GT.below (h : GT g x seq qa qs qb qt qr ra rs rb rt rr W w) (hw : Below w.heap.size w w') : GT g x seq qa qs qb qt qr ra rs rb rt rr W w' := by
  have hM := Mod.of_below hw []
  have own : ∀ {e s : Nat} {r : Rw}, Owns w (g + 5) e s r → Owns w' (g + 5) e s r := fun ho => ho.move fun k hk => hw.block k (ho.lt hk).2.1
  exact ⟨h.gW, hM.blk h.hx (by simp), hM.blk h.h2 (by simp), hM.blk h.h3 (by simp), hM.blk h.ha (by simp), hM.blk h.hb (by simp), own h.oa, own h.os, own h.ob, own h.ot, own h.oq, h.ap, h.bel.trans (hw.mono h.bel.size)⟩
theorem GT.bel_grown (h : GT g x seq qa qs qb qt qr ra rs rb rt rr W w) {row : Option Nat} (hg : w.grownBy w' row) (hr : ∀ k, row = some k → g + 5 ≤ k) : Below W.heap.size W w' :=
  h.bel.trans ⟨hg.os, hg.tape, hg.output, hg.size, fun k hk => hg.block k (by have := h.lt; have := h.gW; omega) (fun e => by have := hr k e.symm; have := h.gW; omega)⟩
theorem GT.blocks (h : GT g x seq qa qs qb qt qr ra rs rb rt rr W w) {row : Option Nat} (hg : w.grownBy w' row) (hr : ∀ k, row = some k → g + 5 ≤ k) :
    Blk w' g x 39 ∧ Blk w' (g + 1) #[.int .i64 0, .slice none 0 0, .slice none 0 0] 42 ∧ Blk w' (g + 2) #[.int .i64 0, .slice none 0 0, .slice none 0 0, .slice none 0 0] 43 ∧ Blk w' (g + 3) #[.int .i64 seq, qa, qs] 42 ∧ Blk w' (g + 4) #[.int .i64 seq, qb, qt, qr] 43 :=
  have far : ∀ b, b < g + 5 → row ≠ some b := fun b hb e => by have := hr b e; omega
  ⟨blk_grown' h.hx hg (far _ (by omega)), blk_grown' h.h2 hg (far _ (by omega)), blk_grown' h.h3 hg (far _ (by omega)), blk_grown' h.ha hg (far _ (by omega)), blk_grown' h.hb hg (far _ (by omega))⟩
theorem GT.appa (h : GT g x seq qa qs qb qt qr ra rs rb rt rr W w) {r' : Rw} (hg : w.grownBy w' ra.v.ownBlock) (ho : Owns w' (g + 5) 62 2 r') : GT g x seq qa qs qb qt qr r' rs rb rt rr W w' := by
  obtain ⟨b1, b2, b3, b4, b5⟩ := h.blocks hg (fun k hk => (h.oa.lt hk).1)
  exact ⟨h.gW, b1, b2, b3, b4, b5, ho, h.os.grown hg (fun k hk => h.os.ne h.oa (by decide) hk), h.ob.grown hg (fun k hk => h.ob.ne h.oa (by decide) hk), h.ot.grown hg (fun k hk => h.ot.ne h.oa (by decide) hk), h.oq.grown hg (fun k hk => h.oq.ne h.oa (by decide) hk), h.ap, h.bel_grown hg (fun k hk => (h.oa.lt hk).1)⟩
theorem GT.appb (h : GT g x seq qa qs qb qt qr ra rs rb rt rr W w) {r' : Rw} (hg : w.grownBy w' rb.v.ownBlock) (ho : Owns w' (g + 5) 3 1 r') : GT g x seq qa qs qb qt qr ra rs r' rt rr W w' := by
  obtain ⟨b1, b2, b3, b4, b5⟩ := h.blocks hg (fun k hk => (h.ob.lt hk).1)
  exact ⟨h.gW, b1, b2, b3, b4, b5, h.oa.grown hg (fun k hk => h.oa.ne h.ob (by decide) hk), h.os.grown hg (fun k hk => h.os.ne h.ob (by decide) hk), ho, h.ot.grown hg (fun k hk => h.ot.ne h.ob (by decide) hk), h.oq.grown hg (fun k hk => h.oq.ne h.ob (by decide) hk), h.ap, h.bel_grown hg (fun k hk => (h.ob.lt hk).1)⟩
theorem GT.appt (h : GT g x seq qa qs qb qt qr ra rs rb rt rr W w) {r' : Rw} (hg : w.grownBy w' rt.v.ownBlock) (ho : Owns w' (g + 5) 4 1 r') : GT g x seq qa qs qb qt qr ra rs rb r' rr W w' := by
  obtain ⟨b1, b2, b3, b4, b5⟩ := h.blocks hg (fun k hk => (h.ot.lt hk).1)
  exact ⟨h.gW, b1, b2, b3, b4, b5, h.oa.grown hg (fun k hk => h.oa.ne h.ot (by decide) hk), h.os.grown hg (fun k hk => h.os.ne h.ot (by decide) hk), h.ob.grown hg (fun k hk => h.ob.ne h.ot (by decide) hk), ho, h.oq.grown hg (fun k hk => h.oq.ne h.ot (by decide) hk), h.ap, h.bel_grown hg (fun k hk => (h.ot.lt hk).1)⟩
theorem GT.apps (h : GT g x seq qa qs qb qt qr ra rs rb rt rr W w) {r' : Rw} (hg : w.grownBy w' rs.v.ownBlock) (ho : Owns w' (g + 5) 9 1 r') (hl : ∀ k, r'.v.ownBlock = some k → rs.v.ownBlock = some k ∨ w.heap.size ≤ k) : GT g x seq qa qs qb qt qr ra r' rb rt rr W w' := by
  obtain ⟨b1, b2, b3, b4, b5⟩ := h.blocks hg (fun k hk => (h.os.lt hk).1)
  exact ⟨h.gW, b1, b2, b3, b4, b5, h.oa.grown hg (fun k hk => h.oa.ne h.os (by decide) hk), ho, h.ob.grown hg (fun k hk => h.ob.ne h.os (by decide) hk), h.ot.grown hg (fun k hk => h.ot.ne h.os (by decide) hk), h.oq.grown hg (fun k hk e => h.ap k e hk),
    fun k hk e => (hl k hk).elim (fun h1 => h.ap k h1 e) (fun h1 => by have := (h.oq.lt e).2.1; omega), h.bel_grown hg (fun k hk => (h.os.lt hk).1)⟩
theorem GT.appr (h : GT g x seq qa qs qb qt qr ra rs rb rt rr W w) {r' : Rw} (hg : w.grownBy w' rr.v.ownBlock) (ho : Owns w' (g + 5) 9 1 r') (hl : ∀ k, r'.v.ownBlock = some k → rr.v.ownBlock = some k ∨ w.heap.size ≤ k) : GT g x seq qa qs qb qt qr ra rs rb rt r' W w' := by
  obtain ⟨b1, b2, b3, b4, b5⟩ := h.blocks hg (fun k hk => (h.oq.lt hk).1)
  exact ⟨h.gW, b1, b2, b3, b4, b5, h.oa.grown hg (fun k hk => h.oa.ne h.oq (by decide) hk), h.os.grown hg (fun k hk e => h.ap k hk e), h.ob.grown hg (fun k hk => h.ob.ne h.oq (by decide) hk), h.ot.grown hg (fun k hk => h.ot.ne h.oq (by decide) hk), ho,
    fun k hk e => (hl k e).elim (fun h1 => h.ap k hk h1) (fun h1 => by have := (h.os.lt hk).2.1; omega), h.bel_grown hg (fun k hk => (h.oq.lt hk).1)⟩
theorem GT.stores (h : GT g x seq qa qs qb qt qr ra rs rb rt rr W w) (b i : Nat) (hb : g ≤ b ∧ b < g + 5) (v : Value) :
    Owns (w.setCell ⟨b, i, none⟩ v) (g + 5) 62 2 ra ∧ Owns (w.setCell ⟨b, i, none⟩ v) (g + 5) 9 1 rs ∧ Owns (w.setCell ⟨b, i, none⟩ v) (g + 5) 3 1 rb ∧ Owns (w.setCell ⟨b, i, none⟩ v) (g + 5) 4 1 rt ∧ Owns (w.setCell ⟨b, i, none⟩ v) (g + 5) 9 1 rr ∧ Below W.heap.size W (w.setCell ⟨b, i, none⟩ v) :=
  ⟨h.oa.set (p := ⟨b, i, none⟩) hb.2 v, h.os.set (p := ⟨b, i, none⟩) hb.2 v, h.ob.set (p := ⟨b, i, none⟩) hb.2 v, h.ot.set (p := ⟨b, i, none⟩) hb.2 v, h.oq.set (p := ⟨b, i, none⟩) hb.2 v, h.bel.setCell (by have := h.gW; show W.heap.size ≤ b; omega) v⟩
theorem GT.seta1 (h : GT g x seq qa qs qb qt qr ra rs rb rt rr W w) (v : Value) : GT g x seq v qs qb qt qr ra rs rb rt rr W (w.setCell ⟨g + 3, 1, none⟩ v) := by
  obtain ⟨o1, o2, o3, o4, o5, o6⟩ := h.stores (g + 3) 1 (by omega) v
  exact ⟨h.gW, h.hx.set_other (by show g + 3 ≠ g; omega) v, h.h2.set_other (by show g + 3 ≠ g + 1; omega) v, h.h3.set_other (by show g + 3 ≠ g + 2; omega) v, h.ha.set 1 v, h.hb.set_other (by show g + 3 ≠ g + 4; omega) v, o1, o2, o3, o4, o5, h.ap, o6⟩
theorem GT.seta2 (h : GT g x seq qa qs qb qt qr ra rs rb rt rr W w) (v : Value) : GT g x seq qa v qb qt qr ra rs rb rt rr W (w.setCell ⟨g + 3, 2, none⟩ v) := by
  obtain ⟨o1, o2, o3, o4, o5, o6⟩ := h.stores (g + 3) 2 (by omega) v
  exact ⟨h.gW, h.hx.set_other (by show g + 3 ≠ g; omega) v, h.h2.set_other (by show g + 3 ≠ g + 1; omega) v, h.h3.set_other (by show g + 3 ≠ g + 2; omega) v, h.ha.set 2 v, h.hb.set_other (by show g + 3 ≠ g + 4; omega) v, o1, o2, o3, o4, o5, h.ap, o6⟩
theorem GT.setb1 (h : GT g x seq qa qs qb qt qr ra rs rb rt rr W w) (v : Value) : GT g x seq qa qs v qt qr ra rs rb rt rr W (w.setCell ⟨g + 4, 1, none⟩ v) := by
  obtain ⟨o1, o2, o3, o4, o5, o6⟩ := h.stores (g + 4) 1 (by omega) v
  exact ⟨h.gW, h.hx.set_other (by show g + 4 ≠ g; omega) v, h.h2.set_other (by show g + 4 ≠ g + 1; omega) v, h.h3.set_other (by show g + 4 ≠ g + 2; omega) v, h.ha.set_other (by show g + 4 ≠ g + 3; omega) v, h.hb.set 1 v, o1, o2, o3, o4, o5, h.ap, o6⟩
theorem GT.setb2 (h : GT g x seq qa qs qb qt qr ra rs rb rt rr W w) (v : Value) : GT g x seq qa qs qb v qr ra rs rb rt rr W (w.setCell ⟨g + 4, 2, none⟩ v) := by
  obtain ⟨o1, o2, o3, o4, o5, o6⟩ := h.stores (g + 4) 2 (by omega) v
  exact ⟨h.gW, h.hx.set_other (by show g + 4 ≠ g; omega) v, h.h2.set_other (by show g + 4 ≠ g + 1; omega) v, h.h3.set_other (by show g + 4 ≠ g + 2; omega) v, h.ha.set_other (by show g + 4 ≠ g + 3; omega) v, h.hb.set 2 v, o1, o2, o3, o4, o5, h.ap, o6⟩
theorem GT.setb3 (h : GT g x seq qa qs qb qt qr ra rs rb rt rr W w) (v : Value) : GT g x seq qa qs qb qt v ra rs rb rt rr W (w.setCell ⟨g + 4, 3, none⟩ v) := by
  obtain ⟨o1, o2, o3, o4, o5, o6⟩ := h.stores (g + 4) 3 (by omega) v
  exact ⟨h.gW, h.hx.set_other (by show g + 4 ≠ g; omega) v, h.h2.set_other (by show g + 4 ≠ g + 1; omega) v, h.h3.set_other (by show g + 4 ≠ g + 2; omega) v, h.ha.set_other (by show g + 4 ≠ g + 3; omega) v, h.hb.set 3 v, o1, o2, o3, o4, o5, h.ap, o6⟩

theorem GT.init (W : World) (X : Array Value) (seq : Int) : GT W.heap.size X seq (.slice none 0 0) (.slice none 0 0) (.slice none 0 0) (.slice none 0 0) (.slice none 0 0) nilRw nilRw nilRw nilRw nilRw W
    (((((W.alloc (.cells X 39)).alloc (.cells #[.int .i64 0, .slice none 0 0, .slice none 0 0] 42)).alloc (.cells #[.int .i64 0, .slice none 0 0, .slice none 0 0, .slice none 0 0] 43)).alloc (.cells #[.int .i64 seq, .slice none 0 0, .slice none 0 0] 42)).alloc (.cells #[.int .i64 seq, .slice none 0 0, .slice none 0 0, .slice none 0 0] 43)) := by
  have new : ∀ (w : World) (n : Nat) (C : Array Value) (E : Nat), w.heap.size = n → Blk (w.alloc (.cells C E)) n C E := fun w n C E h => h ▸ Blk.new w C E
  refine ⟨rfl, ((((Blk.new W X _).alloc _).alloc _).alloc _).alloc _, (((new _ _ _ _ (by simp)).alloc _).alloc _).alloc _, ((new _ _ _ _ (by simp)).alloc _).alloc _, (new _ _ _ _ (by simp)).alloc _, new _ _ _ _ (by simp), owns_nil _ _ _ _, owns_nil _ _ _ _, owns_nil _ _ _ _, owns_nil _ _ _ _, owns_nil _ _ _ _, (fun k hk => by cases hk), ?_⟩
  exact (((((Below.refl _ _).alloc (by simp) _).alloc (by simp) _).alloc (by simp; omega) _).alloc (by simp; omega) _).alloc (by simp; omega) _
theorem GT.arg {g : Nat} {x : Array Value} {seq : Int} {qa qs qb qt qr : Value} {ra rs rb rt rr : Rw} {W w : World} (h : GT g x seq qa qs qb qt qr ra rs rb rt rr W w) {p : Addr} {u : Value} (hc : W.cell? p = some u) : w.cell? p = some u :=
  (h.bel.cell (World.block_lt_of_cell? W _ hc)).trans hc

/-- Both structs put into their results' cells. -/
theorem GT.final1 {g : Nat} {x : Array Value} {seq : Int} {qa qs qb qt qr : Value} {ra rs rb rt rr : Rw} {W w : World} (h : GT g x seq qa qs qb qt qr ra rs rb rt rr W w) :
    Blk (((w.setCell ⟨g + 1, 0, none⟩ (.int .i64 seq)).setCell ⟨g + 1, 1, none⟩ qa).setCell ⟨g + 1, 2, none⟩ qs) (g + 1) #[.int .i64 seq, qa, qs] 42 ∧
    Blk (((w.setCell ⟨g + 1, 0, none⟩ (.int .i64 seq)).setCell ⟨g + 1, 1, none⟩ qa).setCell ⟨g + 1, 2, none⟩ qs) (g + 2) #[.int .i64 0, .slice none 0 0, .slice none 0 0, .slice none 0 0] 43 ∧
    Blk (((w.setCell ⟨g + 1, 0, none⟩ (.int .i64 seq)).setCell ⟨g + 1, 1, none⟩ qa).setCell ⟨g + 1, 2, none⟩ qs) (g + 3) #[.int .i64 seq, qa, qs] 42 ∧
    Blk (((w.setCell ⟨g + 1, 0, none⟩ (.int .i64 seq)).setCell ⟨g + 1, 1, none⟩ qa).setCell ⟨g + 1, 2, none⟩ qs) (g + 4) #[.int .i64 seq, qb, qt, qr] 43 :=
  ⟨((h.h2.set 0 _).set 1 _).set 2 _, ((h.h3.set_other (by show g + 1 ≠ g + 2; omega) _).set_other (by show g + 1 ≠ g + 2; omega) _).set_other (by show g + 1 ≠ g + 2; omega) _,
    ((h.ha.set_other (by show g + 1 ≠ g + 3; omega) _).set_other (by show g + 1 ≠ g + 3; omega) _).set_other (by show g + 1 ≠ g + 3; omega) _,
    ((h.hb.set_other (by show g + 1 ≠ g + 4; omega) _).set_other (by show g + 1 ≠ g + 4; omega) _).set_other (by show g + 1 ≠ g + 4; omega) _⟩
theorem owns7 {w : World} {b e s : Nat} {r : Rw} (h : Owns w b e s r) {g : Nat} (hb : g + 2 < b) (v1 v2 v3 u1 u2 u3 u4 : Value) :
    Owns (((((((w.setCell ⟨g + 1, 0, none⟩ v1).setCell ⟨g + 1, 1, none⟩ v2).setCell ⟨g + 1, 2, none⟩ v3).setCell ⟨g + 2, 0, none⟩ u1).setCell ⟨g + 2, 1, none⟩ u2).setCell ⟨g + 2, 2, none⟩ u3).setCell ⟨g + 2, 3, none⟩ u4) b e s r :=
  have a : g + 1 < b := by omega
  (((((((h.set (p := ⟨g + 1, 0, none⟩) a v1).set (p := ⟨g + 1, 1, none⟩) a v2).set (p := ⟨g + 1, 2, none⟩) a v3).set (p := ⟨g + 2, 0, none⟩) hb u1).set (p := ⟨g + 2, 1, none⟩) hb u2).set (p := ⟨g + 2, 2, none⟩) hb u3).set (p := ⟨g + 2, 3, none⟩) hb u4)
theorem below7 {W w : World} {g : Nat} (h : Below W.heap.size W w) (hg : W.heap.size ≤ g) (v1 v2 v3 u1 u2 u3 u4 : Value) :
    Below W.heap.size W (((((((w.setCell ⟨g + 1, 0, none⟩ v1).setCell ⟨g + 1, 1, none⟩ v2).setCell ⟨g + 1, 2, none⟩ v3).setCell ⟨g + 2, 0, none⟩ u1).setCell ⟨g + 2, 1, none⟩ u2).setCell ⟨g + 2, 2, none⟩ u3).setCell ⟨g + 2, 3, none⟩ u4) := by
  have a : W.heap.size ≤ g + 1 := by omega
  have b : W.heap.size ≤ g + 2 := by omega
  exact ((((((h.setCell (p := ⟨g + 1, 0, none⟩) a v1).setCell (p := ⟨g + 1, 1, none⟩) a v2).setCell (p := ⟨g + 1, 2, none⟩) a v3).setCell (p := ⟨g + 2, 0, none⟩) b u1).setCell (p := ⟨g + 2, 1, none⟩) b u2).setCell (p := ⟨g + 2, 2, none⟩) b u3).setCell (p := ⟨g + 2, 3, none⟩) b u4

/-- append(row, one element out of its box), at a step of a drawn region. -/
theorem step_app1 {P : Program} {ops : Array Oper} {o : Oper} {a : Act} {K : Act → World → Prop} {Q : Exit → Act → World → Prop} {E : Prop} (hgd : o.guard = none) (s y : Operand) (t : TypeId)
    (ho : o.op = .call { callee := .builtin .append, args := #[s, y], argTypes := #[t, t] })
    (base e : Nat) (i : TypeInfo) (z : Value) (size bytes : Nat) (ht : P.underlying t = some (.slice e)) (hi : P.info? e = some i) (hz : i.zero = some z)
    (hsize : i.size = size) (hby : i.bytes = bytes) (hzs : z.cells.size = size) (hsz : 0 < size) (hbb : bytes ≤ 100)
    (r : Rw) (m : Nat) (C : Array Value) (hs : a.eval s = r.v) (hy : a.eval y = .slice (some ⟨m, 0, none⟩) 1 1) (hown : Owns w base e size r) (hm : Blk w m C e) (hC : C.size = size) (h1 : ∀ u ∈ C.toList, u.oneCell' = true) (hn : r.n ≤ 100) (hb : base ≤ w.heap.size)
    (h : ∀ gr cap w', Owns w' base e size ⟨some ⟨gr, 0, none⟩, r.n + 1, cap, r.xs ++ C.toList⟩ → w.grownBy w' r.v.ownBlock → (r.v.ownBlock = some gr ∨ w.heap.size ≤ gr) → K (a.put o.dst (.slice (some ⟨gr, 0, none⟩) (r.n + 1) cap)) w') :
    if Region.wanted o (yielded ops a.tmps) = true then Oper.wp P o a w K Q else E :=
  step_append_lies w hgd s y t ho base e i z size bytes ht hi hz hsize hby hzs hsz r.v r.n r.xs hs hown ⟨m, 0, none⟩ 1 1 C.toList hy (by simpa using hC) (World.news_of_block (B := m) (cs := C) (t := e) (fr := (0, 0)) hm) h1 (by omega) (by unfold maxLen; omega)
    (by have : (r.n + 1) * bytes ≤ 101 * 100 := Nat.mul_le_mul (by omega) hbb; omega) hb w.heap.size rfl
    (fun gr cap w' ho' hg hat _ => h gr cap w' ho' hg (hat.elim .inl (fun e => .inr (by omega))))
end

end Go.Proofs.YticpjnpafmehaaaDoor
