/-
  The ground of my proofs: blocks of cells, and what a call may have changed (plain Lean over the model's worlds, no program in sight).
-/
import Derived.WalkKit
import Derived.WalkSpells
import Derived.WalkLawsBesides
import Derived.BigQuiet
import Derived.Deep.QuietTactic
import Derived.Lib.Hide
namespace Go.Proofs.Ytojceddgmmapdaa
open Go.RowKit

/-- Block b of w is a row of cells, none of them frozen. -/
def Blk (w : World) (b : Nat) (C : Array Value) (E : TypeId) : Prop := w.heap[b]? = some (.cells C E (0, 0))

theorem Blk.lt {w : World} {b : Nat} {C : Array Value} {E : TypeId} (h : Blk w b C E) : b < w.heap.size := by
  unfold Blk at h
  rcases Nat.lt_or_ge b w.heap.size with h' | h'
  · exact h'
  · simp [Array.getElem?_eq_none h'] at h

theorem Blk.cell {w : World} {b : Nat} {C : Array Value} {E : TypeId} (h : Blk w b C E) {i : Nat} {v : Value} (hi : C[i]? = some v) : w.cell? ⟨b, i, none⟩ = some v := by
  unfold Blk at h; simp [World.cell?, h, hi]

theorem Blk.frozen {w : World} {b : Nat} {C : Array Value} {E : TypeId} (h : Blk w b C E) (i : Nat) : w.frozen? ⟨b, i, none⟩ = false := by
  unfold Blk at h; simp [World.frozen?, h]

theorem Blk.set {w : World} {b : Nat} {C : Array Value} {E : TypeId} (h : Blk w b C E) (i : Nat) (v : Value) : Blk (w.setCell ⟨b, i, none⟩ v) b (C.setIfInBounds i v) E := by
  have hl := h.lt
  unfold Blk at *
  simp [World.setCell, Array.getElem?_modify, h]

theorem Blk.set_other {w : World} {b : Nat} {C : Array Value} {E : TypeId} (h : Blk w b C E) {a : Addr} (ha : a.block ≠ b) (v : Value) : Blk (w.setCell a v) b C E := by
  unfold Blk at *; rw [Below.heap_setCell _ _ _ _ (Ne.symm ha)]; exact h

theorem Blk.alloc {w : World} {b : Nat} {C : Array Value} {E : TypeId} (h : Blk w b C E) (o : Obj) : Blk (w.alloc o) b C E := by
  have := h.lt
  unfold Blk at *; rw [Below.heap_alloc _ _ _ this]; exact h

theorem Blk.new (w : World) (C : Array Value) (E : TypeId) : Blk (w.alloc (.cells C E)) w.heap.size C E := by
  show (w.heap.push _)[w.heap.size]? = _
  simp

theorem Blk.drew {w : World} {b : Nat} {C : Array Value} {E : TypeId} (h : Blk w b C E) : Blk w.drew b C E := h

theorem Blk.drewN {w : World} {b : Nat} {C : Array Value} {E : TypeId} (h : Blk w b C E) (n : Nat) : Blk (w.drewN n) b C E := h

theorem Blk.inj {w : World} {b : Nat} {C C' : Array Value} {E E' : TypeId} (h : Blk w b C E) (h' : Blk w b C' E') : C = C' := by
  unfold Blk at *; rw [h] at h'; injection h' with e; injection e

/-- What was there before, but for the blocks of S, is as it was. -/
structure Mod (S : List Nat) (w w' : World) : Prop where
  os : w'.os = w.os
  tape : w'.tape = w.tape
  output : w'.output = w.output
  size : w.heap.size ≤ w'.heap.size
  block : ∀ k, k < w.heap.size → k ∉ S → w'.heap[k]? = w.heap[k]?

theorem Mod.refl (S : List Nat) (w : World) : Mod S w w := ⟨rfl, rfl, rfl, Nat.le_refl _, fun _ _ _ => rfl⟩

theorem Mod.trans {S S' T : List Nat} {a b c : World} (h : Mod S a b) (k : Mod S' b c) (hS : ∀ i, i < a.heap.size → i ∈ S ∨ i ∈ S' → i ∈ T) : Mod T a c :=
  ⟨k.os.trans h.os, k.tape.trans h.tape, k.output.trans h.output, Nat.le_trans h.size k.size, fun i hi hT =>
    (k.block i (Nat.lt_of_lt_of_le hi h.size) (fun m => hT (hS i hi (.inr m)))).trans (h.block i hi (fun m => hT (hS i hi (.inl m))))⟩

theorem Mod.trans' {S : List Nat} {a b c : World} (h : Mod S a b) (k : Mod S b c) : Mod S a c := h.trans k (fun _ _ m => m.elim id id)

theorem Mod.mono {S T : List Nat} {a b : World} (h : Mod S a b) (hS : ∀ i, i < a.heap.size → i ∈ S → i ∈ T) : Mod T a b :=
  ⟨h.os, h.tape, h.output, h.size, fun i hi hT => h.block i hi (fun m => hT (hS i hi m))⟩

theorem Mod.below {B : Nat} {a b : World} (h : Mod [] a b) (hB : B ≤ a.heap.size) : Below B a b :=
  ⟨h.os, h.tape, h.output, h.size, fun k hk => h.block k (by omega) (by simp)⟩

theorem Mod.below_of {S : List Nat} {a b : World} (h : Mod S a b) (B : Nat) (hS : ∀ i ∈ S, B ≤ i) (hB : B ≤ a.heap.size) : Below B a b :=
  ⟨h.os, h.tape, h.output, h.size, fun k hk => h.block k (by omega) (fun m => by have := hS k m; omega)⟩

theorem Mod.of_below {a b : World} (h : Below a.heap.size a b) (S : List Nat) : Mod S a b :=
  ⟨h.os, h.tape, h.output, h.size, fun k hk _ => h.block k hk⟩

theorem Mod.drew {S : List Nat} {a w : World} (h : Mod S a w) : Mod S a w.drew := ⟨h.os, h.tape, h.output, h.size, h.block⟩

theorem Mod.drewN {S : List Nat} {a w : World} (h : Mod S a w) (n : Nat) : Mod S a (w.drewN n) := ⟨h.os, h.tape, h.output, h.size, h.block⟩

theorem Mod.alloc {S : List Nat} {a w : World} (h : Mod S a w) (o : Obj) : Mod S a (w.alloc o) :=
  h.trans' ⟨rfl, rfl, rfl, by simp, fun k hk _ => Below.heap_alloc _ _ _ hk⟩

theorem Mod.set {S : List Nat} {a w : World} (h : Mod S a w) {p : Addr} (hp : p.block ∈ S ∨ a.heap.size ≤ p.block) (u : Value) : Mod S a (w.setCell p u) :=
  ⟨h.os, h.tape, h.output, by simpa using h.size, fun k hk hS => by
    rw [Below.heap_setCell _ _ _ _ (by rintro rfl; rcases hp with hp | hp; exact hS hp; omega)]; exact h.block k hk hS⟩

theorem Mod.blk {S : List Nat} {w w' : World} (h : Mod S w w') {b : Nat} {C : Array Value} {E : TypeId} (hb : Blk w b C E) (hS : b ∉ S) : Blk w' b C E := by
  unfold Blk; rw [h.block b hb.lt hS]; exact hb

theorem Mod.cell {S : List Nat} {w w' : World} (h : Mod S w w') {b o : Nat} (hb : b < w.heap.size) (hS : b ∉ S) : w'.cell? ⟨b, o, none⟩ = w.cell? ⟨b, o, none⟩ :=
  World.cell?_of_block (w := w) (h.block b hb hS)

theorem Mod.frozen {S : List Nat} {w w' : World} (h : Mod S w w') {b o : Nat} (hb : b < w.heap.size) (hS : b ∉ S) : w'.frozen? ⟨b, o, none⟩ = w.frozen? ⟨b, o, none⟩ :=
  World.frozen?_of_block (w := w) (h.block b hb hS)

/-- Cells and marks behind a contract that ends in Below, Mod: as rules. -/
theorem bcell {W w1 : World} (hb : Below W.heap.size W w1) : (∀ b o, b < W.heap.size → w1.cell? ⟨b, o, none⟩ = W.cell? ⟨b, o, none⟩) ∧ (∀ b o, b < W.heap.size → w1.frozen? ⟨b, o, none⟩ = W.frozen? ⟨b, o, none⟩) ∧ ∀ b, b < W.heap.size → b < w1.heap.size :=
  ⟨fun b o h => hb.cell (p := ⟨b, o, none⟩) h, fun b o h => hb.frozen (p := ⟨b, o, none⟩) h, fun _ h => Nat.lt_of_lt_of_le h hb.size⟩
theorem mcell {z : Nat} {W w1 : World} (hb : Mod [z] W w1) : (∀ b o, b < W.heap.size → b ≠ z → w1.cell? ⟨b, o, none⟩ = W.cell? ⟨b, o, none⟩) ∧ (∀ b o, b < W.heap.size → b ≠ z → w1.frozen? ⟨b, o, none⟩ = W.frozen? ⟨b, o, none⟩) ∧ ∀ b, b < W.heap.size → b < w1.heap.size :=
  ⟨fun b o h h' => hb.cell h (by simpa using h'), fun b o h h' => hb.frozen h (by simpa using h'), fun _ h => Nat.lt_of_lt_of_le h hb.size⟩

/-- A callee that leaves the world alone, inside a region that draws its order. -/
theorem quietW {P : Program} {f : FuncId} {args : Array Value} {X : Nat → World} {n : Nat} {v : Value}
    (h : Calls P f args (X n) fun e w' => e = .returned v ∧ X n = w') : Calls P f args (X n) fun e w'' => e = .returned v ∧ ∃ m, w'' = X m :=
  h.mono fun _ _ ⟨he, hm⟩ => ⟨he, n, hm.symm⟩

/-- An ending's number, put by an equation. -/
theorem ret_int {k : IntKind} {a b : Int} (h : a = b) : Ending.returned (.int k a) = .returned (.int k b) := by rw [h]
theorem ret_int2 {k k' : IntKind} {a b c d : Int} (h : a = b) (h' : c = d) : Ending.returned (.tuple #[.int k a, .int k' c]) = .returned (.tuple #[.int k b, .int k' d]) := by rw [h, h']

/-- A mask of low bits, of whatever number. -/
theorem i64_mask (j : Nat) (hj : j ≤ 62) (x : Int) : bits .and .i64 x ((2 ^ j - 1 : Nat) : Int) = x % ((2 ^ j : Nat) : Int) := by
  show IntKind.i64.wrap ((BitVec.ofInt 64 x &&& BitVec.ofInt 64 ((2 ^ j - 1 : Nat) : Int)).toNat : Int) = _
  have hp : (2 ^ j : Nat) ≤ 2 ^ 62 := Nat.pow_le_pow_right (by decide) hj
  have hp0 : 0 < (2 ^ j : Nat) := Nat.pow_pos (by decide)
  have h1 : ((BitVec.ofInt 64 x).toNat : Int) = x % 18446744073709551616 := by
    rw [BitVec.toNat_ofInt]
    have : 0 ≤ x % ((2 ^ 64 : Nat) : Int) := Int.emod_nonneg _ (by decide)
    rw [Int.toNat_of_nonneg this]; rfl
  have h2 : (BitVec.ofInt 64 ((2 ^ j - 1 : Nat) : Int)).toNat = 2 ^ j - 1 := by
    rw [BitVec.ofInt_natCast, BitVec.toNat_ofNat]; exact Nat.mod_eq_of_lt (by omega)
  rw [BitVec.toNat_and, h2, Nat.and_two_pow_sub_one_eq_mod, IntKind.wrap_i64, Int.natCast_emod, h1]
  have hd : (x % 18446744073709551616) % ((2 ^ j : Nat) : Int) = x % ((2 ^ j : Nat) : Int) := by
    apply Int.emod_emod_of_dvd
    have : (2 ^ j : Nat) ∣ 18446744073709551616 := by
      have : (18446744073709551616 : Nat) = 2 ^ 64 := by decide
      rw [this]; exact Nat.pow_dvd_pow 2 (by omega)
    exact Int.natCast_dvd_natCast.2 this
  rw [hd]
  have hlt := Int.emod_lt_of_pos x (show (0 : Int) < ((2 ^ j : Nat) : Int) by omega)
  have hge := Int.emod_nonneg x (show ((2 ^ j : Nat) : Int) ≠ 0 by omega)
  omega
theorem i64_and15 (x : Int) : bits .and .i64 x 15 = x % 16 := i64_mask 4 (by decide) x
theorem i64_and7 (x : Int) : bits .and .i64 x 7 = x % 8 := i64_mask 3 (by decide) x
theorem i64_and3 (x : Int) : bits .and .i64 x 3 = x % 4 := i64_mask 2 (by decide) x

end Go.Proofs.Ytojceddgmmapdaa
