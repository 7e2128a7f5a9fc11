/-
  The bytes of a text in a block of their own, written over one by one; four bytes by value.
-/
import Derived.Test.YticpjnpafmehaaaDoorGP0
import Derived.Test.YticpjnpafmehaaaDoorB0
import Derived.Lib.ConvBytes
import Derived.Lib.AtoiErrMem
namespace Go.Proofs.YticpjnpafmehaaaDoor
open Go.RowKit
set_option linter.unusedVariables false
set_option linter.unusedSimpArgs false

def BytesIn (w : World) (b : Nat) (l : List UInt8) : Prop := b < w.heap.size ∧ ∀ j (h : j < l.length), w.cell? ⟨b, j, none⟩ = some (.int .u8 (l[j].toNat : Int)) ∧ w.frozen? ⟨b, j, none⟩ = false
theorem BytesIn.at {w : World} {b : Nat} {l : List UInt8} (h : BytesIn w b l) {j : Nat} {y : UInt8} (hj : l[j]? = some y) : w.cell? ⟨b, j, none⟩ = some (.int .u8 (y.toNat : Int)) ∧ w.frozen? ⟨b, j, none⟩ = false := by
  obtain ⟨hl, he⟩ := List.getElem?_eq_some_iff.1 hj
  have := h.2 j hl
  rw [he] at this
  exact this
theorem BytesIn.heap {w v : World} {b : Nat} {l : List UInt8} (h : BytesIn w b l) (hb : v.heap[b]? = w.heap[b]?) : BytesIn v b l := by
  have hlt : b < v.heap.size := by
    have h1 := h.1
    have : w.heap[b]? ≠ none := by rw [Array.getElem?_eq_getElem h1]; simp
    rw [← hb] at this
    rcases Nat.lt_or_ge b v.heap.size with h' | h'
    · exact h'
    · exact absurd (Array.getElem?_eq_none h') this
  refine ⟨hlt, fun j hj => ?_⟩
  obtain ⟨h1, h2⟩ := h.2 j hj
  refine ⟨?_, ?_⟩
  · rw [← h1]; unfold World.cell?; rw [hb]
  · rw [← h2]; unfold World.frozen?; rw [hb]
theorem BytesIn.set {w : World} {b : Nat} {l : List UInt8} (h : BytesIn w b l) (k : Nat) (hk : k < l.length) (y : UInt8) : BytesIn (w.setCell ⟨b, k, none⟩ (.int .u8 (y.toNat : Int))) b (l.set k y) := by
  refine ⟨by simpa using h.1, fun j hj => ?_⟩
  rw [List.length_set] at hj
  obtain ⟨h1, h2⟩ := h.2 j hj
  refine ⟨?_, by rw [World.frozen?_setCell]; exact h2⟩
  by_cases e : k = j
  · subst e
    rw [World.cell?_setCell_same _ _ _ h1]
    simp
  · rw [World.cell?_setCell_other _ _ _ _ (by intro h'; cases h'; exact e rfl), h1]
    simp [List.getElem_set_ne e]
theorem BytesIn.drewN {w : World} {b : Nat} {l : List UInt8} (h : BytesIn w b l) (n : Nat) : BytesIn (w.drewN n) b l := h.heap rfl

theorem bytesIn_new (w : World) (e : TypeId) (s : ByteArray) : BytesIn (Lib.bytesWorld w e s) w.heap.size s.data.toList := by
  refine ⟨by rw [Lib.bytesWorld_size]; omega, fun j hj => ⟨?_, ?_⟩⟩
  · have hs : j < s.size := hj
    rw [Lib.bytesWorld_cell w e s j hs]
    simp [List.getD, List.getElem?_eq_getElem hj]
  · have hs : j < s.size := hj
    have hz : (Lib.bytesCells w e s).size = s.size + (grownCap w s.size 0 e - s.size) := by simp [Lib.bytesCells]
    unfold World.frozen?
    rw [Lib.bytesWorld_at_new]
    show (decide ((Lib.bytesCells w e s).size ≤ j) && decide (j < (Lib.bytesCells w e s).size + 1)) = false
    rw [decide_eq_false (by omega)]
    rfl
theorem below_bytes (b : Nat) (w : World) (e : TypeId) (s : ByteArray) (hb : b ≤ w.heap.size) : Below b w (Lib.bytesWorld w e s) := by
  have h := Lib.bytesWorld_below w e s
  exact ⟨h.os, h.tape, h.output, h.size, fun k hk => h.block k (by omega)⟩
theorem blk_bytes {w : World} {b : Nat} {C : Array Value} {E : TypeId} (h : Blk w b C E) (e : TypeId) (s : ByteArray) : Blk (Lib.bytesWorld w e s) b C E := by
  have := h.lt
  unfold Blk at *
  rw [Lib.bytesWorld_at_old w e s b this]
  exact h
theorem bytesIn_back {P : Program} {w : World} {b : Nat} {l : List UInt8} (h : BytesIn w b l) (src dst e : TypeId) (cap : Nat) (n : Nat) (hn : l.length = n) (hs : P.underlying src = some (.slice e)) (he : P.underlying e = some (.int .u8)) (hd : P.underlying dst = some .string) :
    (convert src dst (.slice (some ⟨b, 0, none⟩) n cap)).run P w = .ok (.string ⟨l.toArray⟩) w := by
  subst hn
  refine run_convert_bytes_back (P := P) w src dst e ⟨b, 0, none⟩ cap l hs he hd (fun j hj => ?_)
  rw [Addr.add_lit, Nat.zero_add]
  exact (h.2 j hj).1


theorem rem_two (x : Int) (D : Nat) (h1 : 0 < D) : ∃ (t : Int) (j : Nat), Int.tmod x (D : Int) = t ∧ -(D : Int) < t ∧ t < D ∧ Int.tmod (t + D) (D : Int) = j ∧ j < D := by
  have hb : -(D : Int) < Int.tmod x D ∧ Int.tmod x D < D := by
    rcases Int.le_total 0 x with hx | hx
    · rw [Int.tmod_eq_emod_of_nonneg hx]
      have := Int.emod_nonneg x (show (D : Int) ≠ 0 by omega)
      have := Int.emod_lt_of_pos x (show (0 : Int) < D by omega)
      omega
    · have e : Int.tmod x D = -(Int.tmod (-x) D) := by rw [← Int.neg_tmod, Int.neg_neg]
      rw [e, Int.tmod_eq_emod_of_nonneg (show 0 ≤ -x by omega)]
      have := Int.emod_nonneg (-x) (show (D : Int) ≠ 0 by omega)
      have := Int.emod_lt_of_pos (-x) (show (0 : Int) < D by omega)
      omega
  refine ⟨Int.tmod x D, (Int.tmod (Int.tmod x D + D) D).toNat, rfl, hb.1, hb.2, ?_, ?_⟩
  all_goals
    generalize Int.tmod x D = t at *
    rw [Int.tmod_eq_emod_of_nonneg (show 0 ≤ t + D by omega)]
    have := Int.emod_nonneg (t + D) (show (D : Int) ≠ 0 by omega)
    have := Int.emod_lt_of_pos (t + D) (show (0 : Int) < D by omega)
    omega
theorem wrapIn (n : Int) (h : -9223372036854775808 ≤ n) (h2 : n ≤ 9223372036854775807) : wrap64 n = n := by unfold wrap64; omega
theorem place (at0 F T D : Int) (hF : 0 ≤ F) (hD : 0 < D) (hT : T = F + D) (hT2 : T ≤ 1000) : ∃ p : Nat, F ≤ (p : Int) ∧ (p : Int) < T ∧ wrap64 (F + (wrap64 (wrap64 (at0.tmod D + T) - F)).tmod D) = (p : Int) := by
  obtain ⟨d, rfl⟩ := Int.eq_ofNat_of_zero_le (Int.le_of_lt hD)
  obtain ⟨f, rfl⟩ := Int.eq_ofNat_of_zero_le hF
  obtain ⟨t, q, r1, r2, r3, r4, r5⟩ := rem_two at0 d (by omega)
  have e1 : wrap64 (t + T) = t + T := wrapIn _ (by omega) (by omega)
  have e2 : wrap64 (t + T - (f : Int)) = t + T - (f : Int) := wrapIn _ (by omega) (by omega)
  have e3 : t + T - (f : Int) = t + d := by omega
  have e4 : wrap64 ((f : Int) + (q : Int)) = (f : Int) + q := wrapIn _ (by omega) (by omega)
  refine ⟨f + q, by omega, by omega, ?_⟩
  rw [r1, e1, e2, e3, r4, e4]
  omega
theorem any_snoc (Y : List UInt8) (i : Nat) (y : UInt8) (h : Y[i]? = some y) : (Y.take (i + 1)).any (fun y => y != 0) = ((Y.take i).any (fun y => y != 0) || (y != 0)) := by
  obtain ⟨hl, he⟩ := List.getElem?_eq_some_iff.1 h
  rw [List.take_succ_eq_append_getElem hl, List.any_append, he]
  simp
theorem u8_wrap_of (c : UInt8) : IntKind.u8.wrap (c.toNat : Int) = (c.toNat : Int) := by
  have h := c.toNat_lt
  show ((c.toNat : Int) % 256) = _
  omega
theorem xor8 (a b : UInt8) : bits .xor .u8 (a.toNat : Int) (b.toNat : Int) = ((a ^^^ b).toNat : Int) := by
  show IntKind.u8.wrap ((BitVec.ofInt 8 (a.toNat : Int) ^^^ BitVec.ofInt 8 (b.toNat : Int)).toNat : Int) = _
  have h : ∀ c : UInt8, BitVec.ofInt 8 (c.toNat : Int) = c.toBitVec := fun c => by
    rw [BitVec.ofInt_natCast]
    apply BitVec.eq_of_toNat_eq
    rw [BitVec.toNat_ofNat]
    exact Nat.mod_eq_of_lt c.toNat_lt
  rw [h, h]
  have h2 : ((a.toBitVec ^^^ b.toBitVec).toNat : Int) = ((a ^^^ b).toNat : Int) := by rw [← UInt8.toBitVec_xor]; rfl
  rw [h2]
  exact u8_wrap_of _
theorem ycell (y0 y1 y2 y3 : UInt8) (i : Nat) (h : i < 4) : ∃ y, [y0, y1, y2, y3][i]? = some y ∧ (#[.int .u8 (y0.toNat : Int), .int .u8 (y1.toNat : Int), .int .u8 (y2.toNat : Int), .int .u8 (y3.toNat : Int)] : Array Value)[i]? = some (.int .u8 (y.toNat : Int)) := by
  match i, h with
  | 0, _ => exact ⟨y0, rfl, rfl⟩
  | 1, _ => exact ⟨y1, rfl, rfl⟩
  | 2, _ => exact ⟨y2, rfl, rfl⟩
  | 3, _ => exact ⟨y3, rfl, rfl⟩
theorem ynz {y : UInt8} (h : (y != 0) = true) : ((y.toNat : Int) == 0) = false := by
  have h1 : y ≠ 0 := by simpa using h
  have h2 : y.toNat ≠ 0 := fun e => h1 (by apply UInt8.toNat_inj.1; rw [e]; rfl)
  simp; omega
theorem yz {y : UInt8} (h : (y != 0) = false) : ((y.toNat : Int) == 0) = true := by
  have h1 : y = 0 := by simpa using h
  rw [h1]; rfl
def yc (y0 y1 y2 y3 : UInt8) : Array Value := #[.int .u8 (y0.toNat : Int), .int .u8 (y1.toNat : Int), .int .u8 (y2.toNat : Int), .int .u8 (y3.toNat : Int)]
theorem ne01 (b i : Nat) : (⟨b, i, none⟩ : Addr).block ≠ b + 1 := by show b ≠ b + 1; omega
end Go.Proofs.YticpjnpafmehaaaDoor
