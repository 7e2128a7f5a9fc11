/-
  Plain: a record of which up to four bytes in a row were changed.
  The bytes of a text in a block of their own, written over one by one.
  Walk of RecordRots.
-/
import Derived.Test.YtadpeopbfoppjaaDoorRP1
import Derived.Test.YtadpeopbfoppjaaDoorB0
import Derived.Lib.ConvBytes
import Derived.Lib.AtoiErrMem
import Derived.Test.YtadpeopbfoppjaaDoorRA2
namespace Go.Proofs.YtadpeopbfoppjaaDoor
open Go.RowKit
set_option linter.unusedVariables false
set_option linter.unusedSimpArgs false

/-- Bytes turned from a place on. -/
def turn (X ys : List UInt8) : List UInt8 := List.zipWith (fun a b => a ^^^ b) X ys
def chg (T : List UInt8) (p : Nat) (ys : List UInt8) : List UInt8 := T.take p ++ (turn ((T.drop p).take ys.length) ys ++ T.drop (p + ys.length))
theorem turn_len (X ys : List UInt8) (h : X.length = ys.length) : (turn X ys).length = ys.length := by unfold turn; rw [List.length_zipWith]; omega
theorem chg_nil (T : List UInt8) (p : Nat) : chg T p [] = T := by
  unfold chg turn
  simp
theorem chg_len (T : List UInt8) (p : Nat) (ys : List UInt8) (h : p + ys.length ≤ T.length) : (chg T p ys).length = T.length := by
  unfold chg
  rw [List.length_append, List.length_append, turn_len _ _ (by rw [List.length_take, List.length_drop]; omega), List.length_take, List.length_drop]
  omega
theorem chg_get (T : List UInt8) (p : Nat) (ys : List UInt8) (h : p + ys.length < T.length) : (chg T p ys)[p + ys.length]? = some (T[p + ys.length]'h) := by
  unfold chg
  have h1 : (T.take p).length = p := by rw [List.length_take]; omega
  have h2 : (turn ((T.drop p).take ys.length) ys).length = ys.length := turn_len _ _ (by rw [List.length_take, List.length_drop]; omega)
  rw [List.getElem?_append_right (by omega), h1, List.getElem?_append_right (by omega), h2, List.getElem?_drop]
  rw [show p + ys.length + (p + ys.length - p - ys.length) = p + ys.length by omega]
  exact List.getElem?_eq_getElem h
theorem chg_snoc (T : List UInt8) (p : Nat) (ys : List UInt8) (y : UInt8) (h : p + ys.length < T.length) : (chg T p ys).set (p + ys.length) (T[p + ys.length]'h ^^^ y) = chg T p (ys ++ [y]) := by
  have h1 : (T.take p).length = p := by rw [List.length_take]; omega
  have h2 : (turn ((T.drop p).take ys.length) ys).length = ys.length := turn_len _ _ (by rw [List.length_take, List.length_drop]; omega)
  have e1 : turn ((T.drop p).take (ys ++ [y]).length) (ys ++ [y]) = turn ((T.drop p).take ys.length) ys ++ [T[p + ys.length]'h ^^^ y] := by
    unfold turn
    rw [List.length_append, List.length_singleton, List.take_succ_eq_append_getElem (by rw [List.length_drop]; omega), List.zipWith_append (by rw [List.length_take, List.length_drop]; omega)]
    simp [List.getElem_drop]
  unfold chg
  rw [e1, List.set_append_right _ _ (by omega), h1, List.set_append_right _ _ (by omega), h2]
  rw [show p + ys.length - p - ys.length = 0 by omega, List.drop_eq_getElem_cons h, List.set_cons_zero]
  rw [List.length_append, List.length_singleton, List.append_assoc]
  rfl
theorem xor_same (a b : UInt8) (h : a ^^^ b = a) : b = 0 := by
  have : (a ^^^ b) ^^^ a = a ^^^ a := by rw [h]
  rw [UInt8.xor_comm a b, UInt8.xor_assoc, UInt8.xor_self, UInt8.xor_zero] at this
  exact this
theorem turn_same : ∀ (X ys : List UInt8), X.length = ys.length → turn X ys = X → ∀ y ∈ ys, y = 0
  | [], [], _, _ => by simp
  | a :: X, b :: ys, hl, h => by
    unfold turn at h
    rw [List.zipWith_cons_cons] at h
    injection h with h1 h2
    intro y hy
    rcases List.mem_cons.1 hy with rfl | hy
    · exact xor_same _ _ h1
    · exact turn_same X ys (by simpa using hl) h2 y hy
theorem turn_zero : ∀ (X ys : List UInt8), X.length = ys.length → (∀ y ∈ ys, y = 0) → turn X ys = X
  | [], [], _, _ => rfl
  | a :: X, b :: ys, hl, h => by
    have hb := h b (by simp)
    subst hb
    have := turn_zero X ys (by simpa using hl) (fun y hy => h y (by simp [hy]))
    unfold turn at this ⊢
    rw [List.zipWith_cons_cons, this, UInt8.xor_zero]

theorem chg_zero (T : List UInt8) (p : Nat) (ys : List UInt8) (h : p + ys.length ≤ T.length) (h0 : ∀ y ∈ ys, y = 0) : chg T p ys = T := by
  unfold chg
  rw [turn_zero _ _ (by rw [List.length_take, List.length_drop]; omega) h0, ← List.append_assoc, ← List.take_add, List.take_append_drop]

/-- Nothing else is touched. -/
theorem chg_before (T : List UInt8) (p i n : Nat) (ys : List UInt8) (h : p + ys.length ≤ T.length) (hi : i + n ≤ p) : ((chg T p ys).drop i).take n = (T.drop i).take n := by
  unfold chg
  rw [List.drop_append_of_le_length (by rw [List.length_take]; omega), List.take_append_of_le_length (by rw [List.length_drop, List.length_take]; omega), List.drop_take, List.take_take, Nat.min_eq_left (by omega)]
theorem chg_behind (T : List UInt8) (p i : Nat) (ys : List UInt8) (h : p + ys.length ≤ T.length) (hi : p + ys.length ≤ i) : (chg T p ys).drop i = T.drop i := by
  have h1 : (T.take p).length = p := by rw [List.length_take]; omega
  have h2 : (turn ((T.drop p).take ys.length) ys).length = ys.length := turn_len _ _ (by rw [List.length_take, List.length_drop]; omega)
  unfold chg
  rw [List.drop_append, List.drop_of_length_le (by omega), List.nil_append, h1, List.drop_append, List.drop_of_length_le (by omega), List.nil_append, h2, List.drop_drop]
  congr 1; omega

theorem crc_nat {a b : List UInt8} (h : be 4 (crcL a).toNat = be 4 (crcL b).toNat) : crcL a = crcL b := by
  apply BitVec.eq_of_toNat_eq
  exact be_inj (w := 4) (by have := (crcL a).isLt; omega) (by have := (crcL b).isLt; omega) h
theorem enc_parts (x : Rc) : (encTxt x).take 21 = headTo x 6 ∧ ((encTxt x).drop 21).take 4 = be 4 (crcL (headTo x 6 ++ bl x.body)).toNat ∧ (encTxt x).drop 64 = bl x.body := by
  refine ⟨?_, ?_, ?_⟩
  · unfold encTxt; rw [List.append_assoc, List.append_assoc, List.take_left' (head_len x)]
  · unfold encTxt; rw [List.append_assoc, List.append_assoc]; exact mid _ _ _ 21 4 (head_len x) (be_length _ _)
  · unfold encTxt
    have : (headTo x 6 ++ be 4 (crcL (headTo x 6 ++ x.body.data.toList)).toNat ++ List.replicate 39 0).length = 64 := by
      rw [List.length_append, List.length_append, head_len, be_length, List.length_replicate]
    exact List.drop_left' this

/-- A record that was turned is none. -/
theorem rots (A : Rc) (hg : goodR A = true) (p : Nat) (ys : List UInt8) (h4 : ys.length ≤ 4) (hp : (3 ≤ p ∧ p + ys.length ≤ 21) ∨ (64 ≤ p ∧ p + ys.length ≤ (encTxt A).length)) (hy : ∃ y ∈ ys, y ≠ 0) :
    (decL (chg (encTxt A) p ys)).2.2 ≠ 0 := by
  intro he
  have hTl := encTxt_len A
  have hle : p + ys.length ≤ (encTxt A).length := by omega
  have e : decL (chg (encTxt A) p ys) = ((decL (chg (encTxt A) p ys)).1, (decL (chg (encTxt A) p ys)).2.1, 0) := by rw [← he]
  obtain ⟨hgy, _, q, hq⟩ := dec_good e
  generalize (decL (chg (encTxt A) p ys)).1 = y at hgy hq
  -- the kinds are the same
  have hk : y.kind = A.kind := by
    have h1 : fv (chg (encTxt A) p ys) 0 = fv (encTxt A) 0 := by
      unfold fv
      show ((nb (((chg (encTxt A) p ys).drop 2).take 1) : Nat) : Int) = _
      rw [chg_before _ _ _ _ _ hle (by omega)]; rfl
    have h2 : fv (chg (encTxt A) p ys) 0 = y.kind := by
      rw [hq]
      have := (fv_head y (be 4 (crcL (headTo y 6 ++ bl y.body)).toNat ++ (List.replicate 39 0 ++ (bl y.body ++ q))) ((good_iff y).1 hgy).1).1
      rw [← this]
      congr 1
      (try (unfold encTxt; simp only [List.append_assoc]))
    have h3 : fv (encTxt A) 0 = A.kind := by
      have := (fv_head A (be 4 (crcL (headTo A 6 ++ bl A.body)).toNat ++ (List.replicate 39 0 ++ bl A.body)) ((good_iff A).1 hg).1).1
      rw [← this]
      congr 1
      (try (unfold encTxt; simp only [List.append_assoc]))
    rw [← h2, h1, h3]
  have hbs : y.body.size = A.body.size := by
    have h1 := ((good_iff y).1 hgy).2
    have h2 := ((good_iff A).1 hg).2
    rw [hk] at h1; omega
  have hq0 : q = [] := by
    have h1 := congrArg List.length hq
    have hy2 := encTxt_len y
    rw [chg_len _ _ _ hle, List.length_append] at h1
    exact List.eq_nil_of_length_eq_zero (by omega)
  rw [hq0, List.append_nil] at hq
  obtain ⟨a1, a2, a3⟩ := enc_parts A
  obtain ⟨b1, b2, b3⟩ := enc_parts y
  rw [← hq] at b1 b2 b3
  have hxl : ((encTxt A).drop p).take ys.length = ((encTxt A).drop p).take ys.length := rfl
  have hXl : (((encTxt A).drop p).take ys.length).length = ys.length := by rw [List.length_take, List.length_drop]; omega
  have h2 : (((encTxt A).drop 21).take 4) = ((chg (encTxt A) p ys).drop 21).take 4 := by
    rcases hp with hp | hp
    · rw [chg_behind _ _ _ _ hle (by omega)]
    · rw [chg_before _ _ _ _ _ hle (by omega)]
  rw [a2, b2] at h2
  have hcrc := crc_nat h2
  rw [← a1, ← a3, ← b1, ← b3] at hcrc
  have key : turn (((encTxt A).drop p).take ys.length) ys = ((encTxt A).drop p).take ys.length := by
    have hTurn : (turn (((encTxt A).drop p).take ys.length) ys).length = ys.length := turn_len _ _ hXl
    have hsplit : (encTxt A).drop p = ((encTxt A).drop p).take ys.length ++ (encTxt A).drop (p + ys.length) := by rw [← List.drop_drop, List.take_append_drop]
    rcases hp with hp | hp
    · have e1 : (encTxt A).take 21 = (encTxt A).take p ++ (((encTxt A).drop p).take ys.length ++ ((encTxt A).drop (p + ys.length)).take (21 - p - ys.length)) := by
        have : 21 = p + (ys.length + (21 - p - ys.length)) := by omega
        conv => lhs; rw [this]
        rw [List.take_add, List.take_add, List.drop_drop]
      have e2 : (chg (encTxt A) p ys).take 21 = (encTxt A).take p ++ (turn (((encTxt A).drop p).take ys.length) ys ++ ((encTxt A).drop (p + ys.length)).take (21 - p - ys.length)) := by
        unfold chg
        have hpl : ((encTxt A).take p).length = p := by rw [List.length_take]; omega
        have t1 : ((encTxt A).take p).take 21 = (encTxt A).take p := List.take_of_length_le (by omega)
        have t2 : (turn (((encTxt A).drop p).take ys.length) ys).take (21 - p) = turn (((encTxt A).drop p).take ys.length) ys := List.take_of_length_le (by omega)
        rw [List.take_append, hpl, t1, List.take_append, hTurn, t2]
      have e3 : (chg (encTxt A) p ys).drop 64 = (encTxt A).drop 64 := chg_behind _ _ _ _ hle (by omega)
      rw [e1, e2, e3] at hcrc
      simp only [← List.append_assoc] at hcrc
      rw [List.append_assoc _ _ ((encTxt A).drop 64), List.append_assoc _ _ ((encTxt A).drop 64)] at hcrc
      exact (crc_burst (by rw [hXl, hTurn]) (by rw [hXl]; exact h4) hcrc).symm
    · have e1 : (chg (encTxt A) p ys).take 21 = (encTxt A).take 21 := by
        have := chg_before (encTxt A) p 0 21 ys hle (by omega)
        simpa using this
      have hpl : ((encTxt A).take p).length = p := by rw [List.length_take]; omega
      have e2 : (chg (encTxt A) p ys).drop 64 = ((encTxt A).drop 64).take (p - 64) ++ (turn (((encTxt A).drop p).take ys.length) ys ++ (encTxt A).drop (p + ys.length)) := by
        unfold chg
        rw [List.drop_append_of_le_length (by omega), List.drop_take]
      have e3 : (encTxt A).drop 64 = ((encTxt A).drop 64).take (p - 64) ++ (((encTxt A).drop p).take ys.length ++ (encTxt A).drop (p + ys.length)) := by
        have h6 : (encTxt A).drop p = ((encTxt A).drop 64).drop (p - 64) := by rw [List.drop_drop]; congr 1; omega
        rw [← hsplit, h6, List.take_append_drop]
      rw [e1, e2] at hcrc
      conv at hcrc => lhs; rw [e3]
      simp only [← List.append_assoc] at hcrc
      exact (crc_burst (by rw [hXl, hTurn]) (by rw [hXl]; exact h4) hcrc).symm
  obtain ⟨y0, hy0, hyne⟩ := hy
  exact hyne (turn_same _ _ hXl key y0 hy0)

end Go.Proofs.YtadpeopbfoppjaaDoor

namespace Go.Proofs.YtadpeopbfoppjaaDoor
open Go.RowKit
set_option linter.unusedVariables false
set_option linter.unusedSimpArgs false

def BytesIn (w : World) (b : Nat) (l : List UInt8) : Prop := b < w.heap.size ∧ ∀ j (h : j < l.length), w.cell? ⟨b, j, none⟩ = some (.int .u8 (l[j].toNat : Int)) ∧ w.frozen? ⟨b, j, none⟩ = false
theorem BytesIn.at {w : World} {b : Nat} {l : List UInt8} (h : BytesIn w b l) {j : Nat} {y : UInt8} (hj : l[j]? = some y) : w.cell? ⟨b, j, none⟩ = some (.int .u8 (y.toNat : Int)) ∧ w.frozen? ⟨b, j, none⟩ = false := by
  obtain ⟨hl, he⟩ := List.getElem?_eq_some_iff.1 hj
  have := h.2 j hl
  rw [he] at this
  exact this
theorem BytesIn.heap {w v : World} {b : Nat} {l : List UInt8} (h : BytesIn w b l) (hb : v.heap[b]? = w.heap[b]?) : BytesIn v b l := by
  have hlt : b < v.heap.size := by
    have h1 := h.1
    have : w.heap[b]? ≠ none := by rw [Array.getElem?_eq_getElem h1]; simp
    rw [← hb] at this
    rcases Nat.lt_or_ge b v.heap.size with h' | h'
    · exact h'
    · exact absurd (Array.getElem?_eq_none h') this
  refine ⟨hlt, fun j hj => ?_⟩
  obtain ⟨h1, h2⟩ := h.2 j hj
  refine ⟨?_, ?_⟩
  · rw [← h1]; unfold World.cell?; rw [hb]
  · rw [← h2]; unfold World.frozen?; rw [hb]
theorem BytesIn.set {w : World} {b : Nat} {l : List UInt8} (h : BytesIn w b l) (k : Nat) (hk : k < l.length) (y : UInt8) : BytesIn (w.setCell ⟨b, k, none⟩ (.int .u8 (y.toNat : Int))) b (l.set k y) := by
  refine ⟨by simpa using h.1, fun j hj => ?_⟩
  rw [List.length_set] at hj
  obtain ⟨h1, h2⟩ := h.2 j hj
  refine ⟨?_, by rw [World.frozen?_setCell]; exact h2⟩
  by_cases e : k = j
  · subst e
    rw [World.cell?_setCell_same _ _ _ h1]
    simp
  · rw [World.cell?_setCell_other _ _ _ _ (by intro h'; cases h'; exact e rfl), h1]
    simp [List.getElem_set_ne e]
theorem BytesIn.drewN {w : World} {b : Nat} {l : List UInt8} (h : BytesIn w b l) (n : Nat) : BytesIn (w.drewN n) b l := h.heap rfl

theorem bytesIn_new (w : World) (e : TypeId) (s : ByteArray) : BytesIn (Lib.bytesWorld w e s) w.heap.size s.data.toList := by
  refine ⟨by rw [Lib.bytesWorld_size]; omega, fun j hj => ⟨?_, ?_⟩⟩
  · have hs : j < s.size := hj
    rw [Lib.bytesWorld_cell w e s j hs]
    simp [List.getD, List.getElem?_eq_getElem hj]
  · have hs : j < s.size := hj
    have hz : (Lib.bytesCells w e s).size = s.size + (grownCap w s.size 0 e - s.size) := by simp [Lib.bytesCells]
    unfold World.frozen?
    rw [Lib.bytesWorld_at_new]
    show (decide ((Lib.bytesCells w e s).size ≤ j) && decide (j < (Lib.bytesCells w e s).size + 1)) = false
    rw [decide_eq_false (by omega)]
    rfl
theorem below_bytes (b : Nat) (w : World) (e : TypeId) (s : ByteArray) (hb : b ≤ w.heap.size) : Below b w (Lib.bytesWorld w e s) := by
  have h := Lib.bytesWorld_below w e s
  exact ⟨h.os, h.tape, h.output, h.size, fun k hk => h.block k (by omega)⟩
theorem blk_bytes {w : World} {b : Nat} {C : Array Value} {E : TypeId} (h : Blk w b C E) (e : TypeId) (s : ByteArray) : Blk (Lib.bytesWorld w e s) b C E := by
  have := h.lt
  unfold Blk at *
  rw [Lib.bytesWorld_at_old w e s b this]
  exact h
theorem bytesIn_back {P : Program} {w : World} {b : Nat} {l : List UInt8} (h : BytesIn w b l) (src dst e : TypeId) (cap : Nat) (n : Nat) (hn : l.length = n) (hs : P.underlying src = some (.slice e)) (he : P.underlying e = some (.int .u8)) (hd : P.underlying dst = some .string) :
    (convert src dst (.slice (some ⟨b, 0, none⟩) n cap)).run P w = .ok (.string ⟨l.toArray⟩) w := by
  subst hn
  refine run_convert_bytes_back (P := P) w src dst e ⟨b, 0, none⟩ cap l hs he hd (fun j hj => ?_)
  rw [Addr.add_lit, Nat.zero_add]
  exact (h.2 j hj).1

end Go.Proofs.YtadpeopbfoppjaaDoor

namespace Go.Proofs.YtadpeopbfoppjaaDoor
open Go.RowKit
set_option linter.unusedVariables false
set_option linter.unusedSimpArgs false

theorem rem_two (x : Int) (D : Nat) (h1 : 0 < D) : ∃ (t : Int) (j : Nat), Int.tmod x (D : Int) = t ∧ -(D : Int) < t ∧ t < D ∧ Int.tmod (t + D) (D : Int) = j ∧ j < D := by
  have hb : -(D : Int) < Int.tmod x D ∧ Int.tmod x D < D := by
    rcases Int.le_total 0 x with hx | hx
    · rw [Int.tmod_eq_emod_of_nonneg hx]
      have := Int.emod_nonneg x (show (D : Int) ≠ 0 by omega)
      have := Int.emod_lt_of_pos x (show (0 : Int) < D by omega)
      omega
    · have e : Int.tmod x D = -(Int.tmod (-x) D) := by rw [← Int.neg_tmod, Int.neg_neg]
      rw [e, Int.tmod_eq_emod_of_nonneg (show 0 ≤ -x by omega)]
      have := Int.emod_nonneg (-x) (show (D : Int) ≠ 0 by omega)
      have := Int.emod_lt_of_pos (-x) (show (0 : Int) < D by omega)
      omega
  refine ⟨Int.tmod x D, (Int.tmod (Int.tmod x D + D) D).toNat, rfl, hb.1, hb.2, ?_, ?_⟩
  all_goals
    generalize Int.tmod x D = t at *
    rw [Int.tmod_eq_emod_of_nonneg (show 0 ≤ t + D by omega)]
    have := Int.emod_nonneg (t + D) (show (D : Int) ≠ 0 by omega)
    have := Int.emod_lt_of_pos (t + D) (show (0 : Int) < D by omega)
    omega
theorem wrapIn (n : Int) (h : -9223372036854775808 ≤ n) (h2 : n ≤ 9223372036854775807) : wrap64 n = n := by unfold wrap64; omega
theorem place (at0 F T D : Int) (hF : 0 ≤ F) (hD : 0 < D) (hT : T = F + D) (hT2 : T ≤ 1000) : ∃ p : Nat, F ≤ (p : Int) ∧ (p : Int) < T ∧ wrap64 (F + (wrap64 (wrap64 (at0.tmod D + T) - F)).tmod D) = (p : Int) := by
  obtain ⟨d, rfl⟩ := Int.eq_ofNat_of_zero_le (Int.le_of_lt hD)
  obtain ⟨f, rfl⟩ := Int.eq_ofNat_of_zero_le hF
  obtain ⟨t, q, r1, r2, r3, r4, r5⟩ := rem_two at0 d (by omega)
  have e1 : wrap64 (t + T) = t + T := wrapIn _ (by omega) (by omega)
  have e2 : wrap64 (t + T - (f : Int)) = t + T - (f : Int) := wrapIn _ (by omega) (by omega)
  have e3 : t + T - (f : Int) = t + d := by omega
  have e4 : wrap64 ((f : Int) + (q : Int)) = (f : Int) + q := wrapIn _ (by omega) (by omega)
  refine ⟨f + q, by omega, by omega, ?_⟩
  rw [r1, e1, e2, e3, r4, e4]
  omega
theorem any_snoc (Y : List UInt8) (i : Nat) (y : UInt8) (h : Y[i]? = some y) : (Y.take (i + 1)).any (fun y => y != 0) = ((Y.take i).any (fun y => y != 0) || (y != 0)) := by
  obtain ⟨hl, he⟩ := List.getElem?_eq_some_iff.1 h
  rw [List.take_succ_eq_append_getElem hl, List.any_append, he]
  simp
theorem u8_wrap_of (c : UInt8) : IntKind.u8.wrap (c.toNat : Int) = (c.toNat : Int) := by
  have h := c.toNat_lt
  show ((c.toNat : Int) % 256) = _
  omega
theorem xor8 (a b : UInt8) : bits .xor .u8 (a.toNat : Int) (b.toNat : Int) = ((a ^^^ b).toNat : Int) := by
  show IntKind.u8.wrap ((BitVec.ofInt 8 (a.toNat : Int) ^^^ BitVec.ofInt 8 (b.toNat : Int)).toNat : Int) = _
  have h : ∀ c : UInt8, BitVec.ofInt 8 (c.toNat : Int) = c.toBitVec := fun c => by
    rw [BitVec.ofInt_natCast]
    apply BitVec.eq_of_toNat_eq
    rw [BitVec.toNat_ofNat]
    exact Nat.mod_eq_of_lt c.toNat_lt
  rw [h, h]
  have h2 : ((a.toBitVec ^^^ b.toBitVec).toNat : Int) = ((a ^^^ b).toNat : Int) := by rw [← UInt8.toBitVec_xor]; rfl
  rw [h2]
  exact u8_wrap_of _
theorem ycell (y0 y1 y2 y3 : UInt8) (i : Nat) (h : i < 4) : ∃ y, [y0, y1, y2, y3][i]? = some y ∧ (#[.int .u8 (y0.toNat : Int), .int .u8 (y1.toNat : Int), .int .u8 (y2.toNat : Int), .int .u8 (y3.toNat : Int)] : Array Value)[i]? = some (.int .u8 (y.toNat : Int)) := by
  match i, h with
  | 0, _ => exact ⟨y0, rfl, rfl⟩
  | 1, _ => exact ⟨y1, rfl, rfl⟩
  | 2, _ => exact ⟨y2, rfl, rfl⟩
  | 3, _ => exact ⟨y3, rfl, rfl⟩
theorem ynz {y : UInt8} (h : (y != 0) = true) : ((y.toNat : Int) == 0) = false := by
  have h1 : y ≠ 0 := by simpa using h
  have h2 : y.toNat ≠ 0 := fun e => h1 (by apply UInt8.toNat_inj.1; rw [e]; rfl)
  simp; omega
theorem yz {y : UInt8} (h : (y != 0) = false) : ((y.toNat : Int) == 0) = true := by
  have h1 : y = 0 := by simpa using h
  rw [h1]; rfl
theorem end_zero {A : Rc} (hg : goodR A = true) {T : List UInt8} (hT : encTxt A = T) {p : Nat} {ys : List UInt8} (h : p + ys.length ≤ T.length) (h0 : ys.any (fun y => y != 0) = false) : (decL (chg T p ys)).2.2 = 0 := by
  have hz : ∀ y ∈ ys, y = 0 := fun y hy => by
    have := List.any_eq_false.1 h0 y hy
    simpa using this
  rw [chg_zero T p ys h hz, ← hT]
  have := dec_enc A [] hg
  rw [List.append_nil] at this
  rw [this]
theorem end_turn {A : Rc} (hg : goodR A = true) {T : List UInt8} (hT : encTxt A = T) {p : Nat} {ys : List UInt8} (h4 : ys.length ≤ 4) (hp : (3 ≤ p ∧ p + ys.length ≤ 21) ∨ (64 ≤ p ∧ p + ys.length ≤ T.length)) (h0 : ys.any (fun y => y != 0) = true) : (decL (chg T p ys)).2.2 ≠ 0 ∧ (decL (chg T p ys)).1 = rc0 ∧ (decL (chg T p ys)).2.1 = 0 := by
  subst hT
  have h := rots A hg p ys h4 hp (by
    obtain ⟨y, hy, hn⟩ := List.any_eq_true.1 h0
    exact ⟨y, hy, by simpa using hn⟩)
  exact ⟨h, dec_bad _ h⟩
def yc (y0 y1 y2 y3 : UInt8) : Array Value := #[.int .u8 (y0.toNat : Int), .int .u8 (y1.toNat : Int), .int .u8 (y2.toNat : Int), .int .u8 (y3.toNat : Int)]
theorem ne01 (b i : Nat) : (⟨b, i, none⟩ : Addr).block ≠ b + 1 := by show b ≠ b + 1; omega
theorem decode_tup2 (s : ByteArray) (w : World) (hT : TabIn w) (D : Rc × Int × Int) (hD : decL (bl s) = D) :
    Calls Tryd.prog 13 #[.string s] w fun e w' => e = .returned (.tuple #[.agg #[.int .i64 D.1.kind, .int .i64 D.1.seq, .int .i64 D.1.a, .int .i64 D.1.b, .int .i64 D.1.c, .int .i64 D.1.d, .string D.1.body], .int .i64 D.2.1, .int .i64 D.2.2]) ∧ Below w.heap.size w w' := by
  have h := decode_any s w hT hT.lt
  rw [dec_list, hD] at h
  exact h



set_option maxHeartbeats 8000000 in
set_option maxRecDepth 100000 in
theorem rots_walk (x : Rc) (at0 : Int) (y0 y1 y2 y3 : UInt8) (w : World) (hN : TabIn w) (hx : x.body.size ≤ 140737488351232) (hat : IntKind.i64.min ≤ at0 ∧ at0 ≤ IntKind.i64.max) :
    Calls Tryd.prog 4 #[.agg #[.int .i64 x.kind, .int .i64 x.seq, .int .i64 x.a, .int .i64 x.b, .int .i64 x.c, .int .i64 x.d, .string x.body], .int .i64 at0, .agg #[.int .u8 (y0.toNat : Int), .int .u8 (y1.toNat : Int), .int .u8 (y2.toNat : Int), .int .u8 (y3.toNat : Int)]] w fun e w' => e = .returned (.bool true) ∧ Below w.heap.size w w' := by
  have HN := Lib.hid hN
  have hw0 := hN.lt
  clear hN
  have hS1 : Below w.heap.size w ((w.alloc (.cells (rcCells x) 23)).alloc (.cells (yc y0 y1 y2 y3) 34)) := Below.alloc1 (Below.alloc1 (Below.refl _ _) _) _
  have hX0 : Blk ((w.alloc (.cells (rcCells x) 23)).alloc (.cells (yc y0 y1 y2 y3) 34)) w.heap.size (rcCells x) 23 := (Blk.new w _ _).alloc _
  have hY0 : Blk ((w.alloc (.cells (rcCells x) 23)).alloc (.cells (yc y0 y1 y2 y3) 34)) (w.heap.size + 1) (yc y0 y1 y2 y3) 34 := by
    have := Blk.new (w.alloc (.cells (rcCells x) 23)) (yc y0 y1 y2 y3) 34
    rwa [show (w.alloc (.cells (rcCells x) 23)).heap.size = w.heap.size + 1 from by show (w.heap.push _).size = _; simp] at this
  have hz0 : w.heap.size + 1 < ((w.alloc (.cells (rcCells x) 23)).alloc (.cells (yc y0 y1 y2 y3) 34)).heap.size := hY0.lt
  go_enter Tryd.func4, Tryd.ntmps4
  go_wp2_with fail
  refine (Y.corbellaw06_speaks.calls true _ Y.speaks_ev (HN.out.below hS1 hw0)).mono ?_
  rintro e w1 ⟨rfl, hb1⟩
  have hB1 : Blk w1 w.heap.size (rcCells x) 23 := (Mod.of_below hb1 []).blk hX0 (by simp)
  have hY1 : Blk w1 (w.heap.size + 1) (yc y0 y1 y2 y3) 34 := (Mod.of_below hb1 []).blk hY0 (by simp)
  have hW1 : Below w.heap.size w w1 := hS1.trans (hb1.mono hS1.size)
  have HB1 := Lib.hid hB1; have HW1 := Lib.hid hW1
  have x0 : w1.cell? ⟨w.heap.size, 0, none⟩ = some (.int .i64 x.kind) := hB1.cell rfl
  have x1 : w1.cell? ⟨w.heap.size, 1, none⟩ = some (.int .i64 x.seq) := hB1.cell rfl
  have x2 : w1.cell? ⟨w.heap.size, 2, none⟩ = some (.int .i64 x.a) := hB1.cell rfl
  have x3 : w1.cell? ⟨w.heap.size, 3, none⟩ = some (.int .i64 x.b) := hB1.cell rfl
  have x4 : w1.cell? ⟨w.heap.size, 4, none⟩ = some (.int .i64 x.c) := hB1.cell rfl
  have x5 : w1.cell? ⟨w.heap.size, 5, none⟩ = some (.int .i64 x.d) := hB1.cell rfl
  have x6 : w1.cell? ⟨w.heap.size, 6, none⟩ = some (.string x.body) := hB1.cell rfl
  have HY1 := Lib.hid hY1
  clear hb1 hB1 hW1 hS1 hX0 hY0 hY1 hz0
  go_wp2_with fail
  refine (whole_rc x _ (by omega)).mono ?_
  rintro e w2 ⟨rfl, hb2⟩
  have hB2 : Blk w2 w.heap.size (rcCells x) 23 := (Mod.of_below hb2 []).blk HB1.out (by simp)
  have hY2 : Blk w2 (w.heap.size + 1) (yc y0 y1 y2 y3) 34 := (Mod.of_below hb2 []).blk HY1.out (by simp)
  have hW2 : Below w.heap.size w w2 := HW1.out.trans (hb2.mono HW1.out.size)
  have hsz2 := hW2.size
  have hlt2 := hB2.lt
  obtain ⟨A, hA⟩ : ∃ A, whR x = A := ⟨_, rfl⟩
  have hAs : A.body.size ≤ 140737488351232 := by rw [← hA]; exact whole_le x hx
  rw [hA]
  have HW3 := Lib.hid hW2; have HY3 := Lib.hid hY2
  have HA := Lib.hid hA
  clear hA hb2 hB2 hW2 hY2 x0 x1 x2 x3 x4 x5 x6
  go_wp2_with fail
  refine (encode_any A _ (HN.out.below HW3.out hw0) (Nat.lt_of_lt_of_le hw0 HW3.out.size) (by omega)).mono ?_
  rintro e w4 ⟨rfl, hb4⟩
  have hY4 : Blk w4 (w.heap.size + 1) (yc y0 y1 y2 y3) 34 := (Mod.of_below hb4 []).blk HY3.out (by simp)
  have hW4 : Below w.heap.size w w4 := HW3.out.trans (hb4.mono HW3.out.size)
  have HY4 := Lib.hid hY4; have HW4 := Lib.hid hW4
  clear hb4 hY4 hW4
  cases hg : goodR A with
  | false =>
    have g1 : (encF A).2 = 1 := by rw [Y.encF_bad hg]
    go_wp2_with fail
    go_ret
    exact ⟨rfl, HW4.out⟩
  | true =>
    have g1 : (encF A).2 = 0 := by rw [Y.encF_good hg]
    obtain ⟨S, hS⟩ : ∃ S, str (encTxt A) = S := ⟨_, rfl⟩
    have g2 : (encF A).1 = S := by rw [Y.encF_good hg]; exact hS
    have hST : S.data.toList = encTxt A := by rw [← hS]; simp [str]
    have hSl : S.size = 64 + A.body.size := by rw [← hS]; show (encTxt A).length = _; exact encTxt_len A
    have hgb := ((good_iff A).1 hg).2
    have hS2 : S.size = 64 ∨ S.size = 128 := by
      unfold bodyLen at hgb
      split at hgb
      · right; omega
      · left; omega
    obtain ⟨g, hgz⟩ : ∃ g, w4.heap.size = g := ⟨_, rfl⟩
    obtain ⟨c, hc⟩ : ∃ c, grownCap w4 S.size 0 5 = c := ⟨_, rfl⟩
    have hcv := Lib.run_convert_string_bytes (P := Tryd.prog) w4 9 35 5 S Tryd.underlying9 Tryd.underlying35 Tryd.underlying5
    have hI5 := bytesIn_new w4 5 S
    have hY5 := blk_bytes HY4.out 5 S
    have hW5 : Below w.heap.size w (Lib.bytesWorld w4 5 S) := HW4.out.trans (below_bytes _ _ _ _ HW4.out.size)
    have hwg : w.heap.size + 1 < g := by rw [← hgz]; exact HY4.out.lt
    rw [hST] at hI5
    rw [hgz] at hI5 hcv
    rw [hc] at hcv
    generalize Lib.bytesWorld w4 5 S = w5 at hcv hI5 hY5 hW5
    have HI5 := Lib.hid hI5; have HY5 := Lib.hid hY5; have HW5 := Lib.hid hW5
    have HG := Lib.hid hg; have HSl := Lib.hid hSl; have HST := Lib.hid hST
    clear hg hS hST hgb hc hI5 hY5 hW5 hSl hgz
    have hand := i64_mask 1 (by decide) at0
    rcases hS2 with hS2 | hS2
    · have hlen : decide ((64 : Int) < (S.size : Int)) = false := decide_eq_false (by omega)
      obtain ⟨p, p1, p2, hP0⟩ : ∃ p : Nat, 3 ≤ (p : Int) ∧ (p : Int) < 21 ∧ wrap64 (3 + (wrap64 (wrap64 (at0.tmod 18 + 21) - 3)).tmod 18) = (p : Int) := place at0 3 21 18 (by omega) (by omega) (by omega) (by omega)
      have hTl : (encTxt A).length = 64 := by rw [encTxt_len, ← HSl.out]; exact hS2
      obtain ⟨T, hT⟩ : ∃ T, encTxt A = T := ⟨_, rfl⟩
      rw [hT] at hTl
      have HIT : Hid (BytesIn w5 g T) := Lib.hid (by rw [← hT]; exact HI5.out)
      have HT := Lib.hid hT
      clear hT
      go_wp2_with fail
      rw [hP0]
      clear hP0 hlen hcv hand hat
      go_loopw [12, 13] (fun s12 s13 wr => ∃ i : Nat, s13 = .int .i64 (i : Int) ∧ i ≤ 4 ∧ p + i ≤ 21 ∧ s12 = .bool (([y0, y1, y2, y3].take i).any (fun y => y != 0)) ∧ Below w.heap.size w wr ∧ BytesIn wr g (chg (T) p ([y0, y1, y2, y3].take i)) ∧ Blk wr (w.heap.size + 1) (yc y0 y1 y2 y3) 34) (fun _ s13 _ => 4 - (intOf s13).toNat)
      case atStart => exact ⟨0, rfl, by omega, by omega, rfl, HW5.out, by rw [List.take_zero, chg_nil]; exact HIT.out, HY5.out⟩
      case round =>
        obtain ⟨i, rfl, hi4, hito, rfl, hW, hI, hY⟩ := hrel
        obtain ⟨k, hk⟩ : ∃ k, p + i = k := ⟨_, rfl⟩
        have hq : (p : Int) + (i : Int) = (k : Int) := by omega
        obtain ⟨cb, hcb⟩ : ∃ cb, (([y0, y1, y2, y3].take i).any (fun y => y != 0)) = cb := ⟨_, rfl⟩
        rw [hcb]
        have HW := Lib.hid hW; have HI := Lib.hid hI; have HY := Lib.hid hY; have HCB := Lib.hid hcb; have HK := Lib.hid hk; have HQ := Lib.hid hq
        clear hcb hq
        by_cases h4 : i < 4
        · by_cases hto : k < 21
          · obtain ⟨y, hy1, hy2⟩ := ycell y0 y1 y2 y3 i h4
            have hysl : ([y0, y1, y2, y3].take i).length = i := by rw [List.length_take]; show min i 4 = i; omega
            have hkT : p + ([y0, y1, y2, y3].take i).length < (T).length := by omega
            have hg1 := chg_get (T) p ([y0, y1, y2, y3].take i) hkT
            have hg2 := chg_snoc (T) p ([y0, y1, y2, y3].take i) y hkT
            have hcl := chg_len (T) p ([y0, y1, y2, y3].take i) (by omega)
            obtain ⟨v, hv⟩ : ∃ v, (T)[p + ([y0, y1, y2, y3].take i).length]'hkT = v := ⟨_, rfl⟩
            rw [hv] at hg1 hg2
            clear hv
            rw [hysl, hk] at hg1 hg2
            obtain ⟨c1, c2⟩ := hI.at hg1
            have c3 : wr.cell? ⟨w.heap.size + 1, i, none⟩ = some (.int .u8 (y.toNat : Int)) := hY.cell hy2
            have htk : [y0, y1, y2, y3].take i ++ [y] = [y0, y1, y2, y3].take (i + 1) := by
              obtain ⟨hl, he⟩ := List.getElem?_eq_some_iff.1 hy1
              rw [List.take_succ_eq_append_getElem hl, he]
            rw [htk] at hg2
            have hx8 := xor8 v y
            obtain ⟨r, hr⟩ : ∃ r, v ^^^ y = r := ⟨_, rfl⟩
            rw [hr] at hx8 hg2
            have HG2 := Lib.hid hg2
            have HSN := Lib.hid (any_snoc _ _ _ hy1)
            have hkL : k < (chg (T) p ([y0, y1, y2, y3].take i)).length := by rw [hcl]; omega
            have HKL := Lib.hid hkL
            have hgne : (g = w.heap.size + 1) = False := eq_false (by omega)
            clear hg1 hg2 hcl htk hr hy1 hy2 hysl hkT hW hI hY hk hkL
            have q4 : ((i : Int) < 4) = True := eq_true (by omega)
            have qk : ((k : Int) < 21) = True := eq_true (by omega)
            have ql : ((k : Int) < 64) = True := eq_true (by omega)
            have hq := HQ.out
            have k0 : ((0 : Int) ≤ (k : Int)) = True := eq_true (by omega)
            have i0 : ((0 : Int) ≤ (i : Int)) = True := eq_true (by omega)
            cases cb with
            | true =>
              go_wp2
              go_region
              go_wp2
              go_roundw
              case rel => exact ⟨i + 1, by go_num, by omega, by have := HK.out; omega, by rw [HSN.out, HCB.out]; rfl, by repeat (first | exact HW.out | (with_reducible apply Below.drew) | (refine Below.setCell ?_ (by show w.heap.size ≤ g; omega) _)), by rw [← HG2.out]; exact (HI.out.set k HKL.out r).heap rfl, (Blk.set_other HY.out (by show g ≠ w.heap.size + 1; omega) _)⟩
              case measure => simp [intOf]; omega
            | false =>
              cases hy0 : (y != 0) with
              | true =>
                have hyn : ((y.toNat : Int) == 0) = false := ynz hy0
                have hym : ((y.toNat : Int) != 0) = true := by simp only [bne, hyn]; rfl
                go_wp2
                go_region
                go_wp2
                go_roundw
                case rel => exact ⟨i + 1, by go_num, by omega, by have := HK.out; omega, by rw [HSN.out, HCB.out, hy0]; rfl, by repeat (first | exact HW.out | (with_reducible apply Below.drew) | (refine Below.setCell ?_ (by show w.heap.size ≤ g; omega) _)), by rw [← HG2.out]; exact (HI.out.set k HKL.out r).heap rfl, (Blk.set_other HY.out (by show g ≠ w.heap.size + 1; omega) _)⟩
                case measure => simp [intOf]; omega
              | false =>
                have hyn : ((y.toNat : Int) == 0) = true := yz hy0
                have hym : ((y.toNat : Int) != 0) = false := by simp only [bne, hyn]; rfl
                go_wp2
                go_region
                go_wp2
                go_roundw
                case rel => exact ⟨i + 1, by go_num, by omega, by have := HK.out; omega, by rw [HSN.out, HCB.out, hy0]; rfl, by repeat (first | exact HW.out | (with_reducible apply Below.drew) | (refine Below.setCell ?_ (by show w.heap.size ≤ g; omega) _)), by rw [← HG2.out]; exact (HI.out.set k HKL.out r).heap rfl, (Blk.set_other HY.out (by show g ≠ w.heap.size + 1; omega) _)⟩
                case measure => simp [intOf]; omega
          · have q4 : ((i : Int) < 4) = True := eq_true (by omega)
            have qk : ((k : Int) < 21) = False := eq_false (by omega)
            have hysl : ([y0, y1, y2, y3].take i).length = i := by rw [List.length_take]; show min i 4 = i; omega
            obtain ⟨ys, hys⟩ : ∃ ys, [y0, y1, y2, y3].take i = ys := ⟨_, rfl⟩
            have hI9 := HI.out
            have hcb := HCB.out
            rw [hys] at hysl hI9 hcb
            have hl : (chg T p ys).length = 64 := by rw [chg_len T p ys (by omega)] <;> exact hTl
            have hcv := bytesIn_back (P := Tryd.prog) hI9 35 9 5 c 64 hl Tryd.underlying35 Tryd.underlying5 Tryd.underlying9
            have hpp : (3 ≤ p ∧ p + ys.length ≤ 21) ∨ (64 ≤ p ∧ p + ys.length ≤ T.length) := by omega
            have he0 := fun h => end_zero HG.out HT.out (p := p) (ys := ys) (by omega) h
            have he1 := fun h => end_turn HG.out HT.out (p := p) (ys := ys) (by omega) hpp h
            obtain ⟨Z, hZ⟩ : ∃ Z : ByteArray, (⟨(chg T p ys).toArray⟩ : ByteArray) = Z := ⟨_, rfl⟩
            have hZL : bl Z = chg T p ys := by rw [← hZ] <;> simp [bl]
            rw [hZ] at hcv
            obtain ⟨D, hD⟩ : ∃ D, decL (chg T p ys) = D := ⟨_, rfl⟩
            rw [hD] at he0 he1
            have HD : Hid (decL (bl Z) = D) := Lib.hid (by rw [hZL]; exact hD)
            have hTW := Lib.hid (HN.out.below HW.out hw0)
            clear hZ hZL hD hl hpp hys hI9 hI hY hW hysl hk
            have hq := HQ.out
            cases cb with
            | true =>
              obtain ⟨e1, e2, e3⟩ := he1 hcb
              clear he0 he1 hcb
              obtain ⟨Dr, Dn, Df⟩ := D
              obtain rfl : Dr = rc0 := e2
              obtain rfl : Dn = 0 := e3
              have e1' : (Df == 0) = false := by simpa using e1
              have e4 : (Df != 0) = true := by simpa using e1
              have e5 : (Df = 0) = False := eq_false e1
              clear e1
              go_wp2_with fail
              refine (decode_tup2 Z _ hTW.out _ HD.out).mono ?_
              rintro e w9 ⟨rfl, hb9⟩
              have HW9 := Lib.hid (HW.out.trans (hb9.mono HW.out.size))
              clear hb9
              simp only [rc0]
              go_wp2_with fail
              all_goals first | (exfalso; exact e5.mp (by assumption)) | (exfalso; simp at e4; done) | (go_ret; exact ⟨rfl, Below.alloc1 HW9.out _⟩)
            | false =>
              have e1 := he0 hcb
              clear he0 he1 hcb
              go_wp2_with fail
              refine (decode_tup2 Z _ hTW.out D HD.out).mono ?_
              rintro e w9 ⟨rfl, hb9⟩
              have HW9 := Lib.hid (HW.out.trans (hb9.mono HW.out.size))
              clear hb9
              rw [e1]
              go_wp2_with fail
              go_ret
              exact ⟨rfl, Below.alloc1 HW9.out _⟩
        · have q4 : ((i : Int) < 4) = False := eq_false (by omega)
          have hysl : ([y0, y1, y2, y3].take i).length = i := by rw [List.length_take]; show min i 4 = i; omega
          obtain ⟨ys, hys⟩ : ∃ ys, [y0, y1, y2, y3].take i = ys := ⟨_, rfl⟩
          have hI9 := HI.out
          have hcb := HCB.out
          rw [hys] at hysl hI9 hcb
          have hl : (chg T p ys).length = 64 := by rw [chg_len T p ys (by omega)] <;> exact hTl
          have hcv := bytesIn_back (P := Tryd.prog) hI9 35 9 5 c 64 hl Tryd.underlying35 Tryd.underlying5 Tryd.underlying9
          have hpp : (3 ≤ p ∧ p + ys.length ≤ 21) ∨ (64 ≤ p ∧ p + ys.length ≤ T.length) := by omega
          have he0 := fun h => end_zero HG.out HT.out (p := p) (ys := ys) (by omega) h
          have he1 := fun h => end_turn HG.out HT.out (p := p) (ys := ys) (by omega) hpp h
          obtain ⟨Z, hZ⟩ : ∃ Z : ByteArray, (⟨(chg T p ys).toArray⟩ : ByteArray) = Z := ⟨_, rfl⟩
          have hZL : bl Z = chg T p ys := by rw [← hZ] <;> simp [bl]
          rw [hZ] at hcv
          obtain ⟨D, hD⟩ : ∃ D, decL (chg T p ys) = D := ⟨_, rfl⟩
          rw [hD] at he0 he1
          have HD : Hid (decL (bl Z) = D) := Lib.hid (by rw [hZL]; exact hD)
          have hTW := Lib.hid (HN.out.below HW.out hw0)
          clear hZ hZL hD hl hpp hys hI9 hI hY hW hysl hk
          have hq := HQ.out
          cases cb with
          | true =>
            obtain ⟨e1, e2, e3⟩ := he1 hcb
            clear he0 he1 hcb
            obtain ⟨Dr, Dn, Df⟩ := D
            obtain rfl : Dr = rc0 := e2
            obtain rfl : Dn = 0 := e3
            have e1' : (Df == 0) = false := by simpa using e1
            have e4 : (Df != 0) = true := by simpa using e1
            have e5 : (Df = 0) = False := eq_false e1
            clear e1
            go_wp2_with fail
            refine (decode_tup2 Z _ hTW.out _ HD.out).mono ?_
            rintro e w9 ⟨rfl, hb9⟩
            have HW9 := Lib.hid (HW.out.trans (hb9.mono HW.out.size))
            clear hb9
            simp only [rc0]
            go_wp2_with fail
            all_goals first | (exfalso; exact e5.mp (by assumption)) | (exfalso; simp at e4; done) | (go_ret; exact ⟨rfl, Below.alloc1 HW9.out _⟩)
          | false =>
            have e1 := he0 hcb
            clear he0 he1 hcb
            go_wp2_with fail
            refine (decode_tup2 Z _ hTW.out D HD.out).mono ?_
            rintro e w9 ⟨rfl, hb9⟩
            have HW9 := Lib.hid (HW.out.trans (hb9.mono HW.out.size))
            clear hb9
            rw [e1]
            go_wp2_with fail
            go_ret
            exact ⟨rfl, Below.alloc1 HW9.out _⟩
    · have hlen : decide ((64 : Int) < (S.size : Int)) = true := decide_eq_true (by omega)
      by_cases hodd : bits .and .i64 at0 1 = 1
      · have hob : (bits .and .i64 at0 1 == 1) = true := by simpa using hodd
        clear hodd
        obtain ⟨p, p1, p2, hP0⟩ : ∃ p : Nat, 64 ≤ (p : Int) ∧ (p : Int) < 128 ∧ wrap64 (64 + (wrap64 (wrap64 (at0.tmod 64 + 128) - 64)).tmod 64) = (p : Int) := place at0 64 128 64 (by omega) (by omega) (by omega) (by omega)
        have hTl : (encTxt A).length = 128 := by rw [encTxt_len, ← HSl.out]; exact hS2
        obtain ⟨T, hT⟩ : ∃ T, encTxt A = T := ⟨_, rfl⟩
        rw [hT] at hTl
        have HIT : Hid (BytesIn w5 g T) := Lib.hid (by rw [← hT]; exact HI5.out)
        have HT := Lib.hid hT
        clear hT
        go_wp2_with fail
        rw [hP0]
        clear hP0 hlen hcv hand hat hob
        go_loopw [12, 13] (fun s12 s13 wr => ∃ i : Nat, s13 = .int .i64 (i : Int) ∧ i ≤ 4 ∧ p + i ≤ 128 ∧ s12 = .bool (([y0, y1, y2, y3].take i).any (fun y => y != 0)) ∧ Below w.heap.size w wr ∧ BytesIn wr g (chg (T) p ([y0, y1, y2, y3].take i)) ∧ Blk wr (w.heap.size + 1) (yc y0 y1 y2 y3) 34) (fun _ s13 _ => 4 - (intOf s13).toNat)
        case atStart => exact ⟨0, rfl, by omega, by omega, rfl, HW5.out, by rw [List.take_zero, chg_nil]; exact HIT.out, HY5.out⟩
        case round =>
          obtain ⟨i, rfl, hi4, hito, rfl, hW, hI, hY⟩ := hrel
          obtain ⟨k, hk⟩ : ∃ k, p + i = k := ⟨_, rfl⟩
          have hq : (p : Int) + (i : Int) = (k : Int) := by omega
          obtain ⟨cb, hcb⟩ : ∃ cb, (([y0, y1, y2, y3].take i).any (fun y => y != 0)) = cb := ⟨_, rfl⟩
          rw [hcb]
          have HW := Lib.hid hW; have HI := Lib.hid hI; have HY := Lib.hid hY; have HCB := Lib.hid hcb; have HK := Lib.hid hk; have HQ := Lib.hid hq
          clear hcb hq
          by_cases h4 : i < 4
          · by_cases hto : k < 128
            · obtain ⟨y, hy1, hy2⟩ := ycell y0 y1 y2 y3 i h4
              have hysl : ([y0, y1, y2, y3].take i).length = i := by rw [List.length_take]; show min i 4 = i; omega
              have hkT : p + ([y0, y1, y2, y3].take i).length < (T).length := by omega
              have hg1 := chg_get (T) p ([y0, y1, y2, y3].take i) hkT
              have hg2 := chg_snoc (T) p ([y0, y1, y2, y3].take i) y hkT
              have hcl := chg_len (T) p ([y0, y1, y2, y3].take i) (by omega)
              obtain ⟨v, hv⟩ : ∃ v, (T)[p + ([y0, y1, y2, y3].take i).length]'hkT = v := ⟨_, rfl⟩
              rw [hv] at hg1 hg2
              clear hv
              rw [hysl, hk] at hg1 hg2
              obtain ⟨c1, c2⟩ := hI.at hg1
              have c3 : wr.cell? ⟨w.heap.size + 1, i, none⟩ = some (.int .u8 (y.toNat : Int)) := hY.cell hy2
              have htk : [y0, y1, y2, y3].take i ++ [y] = [y0, y1, y2, y3].take (i + 1) := by
                obtain ⟨hl, he⟩ := List.getElem?_eq_some_iff.1 hy1
                rw [List.take_succ_eq_append_getElem hl, he]
              rw [htk] at hg2
              have hx8 := xor8 v y
              obtain ⟨r, hr⟩ : ∃ r, v ^^^ y = r := ⟨_, rfl⟩
              rw [hr] at hx8 hg2
              have HG2 := Lib.hid hg2
              have HSN := Lib.hid (any_snoc _ _ _ hy1)
              have hkL : k < (chg (T) p ([y0, y1, y2, y3].take i)).length := by rw [hcl]; omega
              have HKL := Lib.hid hkL
              have hgne : (g = w.heap.size + 1) = False := eq_false (by omega)
              clear hg1 hg2 hcl htk hr hy1 hy2 hysl hkT hW hI hY hk hkL
              have q4 : ((i : Int) < 4) = True := eq_true (by omega)
              have qk : ((k : Int) < 128) = True := eq_true (by omega)
              have ql : ((k : Int) < 128) = True := eq_true (by omega)
              have hq := HQ.out
              have k0 : ((0 : Int) ≤ (k : Int)) = True := eq_true (by omega)
              have i0 : ((0 : Int) ≤ (i : Int)) = True := eq_true (by omega)
              cases cb with
              | true =>
                go_wp2
                go_region
                go_wp2
                go_roundw
                case rel => exact ⟨i + 1, by go_num, by omega, by have := HK.out; omega, by rw [HSN.out, HCB.out]; rfl, by repeat (first | exact HW.out | (with_reducible apply Below.drew) | (refine Below.setCell ?_ (by show w.heap.size ≤ g; omega) _)), by rw [← HG2.out]; exact (HI.out.set k HKL.out r).heap rfl, (Blk.set_other HY.out (by show g ≠ w.heap.size + 1; omega) _)⟩
                case measure => simp [intOf]; omega
              | false =>
                cases hy0 : (y != 0) with
                | true =>
                  have hyn : ((y.toNat : Int) == 0) = false := ynz hy0
                  have hym : ((y.toNat : Int) != 0) = true := by simp only [bne, hyn]; rfl
                  go_wp2
                  go_region
                  go_wp2
                  go_roundw
                  case rel => exact ⟨i + 1, by go_num, by omega, by have := HK.out; omega, by rw [HSN.out, HCB.out, hy0]; rfl, by repeat (first | exact HW.out | (with_reducible apply Below.drew) | (refine Below.setCell ?_ (by show w.heap.size ≤ g; omega) _)), by rw [← HG2.out]; exact (HI.out.set k HKL.out r).heap rfl, (Blk.set_other HY.out (by show g ≠ w.heap.size + 1; omega) _)⟩
                  case measure => simp [intOf]; omega
                | false =>
                  have hyn : ((y.toNat : Int) == 0) = true := yz hy0
                  have hym : ((y.toNat : Int) != 0) = false := by simp only [bne, hyn]; rfl
                  go_wp2
                  go_region
                  go_wp2
                  go_roundw
                  case rel => exact ⟨i + 1, by go_num, by omega, by have := HK.out; omega, by rw [HSN.out, HCB.out, hy0]; rfl, by repeat (first | exact HW.out | (with_reducible apply Below.drew) | (refine Below.setCell ?_ (by show w.heap.size ≤ g; omega) _)), by rw [← HG2.out]; exact (HI.out.set k HKL.out r).heap rfl, (Blk.set_other HY.out (by show g ≠ w.heap.size + 1; omega) _)⟩
                  case measure => simp [intOf]; omega
            · have q4 : ((i : Int) < 4) = True := eq_true (by omega)
              have qk : ((k : Int) < 128) = False := eq_false (by omega)
              have hysl : ([y0, y1, y2, y3].take i).length = i := by rw [List.length_take]; show min i 4 = i; omega
              obtain ⟨ys, hys⟩ : ∃ ys, [y0, y1, y2, y3].take i = ys := ⟨_, rfl⟩
              have hI9 := HI.out
              have hcb := HCB.out
              rw [hys] at hysl hI9 hcb
              have hl : (chg T p ys).length = 128 := by rw [chg_len T p ys (by omega)] <;> exact hTl
              have hcv := bytesIn_back (P := Tryd.prog) hI9 35 9 5 c 128 hl Tryd.underlying35 Tryd.underlying5 Tryd.underlying9
              have hpp : (3 ≤ p ∧ p + ys.length ≤ 21) ∨ (64 ≤ p ∧ p + ys.length ≤ T.length) := by omega
              have he0 := fun h => end_zero HG.out HT.out (p := p) (ys := ys) (by omega) h
              have he1 := fun h => end_turn HG.out HT.out (p := p) (ys := ys) (by omega) hpp h
              obtain ⟨Z, hZ⟩ : ∃ Z : ByteArray, (⟨(chg T p ys).toArray⟩ : ByteArray) = Z := ⟨_, rfl⟩
              have hZL : bl Z = chg T p ys := by rw [← hZ] <;> simp [bl]
              rw [hZ] at hcv
              obtain ⟨D, hD⟩ : ∃ D, decL (chg T p ys) = D := ⟨_, rfl⟩
              rw [hD] at he0 he1
              have HD : Hid (decL (bl Z) = D) := Lib.hid (by rw [hZL]; exact hD)
              have hTW := Lib.hid (HN.out.below HW.out hw0)
              clear hZ hZL hD hl hpp hys hI9 hI hY hW hysl hk
              have hq := HQ.out
              cases cb with
              | true =>
                obtain ⟨e1, e2, e3⟩ := he1 hcb
                clear he0 he1 hcb
                obtain ⟨Dr, Dn, Df⟩ := D
                obtain rfl : Dr = rc0 := e2
                obtain rfl : Dn = 0 := e3
                have e1' : (Df == 0) = false := by simpa using e1
                have e4 : (Df != 0) = true := by simpa using e1
                have e5 : (Df = 0) = False := eq_false e1
                clear e1
                go_wp2_with fail
                refine (decode_tup2 Z _ hTW.out _ HD.out).mono ?_
                rintro e w9 ⟨rfl, hb9⟩
                have HW9 := Lib.hid (HW.out.trans (hb9.mono HW.out.size))
                clear hb9
                simp only [rc0]
                go_wp2_with fail
                all_goals first | (exfalso; exact e5.mp (by assumption)) | (exfalso; simp at e4; done) | (go_ret; exact ⟨rfl, Below.alloc1 HW9.out _⟩)
              | false =>
                have e1 := he0 hcb
                clear he0 he1 hcb
                go_wp2_with fail
                refine (decode_tup2 Z _ hTW.out D HD.out).mono ?_
                rintro e w9 ⟨rfl, hb9⟩
                have HW9 := Lib.hid (HW.out.trans (hb9.mono HW.out.size))
                clear hb9
                rw [e1]
                go_wp2_with fail
                go_ret
                exact ⟨rfl, Below.alloc1 HW9.out _⟩
          · have q4 : ((i : Int) < 4) = False := eq_false (by omega)
            have hysl : ([y0, y1, y2, y3].take i).length = i := by rw [List.length_take]; show min i 4 = i; omega
            obtain ⟨ys, hys⟩ : ∃ ys, [y0, y1, y2, y3].take i = ys := ⟨_, rfl⟩
            have hI9 := HI.out
            have hcb := HCB.out
            rw [hys] at hysl hI9 hcb
            have hl : (chg T p ys).length = 128 := by rw [chg_len T p ys (by omega)] <;> exact hTl
            have hcv := bytesIn_back (P := Tryd.prog) hI9 35 9 5 c 128 hl Tryd.underlying35 Tryd.underlying5 Tryd.underlying9
            have hpp : (3 ≤ p ∧ p + ys.length ≤ 21) ∨ (64 ≤ p ∧ p + ys.length ≤ T.length) := by omega
            have he0 := fun h => end_zero HG.out HT.out (p := p) (ys := ys) (by omega) h
            have he1 := fun h => end_turn HG.out HT.out (p := p) (ys := ys) (by omega) hpp h
            obtain ⟨Z, hZ⟩ : ∃ Z : ByteArray, (⟨(chg T p ys).toArray⟩ : ByteArray) = Z := ⟨_, rfl⟩
            have hZL : bl Z = chg T p ys := by rw [← hZ] <;> simp [bl]
            rw [hZ] at hcv
            obtain ⟨D, hD⟩ : ∃ D, decL (chg T p ys) = D := ⟨_, rfl⟩
            rw [hD] at he0 he1
            have HD : Hid (decL (bl Z) = D) := Lib.hid (by rw [hZL]; exact hD)
            have hTW := Lib.hid (HN.out.below HW.out hw0)
            clear hZ hZL hD hl hpp hys hI9 hI hY hW hysl hk
            have hq := HQ.out
            cases cb with
            | true =>
              obtain ⟨e1, e2, e3⟩ := he1 hcb
              clear he0 he1 hcb
              obtain ⟨Dr, Dn, Df⟩ := D
              obtain rfl : Dr = rc0 := e2
              obtain rfl : Dn = 0 := e3
              have e1' : (Df == 0) = false := by simpa using e1
              have e4 : (Df != 0) = true := by simpa using e1
              have e5 : (Df = 0) = False := eq_false e1
              clear e1
              go_wp2_with fail
              refine (decode_tup2 Z _ hTW.out _ HD.out).mono ?_
              rintro e w9 ⟨rfl, hb9⟩
              have HW9 := Lib.hid (HW.out.trans (hb9.mono HW.out.size))
              clear hb9
              simp only [rc0]
              go_wp2_with fail
              all_goals first | (exfalso; exact e5.mp (by assumption)) | (exfalso; simp at e4; done) | (go_ret; exact ⟨rfl, Below.alloc1 HW9.out _⟩)
            | false =>
              have e1 := he0 hcb
              clear he0 he1 hcb
              go_wp2_with fail
              refine (decode_tup2 Z _ hTW.out D HD.out).mono ?_
              rintro e w9 ⟨rfl, hb9⟩
              have HW9 := Lib.hid (HW.out.trans (hb9.mono HW.out.size))
              clear hb9
              rw [e1]
              go_wp2_with fail
              go_ret
              exact ⟨rfl, Below.alloc1 HW9.out _⟩
      · have hob : (bits .and .i64 at0 1 == 1) = false := by simpa using hodd
        clear hodd
        obtain ⟨p, p1, p2, hP0⟩ : ∃ p : Nat, 3 ≤ (p : Int) ∧ (p : Int) < 21 ∧ wrap64 (3 + (wrap64 (wrap64 (at0.tmod 18 + 21) - 3)).tmod 18) = (p : Int) := place at0 3 21 18 (by omega) (by omega) (by omega) (by omega)
        have hTl : (encTxt A).length = 128 := by rw [encTxt_len, ← HSl.out]; exact hS2
        obtain ⟨T, hT⟩ : ∃ T, encTxt A = T := ⟨_, rfl⟩
        rw [hT] at hTl
        have HIT : Hid (BytesIn w5 g T) := Lib.hid (by rw [← hT]; exact HI5.out)
        have HT := Lib.hid hT
        clear hT
        go_wp2_with fail
        rw [hP0]
        clear hP0 hlen hcv hand hat hob
        go_loopw [12, 13] (fun s12 s13 wr => ∃ i : Nat, s13 = .int .i64 (i : Int) ∧ i ≤ 4 ∧ p + i ≤ 21 ∧ s12 = .bool (([y0, y1, y2, y3].take i).any (fun y => y != 0)) ∧ Below w.heap.size w wr ∧ BytesIn wr g (chg (T) p ([y0, y1, y2, y3].take i)) ∧ Blk wr (w.heap.size + 1) (yc y0 y1 y2 y3) 34) (fun _ s13 _ => 4 - (intOf s13).toNat)
        case atStart => exact ⟨0, rfl, by omega, by omega, rfl, HW5.out, by rw [List.take_zero, chg_nil]; exact HIT.out, HY5.out⟩
        case round =>
          obtain ⟨i, rfl, hi4, hito, rfl, hW, hI, hY⟩ := hrel
          obtain ⟨k, hk⟩ : ∃ k, p + i = k := ⟨_, rfl⟩
          have hq : (p : Int) + (i : Int) = (k : Int) := by omega
          obtain ⟨cb, hcb⟩ : ∃ cb, (([y0, y1, y2, y3].take i).any (fun y => y != 0)) = cb := ⟨_, rfl⟩
          rw [hcb]
          have HW := Lib.hid hW; have HI := Lib.hid hI; have HY := Lib.hid hY; have HCB := Lib.hid hcb; have HK := Lib.hid hk; have HQ := Lib.hid hq
          clear hcb hq
          by_cases h4 : i < 4
          · by_cases hto : k < 21
            · obtain ⟨y, hy1, hy2⟩ := ycell y0 y1 y2 y3 i h4
              have hysl : ([y0, y1, y2, y3].take i).length = i := by rw [List.length_take]; show min i 4 = i; omega
              have hkT : p + ([y0, y1, y2, y3].take i).length < (T).length := by omega
              have hg1 := chg_get (T) p ([y0, y1, y2, y3].take i) hkT
              have hg2 := chg_snoc (T) p ([y0, y1, y2, y3].take i) y hkT
              have hcl := chg_len (T) p ([y0, y1, y2, y3].take i) (by omega)
              obtain ⟨v, hv⟩ : ∃ v, (T)[p + ([y0, y1, y2, y3].take i).length]'hkT = v := ⟨_, rfl⟩
              rw [hv] at hg1 hg2
              clear hv
              rw [hysl, hk] at hg1 hg2
              obtain ⟨c1, c2⟩ := hI.at hg1
              have c3 : wr.cell? ⟨w.heap.size + 1, i, none⟩ = some (.int .u8 (y.toNat : Int)) := hY.cell hy2
              have htk : [y0, y1, y2, y3].take i ++ [y] = [y0, y1, y2, y3].take (i + 1) := by
                obtain ⟨hl, he⟩ := List.getElem?_eq_some_iff.1 hy1
                rw [List.take_succ_eq_append_getElem hl, he]
              rw [htk] at hg2
              have hx8 := xor8 v y
              obtain ⟨r, hr⟩ : ∃ r, v ^^^ y = r := ⟨_, rfl⟩
              rw [hr] at hx8 hg2
              have HG2 := Lib.hid hg2
              have HSN := Lib.hid (any_snoc _ _ _ hy1)
              have hkL : k < (chg (T) p ([y0, y1, y2, y3].take i)).length := by rw [hcl]; omega
              have HKL := Lib.hid hkL
              have hgne : (g = w.heap.size + 1) = False := eq_false (by omega)
              clear hg1 hg2 hcl htk hr hy1 hy2 hysl hkT hW hI hY hk hkL
              have q4 : ((i : Int) < 4) = True := eq_true (by omega)
              have qk : ((k : Int) < 21) = True := eq_true (by omega)
              have ql : ((k : Int) < 128) = True := eq_true (by omega)
              have hq := HQ.out
              have k0 : ((0 : Int) ≤ (k : Int)) = True := eq_true (by omega)
              have i0 : ((0 : Int) ≤ (i : Int)) = True := eq_true (by omega)
              cases cb with
              | true =>
                go_wp2
                go_region
                go_wp2
                go_roundw
                case rel => exact ⟨i + 1, by go_num, by omega, by have := HK.out; omega, by rw [HSN.out, HCB.out]; rfl, by repeat (first | exact HW.out | (with_reducible apply Below.drew) | (refine Below.setCell ?_ (by show w.heap.size ≤ g; omega) _)), by rw [← HG2.out]; exact (HI.out.set k HKL.out r).heap rfl, (Blk.set_other HY.out (by show g ≠ w.heap.size + 1; omega) _)⟩
                case measure => simp [intOf]; omega
              | false =>
                cases hy0 : (y != 0) with
                | true =>
                  have hyn : ((y.toNat : Int) == 0) = false := ynz hy0
                  have hym : ((y.toNat : Int) != 0) = true := by simp only [bne, hyn]; rfl
                  go_wp2
                  go_region
                  go_wp2
                  go_roundw
                  case rel => exact ⟨i + 1, by go_num, by omega, by have := HK.out; omega, by rw [HSN.out, HCB.out, hy0]; rfl, by repeat (first | exact HW.out | (with_reducible apply Below.drew) | (refine Below.setCell ?_ (by show w.heap.size ≤ g; omega) _)), by rw [← HG2.out]; exact (HI.out.set k HKL.out r).heap rfl, (Blk.set_other HY.out (by show g ≠ w.heap.size + 1; omega) _)⟩
                  case measure => simp [intOf]; omega
                | false =>
                  have hyn : ((y.toNat : Int) == 0) = true := yz hy0
                  have hym : ((y.toNat : Int) != 0) = false := by simp only [bne, hyn]; rfl
                  go_wp2
                  go_region
                  go_wp2
                  go_roundw
                  case rel => exact ⟨i + 1, by go_num, by omega, by have := HK.out; omega, by rw [HSN.out, HCB.out, hy0]; rfl, by repeat (first | exact HW.out | (with_reducible apply Below.drew) | (refine Below.setCell ?_ (by show w.heap.size ≤ g; omega) _)), by rw [← HG2.out]; exact (HI.out.set k HKL.out r).heap rfl, (Blk.set_other HY.out (by show g ≠ w.heap.size + 1; omega) _)⟩
                  case measure => simp [intOf]; omega
            · have q4 : ((i : Int) < 4) = True := eq_true (by omega)
              have qk : ((k : Int) < 21) = False := eq_false (by omega)
              have hysl : ([y0, y1, y2, y3].take i).length = i := by rw [List.length_take]; show min i 4 = i; omega
              obtain ⟨ys, hys⟩ : ∃ ys, [y0, y1, y2, y3].take i = ys := ⟨_, rfl⟩
              have hI9 := HI.out
              have hcb := HCB.out
              rw [hys] at hysl hI9 hcb
              have hl : (chg T p ys).length = 128 := by rw [chg_len T p ys (by omega)] <;> exact hTl
              have hcv := bytesIn_back (P := Tryd.prog) hI9 35 9 5 c 128 hl Tryd.underlying35 Tryd.underlying5 Tryd.underlying9
              have hpp : (3 ≤ p ∧ p + ys.length ≤ 21) ∨ (64 ≤ p ∧ p + ys.length ≤ T.length) := by omega
              have he0 := fun h => end_zero HG.out HT.out (p := p) (ys := ys) (by omega) h
              have he1 := fun h => end_turn HG.out HT.out (p := p) (ys := ys) (by omega) hpp h
              obtain ⟨Z, hZ⟩ : ∃ Z : ByteArray, (⟨(chg T p ys).toArray⟩ : ByteArray) = Z := ⟨_, rfl⟩
              have hZL : bl Z = chg T p ys := by rw [← hZ] <;> simp [bl]
              rw [hZ] at hcv
              obtain ⟨D, hD⟩ : ∃ D, decL (chg T p ys) = D := ⟨_, rfl⟩
              rw [hD] at he0 he1
              have HD : Hid (decL (bl Z) = D) := Lib.hid (by rw [hZL]; exact hD)
              have hTW := Lib.hid (HN.out.below HW.out hw0)
              clear hZ hZL hD hl hpp hys hI9 hI hY hW hysl hk
              have hq := HQ.out
              cases cb with
              | true =>
                obtain ⟨e1, e2, e3⟩ := he1 hcb
                clear he0 he1 hcb
                obtain ⟨Dr, Dn, Df⟩ := D
                obtain rfl : Dr = rc0 := e2
                obtain rfl : Dn = 0 := e3
                have e1' : (Df == 0) = false := by simpa using e1
                have e4 : (Df != 0) = true := by simpa using e1
                have e5 : (Df = 0) = False := eq_false e1
                clear e1
                go_wp2_with fail
                refine (decode_tup2 Z _ hTW.out _ HD.out).mono ?_
                rintro e w9 ⟨rfl, hb9⟩
                have HW9 := Lib.hid (HW.out.trans (hb9.mono HW.out.size))
                clear hb9
                simp only [rc0]
                go_wp2_with fail
                all_goals first | (exfalso; exact e5.mp (by assumption)) | (exfalso; simp at e4; done) | (go_ret; exact ⟨rfl, Below.alloc1 HW9.out _⟩)
              | false =>
                have e1 := he0 hcb
                clear he0 he1 hcb
                go_wp2_with fail
                refine (decode_tup2 Z _ hTW.out D HD.out).mono ?_
                rintro e w9 ⟨rfl, hb9⟩
                have HW9 := Lib.hid (HW.out.trans (hb9.mono HW.out.size))
                clear hb9
                rw [e1]
                go_wp2_with fail
                go_ret
                exact ⟨rfl, Below.alloc1 HW9.out _⟩
          · have q4 : ((i : Int) < 4) = False := eq_false (by omega)
            have hysl : ([y0, y1, y2, y3].take i).length = i := by rw [List.length_take]; show min i 4 = i; omega
            obtain ⟨ys, hys⟩ : ∃ ys, [y0, y1, y2, y3].take i = ys := ⟨_, rfl⟩
            have hI9 := HI.out
            have hcb := HCB.out
            rw [hys] at hysl hI9 hcb
            have hl : (chg T p ys).length = 128 := by rw [chg_len T p ys (by omega)] <;> exact hTl
            have hcv := bytesIn_back (P := Tryd.prog) hI9 35 9 5 c 128 hl Tryd.underlying35 Tryd.underlying5 Tryd.underlying9
            have hpp : (3 ≤ p ∧ p + ys.length ≤ 21) ∨ (64 ≤ p ∧ p + ys.length ≤ T.length) := by omega
            have he0 := fun h => end_zero HG.out HT.out (p := p) (ys := ys) (by omega) h
            have he1 := fun h => end_turn HG.out HT.out (p := p) (ys := ys) (by omega) hpp h
            obtain ⟨Z, hZ⟩ : ∃ Z : ByteArray, (⟨(chg T p ys).toArray⟩ : ByteArray) = Z := ⟨_, rfl⟩
            have hZL : bl Z = chg T p ys := by rw [← hZ] <;> simp [bl]
            rw [hZ] at hcv
            obtain ⟨D, hD⟩ : ∃ D, decL (chg T p ys) = D := ⟨_, rfl⟩
            rw [hD] at he0 he1
            have HD : Hid (decL (bl Z) = D) := Lib.hid (by rw [hZL]; exact hD)
            have hTW := Lib.hid (HN.out.below HW.out hw0)
            clear hZ hZL hD hl hpp hys hI9 hI hY hW hysl hk
            have hq := HQ.out
            cases cb with
            | true =>
              obtain ⟨e1, e2, e3⟩ := he1 hcb
              clear he0 he1 hcb
              obtain ⟨Dr, Dn, Df⟩ := D
              obtain rfl : Dr = rc0 := e2
              obtain rfl : Dn = 0 := e3
              have e1' : (Df == 0) = false := by simpa using e1
              have e4 : (Df != 0) = true := by simpa using e1
              have e5 : (Df = 0) = False := eq_false e1
              clear e1
              go_wp2_with fail
              refine (decode_tup2 Z _ hTW.out _ HD.out).mono ?_
              rintro e w9 ⟨rfl, hb9⟩
              have HW9 := Lib.hid (HW.out.trans (hb9.mono HW.out.size))
              clear hb9
              simp only [rc0]
              go_wp2_with fail
              all_goals first | (exfalso; exact e5.mp (by assumption)) | (exfalso; simp at e4; done) | (go_ret; exact ⟨rfl, Below.alloc1 HW9.out _⟩)
            | false =>
              have e1 := he0 hcb
              clear he0 he1 hcb
              go_wp2_with fail
              refine (decode_tup2 Z _ hTW.out D HD.out).mono ?_
              rintro e w9 ⟨rfl, hb9⟩
              have HW9 := Lib.hid (HW.out.trans (hb9.mono HW.out.size))
              clear hb9
              rw [e1]
              go_wp2_with fail
              go_ret
              exact ⟨rfl, Below.alloc1 HW9.out _⟩

end Go.Proofs.YtadpeopbfoppjaaDoor
