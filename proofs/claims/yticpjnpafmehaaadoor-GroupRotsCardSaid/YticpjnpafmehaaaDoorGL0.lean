/-
  Plain: texts as lists of bytes.
-/
import Derived.Test.YticpjnpafmehaaaDoorRN0
namespace Go.Proofs.YticpjnpafmehaaaDoor
open Go.RowKit
set_option linter.unusedVariables false
set_option linter.unusedSimpArgs false

/-- The bytes of a text. -/
abbrev bl (s : ByteArray) : List UInt8 := s.data.toList
theorem bl_str (l : List UInt8) : bl (str l) = l := by simp [bl, str]
theorem str_bl (s : ByteArray) : str (bl s) = s := by cases s; simp [bl, str]
theorem bl_size (s : ByteArray) : (bl s).length = s.size := rfl
theorem str_size (l : List UInt8) : (str l).size = l.length := rfl
theorem bl_inj {a b : ByteArray} (h : bl a = bl b) : a = b := by rw [← str_bl a, ← str_bl b, h]
theorem bl_ext (s : ByteArray) (i j : Nat) : bl (s.extract i j) = ((bl s).drop i).take (j - i) := by
  show (s.extract i j).data.toList = _
  rw [ByteArray.data_extract, Array.toList_extract, List.extract_eq_take_drop]
theorem bl_append (a b : ByteArray) : bl (a ++ b) = bl a ++ bl b := by simp [bl]
theorem str_append (a b : List UInt8) : str a ++ str b = str (a ++ b) := by apply bl_inj; rw [bl_append, bl_str, bl_str, bl_str]
theorem toL (s : ByteArray) : s.toList = bl s := ByteArray.toList_eq s
theorem mid (p m q : List UInt8) (i n : Nat) (hi : p.length = i) (hn : m.length = n) : ((p ++ (m ++ q)).drop i).take n = m := by
  subst hi hn
  rw [List.drop_left, List.take_left]
theorem nb_be_int (w : Nat) (x : Int) (m : Int) (h0 : 0 ≤ x) (h : x ≤ m) (hm : m.toNat < 256 ^ w) : ((nb (be w x.toNat) : Nat) : Int) = x := by
  rw [nb_be w x.toNat (by omega)]; omega
theorem w64 (x : Int) (h : -9223372036854775808 ≤ x ∧ x ≤ 9223372036854775807) : wrap64 x = x := by unfold wrap64; omega

/-- Bytes turned from a place on. -/
def turn (X ys : List UInt8) : List UInt8 := List.zipWith (fun a b => a ^^^ b) X ys
def chg (T : List UInt8) (p : Nat) (ys : List UInt8) : List UInt8 := T.take p ++ (turn ((T.drop p).take ys.length) ys ++ T.drop (p + ys.length))
theorem turn_len (X ys : List UInt8) (h : X.length = ys.length) : (turn X ys).length = ys.length := by unfold turn; rw [List.length_zipWith]; omega
theorem chg_nil (T : List UInt8) (p : Nat) : chg T p [] = T := by
  unfold chg turn
  simp
theorem chg_len (T : List UInt8) (p : Nat) (ys : List UInt8) (h : p + ys.length ≤ T.length) : (chg T p ys).length = T.length := by
  unfold chg
  rw [List.length_append, List.length_append, turn_len _ _ (by rw [List.length_take, List.length_drop]; omega), List.length_take, List.length_drop]
  omega
theorem chg_get (T : List UInt8) (p : Nat) (ys : List UInt8) (h : p + ys.length < T.length) : (chg T p ys)[p + ys.length]? = some (T[p + ys.length]'h) := by
  unfold chg
  have h1 : (T.take p).length = p := by rw [List.length_take]; omega
  have h2 : (turn ((T.drop p).take ys.length) ys).length = ys.length := turn_len _ _ (by rw [List.length_take, List.length_drop]; omega)
  rw [List.getElem?_append_right (by omega), h1, List.getElem?_append_right (by omega), h2, List.getElem?_drop]
  rw [show p + ys.length + (p + ys.length - p - ys.length) = p + ys.length by omega]
  exact List.getElem?_eq_getElem h
theorem chg_snoc (T : List UInt8) (p : Nat) (ys : List UInt8) (y : UInt8) (h : p + ys.length < T.length) : (chg T p ys).set (p + ys.length) (T[p + ys.length]'h ^^^ y) = chg T p (ys ++ [y]) := by
  have h1 : (T.take p).length = p := by rw [List.length_take]; omega
  have h2 : (turn ((T.drop p).take ys.length) ys).length = ys.length := turn_len _ _ (by rw [List.length_take, List.length_drop]; omega)
  have e1 : turn ((T.drop p).take (ys ++ [y]).length) (ys ++ [y]) = turn ((T.drop p).take ys.length) ys ++ [T[p + ys.length]'h ^^^ y] := by
    unfold turn
    rw [List.length_append, List.length_singleton, List.take_succ_eq_append_getElem (by rw [List.length_drop]; omega), List.zipWith_append (by rw [List.length_take, List.length_drop]; omega)]
    simp [List.getElem_drop]
  unfold chg
  rw [e1, List.set_append_right _ _ (by omega), h1, List.set_append_right _ _ (by omega), h2]
  rw [show p + ys.length - p - ys.length = 0 by omega, List.drop_eq_getElem_cons h, List.set_cons_zero]
  rw [List.length_append, List.length_singleton, List.append_assoc]
  rfl
theorem xor_same (a b : UInt8) (h : a ^^^ b = a) : b = 0 := by
  have : (a ^^^ b) ^^^ a = a ^^^ a := by rw [h]
  rw [UInt8.xor_comm a b, UInt8.xor_assoc, UInt8.xor_self, UInt8.xor_zero] at this
  exact this
theorem turn_same : ∀ (X ys : List UInt8), X.length = ys.length → turn X ys = X → ∀ y ∈ ys, y = 0
  | [], [], _, _ => by simp
  | a :: X, b :: ys, hl, h => by
    unfold turn at h
    rw [List.zipWith_cons_cons] at h
    injection h with h1 h2
    intro y hy
    rcases List.mem_cons.1 hy with rfl | hy
    · exact xor_same _ _ h1
    · exact turn_same X ys (by simpa using hl) h2 y hy
theorem turn_zero : ∀ (X ys : List UInt8), X.length = ys.length → (∀ y ∈ ys, y = 0) → turn X ys = X
  | [], [], _, _ => rfl
  | a :: X, b :: ys, hl, h => by
    have hb := h b (by simp)
    subst hb
    have := turn_zero X ys (by simpa using hl) (fun y hy => h y (by simp [hy]))
    unfold turn at this ⊢
    rw [List.zipWith_cons_cons, this, UInt8.xor_zero]
theorem chg_zero (T : List UInt8) (p : Nat) (ys : List UInt8) (h : p + ys.length ≤ T.length) (h0 : ∀ y ∈ ys, y = 0) : chg T p ys = T := by
  unfold chg
  rw [turn_zero _ _ (by rw [List.length_take, List.length_drop]; omega) h0, ← List.append_assoc, ← List.take_add, List.take_append_drop]
/-- Nothing else is touched. -/
theorem chg_before (T : List UInt8) (p i n : Nat) (ys : List UInt8) (h : p + ys.length ≤ T.length) (hi : i + n ≤ p) : ((chg T p ys).drop i).take n = (T.drop i).take n := by
  unfold chg
  rw [List.drop_append_of_le_length (by rw [List.length_take]; omega), List.take_append_of_le_length (by rw [List.length_drop, List.length_take]; omega), List.drop_take, List.take_take, Nat.min_eq_left (by omega)]
theorem chg_behind (T : List UInt8) (p i : Nat) (ys : List UInt8) (h : p + ys.length ≤ T.length) (hi : p + ys.length ≤ i) : (chg T p ys).drop i = T.drop i := by
  have h1 : (T.take p).length = p := by rw [List.length_take]; omega
  have h2 : (turn ((T.drop p).take ys.length) ys).length = ys.length := turn_len _ _ (by rw [List.length_take, List.length_drop]; omega)
  unfold chg
  rw [List.drop_append, List.drop_of_length_le (by omega), List.nil_append, h1, List.drop_append, List.drop_of_length_le (by omega), List.nil_append, h2, List.drop_drop]
  congr 1; omega
theorem crc_nat {a b : List UInt8} (h : be 4 (crcL a).toNat = be 4 (crcL b).toNat) : crcL a = crcL b := by
  apply BitVec.eq_of_toNat_eq
  exact be_inj (w := 4) (by have := (crcL a).isLt; omega) (by have := (crcL b).isLt; omega) h

/-- The sum over a head of e bytes and what stands from 64 on tells up to four bytes in a row that were turned. -/
theorem burst_turn (T : List UInt8) (e p : Nat) (ys : List UInt8) (h64 : 64 ≤ T.length) (h4 : ys.length ≤ 4) (he : e ≤ 64) (hle : p + ys.length ≤ T.length) (hp : p + ys.length ≤ e ∨ 64 ≤ p)
    (hcrc : crcL ((T.take e) ++ T.drop 64) = crcL ((chg T p ys).take e ++ (chg T p ys).drop 64)) : ∀ y ∈ ys, y = 0 := by
  have hXl : ((T.drop p).take ys.length).length = ys.length := by rw [List.length_take, List.length_drop]; omega
  have hTurn : (turn ((T.drop p).take ys.length) ys).length = ys.length := turn_len _ _ hXl
  have hsplit : T.drop p = (T.drop p).take ys.length ++ T.drop (p + ys.length) := by rw [← List.drop_drop, List.take_append_drop]
  have key : turn ((T.drop p).take ys.length) ys = (T.drop p).take ys.length := by
    have hpl : (T.take p).length = p := by rw [List.length_take]; omega
    rcases hp with hp | hp
    · have e1 : T.take e = T.take p ++ ((T.drop p).take ys.length ++ (T.drop (p + ys.length)).take (e - p - ys.length)) := by
        have : e = p + (ys.length + (e - p - ys.length)) := by omega
        conv => lhs; rw [this]
        rw [List.take_add, List.take_add, List.drop_drop]
      have e2 : (chg T p ys).take e = T.take p ++ (turn ((T.drop p).take ys.length) ys ++ (T.drop (p + ys.length)).take (e - p - ys.length)) := by
        unfold chg
        have t1 : (T.take p).take e = T.take p := List.take_of_length_le (by omega)
        have t2 : (turn ((T.drop p).take ys.length) ys).take (e - p) = turn ((T.drop p).take ys.length) ys := List.take_of_length_le (by omega)
        rw [List.take_append, hpl, t1, List.take_append, hTurn, t2]
      have e3 : (chg T p ys).drop 64 = T.drop 64 := chg_behind _ _ _ _ hle (by omega)
      rw [e1, e2, e3] at hcrc
      simp only [← List.append_assoc] at hcrc
      rw [List.append_assoc _ _ (T.drop 64), List.append_assoc _ _ (T.drop 64)] at hcrc
      exact (crc_burst (by rw [hXl, hTurn]) (by rw [hXl]; exact h4) hcrc).symm
    · have e1 : (chg T p ys).take e = T.take e := by
        have := chg_before T p 0 e ys hle (by omega)
        simpa using this
      have e2 : (chg T p ys).drop 64 = (T.drop 64).take (p - 64) ++ (turn ((T.drop p).take ys.length) ys ++ T.drop (p + ys.length)) := by
        unfold chg
        rw [List.drop_append_of_le_length (by omega), List.drop_take]
      have e3 : T.drop 64 = (T.drop 64).take (p - 64) ++ ((T.drop p).take ys.length ++ T.drop (p + ys.length)) := by
        have h6 : T.drop p = (T.drop 64).drop (p - 64) := by rw [List.drop_drop]; congr 1; omega
        rw [← hsplit, h6, List.take_append_drop]
      rw [e1, e2] at hcrc
      conv at hcrc => lhs; rw [e3]
      simp only [← List.append_assoc] at hcrc
      exact (crc_burst (by rw [hXl, hTurn]) (by rw [hXl]; exact h4) hcrc).symm
  exact turn_same _ _ hXl key

end Go.Proofs.YticpjnpafmehaaaDoor
