/-
  Walk of DriveReads.
-/
import Derived.Test.YtojceddgmmapdaaDO1
namespace Go.Proofs.Ytojceddgmmapdaa
open Go.RowKit

def rst (T cap : Nat) : Int := if T = 0 then 0 else if T = cap then 4 else 1
def rd (l : List UInt8) (T : Nat) : Dv := ⟨⟨[(0, 0), (rst T 120, (T : Int))], 120, 2, 2⟩, [[], l], [0, 0], false⟩

theorem fits_of {k n : Int} {s : ByteArray} {q : Nat} (hk : k = 1 ∨ k = 2) (hn : n = (q : Int)) (hs : s.size = 64 * q) : fitsF k n s = true := by
  have h2 : writesF k = true := by rcases hk with rfl | rfl <;> rfl
  unfold fitsF
  rw [if_neg (by rw [h2]; intro h; rcases h with h | h; cases h; omega)]
  simp only [Bool.and_eq_true, decide_eq_true_eq, beq_iff_eq]
  omega
theorem fits_none {k n : Int} (hk : ¬ (k = 1 ∨ k = 2)) : fitsF k n ByteArray.empty = true := by
  have h2 : writesF k = false := by
    simp only [writesF, Bool.or_eq_false_iff, beq_eq_false_iff_ne]; omega
  unfold fitsF
  rw [if_pos (.inl h2)]
  simp [ByteArray.toList, ByteArray.toList.loop]

theorem rd_do {l : List UInt8} {T q : Nat} (hq : 1 ≤ q) (hT : T + q ≤ 120) : doF (rd l T).m 1 1 T q = (((T : Int), 0), (rd l (T + q)).m) := by
  have hs : spanF (T : Int) (q : Int) 120 = true := by
    simp only [spanF, Bool.and_eq_true, decide_eq_true_eq]; omega
  unfold doF
  rw [if_neg (by omega), if_neg (by simp [rd])]
  unfold verbF
  rw [if_pos rfl, show (rd l T).m.bl = 120 from rfl, hs]
  have hst : (rd l T).m.st 1 = rst T 120 := rfl
  have hln : (rd l T).m.ln 1 = (T : Int) := rfl
  simp only [Bool.not_true, Bool.false_eq_true, if_false]
  have e1 : (1 : Int).toNat = 1 := rfl
  rw [e1, hst, hln, if_neg (by unfold rst; split <;> (try split) <;> omega), if_neg (by simp)]
  have hE : enterF (rd l T).m 1 1 = (0, (rd l T).m.setSt 1 1) := by
    unfold enterF
    rw [hst]
    by_cases h0 : T = 0
    · subst h0
      have h1 : rst 0 120 = 0 := rfl
      have h2 : isOp 0 = false := rfl
      have h3 : cntA (rd l 0).m.zs = 0 := rfl
      have h4 : cntO (rd l 0).m.zs = 0 := rfl
      have h5 : (rd l 0).m.ac = 2 := rfl
      have h6 : (rd l 0).m.op = 2 := rfl
      rw [h1, h2, h3, h4, h5, h6, if_neg (by decide), if_neg (by decide), if_neg (by decide)]
    · have h1 : rst T 120 = 1 := by unfold rst; rw [if_neg h0, if_neg (by omega)]
      have h2 : isOp 1 = true := rfl
      rw [h1, h2, if_pos rfl]
      rfl
  unfold growF
  rw [hE, hln]
  simp only [ne_eq, not_true_eq_false, if_false]
  have hb : (rd l T).m.bl = 120 := rfl
  rw [hb]
  by_cases h5 : T + q = 120
  · rw [if_pos (show (T : Int) + (q : Int) = 120 by omega)]
    simp only [Mc.setSt, Mc.setLn, rd, rst]
    rw [if_neg (show ¬ T + q = 0 by omega), if_pos h5]
    simp [Mc.st, Mc.ln, stOf, lnOf]
    try omega
  · rw [if_neg (show ¬ (T : Int) + (q : Int) = 120 by omega)]
    simp only [Mc.setSt, Mc.setLn, rd, rst]
    rw [if_neg (show ¬ T + q = 0 by omega), if_neg h5]
    simp [Mc.st, Mc.ln, stOf, lnOf]
    try omega

theorem rd_write {l : List UInt8} {T q : Nat} {s : ByteArray} (hq : 1 ≤ q) (hT : T + q ≤ 120) (hs : s.size = 64 * q) : ddoF (rd l T) 1 1 T q s = ((ByteArray.empty, (T : Int), 0), rd (l ++ s.data.toList) (T + q)) := by
  have hD := rd_do (l := l) hq hT
  simp only [ddoF, show (rd l T).dead = false from rfl, fits_of (.inl rfl) rfl hs, hD]
  rfl

theorem rd_read {l : List UInt8} {T : Nat} (a n : Int) (h : 0 ≤ a ∧ 1 ≤ n ∧ a + n ≤ T) : ddoF (rd l T) 7 1 a n ByteArray.empty = ((str ((l.drop (a.toNat * 64)).take (n.toNat * 64)), a, 0), rd l T) := by
  have hs : spanF a n (T : Int) = true := by
    simp only [spanF, Bool.and_eq_true, decide_eq_true_eq]; omega
  have hD : doF (rd l T).m 7 1 a n = ((a, 0), (rd l T).m) := by
    unfold doF
    rw [if_neg (by omega), if_neg (by simp [rd])]
    show (if !spanF a n (T : Int) then _ else _) = _
    rw [hs]; rfl
  simp only [ddoF, show (rd l T).dead = false from rfl, fits_none (k := 7) (n := n) (by omega), hD]
  rfl
theorem rd_read_no {l : List UInt8} {T : Nat} (a n : Int) (h : ¬ (0 ≤ a ∧ 1 ≤ n ∧ a ≤ T ∧ n ≤ T - a)) : ddoF (rd l T) 7 1 a n ByteArray.empty = ((ByteArray.empty, 0, 2), rd l T) := by
  have hs : spanF a n (T : Int) = false := by
    cases hh : spanF a n (T : Int) with
    | false => rfl
    | true => simp only [spanF, Bool.and_eq_true, decide_eq_true_eq] at hh; omega
  have hD : doF (rd l T).m 7 1 a n = ((0, 2), (rd l T).m) := by
    unfold doF
    rw [if_neg (by omega), if_neg (by simp [rd])]
    show (if !spanF a n (T : Int) then _ else _) = _
    rw [hs]; rfl
  simp only [ddoF, show (rd l T).dead = false from rfl, fits_none (k := 7) (n := n) (by omega), hD]
  rfl

theorem str_extract (A : ByteArray) (a b : Nat) : str ((A.data.toList.drop a).take (b - a)) = A.extract a b := by
  apply ByteArray.ext
  simp only [str, ByteArray.data_extract]
  apply Array.ext'
  simp [Array.toList_extract, List.extract_eq_take_drop]

end Go.Proofs.Ytojceddgmmapdaa
