/-
  Plain: appends of a block to a rig's drives, whose bytes don't matter.
-/
import Derived.Test.YtadpeopbfoppjaaG0
namespace Go.Proofs.Ytadpeopbfoppjaa
open Go.RowKit

/-- A machine of five zones, of which the first one has a blocks. -/
def apm (a bl op ac : Int) : Mc := ⟨[(if a = 0 then 0 else 1, a), (0, 0), (0, 0), (0, 0), (0, 0)], bl, op, ac⟩

theorem apm_do {a bl op ac : Int} (h0 : 0 ≤ a) (ha : a + 1 < bl) (ho : 1 ≤ op) (hc : 1 ≤ ac) : doF (apm a bl op ac) 2 0 0 1 = ((a, 0), apm (a + 1) bl op ac) := by
  have hs0 : spanF 0 1 bl = true := by simp only [spanF, Bool.and_eq_true, decide_eq_true_eq]; omega
  have hs : spanF a 1 bl = true := by simp only [spanF, Bool.and_eq_true, decide_eq_true_eq]; omega
  unfold doF
  rw [if_neg (by omega), if_neg (by simp [apm])]
  unfold verbF
  rw [if_neg (by decide), if_pos rfl, show (apm a bl op ac).bl = bl from rfl, hs0]
  have hst : (apm a bl op ac).st (0 : Int).toNat = if a = 0 then 0 else 1 := rfl
  have hln : (apm a bl op ac).ln (0 : Int).toNat = a := rfl
  simp only [Bool.not_true, Bool.false_eq_true, if_false]
  rw [hst, hln, hs, if_neg (by split <;> omega), if_neg (by simp)]
  have hE : enterF (apm a bl op ac) (0 : Int).toNat 1 = (0, (apm a bl op ac).setSt 0 1) := by
    unfold enterF
    rw [hst]
    by_cases hz : a = 0
    · subst hz
      have h3 : cntA (apm 0 bl op ac).zs = 0 := rfl
      have h4 : cntO (apm 0 bl op ac).zs = 0 := rfl
      rw [if_pos rfl, show isOp 0 = false from rfl, h3, h4, show (apm 0 bl op ac).ac = ac from rfl, show (apm 0 bl op ac).op = op from rfl, if_neg (by decide), if_neg (by omega), if_neg (by omega)]
      rfl
    · rw [if_neg hz, show isOp 1 = true from rfl, if_pos rfl]
      rfl
  unfold growF
  rw [hE, hln]
  simp only [ne_eq, not_true_eq_false, if_false]
  rw [show (apm a bl op ac).bl = bl from rfl, if_neg (by omega)]
  simp only [Mc.setSt, Mc.setLn, apm]
  rw [if_neg (show ¬ a + 1 = 0 by omega)]
  simp [Mc.st, Mc.ln, stOf, lnOf]

theorem apm_read {a bl op ac : Int} {i : Int} (h0 : 0 ≤ i) (h1 : i + 1 ≤ a) : doF (apm a bl op ac) 7 0 i 1 = ((i, 0), apm a bl op ac) := by
  have hs : spanF i 1 a = true := by simp only [spanF, Bool.and_eq_true, decide_eq_true_eq]; omega
  unfold doF
  rw [if_neg (by omega), if_neg (by simp [apm])]
  show (if !spanF i 1 a then _ else _) = _
  rw [hs]; rfl

/-- A drive of which the first zone alone was written, a blocks. -/
def Ap (d : Dv) (a bl op ac : Int) : Prop := d.m = apm a bl op ac ∧ d.dead = false

theorem Ap.app {d : Dv} {a bl op ac : Int} {s : ByteArray} (h : Ap d a bl op ac) (h0 : 0 ≤ a) (ha : a + 1 < bl) (ho : 1 ≤ op) (hc : 1 ≤ ac) (hs : s.size = 64) :
    (ddoF d 2 0 0 1 s).1 = (ByteArray.empty, a, 0) ∧ Ap (ddoF d 2 0 0 1 s).2 (a + 1) bl op ac := by
  obtain ⟨m, bs, la, dead⟩ := d
  obtain ⟨hm, hd⟩ := h
  obtain rfl : m = apm a bl op ac := hm
  obtain rfl : dead = false := hd
  have hft : fitsF 2 1 s = true := by
    unfold fitsF
    rw [if_neg (by decide)]
    simp only [Bool.and_eq_true, decide_eq_true_eq, beq_iff_eq]
    omega
  have hD := apm_do h0 ha ho hc
  unfold ddoF
  rw [hft]
  simp only [hD]
  exact ⟨rfl, rfl, rfl⟩

theorem Ap.read {d : Dv} {a bl op ac : Int} {i : Int} (h : Ap d a bl op ac) (h0 : 0 ≤ i) (h1 : i + 1 ≤ a) : ∃ s, ddoF d 7 0 i 1 ByteArray.empty = ((s, i, 0), d) := by
  obtain ⟨m, bs, la, dead⟩ := d
  obtain ⟨hm, hd⟩ := h
  obtain rfl : m = apm a bl op ac := hm
  obtain rfl : dead = false := hd
  have hft : fitsF 7 1 ByteArray.empty = true := by
    unfold fitsF
    rw [if_pos (.inl rfl)]
    simp [ByteArray.toList, ByteArray.toList.loop]
  have hD := apm_read (bl := bl) (op := op) (ac := ac) h0 h1
  refine ⟨str (((bs.getD 0 []).drop (i.toNat * 64)).take 64), ?_⟩
  unfold ddoF
  rw [hft]
  simp only [hD]
  rfl

end Go.Proofs.Ytadpeopbfoppjaa
