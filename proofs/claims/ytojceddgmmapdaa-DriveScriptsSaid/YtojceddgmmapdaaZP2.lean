/-
  Plain: states and lengths stay within their bounds at every command (without the limits).
-/
import Derived.Test.YtojceddgmmapdaaZP
namespace Go.Proofs.Ytojceddgmmapdaa
open Go.RowKit

theorem ok_enter {m : Mc} (h : m.ok) {i : Nat} (hi : i < m.zs.length) {s : Int} (hs : s = 1 ∨ s = 2) : (enterF m i s).2.ok := by
  have hb : 0 ≤ m.st i ∧ m.st i ≤ 4 ∧ 0 ≤ m.ln i ∧ m.ln i ≤ m.bl := h.each i hi
  unfold enterF
  split
  · exact ok_set h hi (by split <;> omega) (by split <;> omega) hb.2.2.1 hb.2.2.2
  · split
    · exact h
    · split
      · split
        · exact h
        · rename_i hf
          have hj := fidx_lt _ hf
          have hbj : 0 ≤ m.st (fidx m.zs).toNat ∧ m.st (fidx m.zs).toNat ≤ 4 ∧ 0 ≤ m.ln (fidx m.zs).toNat ∧ m.ln (fidx m.zs).toNat ≤ m.bl := h.each _ hj
          have g1 : (m.setSt (fidx m.zs).toNat 3).ok := ok_set h hj (by decide) (by decide) hbj.2.2.1 hbj.2.2.2
          have l1 : (m.setSt (fidx m.zs).toNat 3).ln i = m.ln i := Mc.ln_setSt _ _ hj _ _
          exact ok_set g1 (by simpa using hi) (by omega) (by omega) (by rw [l1]; exact hb.2.2.1) (by rw [l1]; exact hb.2.2.2)
      · exact ok_set h hi (by omega) (by omega) hb.2.2.1 hb.2.2.2

theorem ok_grow {m : Mc} (h : m.ok) {i : Nat} (hi : i < m.zs.length) {n : Int} (h1 : 1 ≤ n) (h2 : m.ln i + n ≤ m.bl) : (growF m i n).2.ok := by
  have hb : 0 ≤ m.st i ∧ m.st i ≤ 4 ∧ 0 ≤ m.ln i ∧ m.ln i ≤ m.bl := h.each i hi
  have hg := ok_enter h hi (.inl rfl)
  have hk := enterF_keeps m i 1 hi
  unfold growF
  simp only
  split
  · exact hg
  · generalize (enterF m i 1).2 = m1 at *
    obtain ⟨q1, q2, q3, q4, q5⟩ := hk
    have hi1 : i < m1.zs.length := by omega
    have hs1 : 0 ≤ m1.st i ∧ m1.st i ≤ 4 := ⟨(hg.each i hi1).1, (hg.each i hi1).2.1⟩
    have g2 : (m1.setLn i (m.ln i + n)).ok := ok_set hg hi1 hs1.1 hs1.2 (by omega) (by omega)
    split
    · have hi2 : i < (m1.setLn i (m.ln i + n)).zs.length := by simpa using hi1
      have l2 : (m1.setLn i (m.ln i + n)).ln i = m.ln i + n := by rw [Mc.ln_setLn _ _ hi1, if_pos rfl]
      exact ok_set g2 hi2 (by decide) (by decide) (by rw [l2]; omega) (by rw [l2]; show _ ≤ m1.bl; omega)
    · exact g2

theorem ok_verb {m : Mc} (h : m.ok) {i : Nat} (hi : i < m.zs.length) (k a n : Int) : (verbF m k i a n).2.ok := by
  have hb : 0 ≤ m.st i ∧ m.st i ≤ 4 ∧ 0 ≤ m.ln i ∧ m.ln i ≤ m.bl := h.each i hi
  have hbl := h.b1
  unfold verbF
  split
  · split
    · exact h
    · rename_i hs
      split
      · exact h
      · split
        · exact h
        · have hs := spanF_true (by simpa using hs)
          exact ok_grow h hi hs.2.1 (by omega)
  · split
    · split
      · exact h
      · rename_i hs
        split
        · exact h
        · split
          · exact h
          · rename_i ha
            have hs := spanF_true (by simpa using hs)
            have ha := spanF_true (by simpa using ha)
            exact ok_grow h hi hs.2.1 (by omega)
    · split
      · exact ok_set h hi (by decide) (by decide) (by decide) (by omega)
      · split
        · exact ok_set h hi (by decide) (by decide) hb.2.2.1 hb.2.2.2
        · split
          · split
            · exact h
            · exact ok_enter h hi (.inr rfl)
          · split
            · split
              · exact ok_set h hi (by unfold restF; split <;> decide) (by unfold restF; split <;> decide) hb.2.2.1 hb.2.2.2
              · split <;> exact h
            · split <;> exact h

theorem ok_do {m : Mc} (h : m.ok) (k z a n : Int) : (doF m k z a n).2.ok := by
  unfold doF
  split
  · exact h
  · split
    · exact h
    · exact ok_verb h (by omega) k a n

end Go.Proofs.Ytojceddgmmapdaa
