/-
  Plain: what a command that is done makes of the lengths; the drive holds to its order.
-/
import Derived.Test.YtojceddgmmapdaaD3
namespace Go.Proofs.Ytojceddgmmapdaa
open Go.RowKit

theorem grow_lns (m : Mc) (i : Nat) (n : Int) (hi : i < m.zs.length) (he : (growF m i n).1.2 = 0) : (growF m i n).1.1 = m.ln i ∧ ∀ j, (growF m i n).2.ln j = if i = j then m.ln i + n else m.ln j := by
  have hk := enterF_keeps m i 1 hi
  revert he
  unfold growF
  simp only
  split
  · rename_i h; exact fun he => absurd he h
  · intro _
    have hi1 : i < (enterF m i 1).2.zs.length := by omega
    have hi2 : i < ((enterF m i 1).2.setLn i (m.ln i + n)).zs.length := by simpa using hi1
    refine ⟨rfl, fun j => ?_⟩
    split
    · rw [Mc.ln_setSt _ _ hi2, Mc.ln_setLn _ _ hi1, hk.2.2.2.2]
    · rw [Mc.ln_setLn _ _ hi1, hk.2.2.2.2]

/-- A command of a kind, done to zone i: what it answers, and the lengths. -/
structure Done (m : Mc) (k a n : Int) (i : Nat) (r : (Int × Int) × Mc) : Prop where
  k1 : 1 ≤ k ∧ k ≤ 7
  hi : i < m.zs.length
  w : k = 1 ∨ k = 2 → r.1.1 = m.ln i ∧ 1 ≤ n ∧ m.ln i + n ≤ m.bl ∧ ∀ j, r.2.ln j = if i = j then m.ln i + n else m.ln j
  r7 : k = 7 → r.1.1 = a ∧ 0 ≤ a ∧ 1 ≤ n ∧ a + n ≤ m.ln i
  e : k = 3 → ∀ j, r.2.ln j = if i = j then 0 else m.ln j
  o : ¬ (k = 1 ∨ k = 2 ∨ k = 3) → ∀ j, r.2.ln j = m.ln j
  z : ¬ (k = 1 ∨ k = 2 ∨ k = 7) → r.1.1 = 0

theorem verb_done (m : Mc) (k : Int) (i : Nat) (a n : Int) (hk : 1 ≤ k ∧ k ≤ 7) (hi : i < m.zs.length) (he : (verbF m k i a n).1.2 = 0) : Done m k a n i (verbF m k i a n) := by
  rcases (show k = 1 ∨ k = 2 ∨ k = 3 ∨ k = 4 ∨ k = 5 ∨ k = 6 ∨ k = 7 by omega) with rfl | rfl | rfl | rfl | rfl | rfl | rfl
  · refine ⟨hk, hi, fun _ => ?_, fun h => absurd h (by decide), fun h => absurd h (by decide), fun h => absurd h (by decide), fun h => absurd h (by decide)⟩
    revert he
    unfold verbF
    rw [if_pos rfl]
    split
    · exact fun he => by simp at he
    · rename_i hs
      have hs := spanF_true (by simpa using hs)
      split
      · exact fun he => by simp at he
      · split
        · exact fun he => by simp at he
        · rename_i ha
          intro he
          have hg := grow_lns m i n hi he
          exact ⟨hg.1, hs.2.1, by omega, hg.2⟩
  · refine ⟨hk, hi, fun _ => ?_, fun h => absurd h (by decide), fun h => absurd h (by decide), fun h => absurd h (by decide), fun h => absurd h (by decide)⟩
    revert he
    unfold verbF
    rw [if_neg (by decide), if_pos rfl]
    split
    · exact fun he => by simp at he
    · split
      · exact fun he => by simp at he
      · split
        · exact fun he => by simp at he
        · rename_i hs
          have hs := spanF_true (by simpa using hs)
          intro he
          have hg := grow_lns m i n hi he
          exact ⟨hg.1, hs.2.1, by omega, hg.2⟩
  · refine ⟨hk, hi, fun h => absurd h (by decide), fun h => absurd h (by decide), fun _ j => ?_, fun h => absurd h (by decide), fun _ => rfl⟩
    show lnOf (m.zs.set i (0, 0)) j = _
    rw [lnOf_set _ _ hi]
    rfl
  · exact ⟨hk, hi, fun h => absurd h (by decide), fun h => absurd h (by decide), fun h => absurd h (by decide), fun _ j => m.ln_setSt i hi 4 j, fun _ => rfl⟩
  · refine ⟨hk, hi, fun h => absurd h (by decide), fun h => absurd h (by decide), fun h => absurd h (by decide), fun _ j => ?_, fun _ => ?_⟩
    · unfold verbF
      rw [if_neg (by decide), if_neg (by decide), if_neg (by decide), if_neg (by decide), if_pos rfl]
      split
      · rfl
      · exact (enterF_keeps m i 2 hi).2.2.2.2 j
    · unfold verbF
      rw [if_neg (by decide), if_neg (by decide), if_neg (by decide), if_neg (by decide), if_pos rfl]
      split <;> rfl
  · refine ⟨hk, hi, fun h => absurd h (by decide), fun h => absurd h (by decide), fun h => absurd h (by decide), fun _ j => ?_, fun _ => ?_⟩
    · unfold verbF
      rw [if_neg (by decide), if_neg (by decide), if_neg (by decide), if_neg (by decide), if_neg (by decide), if_pos rfl]
      split
      · exact m.ln_setSt i hi _ j
      · split <;> rfl
    · unfold verbF
      rw [if_neg (by decide), if_neg (by decide), if_neg (by decide), if_neg (by decide), if_neg (by decide), if_pos rfl]
      split
      · rfl
      · split <;> rfl
  · have hv : verbF m 7 i a n = if !spanF a n (m.ln i) then ((0, 2), m) else ((a, 0), m) := by
      unfold verbF
      rw [if_neg (by decide), if_neg (by decide), if_neg (by decide), if_neg (by decide), if_neg (by decide), if_neg (by decide)]
    rw [hv] at he ⊢
    revert he
    split
    · exact fun he => by simp at he
    · rename_i hs
      have hs := spanF_true (by simpa using hs)
      intro _
      exact ⟨hk, hi, fun h => absurd h (by decide), fun _ => ⟨rfl, hs.1, hs.2.1, by omega⟩, fun h => absurd h (by decide), fun _ j => rfl, fun h => absurd h (by decide)⟩

theorem do_done (m : Mc) (k z a n : Int) (he : (doF m k z a n).1.2 = 0) : 0 ≤ z ∧ Done m k a n z.toNat (doF m k z a n) := by
  revert he
  unfold doF
  split
  · exact fun he => by simp at he
  · split
    · exact fun he => by simp at he
    · intro he
      exact ⟨by omega, verb_done m k z.toNat a n (by omega) (by omega) he⟩

end Go.Proofs.Ytojceddgmmapdaa
