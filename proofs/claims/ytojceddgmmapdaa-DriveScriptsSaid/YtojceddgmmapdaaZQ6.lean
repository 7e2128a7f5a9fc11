/-
  The document's zones: Do comes to doF, at every command; a zone that is Implicit or Closed has a block.
-/
import Derived.Test.YtojceddgmmapdaaZQ4
import Derived.Test.YtojceddgmmapdaaZQ5
namespace Go.Proofs.Ytojceddgmmapdaa
open Go.RowKit

/-- A zone that is Implicit or Closed has a block. -/
def Mc.held (m : Mc) : Prop := ∀ i, i < m.zs.length → (m.st i = 1 ∨ m.st i = 3) → 1 ≤ m.ln i

theorem held_set {m : Mc} (h : m.held) {i : Nat} (hi : i < m.zs.length) {s l : Int} (h1 : s = 1 ∨ s = 3 → 1 ≤ l) : ({ m with zs := m.zs.set i (s, l) } : Mc).held := by
  intro j hj
  have hj' : j < m.zs.length := by simpa using hj
  show stOf (m.zs.set i (s, l)) j = 1 ∨ stOf (m.zs.set i (s, l)) j = 3 → 1 ≤ lnOf (m.zs.set i (s, l)) j
  rw [stOf_set _ _ hi, lnOf_set _ _ hi]
  split
  · exact h1
  · exact h j hj'

theorem held_enter2 {m : Mc} (h : m.held) {i : Nat} (hi : i < m.zs.length) : (enterF m i 2).2.held := by
  unfold enterF
  split
  · rename_i ho
    exact held_set h hi (by rw [isOp_iff] at ho; intro hs; split at hs <;> omega)
  · split
    · exact h
    · split
      · split
        · exact h
        · rename_i hf
          rcases fidx_cases m.zs with ⟨e, _⟩ | ⟨j, hj, e, hj1, _⟩
          · rw [e] at hf; exact absurd hf (by decide)
          · rw [e, Int.toNat_natCast]
            have g1 : (m.setSt j 3).held := held_set h hj (fun _ => h j hj (.inl hj1))
            exact held_set g1 (by simpa using hi) (by omega)
      · exact held_set h hi (by omega)

/-- Behind enter with state 1 all but zone i hold. -/
theorem held_enter1 {m : Mc} (h : m.held) {i : Nat} (hi : i < m.zs.length) (l : Int) (hl : 1 ≤ l) : ((enterF m i 1).2.setLn i l).held := by
  have hk := enterF_keeps m i 1 hi
  have hi1 : i < (enterF m i 1).2.zs.length := by omega
  have other : ∀ j, j < m.zs.length → j ≠ i → ((enterF m i 1).2.st j = 1 ∨ (enterF m i 1).2.st j = 3) → 1 ≤ m.ln j := by
    intro j hj hji
    unfold enterF
    split
    · rw [Mc.st_setSt _ _ hi, if_neg (Ne.symm hji)]; exact h j hj
    · split
      · exact h j hj
      · split
        · split
          · exact h j hj
          · rename_i hf
            rcases fidx_cases m.zs with ⟨e, _⟩ | ⟨q, hq, e, hq1, _⟩
            · rw [e] at hf; exact absurd hf (by decide)
            · rw [e, Int.toNat_natCast]
              show ((m.setSt q 3).setSt i 1).st j = 1 ∨ ((m.setSt q 3).setSt i 1).st j = 3 → _
              rw [Mc.st_setSt _ _ (by simpa using hi), if_neg (Ne.symm hji), Mc.st_setSt _ _ hq]
              split
              · rename_i hqj; subst hqj; exact fun _ => h _ hj (.inl hq1)
              · exact h j hj
        · show (m.setSt i 1).st j = 1 ∨ (m.setSt i 1).st j = 3 → _
          rw [Mc.st_setSt _ _ hi, if_neg (Ne.symm hji)]; exact h j hj
  intro j hj
  have hj' : j < m.zs.length := by have : j < (enterF m i 1).2.zs.length := by simpa using hj
                                   omega
  rw [Mc.st_setLn _ _ hi1, Mc.ln_setLn _ _ hi1]
  by_cases e : i = j
  · rw [if_pos e]; exact fun _ => hl
  · rw [if_neg e, hk.2.2.2.2]; exact other j hj' (Ne.symm e)

theorem held_verb {m : Mc} (h : m.held) {i : Nat} (hi : i < m.zs.length) (hl : 0 ≤ m.ln i) (k a n : Int) : (verbF m k i a n).2.held := by
  have hg : 1 ≤ n → (growF m i n).2.held := by
    intro hn
    unfold growF
    simp only
    split
    · rename_i he
      have := enter_refuses m i 1 he
      rw [this]; exact h
    · have h1 := held_enter1 h hi (m.ln i + n) (by omega)
      split
      · exact held_set h1 (by have := (enterF_keeps m i 1 hi).1; simp; omega) (by omega)
      · exact h1
  unfold verbF
  split
  · split
    · exact h
    · rename_i hs
      split
      · exact h
      · split
        · exact h
        · exact hg (spanF_true (by simpa using hs)).2.1
  · split
    · split
      · exact h
      · rename_i hs
        split
        · exact h
        · split
          · exact h
          · exact hg (spanF_true (by simpa using hs)).2.1
    · split
      · exact held_set h hi (by omega)
      · split
        · exact held_set h hi (by omega)
        · split
          · split
            · exact h
            · exact held_enter2 h hi
          · split
            · split
              · refine held_set h hi ?_
                unfold restF
                split <;> omega
              · split <;> exact h
            · split <;> exact h

theorem held_do {m : Mc} (h : m.held) (hok : m.ok) (k z a n : Int) : (doF m k z a n).2.held := by
  unfold doF
  split
  · exact h
  · split
    · exact h
    · exact held_verb h (by omega) (hok.each z.toNat (by omega)).2.2.1 k a n

theorem held_new (z b o a : Int) : (newF z b o a).held := by
  intro i hi
  have e : (List.replicate z.toNat ((0 : Int), (0 : Int))).getD i (0, 0) = (0, 0) := by
    have : i < z.toNat := by simpa [newF] using hi
    simp [List.getD_eq_getElem?_getD, this]
  show stOf (List.replicate z.toNat (0, 0)) i = 1 ∨ stOf (List.replicate z.toNat (0, 0)) i = 3 → _
  simp only [stOf, e]
  omega

set_option maxRecDepth 100000 in
theorem rdo_refuses (bm bz : Nat) (m : Mc) (k z a n : Int) (w : World) (hI : IsM RM RZ w bm bz m) (hr : k < 1 ∨ 7 < k) :
    Calls Try.prog 21 #[.pointer (some ⟨bm, 0, none⟩), .agg #[.int .i64 k, .int .i64 z, .int .i64 a, .int .i64 n]] w (RPost bm bz w ((0, 1), m)) := by
  have HI := Lib.hid hI; clear hI
  by_cases h1 : k < 1
  · clear hr
    go_enter Try.func21, Try.ntmps21
    go_wp2_with (first | go_quiet (fail))
    go_ret2
    exact ⟨rfl, HI.out.alloc _, (Mod.refl _ _).alloc _⟩
  · have h7 : 7 < k := by omega
    clear hr
    go_enter Try.func21, Try.ntmps21
    go_wp2_with (first | go_quiet (fail))
    go_ret2
    exact ⟨rfl, HI.out.alloc _, (Mod.refl _ _).alloc _⟩

set_option maxRecDepth 100000 in
theorem rdo_far (bm bz : Nat) (m : Mc) (k z a n : Int) (w : World) (hI : IsM RM RZ w bm bz m) (hk : 1 ≤ k) (hk' : k ≤ 7) (hz : z < 0 ∨ (m.zs.length : Int) ≤ z) :
    Calls Try.prog 21 #[.pointer (some ⟨bm, 0, none⟩), .agg #[.int .i64 k, .int .i64 z, .int .i64 a, .int .i64 n]] w (RPost bm bz w ((0, 2), m)) := by
  have HI := Lib.hid hI; clear hI
  have hlt := HI.out.lt
  obtain ⟨hlm, hlz⟩ := hlt
  obtain ⟨cap, hcz⟩ := HI.out.cellZ
  by_cases h1 : z < 0
  · clear hz
    go_enter Try.func21, Try.ntmps21
    go_wp2_with (first | go_quiet (fail))
    go_ret2
    exact ⟨rfl, (HI.out.alloc _).drewN _, ((Mod.refl _ _).alloc _).drewN _⟩
  · have h2 : (m.zs.length : Int) ≤ z := by omega
    clear hz
    go_enter Try.func21, Try.ntmps21
    go_wp2_with (first | go_quiet (fail))
    go_ret2
    exact ⟨rfl, (HI.out.alloc _).drewN _, ((Mod.refl _ _).alloc _).drewN _⟩

theorem rwrite_any (bm bz : Nat) (m : Mc) (i : Nat) (a n : Int) (w : World) (hI : IsM RM RZ w bm bz m) (hp : VerbPre m i) :
    Calls Try.prog 21 #[.pointer (some ⟨bm, 0, none⟩), .agg #[.int .i64 1, .int .i64 i, .int .i64 a, .int .i64 n]] w (RPost bm bz w (verbF m 1 i a n)) := by
  by_cases h1 : n < 1
  · exact rw_n0 bm bz m i a n w hI hp h1
  by_cases h2 : m.bl < n
  · exact rw_nb bm bz m i a n w hI hp (by omega) h2
  by_cases h3 : a < 0
  · exact rw_a0 bm bz m i a n w hI hp (by omega) (by omega) h3
  by_cases h4 : m.bl - n < a
  · exact rw_ab bm bz m i a n w hI hp (by omega) (by omega) (by omega) h4
  by_cases h5 : m.st i = 4
  · exact rw_full bm bz m i a n w hI hp (by omega) (by omega) (by omega) (by omega) h5
  by_cases h6 : a = m.ln i
  · subst h6
    by_cases he : (enterF m i 1).1 = 0
    · by_cases hf : m.ln i + n = m.bl
      · exact rw_okf bm bz m i n w hI hp (by omega) (by omega) (by omega) h5 he hf
      · exact rw_ok bm bz m i n w hI hp (by omega) (by omega) (by omega) h5 he hf
    · exact rw_err bm bz m i n w hI hp (by omega) (by omega) (by omega) h5 he
  · exact rw_at bm bz m i a n w hI hp (by omega) (by omega) (by omega) (by omega) h5 h6

theorem rappend_any (bm bz : Nat) (m : Mc) (i : Nat) (a n : Int) (w : World) (hI : IsM RM RZ w bm bz m) (hp : VerbPre m i) :
    Calls Try.prog 21 #[.pointer (some ⟨bm, 0, none⟩), .agg #[.int .i64 2, .int .i64 i, .int .i64 a, .int .i64 n]] w (RPost bm bz w (verbF m 2 i a n)) := by
  by_cases h1 : n < 1
  · exact ra_n0 bm bz m i a n w hI hp h1
  by_cases h2 : m.bl < n
  · exact ra_nb bm bz m i a n w hI hp (by omega) h2
  by_cases h5 : m.st i = 4
  · exact ra_full bm bz m i a n w hI hp (by omega) (by omega) h5
  by_cases h6 : m.bl - n < m.ln i
  · exact ra_long bm bz m i a n w hI hp (by omega) (by omega) h5 h6
  by_cases he : (enterF m i 1).1 = 0
  · by_cases hf : m.ln i + n = m.bl
    · exact ra_okf bm bz m i a n w hI hp (by omega) (by omega) (by omega) h5 he hf
    · exact ra_ok bm bz m i a n w hI hp (by omega) (by omega) (by omega) h5 he hf
  · exact ra_err bm bz m i a n w hI hp (by omega) (by omega) (by omega) h5 he

theorem rdo_any (bm bz : Nat) (m : Mc) (k z a n : Int) (w : World) (hI : IsM RM RZ w bm bz m) (hok : m.ok) (hh : m.held) :
    Calls Try.prog 21 #[.pointer (some ⟨bm, 0, none⟩), .agg #[.int .i64 k, .int .i64 z, .int .i64 a, .int .i64 n]] w (RPost bm bz w (doF m k z a n)) := by
  unfold doF
  split
  · rename_i h; exact rdo_refuses bm bz m k z a n w hI h
  · rename_i h
    split
    · rename_i hz; exact rdo_far bm bz m k z a n w hI (by omega) (by omega) hz
    · rename_i hz
      obtain ⟨i, rfl⟩ := Int.eq_ofNat_of_zero_le (show 0 ≤ z by omega)
      have hi : i < m.zs.length := by omega
      rw [Int.toNat_natCast]
      have hv := hok.verb hi
      have hb : 0 ≤ m.st i ∧ m.st i ≤ 4 ∧ 0 ≤ m.ln i ∧ m.ln i ≤ m.bl := hok.each i hi
      have hhi := hh i hi
      rcases (show k = 1 ∨ k = 2 ∨ k = 3 ∨ k = 4 ∨ k = 5 ∨ k = 6 ∨ k = 7 by omega) with rfl | rfl | rfl | rfl | rfl | rfl | rfl
      · exact rwrite_any bm bz m i a n w hI hv
      · exact rappend_any bm bz m i a n w hI hv
      · exact r_reset bm bz m i a n w hI hv
      · exact r_finish bm bz m i a n w hI hv
      · by_cases h5 : m.st i = 4
        · exact r_openf bm bz m i a n w hI hv h5
        · exact r_open bm bz m i a n w hI hv h5
      · by_cases s0 : m.st i = 0
        · exact r_shut0 bm bz m i a n w hI hv s0
        by_cases s4 : m.st i = 4
        · exact r_shut4 bm bz m i a n w hI hv s4
        by_cases s3 : m.st i = 3
        · exact r_shutx bm bz m i a n w hI hv s3 (by have := hhi (.inr s3); omega)
        · by_cases l0 : m.ln i = 0
          · exact r_shute bm bz m i a n w hI hv (by omega) l0
          · exact r_shutc bm bz m i a n w hI hv (by omega) l0
      · by_cases h1 : a < 0
        · exact r_read_a0 bm bz m i a n w hI hv h1
        by_cases h2 : n < 1
        · exact r_read_n0 bm bz m i a n w hI hv (by omega) h2
        by_cases h3 : m.ln i < n
        · exact r_read_nl bm bz m i a n w hI hv (by omega) (by omega) h3
        by_cases h4 : m.ln i - n < a
        · exact r_read_al bm bz m i a n w hI hv (by omega) (by omega) (by omega) h4
        · exact r_read_ok bm bz m i a n w hI hv (by omega) (by omega) (by omega) (by omega)

end Go.Proofs.Ytojceddgmmapdaa
