/-
  Walks: the verbs of a zone (write, append, reset, finish, open, close, read).
-/
import Derived.Test.YtojceddgmmapdaaZ2
namespace Go.Proofs.Ytojceddgmmapdaa
open Go.RowKit

theorem Mc.st_setSt (m : Mc) (i : Nat) (hi : i < m.zs.length) (s : Int) (k : Nat) : (m.setSt i s).st k = if i = k then s else m.st k := by
  simp only [Mc.st, Mc.setSt]; rw [stOf_set _ _ hi]
theorem Mc.ln_setSt (m : Mc) (i : Nat) (hi : i < m.zs.length) (s : Int) (k : Nat) : (m.setSt i s).ln k = m.ln k := by
  simp only [Mc.ln, Mc.setSt]; rw [lnOf_set _ _ hi]; split
  · subst_vars; rfl
  · rfl
theorem Mc.st_setLn (m : Mc) (i : Nat) (hi : i < m.zs.length) (s : Int) (k : Nat) : (m.setLn i s).st k = m.st k := by
  simp only [Mc.st, Mc.setLn]; rw [stOf_set _ _ hi]; split
  · subst_vars; rfl
  · rfl
theorem Mc.ln_setLn (m : Mc) (i : Nat) (hi : i < m.zs.length) (s : Int) (k : Nat) : (m.setLn i s).ln k = if i = k then s else m.ln k := by
  simp only [Mc.ln, Mc.setLn]; rw [lnOf_set _ _ hi]

theorem fidx_lt (zs : List (Int × Int)) (h : ¬ fidx zs < 0) : (fidx zs).toNat < zs.length := by
  rcases fidx_cases zs with ⟨e, _⟩ | ⟨k, hk, e, _⟩
  · rw [e] at h; exact absurd h (by decide)
  · rw [e]; simpa using hk

theorem enterF_keeps (m : Mc) (i : Nat) (s : Int) (hi : i < m.zs.length) : (enterF m i s).2.zs.length = m.zs.length ∧ (enterF m i s).2.bl = m.bl ∧ (enterF m i s).2.op = m.op ∧ (enterF m i s).2.ac = m.ac ∧ ∀ k, (enterF m i s).2.ln k = m.ln k := by
  unfold enterF
  split
  · exact ⟨by simp, rfl, rfl, rfl, fun k => m.ln_setSt i hi _ k⟩
  · split
    · exact ⟨rfl, rfl, rfl, rfl, fun _ => rfl⟩
    · split
      · split
        · exact ⟨rfl, rfl, rfl, rfl, fun _ => rfl⟩
        · rename_i h
          exact ⟨by simp, rfl, rfl, rfl, fun k => by
            show ((m.setSt (fidx m.zs).toNat 3).setSt i s).ln k = _
            rw [Mc.ln_setSt _ _ (by simpa using hi), Mc.ln_setSt _ _ (fidx_lt _ h)]⟩
      · exact ⟨by simp, rfl, rfl, rfl, fun k => m.ln_setSt i hi _ k⟩

set_option maxHeartbeats 1000000 in
theorem grow_any (bm bz : Nat) (m : Mc) (i : Nat) (n : Int) (w : World) (hI : IsM TM TZ w bm bz m) (hn : m.zs.length ≤ 64) (hi : i < m.zs.length)
    (h1 : 1 ≤ n) (h2 : 0 ≤ m.ln i) (h3 : m.ln i + n ≤ m.bl) (h4 : m.bl ≤ 4096) :
    Calls Try.prog 59 #[.pointer (some ⟨bm, 0, none⟩), .pointer (some ⟨bz, i * 2, none⟩), .int .i64 n] w fun e w' =>
      e = .returned (.tuple #[.int .i64 (growF m i n).1.1, .int .i64 (growF m i n).1.2]) ∧ IsM TM TZ w' bm bz (growF m i n).2 ∧ Mod [bz] w w' := by
  have HI := Lib.hid hI; clear hI
  have Hn := Lib.hid hn; clear hn
  have hK := enterF_keeps m i 1 hi
  have Hent := Lib.hid (enter_any bm bz m i 1 w HI.out Hn.out hi)
  by_cases he : (enterF m i 1).1 = 0
  · have hgr : growF m i n = ((m.ln i, 0), if m.ln i + n = m.bl then ((enterF m i 1).2.setLn i (m.ln i + n)).setSt i 4 else (enterF m i 1).2.setLn i (m.ln i + n)) := by simp [growF, he]
    obtain ⟨q1, q2, q3, q4, q5⟩ := hK
    have q5 := q5 i
    generalize (enterF m i 1).2 = m1 at *
    have hi1 : i < m1.zs.length := by omega
    have F : ∀ w1, IsM TM TZ w1 bm bz m1 → w1.cell? ⟨bz, i * 2, none⟩ = some (.int .i64 (m1.st i)) ∧ w1.cell? ⟨bz, i * 2 + 1, none⟩ = some (.int .i64 (m.ln i)) ∧ w1.cell? ⟨bm, 1, none⟩ = some (.int .i64 m.bl) ∧ (∀ o, w1.frozen? ⟨bz, o, none⟩ = false)
        ∧ IsM TM TZ (w1.setCell ⟨bz, i * 2 + 1, none⟩ (.int .i64 (m.ln i + n))) bm bz (m1.setLn i (m.ln i + n)) ∧ IsM TM TZ ((w1.setCell ⟨bz, i * 2 + 1, none⟩ (.int .i64 (m.ln i + n))).setCell ⟨bz, i * 2, none⟩ (.int .i64 4)) bm bz ((m1.setLn i (m.ln i + n)).setSt i 4) := fun w1 h1 =>
      ⟨h1.cellSt hi1, by rw [← q5]; exact h1.cellLn hi1, by rw [← q2]; exact h1.cellB, h1.frozen, h1.setLn hi1 _, (h1.setLn hi1 _).setSt (by simpa using hi1) _⟩
    have HF := Lib.hid F; clear F
    have hne : bm ≠ bz := HI.out.ne
    rw [he] at Hent
    by_cases hf : m.ln i + n = m.bl
    · rw [if_pos hf] at hgr
      have Hgr := Lib.hid hgr; clear hgr q1 q2 q3 q4 q5 he
      generalize hl : m.ln i = l at *
      generalize hbl : m.bl = bl at *
      have Hl := Lib.hid hl; clear hl
      have Hbl := Lib.hid hbl; clear hbl
      subst hf
      go_enter Try.func59, Try.ntmps59
      go_wp2_with (first | (go_at_call 60; refine (Hent.out).mono ?_; rintro e w1 ⟨rfl, hI1, hm1⟩; obtain ⟨k0, k1, k2, k3, k4, k5⟩ := HF.out _ hI1; have K4 := Lib.hid k4; clear k4; have K5 := Lib.hid k5; clear k5) | go_quiet (fail))
      go_ret2
      rw [Hgr.out]
      exact ⟨rfl, K5.out.drewN _, ((hm1.set (by simp) _).set (by simp) _).drewN _⟩
    · rw [if_neg hf] at hgr
      have Hgr := Lib.hid hgr; clear hgr q1 q2 q3 q4 q5 he
      generalize hl : m.ln i = l at *
      generalize hbl : m.bl = bl at *
      have Hl := Lib.hid hl; clear hl
      have Hbl := Lib.hid hbl; clear hbl
      have hf' : (l + n == bl) = false := by simpa using hf
      clear hf
      go_enter Try.func59, Try.ntmps59
      go_wp2_with (first | (go_at_call 60; refine (Hent.out).mono ?_; rintro e w1 ⟨rfl, hI1, hm1⟩; obtain ⟨k0, k1, k2, k3, k4, k5⟩ := HF.out _ hI1; have K4 := Lib.hid k4; clear k4; have K5 := Lib.hid k5; clear k5) | go_quiet (fail))
      go_ret2
      rw [Hgr.out]
      exact ⟨rfl, K4.out.drewN _, (hm1.set (by simp) _).drewN _⟩
  · have hgr : growF m i n = ((0, (enterF m i 1).1), (enterF m i 1).2) := by simp [growF, he]
    have Hgr := Lib.hid hgr; clear hgr
    have hb : ((enterF m i 1).1 != 0) = true := by simpa using he
    clear hK he
    generalize enterF m i 1 = r at *
    obtain ⟨e0, m1⟩ := r
    simp only at Hent Hgr hb
    go_enter Try.func59, Try.ntmps59
    go_wp2_with (first | (go_at_call 60; refine (Hent.out).mono ?_; rintro e w1 ⟨rfl, hI1, hm1⟩) | go_quiet (fail))
    go_ret2
    rw [Hgr.out]
    exact ⟨rfl, hI1, hm1⟩

end Go.Proofs.Ytojceddgmmapdaa
