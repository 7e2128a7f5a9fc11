/-
  Walks: the other verbs of a zone.
-/
import Derived.Test.YtojceddgmmapdaaZ4
namespace Go.Proofs.Ytojceddgmmapdaa
open Go.RowKit

set_option maxHeartbeats 1000000 in
theorem append_any (bm bz : Nat) (m : Mc) (i : Nat) (k z a n : Int) (w : World) (hI : IsM TM TZ w bm bz m) (hp : VerbPre m i) :
    Calls Try.prog 51 #[.pointer (some ⟨bm, 0, none⟩), .pointer (some ⟨bz, i * 2, none⟩), .agg #[.int .i64 k, .int .i64 z, .int .i64 a, .int .i64 n]] w (VerbPost bm bz w (verbF m 2 i a n)) := by
  have HI := Lib.hid hI; clear hI
  obtain ⟨hn, hi, b1, b2, l1, l2⟩ := hp
  have hlt := HI.out.lt
  obtain ⟨hlm, hlz⟩ := hlt
  have hfz := HI.out.frozen
  have Hb1 := Lib.hid b1; have Hb2 := Lib.hid b2; have Hl1 := Lib.hid l1; have Hl2 := Lib.hid l2; have Hn := Lib.hid hn
  have F : ∀ w1, Below w.heap.size w w1 → w1.cell? ⟨bz, i * 2, none⟩ = some (.int .i64 (m.st i)) ∧ w1.cell? ⟨bz, i * 2 + 1, none⟩ = some (.int .i64 (m.ln i)) ∧ w1.cell? ⟨bm, 1, none⟩ = some (.int .i64 m.bl) := fun w1 h => ⟨(HI.out.below h).cellSt hi, (HI.out.below h).cellLn hi, (HI.out.below h).cellB⟩
  obtain ⟨k0, k1, k2⟩ := F _ (Below.refl _ _)
  clear F
  by_cases hs : spanF 0 n m.bl = true
  · by_cases h4 : m.st i = 4
    · have hfin : verbF m 2 i a n = ((0, 4), m) := by simp [verbF, hs, h4]
      have Hfin := Lib.hid hfin; clear hfin
      rw [h4] at k0; clear h4
      go_enter Try.func51, Try.ntmps51
      go_wp2_with (first | go_quiet ((go_at_call 58; exact quietW (span_any _ _ _ _ (by have := Hb2.out; have := Hl2.out; omega) (by have := Hb1.out; have := Hl1.out; omega)))) | go_quiet (fail) | (go_at_call 58; refine (span_any _ _ _ _ (by have := Hb2.out; have := Hl2.out; omega) (by have := Hb1.out; have := Hl1.out; omega)).mono ?_; rintro e w' ⟨rfl, rfl⟩))
      go_ret2
      refine ⟨?_, ?_, ?_⟩
      · rw [Hfin.out]; rfl
      · rw [Hfin.out]; exact (by repeat (first | exact HI.out | apply IsM.drewN | apply IsM.alloc))
      · exact (by repeat (first | exact Mod.refl _ _ | apply Mod.drewN | apply Mod.alloc | (refine Mod.set ?_ (.inl (by simp)) _)))
    · have h4b : (m.st i == 4) = false := by simpa using h4
      by_cases ha : spanF (m.ln i) n m.bl = true
      · have hfin : verbF m 2 i a n = growF m i n := by simp [verbF, hs, h4, ha]
        have Hfin := Lib.hid hfin; clear hfin
        have HG1 := Lib.hid (spanF_true hs).2.1
        have HG2 : Hid (m.ln i + n ≤ m.bl) := by show m.ln i + n ≤ m.bl; have := spanF_true ha; omega
        clear h4
        go_enter Try.func51, Try.ntmps51
        go_wp2_with (first | go_quiet ((go_at_call 58; exact quietW (span_any _ _ _ _ (by have := Hb2.out; have := Hl2.out; omega) (by have := Hb1.out; have := Hl1.out; omega)))) | go_quiet (fail) | (go_at_call 58; refine (span_any _ _ _ _ (by have := Hb2.out; have := Hl2.out; omega) (by have := Hb1.out; have := Hl1.out; omega)).mono ?_; rintro e w' ⟨rfl, rfl⟩) | (go_at_call 59; refine (grow_any bm bz m i n _ (by repeat (first | exact HI.out | apply IsM.drewN | apply IsM.alloc)) Hn.out hi HG1.out Hl1.out HG2.out Hb2.out).mono ?_; rintro e wg ⟨rfl, hIg, hmg⟩))
        go_ret2
        refine ⟨?_, ?_, ?_⟩
        · rw [Hfin.out]; rfl
        · rw [Hfin.out]; exact hIg
        · exact Mod.trans' (by repeat (first | exact Mod.refl _ _ | apply Mod.drewN | apply Mod.alloc | (refine Mod.set ?_ (.inl (by simp)) _))) hmg
      · have ha' : spanF (m.ln i) n m.bl = false := by simpa using ha
        have hfin : verbF m 2 i a n = ((0, 2), m) := by simp [verbF, hs, h4, ha]
        have Hfin := Lib.hid hfin; clear hfin
        clear ha h4
        go_enter Try.func51, Try.ntmps51
        go_wp2_with (first | go_quiet ((go_at_call 58; exact quietW (span_any _ _ _ _ (by have := Hb2.out; have := Hl2.out; omega) (by have := Hb1.out; have := Hl1.out; omega)))) | go_quiet (fail) | (go_at_call 58; refine (span_any _ _ _ _ (by have := Hb2.out; have := Hl2.out; omega) (by have := Hb1.out; have := Hl1.out; omega)).mono ?_; rintro e w' ⟨rfl, rfl⟩))
        go_ret2
        refine ⟨?_, ?_, ?_⟩
        · rw [Hfin.out]; rfl
        · rw [Hfin.out]; exact (by repeat (first | exact HI.out | apply IsM.drewN | apply IsM.alloc))
        · exact (by repeat (first | exact Mod.refl _ _ | apply Mod.drewN | apply Mod.alloc | (refine Mod.set ?_ (.inl (by simp)) _)))
  · have hs' : spanF 0 n m.bl = false := by simpa using hs
    have hfin : verbF m 2 i a n = ((0, 2), m) := by simp [verbF, hs]
    have Hfin := Lib.hid hfin; clear hfin
    clear hs
    go_enter Try.func51, Try.ntmps51
    go_wp2_with (first | go_quiet ((go_at_call 58; exact quietW (span_any _ _ _ _ (by have := Hb2.out; have := Hl2.out; omega) (by have := Hb1.out; have := Hl1.out; omega)))) | go_quiet (fail) | (go_at_call 58; refine (span_any _ _ _ _ (by have := Hb2.out; have := Hl2.out; omega) (by have := Hb1.out; have := Hl1.out; omega)).mono ?_; rintro e w' ⟨rfl, rfl⟩))
    go_ret2
    refine ⟨?_, ?_, ?_⟩
    · rw [Hfin.out]; rfl
    · rw [Hfin.out]; exact (by repeat (first | exact HI.out | apply IsM.drewN | apply IsM.alloc))
    · exact (by repeat (first | exact Mod.refl _ _ | apply Mod.drewN | apply Mod.alloc | (refine Mod.set ?_ (.inl (by simp)) _)))

theorem IsM.reset {T E : TypeId} {w : World} {bm bz : Nat} {m : Mc} (h : IsM T E w bm bz m) {i : Nat} (hi : i < m.zs.length) :
    IsM T E ((w.setCell ⟨bz, i * 2, none⟩ (.int .i64 0)).setCell ⟨bz, i * 2 + 1, none⟩ (.int .i64 0)) bm bz { m with zs := m.zs.set i (0, 0) } := by
  have h2 := (h.setSt hi 0).setLn (i := i) (by simpa using hi) 0
  have e : (m.setSt i 0).setLn i 0 = { m with zs := m.zs.set i (0, 0) } := by
    show Mc.mk _ _ _ _ = _
    rw [Mc.st_setSt _ _ hi]; simp [Mc.setSt]
  rwa [e] at h2

set_option maxHeartbeats 1000000 in
theorem reset_any (bm bz : Nat) (m : Mc) (i : Nat) (k z a n : Int) (w : World) (hI : IsM TM TZ w bm bz m) (hp : VerbPre m i) :
    Calls Try.prog 52 #[.pointer (some ⟨bm, 0, none⟩), .pointer (some ⟨bz, i * 2, none⟩), .agg #[.int .i64 k, .int .i64 z, .int .i64 a, .int .i64 n]] w (VerbPost bm bz w (verbF m 3 i a n)) := by
  have HI := Lib.hid hI; clear hI
  obtain ⟨hn, hi, b1, b2, l1, l2⟩ := hp
  have hlt := HI.out.lt
  obtain ⟨hlm, hlz⟩ := hlt
  have hfz := HI.out.frozen
  have Hb1 := Lib.hid b1; have Hb2 := Lib.hid b2; have Hl1 := Lib.hid l1; have Hl2 := Lib.hid l2; have Hn := Lib.hid hn
  have F : ∀ w1, Below w.heap.size w w1 → w1.cell? ⟨bz, i * 2, none⟩ = some (.int .i64 (m.st i)) ∧ w1.cell? ⟨bz, i * 2 + 1, none⟩ = some (.int .i64 (m.ln i)) ∧ w1.cell? ⟨bm, 1, none⟩ = some (.int .i64 m.bl) := fun w1 h => ⟨(HI.out.below h).cellSt hi, (HI.out.below h).cellLn hi, (HI.out.below h).cellB⟩
  obtain ⟨k0, k1, k2⟩ := F _ (Below.refl _ _)
  clear F
  have hfin : verbF m 3 i a n = ((0, 0), { m with zs := m.zs.set i (0, 0) }) := by simp [verbF]
  have Hfin := Lib.hid hfin; clear hfin
  go_enter Try.func52, Try.ntmps52
  go_wp2_with (first | go_quiet (fail))
  go_ret2
  refine ⟨?_, ?_, ?_⟩
  · rw [Hfin.out]; rfl
  · rw [Hfin.out]; exact (by repeat (first | exact HI.out.reset hi | apply IsM.drewN | apply IsM.alloc))
  · exact (by repeat (first | exact Mod.refl _ _ | apply Mod.drewN | apply Mod.alloc | (refine Mod.set ?_ (.inl (by simp)) _)))

set_option maxHeartbeats 1000000 in
theorem finish_any (bm bz : Nat) (m : Mc) (i : Nat) (k z a n : Int) (w : World) (hI : IsM TM TZ w bm bz m) (hp : VerbPre m i) :
    Calls Try.prog 53 #[.pointer (some ⟨bm, 0, none⟩), .pointer (some ⟨bz, i * 2, none⟩), .agg #[.int .i64 k, .int .i64 z, .int .i64 a, .int .i64 n]] w (VerbPost bm bz w (verbF m 4 i a n)) := by
  have HI := Lib.hid hI; clear hI
  obtain ⟨hn, hi, b1, b2, l1, l2⟩ := hp
  have hlt := HI.out.lt
  obtain ⟨hlm, hlz⟩ := hlt
  have hfz := HI.out.frozen
  have Hb1 := Lib.hid b1; have Hb2 := Lib.hid b2; have Hl1 := Lib.hid l1; have Hl2 := Lib.hid l2; have Hn := Lib.hid hn
  have F : ∀ w1, Below w.heap.size w w1 → w1.cell? ⟨bz, i * 2, none⟩ = some (.int .i64 (m.st i)) ∧ w1.cell? ⟨bz, i * 2 + 1, none⟩ = some (.int .i64 (m.ln i)) ∧ w1.cell? ⟨bm, 1, none⟩ = some (.int .i64 m.bl) := fun w1 h => ⟨(HI.out.below h).cellSt hi, (HI.out.below h).cellLn hi, (HI.out.below h).cellB⟩
  obtain ⟨k0, k1, k2⟩ := F _ (Below.refl _ _)
  clear F
  have hfin : verbF m 4 i a n = ((0, 0), m.setSt i 4) := by simp [verbF]
  have Hfin := Lib.hid hfin; clear hfin
  go_enter Try.func53, Try.ntmps53
  go_wp2_with (first | go_quiet (fail))
  go_ret2
  refine ⟨?_, ?_, ?_⟩
  · rw [Hfin.out]; rfl
  · rw [Hfin.out]; exact (by repeat (first | exact HI.out.setSt hi 4 | apply IsM.drewN | apply IsM.alloc))
  · exact (by repeat (first | exact Mod.refl _ _ | apply Mod.drewN | apply Mod.alloc | (refine Mod.set ?_ (.inl (by simp)) _)))

set_option maxHeartbeats 1000000 in
theorem explicit_any (bm bz : Nat) (m : Mc) (i : Nat) (k z a n : Int) (w : World) (hI : IsM TM TZ w bm bz m) (hp : VerbPre m i) :
    Calls Try.prog 54 #[.pointer (some ⟨bm, 0, none⟩), .pointer (some ⟨bz, i * 2, none⟩), .agg #[.int .i64 k, .int .i64 z, .int .i64 a, .int .i64 n]] w (VerbPost bm bz w (verbF m 5 i a n)) := by
  have HI := Lib.hid hI; clear hI
  obtain ⟨hn, hi, b1, b2, l1, l2⟩ := hp
  have hlt := HI.out.lt
  obtain ⟨hlm, hlz⟩ := hlt
  have hfz := HI.out.frozen
  have Hb1 := Lib.hid b1; have Hb2 := Lib.hid b2; have Hl1 := Lib.hid l1; have Hl2 := Lib.hid l2; have Hn := Lib.hid hn
  have F : ∀ w1, Below w.heap.size w w1 → w1.cell? ⟨bz, i * 2, none⟩ = some (.int .i64 (m.st i)) ∧ w1.cell? ⟨bz, i * 2 + 1, none⟩ = some (.int .i64 (m.ln i)) ∧ w1.cell? ⟨bm, 1, none⟩ = some (.int .i64 m.bl) := fun w1 h => ⟨(HI.out.below h).cellSt hi, (HI.out.below h).cellLn hi, (HI.out.below h).cellB⟩
  obtain ⟨k0, k1, k2⟩ := F _ (Below.refl _ _)
  clear F
  by_cases h4 : m.st i = 4
  · have hfin : verbF m 5 i a n = ((0, 4), m) := by simp [verbF, h4]
    have Hfin := Lib.hid hfin; clear hfin
    rw [h4] at k0; clear h4
    go_enter Try.func54, Try.ntmps54
    go_wp2_with (first | go_quiet (fail))
    go_ret2
    refine ⟨?_, ?_, ?_⟩
    · rw [Hfin.out]; rfl
    · rw [Hfin.out]; exact (by repeat (first | exact HI.out | apply IsM.drewN | apply IsM.alloc))
    · exact (by repeat (first | exact Mod.refl _ _ | apply Mod.drewN | apply Mod.alloc | (refine Mod.set ?_ (.inl (by simp)) _)))
  · have h4b : (m.st i == 4) = false := by simpa using h4
    have hfin : verbF m 5 i a n = ((0, (enterF m i 2).1), (enterF m i 2).2) := by simp [verbF, h4]
    have Hfin := Lib.hid hfin; clear hfin
    clear h4
    go_enter Try.func54, Try.ntmps54
    go_wp2_with (first | go_quiet (fail) | (go_at_call 60; refine (enter_any bm bz m i 2 _ (by repeat (first | exact HI.out | apply IsM.drewN | apply IsM.alloc)) Hn.out hi).mono ?_; rintro e wg ⟨rfl, hIg, hmg⟩))
    go_ret2
    refine ⟨?_, ?_, ?_⟩
    · rw [Hfin.out]; rfl
    · rw [Hfin.out]; exact hIg
    · exact Mod.trans' (by repeat (first | exact Mod.refl _ _ | apply Mod.drewN | apply Mod.alloc | (refine Mod.set ?_ (.inl (by simp)) _))) hmg

set_option maxHeartbeats 1000000 in
theorem shut_any (bm bz : Nat) (m : Mc) (i : Nat) (k z a n : Int) (w : World) (hI : IsM TM TZ w bm bz m) (hp : VerbPre m i) :
    Calls Try.prog 55 #[.pointer (some ⟨bm, 0, none⟩), .pointer (some ⟨bz, i * 2, none⟩), .agg #[.int .i64 k, .int .i64 z, .int .i64 a, .int .i64 n]] w (VerbPost bm bz w (verbF m 6 i a n)) := by
  have HI := Lib.hid hI; clear hI
  obtain ⟨hn, hi, b1, b2, l1, l2⟩ := hp
  have hlt := HI.out.lt
  obtain ⟨hlm, hlz⟩ := hlt
  have hfz := HI.out.frozen
  have Hb1 := Lib.hid b1; have Hb2 := Lib.hid b2; have Hl1 := Lib.hid l1; have Hl2 := Lib.hid l2; have Hn := Lib.hid hn
  have F : ∀ w1, Below w.heap.size w w1 → w1.cell? ⟨bz, i * 2, none⟩ = some (.int .i64 (m.st i)) ∧ w1.cell? ⟨bz, i * 2 + 1, none⟩ = some (.int .i64 (m.ln i)) ∧ w1.cell? ⟨bm, 1, none⟩ = some (.int .i64 m.bl) := fun w1 h => ⟨(HI.out.below h).cellSt hi, (HI.out.below h).cellLn hi, (HI.out.below h).cellB⟩
  obtain ⟨k0, k1, k2⟩ := F _ (Below.refl _ _)
  clear F
  by_cases ho : isOp (m.st i) = true
  · have hfin : verbF m 6 i a n = ((0, 0), m.setSt i (restF (m.ln i))) := by simp [verbF, ho]
    have Hfin := Lib.hid hfin; clear hfin
    go_enter Try.func55, Try.ntmps55
    go_wp2_with (first | go_quiet (fail) | (go_at_call 41; refine (opened_any _ _).mono ?_; rintro e w' ⟨rfl, rfl⟩) | (go_at_call 45; refine (rest_any _ _).mono ?_; rintro e w' ⟨rfl, rfl⟩))
    go_ret2
    refine ⟨?_, ?_, ?_⟩
    · rw [Hfin.out]; rfl
    · rw [Hfin.out]; exact (by repeat (first | exact HI.out.setSt hi _ | apply IsM.drewN | apply IsM.alloc))
    · exact (by repeat (first | exact Mod.refl _ _ | apply Mod.drewN | apply Mod.alloc | (refine Mod.set ?_ (.inl (by simp)) _)))
  · have ho' : isOp (m.st i) = false := by simpa using ho
    by_cases h3 : m.st i = 3
    · have hfin : verbF m 6 i a n = ((0, 0), m) := by unfold verbF; rw [if_neg (by decide), if_neg (by decide), if_neg (by decide), if_neg (by decide), if_neg (by decide), if_pos rfl, if_neg ho, if_neg (by simpa using h3)]
      have Hfin := Lib.hid hfin; clear hfin
      have ho3 : isOp 3 = false := rfl
      rw [h3] at k0; clear h3 ho ho'
      go_enter Try.func55, Try.ntmps55
      go_wp2_with (first | go_quiet (fail) | (go_at_call 41; refine (opened_any _ _).mono ?_; rintro e w' ⟨rfl, rfl⟩))
      go_ret2
      refine ⟨?_, ?_, ?_⟩
      · rw [Hfin.out]; rfl
      · rw [Hfin.out]; exact (by repeat (first | exact HI.out | apply IsM.drewN | apply IsM.alloc))
      · exact (by repeat (first | exact Mod.refl _ _ | apply Mod.drewN | apply Mod.alloc | (refine Mod.set ?_ (.inl (by simp)) _)))
    · have hfin : verbF m 6 i a n = ((0, 3), m) := by unfold verbF; rw [if_neg (by decide), if_neg (by decide), if_neg (by decide), if_neg (by decide), if_neg (by decide), if_pos rfl, if_neg ho, if_pos h3]
      have Hfin := Lib.hid hfin; clear hfin
      have h3b : (m.st i != 3) = true := by simpa using h3
      clear h3 ho
      go_enter Try.func55, Try.ntmps55
      go_wp2_with (first | go_quiet (fail) | (go_at_call 41; refine (opened_any _ _).mono ?_; rintro e w' ⟨rfl, rfl⟩))
      go_ret2
      refine ⟨?_, ?_, ?_⟩
      · rw [Hfin.out]; rfl
      · rw [Hfin.out]; exact (by repeat (first | exact HI.out | apply IsM.drewN | apply IsM.alloc))
      · exact (by repeat (first | exact Mod.refl _ _ | apply Mod.drewN | apply Mod.alloc | (refine Mod.set ?_ (.inl (by simp)) _)))

set_option maxHeartbeats 1000000 in
theorem read_any (bm bz : Nat) (m : Mc) (i : Nat) (k z a n : Int) (w : World) (hI : IsM TM TZ w bm bz m) (hp : VerbPre m i) :
    Calls Try.prog 56 #[.pointer (some ⟨bm, 0, none⟩), .pointer (some ⟨bz, i * 2, none⟩), .agg #[.int .i64 k, .int .i64 z, .int .i64 a, .int .i64 n]] w (VerbPost bm bz w (verbF m 7 i a n)) := by
  have HI := Lib.hid hI; clear hI
  obtain ⟨hn, hi, b1, b2, l1, l2⟩ := hp
  have hlt := HI.out.lt
  obtain ⟨hlm, hlz⟩ := hlt
  have hfz := HI.out.frozen
  have Hb1 := Lib.hid b1; have Hb2 := Lib.hid b2; have Hl1 := Lib.hid l1; have Hl2 := Lib.hid l2; have Hn := Lib.hid hn
  have F : ∀ w1, Below w.heap.size w w1 → w1.cell? ⟨bz, i * 2, none⟩ = some (.int .i64 (m.st i)) ∧ w1.cell? ⟨bz, i * 2 + 1, none⟩ = some (.int .i64 (m.ln i)) ∧ w1.cell? ⟨bm, 1, none⟩ = some (.int .i64 m.bl) := fun w1 h => ⟨(HI.out.below h).cellSt hi, (HI.out.below h).cellLn hi, (HI.out.below h).cellB⟩
  obtain ⟨k0, k1, k2⟩ := F _ (Below.refl _ _)
  clear F
  by_cases hs : spanF a n (m.ln i) = true
  · have hfin : verbF m 7 i a n = ((a, 0), m) := by simp [verbF, hs]
    have Hfin := Lib.hid hfin; clear hfin
    go_enter Try.func56, Try.ntmps56
    go_wp2_with (first | go_quiet ((go_at_call 58; exact quietW (span_any _ _ _ _ (by have := Hb2.out; have := Hl2.out; omega) (by have := Hb1.out; have := Hl1.out; omega)))) | go_quiet (fail) | (go_at_call 58; refine (span_any _ _ _ _ (by have := Hb2.out; have := Hl2.out; omega) (by have := Hb1.out; have := Hl1.out; omega)).mono ?_; rintro e w' ⟨rfl, rfl⟩))
    go_ret2
    refine ⟨?_, ?_, ?_⟩
    · rw [Hfin.out]; rfl
    · rw [Hfin.out]; exact (by repeat (first | exact HI.out | apply IsM.drewN | apply IsM.alloc))
    · exact (by repeat (first | exact Mod.refl _ _ | apply Mod.drewN | apply Mod.alloc | (refine Mod.set ?_ (.inl (by simp)) _)))
  · have hs' : spanF a n (m.ln i) = false := by simpa using hs
    have hfin : verbF m 7 i a n = ((0, 2), m) := by simp [verbF, hs]
    have Hfin := Lib.hid hfin; clear hfin
    clear hs
    go_enter Try.func56, Try.ntmps56
    go_wp2_with (first | go_quiet ((go_at_call 58; exact quietW (span_any _ _ _ _ (by have := Hb2.out; have := Hl2.out; omega) (by have := Hb1.out; have := Hl1.out; omega)))) | go_quiet (fail) | (go_at_call 58; refine (span_any _ _ _ _ (by have := Hb2.out; have := Hl2.out; omega) (by have := Hb1.out; have := Hl1.out; omega)).mono ?_; rintro e w' ⟨rfl, rfl⟩))
    go_ret2
    refine ⟨?_, ?_, ?_⟩
    · rw [Hfin.out]; rfl
    · rw [Hfin.out]; exact (by repeat (first | exact HI.out | apply IsM.drewN | apply IsM.alloc))
    · exact (by repeat (first | exact Mod.refl _ _ | apply Mod.drewN | apply Mod.alloc | (refine Mod.set ?_ (.inl (by simp)) _)))

end Go.Proofs.Ytojceddgmmapdaa
