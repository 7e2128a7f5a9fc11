/-
  The document's zones: Do comes to doF (writes, done).
-/
import Derived.Test.YtojceddgmmapdaaZQ3
namespace Go.Proofs.Ytojceddgmmapdaa
open Go.RowKit

set_option maxHeartbeats 2000000 in
set_option maxRecDepth 100000 in
theorem rw_err (bm bz : Nat) (m : Mc) (i : Nat) (n : Int) (w : World) (hI : IsM RM RZ w bm bz m) (hp : VerbPre m i) (h1 : 1 ≤ n) (h2 : n ≤ m.bl) (h4 : m.ln i ≤ m.bl - n) (h : m.st i ≠ 4) (he : (enterF m i 1).1 ≠ 0) :
    Calls Try.prog 21 #[.pointer (some ⟨bm, 0, none⟩), .agg #[.int .i64 1, .int .i64 i, .int .i64 (m.ln i), .int .i64 n]] w (RPost bm bz w (verbF m 1 i (m.ln i) n)) := by
  have HI := Lib.hid hI; clear hI
  obtain ⟨hn, hi, b1, b2, l1, l2⟩ := hp
  have hlt := HI.out.lt
  obtain ⟨hlm, hlz⟩ := hlt
  have hne : bm ≠ bz := HI.out.ne
  have hne2 : w.heap.size ≠ bz := by omega
  have hne3 : w.heap.size + 1 ≠ bz := by omega
  have hfz := HI.out.frozen
  have k0 := HI.out.cellSt hi
  have k1 := HI.out.cellLn hi
  have k2 := HI.out.cellB
  obtain ⟨cap, hcz⟩ := HI.out.cellZ
  have hd : decide (m.zs.length ≤ i) = false := by simp; omega
  have hfin : verbF m 1 i (m.ln i) n = ((0, (enterF m i 1).1), (enterF m i 1).2) := by unfold verbF; rw [if_pos rfl, if_neg (by rw [spanF_mk (by omega)]; simp), if_neg h, if_neg (by simp)]; simp [growF, he]
  have Hfin := Lib.hid hfin; clear hfin
  have hdd0 : decide (n < 1) = false := by simp; omega
  have hdd1 : decide (m.bl < n) = false := by simp; omega
  have hdd2 : decide (m.ln i < 0) = false := by simp; omega
  have hdd3 : decide (m.bl - n < m.ln i) = false := by simp; omega
  have hb4 : (m.st i == 4) = false := by simpa using h
  clear h
  have hbe : ((enterF m i 1).1 != 0) = true := by simpa using he
  clear he
  go_enter Try.func21, Try.ntmps21
  go_wp2_with (first | go_quiet (fail) | go_region | (go_at_call 43; refine (ropen_any bm bz m i 1 (by decide) _ (by repeat (first | exact HI.out | apply IsM.drewN | apply IsM.drew | apply IsM.alloc)) hn hi).mono ?_; rintro e wg ⟨rfl, hIg, hmg⟩; obtain ⟨hc2, hf2, hs2⟩ := mcell hmg))
  go_ret2
  refine ⟨?_, ?_, ?_⟩
  · rw [Hfin.out]; rfl
  · rw [Hfin.out]; exact hIg
  · exact Mod.trans' (by repeat (first | exact Mod.refl _ _ | apply Mod.drewN | apply Mod.drew | apply Mod.alloc | (refine Mod.set ?_ (.inl (by simp)) _))) hmg

set_option maxHeartbeats 2000000 in
set_option maxRecDepth 100000 in
theorem rw_okf (bm bz : Nat) (m : Mc) (i : Nat) (n : Int) (w : World) (hI : IsM RM RZ w bm bz m) (hp : VerbPre m i) (h1 : 1 ≤ n) (h2 : n ≤ m.bl) (h4 : m.ln i ≤ m.bl - n) (h : m.st i ≠ 4) (he : (enterF m i 1).1 = 0) (hf : m.ln i + n = m.bl) :
    Calls Try.prog 21 #[.pointer (some ⟨bm, 0, none⟩), .agg #[.int .i64 1, .int .i64 i, .int .i64 (m.ln i), .int .i64 n]] w (RPost bm bz w (verbF m 1 i (m.ln i) n)) := by
  have HI := Lib.hid hI; clear hI
  obtain ⟨hn, hi, b1, b2, l1, l2⟩ := hp
  have hlt := HI.out.lt
  obtain ⟨hlm, hlz⟩ := hlt
  have hne : bm ≠ bz := HI.out.ne
  have hne2 : w.heap.size ≠ bz := by omega
  have hne3 : w.heap.size + 1 ≠ bz := by omega
  have hfz := HI.out.frozen
  have k0 := HI.out.cellSt hi
  have k1 := HI.out.cellLn hi
  have k2 := HI.out.cellB
  obtain ⟨cap, hcz⟩ := HI.out.cellZ
  have hd : decide (m.zs.length ≤ i) = false := by simp; omega
  have hfin : verbF m 1 i (m.ln i) n = ((m.ln i, 0), ((enterF m i 1).2.setLn i (m.ln i + n)).setSt i 4) := by unfold verbF; rw [if_pos rfl, if_neg (by rw [spanF_mk (by omega)]; simp), if_neg h, if_neg (by simp)]; simp [growF, he, hf]
  have Hfin := Lib.hid hfin; clear hfin
  have hK := enterF_keeps m i 1 hi
  obtain ⟨q1, q2, q3, q4, q5⟩ := hK
  have q5 := q5 i
  have hi1 : i < (enterF m i 1).2.zs.length := by omega
  have F : ∀ w1, IsM RM RZ w1 bm bz (enterF m i 1).2 → w1.cell? ⟨bz, i * 2, none⟩ = some (.int .i64 ((enterF m i 1).2.st i)) ∧ w1.cell? ⟨bz, i * 2 + 1, none⟩ = some (.int .i64 (m.ln i)) ∧ (∀ o, w1.frozen? ⟨bz, o, none⟩ = false)
      ∧ Hid (IsM RM RZ (w1.setCell ⟨bz, i * 2 + 1, none⟩ (.int .i64 (m.ln i + n))) bm bz ((enterF m i 1).2.setLn i (m.ln i + n))) ∧ Hid (IsM RM RZ ((w1.setCell ⟨bz, i * 2 + 1, none⟩ (.int .i64 (m.ln i + n))).setCell ⟨bz, i * 2, none⟩ (.int .i64 4)) bm bz (((enterF m i 1).2.setLn i (m.ln i + n)).setSt i 4)) := fun w1 h1 =>
    ⟨h1.cellSt hi1, by rw [← q5]; exact h1.cellLn hi1, h1.frozen, h1.setLn hi1 _, (h1.setLn hi1 _).setSt (by simpa using hi1) _⟩
  have HF := Lib.hid F; have Hi1 := Lib.hid hi1; clear F q1 q2 q3 q4 q5 hi1
  have hdd0 : decide (n < 1) = false := by simp; omega
  have hdd1 : decide (m.bl < n) = false := by simp; omega
  have hdd2 : decide (m.ln i < 0) = false := by simp; omega
  have hdd3 : decide (m.bl - n < m.ln i) = false := by simp; omega
  have hb4 : (m.st i == 4) = false := by simpa using h
  clear h
  have hbf : (m.ln i + n == m.bl) = true := by simpa using hf
  have Hf := Lib.hid hf; clear hf
  go_enter Try.func21, Try.ntmps21
  go_wp2_with (first | go_quiet (fail) | go_region | (go_at_call 43; refine (ropen_any bm bz m i 1 (by decide) _ (by repeat (first | exact HI.out | apply IsM.drewN | apply IsM.drew | apply IsM.alloc)) hn hi).mono ?_; rintro e wg ⟨rfl, hIg, hmg⟩; obtain ⟨hc2, hf2, hs2⟩ := mcell hmg; have hlg := hmg.size; obtain ⟨g0, g1, g2, g3, g4⟩ := HF.out _ hIg; have u1 : wg.cell? ⟨w.heap.size, 1, none⟩ = some (.int .i64 i) := (hc2 _ _ (by simp; omega) hne2).trans (by simp [go_sem]); have u3 : wg.cell? ⟨w.heap.size, 3, none⟩ = some (.int .i64 n) := (hc2 _ _ (by simp; omega) hne2).trans (by simp [go_sem]); have uz : wg.cell? ⟨bm, 0, none⟩ = some (.slice (some ⟨bz, 0, none⟩) m.zs.length cap) := (hc2 _ _ (by simp; omega) hne).trans (by simp [go_sem, hlm, hcz]); have ub : wg.cell? ⟨bm, 1, none⟩ = some (.int .i64 m.bl) := (hc2 _ _ (by simp; omega) hne).trans (by simp [go_sem, hlm, k2])))
  go_ret2
  refine ⟨?_, ?_, ?_⟩
  · rw [Hfin.out]; rfl
  · rw [Hfin.out]; exact (by repeat (first | exact ((g3.out.drewN _).setSt (i := i) (by simp; exact Hi1.out) 4) | apply IsM.drewN | apply IsM.drew | apply IsM.alloc))
  · exact Mod.trans' (Mod.trans' (by repeat (first | exact Mod.refl _ _ | apply Mod.drewN | apply Mod.drew | apply Mod.alloc | (refine Mod.set ?_ (.inl (by simp)) _))) hmg) (by repeat (first | exact Mod.refl _ _ | apply Mod.drewN | apply Mod.drew | apply Mod.alloc | (refine Mod.set ?_ (.inl (by simp)) _)))

set_option maxHeartbeats 2000000 in
set_option maxRecDepth 100000 in
theorem rw_ok (bm bz : Nat) (m : Mc) (i : Nat) (n : Int) (w : World) (hI : IsM RM RZ w bm bz m) (hp : VerbPre m i) (h1 : 1 ≤ n) (h2 : n ≤ m.bl) (h4 : m.ln i ≤ m.bl - n) (h : m.st i ≠ 4) (he : (enterF m i 1).1 = 0) (hf : m.ln i + n ≠ m.bl) :
    Calls Try.prog 21 #[.pointer (some ⟨bm, 0, none⟩), .agg #[.int .i64 1, .int .i64 i, .int .i64 (m.ln i), .int .i64 n]] w (RPost bm bz w (verbF m 1 i (m.ln i) n)) := by
  have HI := Lib.hid hI; clear hI
  obtain ⟨hn, hi, b1, b2, l1, l2⟩ := hp
  have hlt := HI.out.lt
  obtain ⟨hlm, hlz⟩ := hlt
  have hne : bm ≠ bz := HI.out.ne
  have hne2 : w.heap.size ≠ bz := by omega
  have hne3 : w.heap.size + 1 ≠ bz := by omega
  have hfz := HI.out.frozen
  have k0 := HI.out.cellSt hi
  have k1 := HI.out.cellLn hi
  have k2 := HI.out.cellB
  obtain ⟨cap, hcz⟩ := HI.out.cellZ
  have hd : decide (m.zs.length ≤ i) = false := by simp; omega
  have hfin : verbF m 1 i (m.ln i) n = ((m.ln i, 0), (enterF m i 1).2.setLn i (m.ln i + n)) := by unfold verbF; rw [if_pos rfl, if_neg (by rw [spanF_mk (by omega)]; simp), if_neg h, if_neg (by simp)]; simp [growF, he, hf]
  have Hfin := Lib.hid hfin; clear hfin
  have hK := enterF_keeps m i 1 hi
  obtain ⟨q1, q2, q3, q4, q5⟩ := hK
  have q5 := q5 i
  have hi1 : i < (enterF m i 1).2.zs.length := by omega
  have F : ∀ w1, IsM RM RZ w1 bm bz (enterF m i 1).2 → w1.cell? ⟨bz, i * 2, none⟩ = some (.int .i64 ((enterF m i 1).2.st i)) ∧ w1.cell? ⟨bz, i * 2 + 1, none⟩ = some (.int .i64 (m.ln i)) ∧ (∀ o, w1.frozen? ⟨bz, o, none⟩ = false)
      ∧ Hid (IsM RM RZ (w1.setCell ⟨bz, i * 2 + 1, none⟩ (.int .i64 (m.ln i + n))) bm bz ((enterF m i 1).2.setLn i (m.ln i + n))) ∧ Hid (IsM RM RZ ((w1.setCell ⟨bz, i * 2 + 1, none⟩ (.int .i64 (m.ln i + n))).setCell ⟨bz, i * 2, none⟩ (.int .i64 4)) bm bz (((enterF m i 1).2.setLn i (m.ln i + n)).setSt i 4)) := fun w1 h1 =>
    ⟨h1.cellSt hi1, by rw [← q5]; exact h1.cellLn hi1, h1.frozen, h1.setLn hi1 _, (h1.setLn hi1 _).setSt (by simpa using hi1) _⟩
  have HF := Lib.hid F; have Hi1 := Lib.hid hi1; clear F q1 q2 q3 q4 q5 hi1
  have hdd0 : decide (n < 1) = false := by simp; omega
  have hdd1 : decide (m.bl < n) = false := by simp; omega
  have hdd2 : decide (m.ln i < 0) = false := by simp; omega
  have hdd3 : decide (m.bl - n < m.ln i) = false := by simp; omega
  have hb4 : (m.st i == 4) = false := by simpa using h
  clear h
  have hbf : (m.ln i + n == m.bl) = false := by simpa using hf
  clear hf
  go_enter Try.func21, Try.ntmps21
  go_wp2_with (first | go_quiet (fail) | go_region | (go_at_call 43; refine (ropen_any bm bz m i 1 (by decide) _ (by repeat (first | exact HI.out | apply IsM.drewN | apply IsM.drew | apply IsM.alloc)) hn hi).mono ?_; rintro e wg ⟨rfl, hIg, hmg⟩; obtain ⟨hc2, hf2, hs2⟩ := mcell hmg; have hlg := hmg.size; obtain ⟨g0, g1, g2, g3, g4⟩ := HF.out _ hIg; have u1 : wg.cell? ⟨w.heap.size, 1, none⟩ = some (.int .i64 i) := (hc2 _ _ (by simp; omega) hne2).trans (by simp [go_sem]); have u3 : wg.cell? ⟨w.heap.size, 3, none⟩ = some (.int .i64 n) := (hc2 _ _ (by simp; omega) hne2).trans (by simp [go_sem]); have uz : wg.cell? ⟨bm, 0, none⟩ = some (.slice (some ⟨bz, 0, none⟩) m.zs.length cap) := (hc2 _ _ (by simp; omega) hne).trans (by simp [go_sem, hlm, hcz]); have ub : wg.cell? ⟨bm, 1, none⟩ = some (.int .i64 m.bl) := (hc2 _ _ (by simp; omega) hne).trans (by simp [go_sem, hlm, k2])))
  go_ret2
  refine ⟨?_, ?_, ?_⟩
  · rw [Hfin.out]; rfl
  · rw [Hfin.out]; exact (by repeat (first | exact g3.out | apply IsM.drewN | apply IsM.drew | apply IsM.alloc))
  · exact Mod.trans' (Mod.trans' (by repeat (first | exact Mod.refl _ _ | apply Mod.drewN | apply Mod.drew | apply Mod.alloc | (refine Mod.set ?_ (.inl (by simp)) _))) hmg) (by repeat (first | exact Mod.refl _ _ | apply Mod.drewN | apply Mod.drew | apply Mod.alloc | (refine Mod.set ?_ (.inl (by simp)) _)))

set_option maxHeartbeats 2000000 in
set_option maxRecDepth 100000 in
theorem ra_err (bm bz : Nat) (m : Mc) (i : Nat) (a n : Int) (w : World) (hI : IsM RM RZ w bm bz m) (hp : VerbPre m i) (h1 : 1 ≤ n) (h2 : n ≤ m.bl) (h4 : m.ln i ≤ m.bl - n) (h : m.st i ≠ 4) (he : (enterF m i 1).1 ≠ 0) :
    Calls Try.prog 21 #[.pointer (some ⟨bm, 0, none⟩), .agg #[.int .i64 2, .int .i64 i, .int .i64 a, .int .i64 n]] w (RPost bm bz w (verbF m 2 i a n)) := by
  have HI := Lib.hid hI; clear hI
  obtain ⟨hn, hi, b1, b2, l1, l2⟩ := hp
  have hlt := HI.out.lt
  obtain ⟨hlm, hlz⟩ := hlt
  have hne : bm ≠ bz := HI.out.ne
  have hne2 : w.heap.size ≠ bz := by omega
  have hne3 : w.heap.size + 1 ≠ bz := by omega
  have hfz := HI.out.frozen
  have k0 := HI.out.cellSt hi
  have k1 := HI.out.cellLn hi
  have k2 := HI.out.cellB
  obtain ⟨cap, hcz⟩ := HI.out.cellZ
  have hd : decide (m.zs.length ≤ i) = false := by simp; omega
  have hfin : verbF m 2 i a n = ((0, (enterF m i 1).1), (enterF m i 1).2) := by unfold verbF; rw [if_neg (by decide), if_pos rfl, if_neg (by rw [spanF_mk (by omega)]; simp), if_neg h, if_neg (by rw [spanF_mk (by omega)]; simp)]; simp [growF, he]
  have Hfin := Lib.hid hfin; clear hfin
  have hdd0 : decide (n < 1) = false := by simp; omega
  have hdd1 : decide (m.bl < n) = false := by simp; omega
  have hdd2 : decide (m.bl - n < m.ln i) = false := by simp; omega
  have hb4 : (m.st i == 4) = false := by simpa using h
  clear h
  have hbe : ((enterF m i 1).1 != 0) = true := by simpa using he
  clear he
  go_enter Try.func21, Try.ntmps21
  go_wp2_with (first | go_quiet (fail) | go_region | (go_at_call 43; refine (ropen_any bm bz m i 1 (by decide) _ (by repeat (first | exact HI.out | apply IsM.drewN | apply IsM.drew | apply IsM.alloc)) hn hi).mono ?_; rintro e wg ⟨rfl, hIg, hmg⟩; obtain ⟨hc2, hf2, hs2⟩ := mcell hmg))
  go_ret2
  refine ⟨?_, ?_, ?_⟩
  · rw [Hfin.out]; rfl
  · rw [Hfin.out]; exact hIg
  · exact Mod.trans' (by repeat (first | exact Mod.refl _ _ | apply Mod.drewN | apply Mod.drew | apply Mod.alloc | (refine Mod.set ?_ (.inl (by simp)) _))) hmg

set_option maxHeartbeats 2000000 in
set_option maxRecDepth 100000 in
theorem ra_okf (bm bz : Nat) (m : Mc) (i : Nat) (a n : Int) (w : World) (hI : IsM RM RZ w bm bz m) (hp : VerbPre m i) (h1 : 1 ≤ n) (h2 : n ≤ m.bl) (h4 : m.ln i ≤ m.bl - n) (h : m.st i ≠ 4) (he : (enterF m i 1).1 = 0) (hf : m.ln i + n = m.bl) :
    Calls Try.prog 21 #[.pointer (some ⟨bm, 0, none⟩), .agg #[.int .i64 2, .int .i64 i, .int .i64 a, .int .i64 n]] w (RPost bm bz w (verbF m 2 i a n)) := by
  have HI := Lib.hid hI; clear hI
  obtain ⟨hn, hi, b1, b2, l1, l2⟩ := hp
  have hlt := HI.out.lt
  obtain ⟨hlm, hlz⟩ := hlt
  have hne : bm ≠ bz := HI.out.ne
  have hne2 : w.heap.size ≠ bz := by omega
  have hne3 : w.heap.size + 1 ≠ bz := by omega
  have hfz := HI.out.frozen
  have k0 := HI.out.cellSt hi
  have k1 := HI.out.cellLn hi
  have k2 := HI.out.cellB
  obtain ⟨cap, hcz⟩ := HI.out.cellZ
  have hd : decide (m.zs.length ≤ i) = false := by simp; omega
  have hfin : verbF m 2 i a n = ((m.ln i, 0), ((enterF m i 1).2.setLn i (m.ln i + n)).setSt i 4) := by unfold verbF; rw [if_neg (by decide), if_pos rfl, if_neg (by rw [spanF_mk (by omega)]; simp), if_neg h, if_neg (by rw [spanF_mk (by omega)]; simp)]; simp [growF, he, hf]
  have Hfin := Lib.hid hfin; clear hfin
  have hK := enterF_keeps m i 1 hi
  obtain ⟨q1, q2, q3, q4, q5⟩ := hK
  have q5 := q5 i
  have hi1 : i < (enterF m i 1).2.zs.length := by omega
  have F : ∀ w1, IsM RM RZ w1 bm bz (enterF m i 1).2 → w1.cell? ⟨bz, i * 2, none⟩ = some (.int .i64 ((enterF m i 1).2.st i)) ∧ w1.cell? ⟨bz, i * 2 + 1, none⟩ = some (.int .i64 (m.ln i)) ∧ (∀ o, w1.frozen? ⟨bz, o, none⟩ = false)
      ∧ Hid (IsM RM RZ (w1.setCell ⟨bz, i * 2 + 1, none⟩ (.int .i64 (m.ln i + n))) bm bz ((enterF m i 1).2.setLn i (m.ln i + n))) ∧ Hid (IsM RM RZ ((w1.setCell ⟨bz, i * 2 + 1, none⟩ (.int .i64 (m.ln i + n))).setCell ⟨bz, i * 2, none⟩ (.int .i64 4)) bm bz (((enterF m i 1).2.setLn i (m.ln i + n)).setSt i 4)) := fun w1 h1 =>
    ⟨h1.cellSt hi1, by rw [← q5]; exact h1.cellLn hi1, h1.frozen, h1.setLn hi1 _, (h1.setLn hi1 _).setSt (by simpa using hi1) _⟩
  have HF := Lib.hid F; have Hi1 := Lib.hid hi1; clear F q1 q2 q3 q4 q5 hi1
  have hdd0 : decide (n < 1) = false := by simp; omega
  have hdd1 : decide (m.bl < n) = false := by simp; omega
  have hdd2 : decide (m.bl - n < m.ln i) = false := by simp; omega
  have hb4 : (m.st i == 4) = false := by simpa using h
  clear h
  have hbf : (m.ln i + n == m.bl) = true := by simpa using hf
  have Hf := Lib.hid hf; clear hf
  go_enter Try.func21, Try.ntmps21
  go_wp2_with (first | go_quiet (fail) | go_region | (go_at_call 43; refine (ropen_any bm bz m i 1 (by decide) _ (by repeat (first | exact HI.out | apply IsM.drewN | apply IsM.drew | apply IsM.alloc)) hn hi).mono ?_; rintro e wg ⟨rfl, hIg, hmg⟩; obtain ⟨hc2, hf2, hs2⟩ := mcell hmg; have hlg := hmg.size; obtain ⟨g0, g1, g2, g3, g4⟩ := HF.out _ hIg; have u1 : wg.cell? ⟨w.heap.size, 1, none⟩ = some (.int .i64 i) := (hc2 _ _ (by simp; omega) hne2).trans (by simp [go_sem]); have u3 : wg.cell? ⟨w.heap.size, 3, none⟩ = some (.int .i64 n) := (hc2 _ _ (by simp; omega) hne2).trans (by simp [go_sem]); have uz : wg.cell? ⟨bm, 0, none⟩ = some (.slice (some ⟨bz, 0, none⟩) m.zs.length cap) := (hc2 _ _ (by simp; omega) hne).trans (by simp [go_sem, hlm, hcz]); have ub : wg.cell? ⟨bm, 1, none⟩ = some (.int .i64 m.bl) := (hc2 _ _ (by simp; omega) hne).trans (by simp [go_sem, hlm, k2])))
  go_ret2
  refine ⟨?_, ?_, ?_⟩
  · rw [Hfin.out]; rfl
  · rw [Hfin.out]; exact (by repeat (first | exact ((g3.out.drewN _).setSt (i := i) (by simp; exact Hi1.out) 4) | apply IsM.drewN | apply IsM.drew | apply IsM.alloc))
  · exact Mod.trans' (Mod.trans' (by repeat (first | exact Mod.refl _ _ | apply Mod.drewN | apply Mod.drew | apply Mod.alloc | (refine Mod.set ?_ (.inl (by simp)) _))) hmg) (by repeat (first | exact Mod.refl _ _ | apply Mod.drewN | apply Mod.drew | apply Mod.alloc | (refine Mod.set ?_ (.inl (by simp)) _)))

set_option maxHeartbeats 2000000 in
set_option maxRecDepth 100000 in
theorem ra_ok (bm bz : Nat) (m : Mc) (i : Nat) (a n : Int) (w : World) (hI : IsM RM RZ w bm bz m) (hp : VerbPre m i) (h1 : 1 ≤ n) (h2 : n ≤ m.bl) (h4 : m.ln i ≤ m.bl - n) (h : m.st i ≠ 4) (he : (enterF m i 1).1 = 0) (hf : m.ln i + n ≠ m.bl) :
    Calls Try.prog 21 #[.pointer (some ⟨bm, 0, none⟩), .agg #[.int .i64 2, .int .i64 i, .int .i64 a, .int .i64 n]] w (RPost bm bz w (verbF m 2 i a n)) := by
  have HI := Lib.hid hI; clear hI
  obtain ⟨hn, hi, b1, b2, l1, l2⟩ := hp
  have hlt := HI.out.lt
  obtain ⟨hlm, hlz⟩ := hlt
  have hne : bm ≠ bz := HI.out.ne
  have hne2 : w.heap.size ≠ bz := by omega
  have hne3 : w.heap.size + 1 ≠ bz := by omega
  have hfz := HI.out.frozen
  have k0 := HI.out.cellSt hi
  have k1 := HI.out.cellLn hi
  have k2 := HI.out.cellB
  obtain ⟨cap, hcz⟩ := HI.out.cellZ
  have hd : decide (m.zs.length ≤ i) = false := by simp; omega
  have hfin : verbF m 2 i a n = ((m.ln i, 0), (enterF m i 1).2.setLn i (m.ln i + n)) := by unfold verbF; rw [if_neg (by decide), if_pos rfl, if_neg (by rw [spanF_mk (by omega)]; simp), if_neg h, if_neg (by rw [spanF_mk (by omega)]; simp)]; simp [growF, he, hf]
  have Hfin := Lib.hid hfin; clear hfin
  have hK := enterF_keeps m i 1 hi
  obtain ⟨q1, q2, q3, q4, q5⟩ := hK
  have q5 := q5 i
  have hi1 : i < (enterF m i 1).2.zs.length := by omega
  have F : ∀ w1, IsM RM RZ w1 bm bz (enterF m i 1).2 → w1.cell? ⟨bz, i * 2, none⟩ = some (.int .i64 ((enterF m i 1).2.st i)) ∧ w1.cell? ⟨bz, i * 2 + 1, none⟩ = some (.int .i64 (m.ln i)) ∧ (∀ o, w1.frozen? ⟨bz, o, none⟩ = false)
      ∧ Hid (IsM RM RZ (w1.setCell ⟨bz, i * 2 + 1, none⟩ (.int .i64 (m.ln i + n))) bm bz ((enterF m i 1).2.setLn i (m.ln i + n))) ∧ Hid (IsM RM RZ ((w1.setCell ⟨bz, i * 2 + 1, none⟩ (.int .i64 (m.ln i + n))).setCell ⟨bz, i * 2, none⟩ (.int .i64 4)) bm bz (((enterF m i 1).2.setLn i (m.ln i + n)).setSt i 4)) := fun w1 h1 =>
    ⟨h1.cellSt hi1, by rw [← q5]; exact h1.cellLn hi1, h1.frozen, h1.setLn hi1 _, (h1.setLn hi1 _).setSt (by simpa using hi1) _⟩
  have HF := Lib.hid F; have Hi1 := Lib.hid hi1; clear F q1 q2 q3 q4 q5 hi1
  have hdd0 : decide (n < 1) = false := by simp; omega
  have hdd1 : decide (m.bl < n) = false := by simp; omega
  have hdd2 : decide (m.bl - n < m.ln i) = false := by simp; omega
  have hb4 : (m.st i == 4) = false := by simpa using h
  clear h
  have hbf : (m.ln i + n == m.bl) = false := by simpa using hf
  clear hf
  go_enter Try.func21, Try.ntmps21
  go_wp2_with (first | go_quiet (fail) | go_region | (go_at_call 43; refine (ropen_any bm bz m i 1 (by decide) _ (by repeat (first | exact HI.out | apply IsM.drewN | apply IsM.drew | apply IsM.alloc)) hn hi).mono ?_; rintro e wg ⟨rfl, hIg, hmg⟩; obtain ⟨hc2, hf2, hs2⟩ := mcell hmg; have hlg := hmg.size; obtain ⟨g0, g1, g2, g3, g4⟩ := HF.out _ hIg; have u1 : wg.cell? ⟨w.heap.size, 1, none⟩ = some (.int .i64 i) := (hc2 _ _ (by simp; omega) hne2).trans (by simp [go_sem]); have u3 : wg.cell? ⟨w.heap.size, 3, none⟩ = some (.int .i64 n) := (hc2 _ _ (by simp; omega) hne2).trans (by simp [go_sem]); have uz : wg.cell? ⟨bm, 0, none⟩ = some (.slice (some ⟨bz, 0, none⟩) m.zs.length cap) := (hc2 _ _ (by simp; omega) hne).trans (by simp [go_sem, hlm, hcz]); have ub : wg.cell? ⟨bm, 1, none⟩ = some (.int .i64 m.bl) := (hc2 _ _ (by simp; omega) hne).trans (by simp [go_sem, hlm, k2])))
  go_ret2
  refine ⟨?_, ?_, ?_⟩
  · rw [Hfin.out]; rfl
  · rw [Hfin.out]; exact (by repeat (first | exact g3.out | apply IsM.drewN | apply IsM.drew | apply IsM.alloc))
  · exact Mod.trans' (Mod.trans' (by repeat (first | exact Mod.refl _ _ | apply Mod.drewN | apply Mod.drew | apply Mod.alloc | (refine Mod.set ?_ (.inl (by simp)) _))) hmg) (by repeat (first | exact Mod.refl _ _ | apply Mod.drewN | apply Mod.drew | apply Mod.alloc | (refine Mod.set ?_ (.inl (by simp)) _)))


end Go.Proofs.Ytojceddgmmapdaa
