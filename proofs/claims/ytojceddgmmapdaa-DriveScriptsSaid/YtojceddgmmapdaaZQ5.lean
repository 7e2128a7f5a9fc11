/-
  The document's zones: Do comes to doF (the other kinds).
-/
import Derived.Test.YtojceddgmmapdaaZQ3
namespace Go.Proofs.Ytojceddgmmapdaa
open Go.RowKit

set_option maxHeartbeats 2000000 in
set_option maxRecDepth 100000 in
theorem r_reset (bm bz : Nat) (m : Mc) (i : Nat) (a n : Int) (w : World) (hI : IsM RM RZ w bm bz m) (hp : VerbPre m i)  :
    Calls Try.prog 21 #[.pointer (some ⟨bm, 0, none⟩), .agg #[.int .i64 3, .int .i64 i, .int .i64 a, .int .i64 n]] w (RPost bm bz w (verbF m 3 i a n)) := by
  have HI := Lib.hid hI; clear hI
  obtain ⟨hn, hi, b1, b2, l1, l2⟩ := hp
  have hlt := HI.out.lt
  obtain ⟨hlm, hlz⟩ := hlt
  have hne : bm ≠ bz := HI.out.ne
  have hne2 : w.heap.size ≠ bz := by omega
  have hne3 : w.heap.size + 1 ≠ bz := by omega
  have hfz := HI.out.frozen
  have k0 := HI.out.cellSt hi
  have k1 := HI.out.cellLn hi
  have k2 := HI.out.cellB
  obtain ⟨cap, hcz⟩ := HI.out.cellZ
  have hd : decide (m.zs.length ≤ i) = false := by simp; omega
  have hfin : verbF m 3 i a n = ((0, 0), { m with zs := m.zs.set i (0, 0) }) := by simp [verbF]
  have Hfin := Lib.hid hfin; clear hfin
  have Hup := Lib.hid (fun W (h : IsM RM RZ W bm bz m) => h.reset hi)
  go_enter Try.func21, Try.ntmps21
  go_wp2_with (first | go_quiet (fail) | go_region)
  go_ret2
  refine ⟨?_, ?_, ?_⟩
  · rw [Hfin.out]; rfl
  · rw [Hfin.out]; exact (by repeat (first | exact (Hup.out _ (by repeat (first | exact HI.out | apply IsM.drewN | apply IsM.drew | apply IsM.alloc))) | apply IsM.drewN | apply IsM.drew | apply IsM.alloc))
  · exact (by repeat (first | exact Mod.refl _ _ | apply Mod.drewN | apply Mod.drew | apply Mod.alloc | (refine Mod.set ?_ (.inl (by simp)) _)))

set_option maxHeartbeats 2000000 in
set_option maxRecDepth 100000 in
theorem r_finish (bm bz : Nat) (m : Mc) (i : Nat) (a n : Int) (w : World) (hI : IsM RM RZ w bm bz m) (hp : VerbPre m i)  :
    Calls Try.prog 21 #[.pointer (some ⟨bm, 0, none⟩), .agg #[.int .i64 4, .int .i64 i, .int .i64 a, .int .i64 n]] w (RPost bm bz w (verbF m 4 i a n)) := by
  have HI := Lib.hid hI; clear hI
  obtain ⟨hn, hi, b1, b2, l1, l2⟩ := hp
  have hlt := HI.out.lt
  obtain ⟨hlm, hlz⟩ := hlt
  have hne : bm ≠ bz := HI.out.ne
  have hne2 : w.heap.size ≠ bz := by omega
  have hne3 : w.heap.size + 1 ≠ bz := by omega
  have hfz := HI.out.frozen
  have k0 := HI.out.cellSt hi
  have k1 := HI.out.cellLn hi
  have k2 := HI.out.cellB
  obtain ⟨cap, hcz⟩ := HI.out.cellZ
  have hd : decide (m.zs.length ≤ i) = false := by simp; omega
  have hfin : verbF m 4 i a n = ((0, 0), m.setSt i 4) := by simp [verbF]
  have Hfin := Lib.hid hfin; clear hfin
  have Hup := Lib.hid (fun W (h : IsM RM RZ W bm bz m) => h.setSt hi 4)
  go_enter Try.func21, Try.ntmps21
  go_wp2_with (first | go_quiet (fail) | go_region)
  go_ret2
  refine ⟨?_, ?_, ?_⟩
  · rw [Hfin.out]; rfl
  · rw [Hfin.out]; exact (by repeat (first | exact (Hup.out _ (by repeat (first | exact HI.out | apply IsM.drewN | apply IsM.drew | apply IsM.alloc))) | apply IsM.drewN | apply IsM.drew | apply IsM.alloc))
  · exact (by repeat (first | exact Mod.refl _ _ | apply Mod.drewN | apply Mod.drew | apply Mod.alloc | (refine Mod.set ?_ (.inl (by simp)) _)))

set_option maxHeartbeats 2000000 in
set_option maxRecDepth 100000 in
theorem r_openf (bm bz : Nat) (m : Mc) (i : Nat) (a n : Int) (w : World) (hI : IsM RM RZ w bm bz m) (hp : VerbPre m i) (h : m.st i = 4) :
    Calls Try.prog 21 #[.pointer (some ⟨bm, 0, none⟩), .agg #[.int .i64 5, .int .i64 i, .int .i64 a, .int .i64 n]] w (RPost bm bz w (verbF m 5 i a n)) := by
  have HI := Lib.hid hI; clear hI
  obtain ⟨hn, hi, b1, b2, l1, l2⟩ := hp
  have hlt := HI.out.lt
  obtain ⟨hlm, hlz⟩ := hlt
  have hne : bm ≠ bz := HI.out.ne
  have hne2 : w.heap.size ≠ bz := by omega
  have hne3 : w.heap.size + 1 ≠ bz := by omega
  have hfz := HI.out.frozen
  have k0 := HI.out.cellSt hi
  have k1 := HI.out.cellLn hi
  have k2 := HI.out.cellB
  obtain ⟨cap, hcz⟩ := HI.out.cellZ
  have hd : decide (m.zs.length ≤ i) = false := by simp; omega
  have hfin : verbF m 5 i a n = ((0, 4), m) := by simp [verbF, h]
  have Hfin := Lib.hid hfin; clear hfin
  rw [h] at k0; clear h
  go_enter Try.func21, Try.ntmps21
  go_wp2_with (first | go_quiet (fail) | go_region)
  go_ret2
  refine ⟨?_, ?_, ?_⟩
  · rw [Hfin.out]; rfl
  · rw [Hfin.out]; exact (by repeat (first | exact HI.out | apply IsM.drewN | apply IsM.drew | apply IsM.alloc))
  · exact (by repeat (first | exact Mod.refl _ _ | apply Mod.drewN | apply Mod.drew | apply Mod.alloc | (refine Mod.set ?_ (.inl (by simp)) _)))

set_option maxHeartbeats 2000000 in
set_option maxRecDepth 100000 in
theorem r_open (bm bz : Nat) (m : Mc) (i : Nat) (a n : Int) (w : World) (hI : IsM RM RZ w bm bz m) (hp : VerbPre m i) (h : m.st i ≠ 4) :
    Calls Try.prog 21 #[.pointer (some ⟨bm, 0, none⟩), .agg #[.int .i64 5, .int .i64 i, .int .i64 a, .int .i64 n]] w (RPost bm bz w (verbF m 5 i a n)) := by
  have HI := Lib.hid hI; clear hI
  obtain ⟨hn, hi, b1, b2, l1, l2⟩ := hp
  have hlt := HI.out.lt
  obtain ⟨hlm, hlz⟩ := hlt
  have hne : bm ≠ bz := HI.out.ne
  have hne2 : w.heap.size ≠ bz := by omega
  have hne3 : w.heap.size + 1 ≠ bz := by omega
  have hfz := HI.out.frozen
  have k0 := HI.out.cellSt hi
  have k1 := HI.out.cellLn hi
  have k2 := HI.out.cellB
  obtain ⟨cap, hcz⟩ := HI.out.cellZ
  have hd : decide (m.zs.length ≤ i) = false := by simp; omega
  have hfin : verbF m 5 i a n = ((0, (enterF m i 2).1), (enterF m i 2).2) := by simp [verbF, h]
  have Hfin := Lib.hid hfin; clear hfin
  have hb4 : (m.st i == 4) = false := by simpa using h
  clear h
  go_enter Try.func21, Try.ntmps21
  go_wp2_with (first | go_quiet (fail) | go_region | (go_at_call 43; refine (ropen_any bm bz m i 2 (by decide) _ (by repeat (first | exact HI.out | apply IsM.drewN | apply IsM.drew | apply IsM.alloc)) hn hi).mono ?_; rintro e wg ⟨rfl, hIg, hmg⟩; obtain ⟨hc2, hf2, hs2⟩ := mcell hmg))
  go_ret2
  refine ⟨?_, ?_, ?_⟩
  · rw [Hfin.out]; rfl
  · rw [Hfin.out]; exact hIg
  · exact Mod.trans' (by repeat (first | exact Mod.refl _ _ | apply Mod.drewN | apply Mod.drew | apply Mod.alloc | (refine Mod.set ?_ (.inl (by simp)) _))) hmg

set_option maxHeartbeats 2000000 in
set_option maxRecDepth 100000 in
theorem r_shut0 (bm bz : Nat) (m : Mc) (i : Nat) (a n : Int) (w : World) (hI : IsM RM RZ w bm bz m) (hp : VerbPre m i) (h : m.st i = 0) :
    Calls Try.prog 21 #[.pointer (some ⟨bm, 0, none⟩), .agg #[.int .i64 6, .int .i64 i, .int .i64 a, .int .i64 n]] w (RPost bm bz w (verbF m 6 i a n)) := by
  have HI := Lib.hid hI; clear hI
  obtain ⟨hn, hi, b1, b2, l1, l2⟩ := hp
  have hlt := HI.out.lt
  obtain ⟨hlm, hlz⟩ := hlt
  have hne : bm ≠ bz := HI.out.ne
  have hne2 : w.heap.size ≠ bz := by omega
  have hne3 : w.heap.size + 1 ≠ bz := by omega
  have hfz := HI.out.frozen
  have k0 := HI.out.cellSt hi
  have k1 := HI.out.cellLn hi
  have k2 := HI.out.cellB
  obtain ⟨cap, hcz⟩ := HI.out.cellZ
  have hd : decide (m.zs.length ≤ i) = false := by simp; omega
  have hfin : verbF m 6 i a n = ((0, 3), m) := by unfold verbF; rw [if_neg (by decide), if_neg (by decide), if_neg (by decide), if_neg (by decide), if_neg (by decide), if_pos rfl, if_neg (by rw [h]; decide), if_pos (by rw [h]; decide)]
  have Hfin := Lib.hid hfin; clear hfin
  rw [h] at k0; clear h
  go_enter Try.func21, Try.ntmps21
  go_wp2_with (first | go_quiet (fail) | go_region)
  go_ret2
  refine ⟨?_, ?_, ?_⟩
  · rw [Hfin.out]; rfl
  · rw [Hfin.out]; exact (by repeat (first | exact HI.out | apply IsM.drewN | apply IsM.drew | apply IsM.alloc))
  · exact (by repeat (first | exact Mod.refl _ _ | apply Mod.drewN | apply Mod.drew | apply Mod.alloc | (refine Mod.set ?_ (.inl (by simp)) _)))

set_option maxHeartbeats 2000000 in
set_option maxRecDepth 100000 in
theorem r_shut4 (bm bz : Nat) (m : Mc) (i : Nat) (a n : Int) (w : World) (hI : IsM RM RZ w bm bz m) (hp : VerbPre m i) (h : m.st i = 4) :
    Calls Try.prog 21 #[.pointer (some ⟨bm, 0, none⟩), .agg #[.int .i64 6, .int .i64 i, .int .i64 a, .int .i64 n]] w (RPost bm bz w (verbF m 6 i a n)) := by
  have HI := Lib.hid hI; clear hI
  obtain ⟨hn, hi, b1, b2, l1, l2⟩ := hp
  have hlt := HI.out.lt
  obtain ⟨hlm, hlz⟩ := hlt
  have hne : bm ≠ bz := HI.out.ne
  have hne2 : w.heap.size ≠ bz := by omega
  have hne3 : w.heap.size + 1 ≠ bz := by omega
  have hfz := HI.out.frozen
  have k0 := HI.out.cellSt hi
  have k1 := HI.out.cellLn hi
  have k2 := HI.out.cellB
  obtain ⟨cap, hcz⟩ := HI.out.cellZ
  have hd : decide (m.zs.length ≤ i) = false := by simp; omega
  have hfin : verbF m 6 i a n = ((0, 3), m) := by unfold verbF; rw [if_neg (by decide), if_neg (by decide), if_neg (by decide), if_neg (by decide), if_neg (by decide), if_pos rfl, if_neg (by rw [h]; decide), if_pos (by rw [h]; decide)]
  have Hfin := Lib.hid hfin; clear hfin
  rw [h] at k0; clear h
  go_enter Try.func21, Try.ntmps21
  go_wp2_with (first | go_quiet (fail) | go_region)
  go_ret2
  refine ⟨?_, ?_, ?_⟩
  · rw [Hfin.out]; rfl
  · rw [Hfin.out]; exact (by repeat (first | exact HI.out | apply IsM.drewN | apply IsM.drew | apply IsM.alloc))
  · exact (by repeat (first | exact Mod.refl _ _ | apply Mod.drewN | apply Mod.drew | apply Mod.alloc | (refine Mod.set ?_ (.inl (by simp)) _)))

set_option maxHeartbeats 2000000 in
set_option maxRecDepth 100000 in
theorem r_shute (bm bz : Nat) (m : Mc) (i : Nat) (a n : Int) (w : World) (hI : IsM RM RZ w bm bz m) (hp : VerbPre m i) (h : m.st i = 1 ∨ m.st i = 2) (h0 : m.ln i = 0) :
    Calls Try.prog 21 #[.pointer (some ⟨bm, 0, none⟩), .agg #[.int .i64 6, .int .i64 i, .int .i64 a, .int .i64 n]] w (RPost bm bz w (verbF m 6 i a n)) := by
  have HI := Lib.hid hI; clear hI
  obtain ⟨hn, hi, b1, b2, l1, l2⟩ := hp
  have hlt := HI.out.lt
  obtain ⟨hlm, hlz⟩ := hlt
  have hne : bm ≠ bz := HI.out.ne
  have hne2 : w.heap.size ≠ bz := by omega
  have hne3 : w.heap.size + 1 ≠ bz := by omega
  have hfz := HI.out.frozen
  have k0 := HI.out.cellSt hi
  have k1 := HI.out.cellLn hi
  have k2 := HI.out.cellB
  obtain ⟨cap, hcz⟩ := HI.out.cellZ
  have hd : decide (m.zs.length ≤ i) = false := by simp; omega
  have hfin : verbF m 6 i a n = ((0, 0), m.setSt i 0) := by unfold verbF; rw [if_neg (by decide), if_neg (by decide), if_neg (by decide), if_neg (by decide), if_neg (by decide), if_pos rfl, if_pos (by rw [isOp_iff]; exact h), h0]; rfl
  have Hfin := Lib.hid hfin; clear hfin
  have hb0 : (m.st i == 0) = false := by simp; omega
  have hb4 : (m.st i == 4) = false := by simp; omega
  rw [h0] at k1
  have Hup := Lib.hid (fun W (h : IsM RM RZ W bm bz m) => (h.setSt hi 3).setSt (i := i) (by simpa using hi) 0)
  have hss : (m.setSt i 3).setSt i 0 = m.setSt i 0 := by
    show ({ m with zs := (m.zs.set i (3, m.ln i)).set i (0, (m.setSt i 3).ln i) } : Mc) = _
    rw [Mc.ln_setSt m i hi, List.set_set]; rfl
  have Hss := Lib.hid hss; clear hss
  clear h0 h
  go_enter Try.func21, Try.ntmps21
  go_wp2_with (first | go_quiet (fail) | go_region)
  go_ret2
  refine ⟨?_, ?_, ?_⟩
  · rw [Hfin.out]; rfl
  · rw [Hfin.out]; exact (by repeat (first | exact (by rw [← Hss.out]; exact Hup.out _ (by repeat (first | exact HI.out | apply IsM.drewN | apply IsM.drew | apply IsM.alloc))) | apply IsM.drewN | apply IsM.drew | apply IsM.alloc))
  · exact (by repeat (first | exact Mod.refl _ _ | apply Mod.drewN | apply Mod.drew | apply Mod.alloc | (refine Mod.set ?_ (.inl (by simp)) _)))

set_option maxHeartbeats 2000000 in
set_option maxRecDepth 100000 in
theorem r_shutc (bm bz : Nat) (m : Mc) (i : Nat) (a n : Int) (w : World) (hI : IsM RM RZ w bm bz m) (hp : VerbPre m i) (h : m.st i = 1 ∨ m.st i = 2) (h0 : m.ln i ≠ 0) :
    Calls Try.prog 21 #[.pointer (some ⟨bm, 0, none⟩), .agg #[.int .i64 6, .int .i64 i, .int .i64 a, .int .i64 n]] w (RPost bm bz w (verbF m 6 i a n)) := by
  have HI := Lib.hid hI; clear hI
  obtain ⟨hn, hi, b1, b2, l1, l2⟩ := hp
  have hlt := HI.out.lt
  obtain ⟨hlm, hlz⟩ := hlt
  have hne : bm ≠ bz := HI.out.ne
  have hne2 : w.heap.size ≠ bz := by omega
  have hne3 : w.heap.size + 1 ≠ bz := by omega
  have hfz := HI.out.frozen
  have k0 := HI.out.cellSt hi
  have k1 := HI.out.cellLn hi
  have k2 := HI.out.cellB
  obtain ⟨cap, hcz⟩ := HI.out.cellZ
  have hd : decide (m.zs.length ≤ i) = false := by simp; omega
  have hfin : verbF m 6 i a n = ((0, 0), m.setSt i 3) := by unfold verbF; rw [if_neg (by decide), if_neg (by decide), if_neg (by decide), if_neg (by decide), if_neg (by decide), if_pos rfl, if_pos (by rw [isOp_iff]; exact h)]; unfold restF; rw [if_neg h0]
  have Hfin := Lib.hid hfin; clear hfin
  have hb0 : (m.st i == 0) = false := by simp; omega
  have hb4 : (m.st i == 4) = false := by simp; omega
  have hbl : (m.ln i == 0) = false := by simpa using h0
  have Hup := Lib.hid (fun W (h : IsM RM RZ W bm bz m) => h.setSt hi 3)
  clear h0 h
  go_enter Try.func21, Try.ntmps21
  go_wp2_with (first | go_quiet (fail) | go_region)
  go_ret2
  refine ⟨?_, ?_, ?_⟩
  · rw [Hfin.out]; rfl
  · rw [Hfin.out]; exact (by repeat (first | exact (Hup.out _ (by repeat (first | exact HI.out | apply IsM.drewN | apply IsM.drew | apply IsM.alloc))) | apply IsM.drewN | apply IsM.drew | apply IsM.alloc))
  · exact (by repeat (first | exact Mod.refl _ _ | apply Mod.drewN | apply Mod.drew | apply Mod.alloc | (refine Mod.set ?_ (.inl (by simp)) _)))

set_option maxHeartbeats 2000000 in
set_option maxRecDepth 100000 in
theorem r_shutx (bm bz : Nat) (m : Mc) (i : Nat) (a n : Int) (w : World) (hI : IsM RM RZ w bm bz m) (hp : VerbPre m i) (h : m.st i = 3) (h0 : m.ln i ≠ 0) :
    Calls Try.prog 21 #[.pointer (some ⟨bm, 0, none⟩), .agg #[.int .i64 6, .int .i64 i, .int .i64 a, .int .i64 n]] w (RPost bm bz w (verbF m 6 i a n)) := by
  have HI := Lib.hid hI; clear hI
  obtain ⟨hn, hi, b1, b2, l1, l2⟩ := hp
  have hlt := HI.out.lt
  obtain ⟨hlm, hlz⟩ := hlt
  have hne : bm ≠ bz := HI.out.ne
  have hne2 : w.heap.size ≠ bz := by omega
  have hne3 : w.heap.size + 1 ≠ bz := by omega
  have hfz := HI.out.frozen
  have k0 := HI.out.cellSt hi
  have k1 := HI.out.cellLn hi
  have k2 := HI.out.cellB
  obtain ⟨cap, hcz⟩ := HI.out.cellZ
  have hd : decide (m.zs.length ≤ i) = false := by simp; omega
  have hfin : verbF m 6 i a n = ((0, 0), m.setSt i 3) := by unfold verbF; rw [if_neg (by decide), if_neg (by decide), if_neg (by decide), if_neg (by decide), if_neg (by decide), if_pos rfl, if_neg (by rw [h]; decide), if_neg (by rw [h]; decide), ← h, setSt_self m i hi]
  have Hfin := Lib.hid hfin; clear hfin
  have hb0 : (m.st i == 0) = false := by simp; omega
  have hb4 : (m.st i == 4) = false := by simp; omega
  have hbl : (m.ln i == 0) = false := by simpa using h0
  have Hup := Lib.hid (fun W (h : IsM RM RZ W bm bz m) => h.setSt hi 3)
  rw [h] at k0
  clear h0 h hb0 hb4
  go_enter Try.func21, Try.ntmps21
  go_wp2_with (first | go_quiet (fail) | go_region)
  go_ret2
  refine ⟨?_, ?_, ?_⟩
  · rw [Hfin.out]; rfl
  · rw [Hfin.out]; exact (by repeat (first | exact (Hup.out _ (by repeat (first | exact HI.out | apply IsM.drewN | apply IsM.drew | apply IsM.alloc))) | apply IsM.drewN | apply IsM.drew | apply IsM.alloc))
  · exact (by repeat (first | exact Mod.refl _ _ | apply Mod.drewN | apply Mod.drew | apply Mod.alloc | (refine Mod.set ?_ (.inl (by simp)) _)))

set_option maxHeartbeats 2000000 in
set_option maxRecDepth 100000 in
theorem r_read_a0 (bm bz : Nat) (m : Mc) (i : Nat) (a n : Int) (w : World) (hI : IsM RM RZ w bm bz m) (hp : VerbPre m i) (h : a < 0) :
    Calls Try.prog 21 #[.pointer (some ⟨bm, 0, none⟩), .agg #[.int .i64 7, .int .i64 i, .int .i64 a, .int .i64 n]] w (RPost bm bz w (verbF m 7 i a n)) := by
  have HI := Lib.hid hI; clear hI
  obtain ⟨hn, hi, b1, b2, l1, l2⟩ := hp
  have hlt := HI.out.lt
  obtain ⟨hlm, hlz⟩ := hlt
  have hne : bm ≠ bz := HI.out.ne
  have hne2 : w.heap.size ≠ bz := by omega
  have hne3 : w.heap.size + 1 ≠ bz := by omega
  have hfz := HI.out.frozen
  have k0 := HI.out.cellSt hi
  have k1 := HI.out.cellLn hi
  have k2 := HI.out.cellB
  obtain ⟨cap, hcz⟩ := HI.out.cellZ
  have hd : decide (m.zs.length ≤ i) = false := by simp; omega
  have hfin : verbF m 7 i a n = ((0, 2), m) := by unfold verbF; rw [if_neg (by decide), if_neg (by decide), if_neg (by decide), if_neg (by decide), if_neg (by decide), if_neg (by decide), if_pos (by rw [spanF_not]; rfl; omega)]
  have Hfin := Lib.hid hfin; clear hfin
  have hdd0 : decide (a < 0) = true := by simp; omega
  go_enter Try.func21, Try.ntmps21
  go_wp2_with (first | go_quiet (fail) | go_region)
  go_ret2
  refine ⟨?_, ?_, ?_⟩
  · rw [Hfin.out]; rfl
  · rw [Hfin.out]; exact (by repeat (first | exact HI.out | apply IsM.drewN | apply IsM.drew | apply IsM.alloc))
  · exact (by repeat (first | exact Mod.refl _ _ | apply Mod.drewN | apply Mod.drew | apply Mod.alloc | (refine Mod.set ?_ (.inl (by simp)) _)))

set_option maxHeartbeats 2000000 in
set_option maxRecDepth 100000 in
theorem r_read_n0 (bm bz : Nat) (m : Mc) (i : Nat) (a n : Int) (w : World) (hI : IsM RM RZ w bm bz m) (hp : VerbPre m i) (h1 : 0 ≤ a) (h : n < 1) :
    Calls Try.prog 21 #[.pointer (some ⟨bm, 0, none⟩), .agg #[.int .i64 7, .int .i64 i, .int .i64 a, .int .i64 n]] w (RPost bm bz w (verbF m 7 i a n)) := by
  have HI := Lib.hid hI; clear hI
  obtain ⟨hn, hi, b1, b2, l1, l2⟩ := hp
  have hlt := HI.out.lt
  obtain ⟨hlm, hlz⟩ := hlt
  have hne : bm ≠ bz := HI.out.ne
  have hne2 : w.heap.size ≠ bz := by omega
  have hne3 : w.heap.size + 1 ≠ bz := by omega
  have hfz := HI.out.frozen
  have k0 := HI.out.cellSt hi
  have k1 := HI.out.cellLn hi
  have k2 := HI.out.cellB
  obtain ⟨cap, hcz⟩ := HI.out.cellZ
  have hd : decide (m.zs.length ≤ i) = false := by simp; omega
  have hfin : verbF m 7 i a n = ((0, 2), m) := by unfold verbF; rw [if_neg (by decide), if_neg (by decide), if_neg (by decide), if_neg (by decide), if_neg (by decide), if_neg (by decide), if_pos (by rw [spanF_not]; rfl; omega)]
  have Hfin := Lib.hid hfin; clear hfin
  have hdd0 : decide (a < 0) = false := by simp; omega
  have hdd1 : decide (n < 1) = true := by simp; omega
  go_enter Try.func21, Try.ntmps21
  go_wp2_with (first | go_quiet (fail) | go_region)
  go_ret2
  refine ⟨?_, ?_, ?_⟩
  · rw [Hfin.out]; rfl
  · rw [Hfin.out]; exact (by repeat (first | exact HI.out | apply IsM.drewN | apply IsM.drew | apply IsM.alloc))
  · exact (by repeat (first | exact Mod.refl _ _ | apply Mod.drewN | apply Mod.drew | apply Mod.alloc | (refine Mod.set ?_ (.inl (by simp)) _)))

set_option maxHeartbeats 2000000 in
set_option maxRecDepth 100000 in
theorem r_read_nl (bm bz : Nat) (m : Mc) (i : Nat) (a n : Int) (w : World) (hI : IsM RM RZ w bm bz m) (hp : VerbPre m i) (h1 : 0 ≤ a) (h2 : 1 ≤ n) (h : m.ln i < n) :
    Calls Try.prog 21 #[.pointer (some ⟨bm, 0, none⟩), .agg #[.int .i64 7, .int .i64 i, .int .i64 a, .int .i64 n]] w (RPost bm bz w (verbF m 7 i a n)) := by
  have HI := Lib.hid hI; clear hI
  obtain ⟨hn, hi, b1, b2, l1, l2⟩ := hp
  have hlt := HI.out.lt
  obtain ⟨hlm, hlz⟩ := hlt
  have hne : bm ≠ bz := HI.out.ne
  have hne2 : w.heap.size ≠ bz := by omega
  have hne3 : w.heap.size + 1 ≠ bz := by omega
  have hfz := HI.out.frozen
  have k0 := HI.out.cellSt hi
  have k1 := HI.out.cellLn hi
  have k2 := HI.out.cellB
  obtain ⟨cap, hcz⟩ := HI.out.cellZ
  have hd : decide (m.zs.length ≤ i) = false := by simp; omega
  have hfin : verbF m 7 i a n = ((0, 2), m) := by unfold verbF; rw [if_neg (by decide), if_neg (by decide), if_neg (by decide), if_neg (by decide), if_neg (by decide), if_neg (by decide), if_pos (by rw [spanF_not]; rfl; omega)]
  have Hfin := Lib.hid hfin; clear hfin
  have hdd0 : decide (a < 0) = false := by simp; omega
  have hdd1 : decide (n < 1) = false := by simp; omega
  have hdd2 : decide (m.ln i < n) = true := by simp; omega
  go_enter Try.func21, Try.ntmps21
  go_wp2_with (first | go_quiet (fail) | go_region)
  go_ret2
  refine ⟨?_, ?_, ?_⟩
  · rw [Hfin.out]; rfl
  · rw [Hfin.out]; exact (by repeat (first | exact HI.out | apply IsM.drewN | apply IsM.drew | apply IsM.alloc))
  · exact (by repeat (first | exact Mod.refl _ _ | apply Mod.drewN | apply Mod.drew | apply Mod.alloc | (refine Mod.set ?_ (.inl (by simp)) _)))

set_option maxHeartbeats 2000000 in
set_option maxRecDepth 100000 in
theorem r_read_al (bm bz : Nat) (m : Mc) (i : Nat) (a n : Int) (w : World) (hI : IsM RM RZ w bm bz m) (hp : VerbPre m i) (h1 : 0 ≤ a) (h2 : 1 ≤ n) (h3 : n ≤ m.ln i) (h : m.ln i - n < a) :
    Calls Try.prog 21 #[.pointer (some ⟨bm, 0, none⟩), .agg #[.int .i64 7, .int .i64 i, .int .i64 a, .int .i64 n]] w (RPost bm bz w (verbF m 7 i a n)) := by
  have HI := Lib.hid hI; clear hI
  obtain ⟨hn, hi, b1, b2, l1, l2⟩ := hp
  have hlt := HI.out.lt
  obtain ⟨hlm, hlz⟩ := hlt
  have hne : bm ≠ bz := HI.out.ne
  have hne2 : w.heap.size ≠ bz := by omega
  have hne3 : w.heap.size + 1 ≠ bz := by omega
  have hfz := HI.out.frozen
  have k0 := HI.out.cellSt hi
  have k1 := HI.out.cellLn hi
  have k2 := HI.out.cellB
  obtain ⟨cap, hcz⟩ := HI.out.cellZ
  have hd : decide (m.zs.length ≤ i) = false := by simp; omega
  have hfin : verbF m 7 i a n = ((0, 2), m) := by unfold verbF; rw [if_neg (by decide), if_neg (by decide), if_neg (by decide), if_neg (by decide), if_neg (by decide), if_neg (by decide), if_pos (by rw [spanF_not]; rfl; omega)]
  have Hfin := Lib.hid hfin; clear hfin
  have hdd0 : decide (a < 0) = false := by simp; omega
  have hdd1 : decide (n < 1) = false := by simp; omega
  have hdd2 : decide (m.ln i < n) = false := by simp; omega
  have hdd3 : decide (m.ln i - n < a) = true := by simp; omega
  go_enter Try.func21, Try.ntmps21
  go_wp2_with (first | go_quiet (fail) | go_region)
  go_ret2
  refine ⟨?_, ?_, ?_⟩
  · rw [Hfin.out]; rfl
  · rw [Hfin.out]; exact (by repeat (first | exact HI.out | apply IsM.drewN | apply IsM.drew | apply IsM.alloc))
  · exact (by repeat (first | exact Mod.refl _ _ | apply Mod.drewN | apply Mod.drew | apply Mod.alloc | (refine Mod.set ?_ (.inl (by simp)) _)))

set_option maxHeartbeats 2000000 in
set_option maxRecDepth 100000 in
theorem r_read_ok (bm bz : Nat) (m : Mc) (i : Nat) (a n : Int) (w : World) (hI : IsM RM RZ w bm bz m) (hp : VerbPre m i) (h1 : 0 ≤ a) (h2 : 1 ≤ n) (h3 : n ≤ m.ln i) (h : a ≤ m.ln i - n) :
    Calls Try.prog 21 #[.pointer (some ⟨bm, 0, none⟩), .agg #[.int .i64 7, .int .i64 i, .int .i64 a, .int .i64 n]] w (RPost bm bz w (verbF m 7 i a n)) := by
  have HI := Lib.hid hI; clear hI
  obtain ⟨hn, hi, b1, b2, l1, l2⟩ := hp
  have hlt := HI.out.lt
  obtain ⟨hlm, hlz⟩ := hlt
  have hne : bm ≠ bz := HI.out.ne
  have hne2 : w.heap.size ≠ bz := by omega
  have hne3 : w.heap.size + 1 ≠ bz := by omega
  have hfz := HI.out.frozen
  have k0 := HI.out.cellSt hi
  have k1 := HI.out.cellLn hi
  have k2 := HI.out.cellB
  obtain ⟨cap, hcz⟩ := HI.out.cellZ
  have hd : decide (m.zs.length ≤ i) = false := by simp; omega
  have hfin : verbF m 7 i a n = ((a, 0), m) := by unfold verbF; rw [if_neg (by decide), if_neg (by decide), if_neg (by decide), if_neg (by decide), if_neg (by decide), if_neg (by decide), if_neg (by rw [spanF_mk (by omega)]; simp)]
  have Hfin := Lib.hid hfin; clear hfin
  have hdd0 : decide (a < 0) = false := by simp; omega
  have hdd1 : decide (n < 1) = false := by simp; omega
  have hdd2 : decide (m.ln i < n) = false := by simp; omega
  have hdd3 : decide (m.ln i - n < a) = false := by simp; omega
  go_enter Try.func21, Try.ntmps21
  go_wp2_with (first | go_quiet (fail) | go_region)
  go_ret2
  refine ⟨?_, ?_, ?_⟩
  · rw [Hfin.out]; rfl
  · rw [Hfin.out]; exact (by repeat (first | exact HI.out | apply IsM.drewN | apply IsM.drew | apply IsM.alloc))
  · exact (by repeat (first | exact Mod.refl _ _ | apply Mod.drewN | apply Mod.drew | apply Mod.alloc | (refine Mod.set ?_ (.inl (by simp)) _)))


end Go.Proofs.Ytojceddgmmapdaa
