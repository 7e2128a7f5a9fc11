/-
  The document's zones: Do comes to doF (writes, refused).
-/
import Derived.Test.YtojceddgmmapdaaZQ2
namespace Go.Proofs.Ytojceddgmmapdaa
open Go.RowKit

def RPost (bm bz : Nat) (w : World) (r : (Int × Int) × Mc) (e : Ending) (w' : World) : Prop :=
  e = .returned (.tuple #[.int .i64 r.1.1, .int .i64 r.1.2]) ∧ IsM RM RZ w' bm bz r.2 ∧ Mod [bz] w w'

set_option maxHeartbeats 2000000 in
set_option maxRecDepth 100000 in
theorem rw_n0 (bm bz : Nat) (m : Mc) (i : Nat) (a n : Int) (w : World) (hI : IsM RM RZ w bm bz m) (hp : VerbPre m i) (h : n < 1) :
    Calls Try.prog 21 #[.pointer (some ⟨bm, 0, none⟩), .agg #[.int .i64 1, .int .i64 i, .int .i64 a, .int .i64 n]] w (RPost bm bz w (verbF m 1 i a n)) := by
  have HI := Lib.hid hI; clear hI
  obtain ⟨hn, hi, b1, b2, l1, l2⟩ := hp
  have hlt := HI.out.lt
  obtain ⟨hlm, hlz⟩ := hlt
  have hne : bm ≠ bz := HI.out.ne
  have hne2 : w.heap.size ≠ bz := by omega
  have hne3 : w.heap.size + 1 ≠ bz := by omega
  have hfz := HI.out.frozen
  have k0 := HI.out.cellSt hi
  have k1 := HI.out.cellLn hi
  have k2 := HI.out.cellB
  obtain ⟨cap, hcz⟩ := HI.out.cellZ
  have hd : decide (m.zs.length ≤ i) = false := by simp; omega
  have hfin : verbF m 1 i a n = ((0, 2), m) := by unfold verbF; rw [if_pos rfl, if_pos (by rw [spanF_not]; rfl; omega)]
  have Hfin := Lib.hid hfin; clear hfin
  have hdd0 : decide (n < 1) = true := by simp; omega
  go_enter Try.func21, Try.ntmps21
  go_wp2_with (first | go_quiet (fail) | go_region)
  go_ret2
  refine ⟨?_, ?_, ?_⟩
  · rw [Hfin.out]; rfl
  · rw [Hfin.out]; exact (by repeat (first | exact HI.out | apply IsM.drewN | apply IsM.drew | apply IsM.alloc))
  · exact (by repeat (first | exact Mod.refl _ _ | apply Mod.drewN | apply Mod.drew | apply Mod.alloc | (refine Mod.set ?_ (.inl (by simp)) _)))

set_option maxHeartbeats 2000000 in
set_option maxRecDepth 100000 in
theorem rw_nb (bm bz : Nat) (m : Mc) (i : Nat) (a n : Int) (w : World) (hI : IsM RM RZ w bm bz m) (hp : VerbPre m i) (h1 : 1 ≤ n) (h : m.bl < n) :
    Calls Try.prog 21 #[.pointer (some ⟨bm, 0, none⟩), .agg #[.int .i64 1, .int .i64 i, .int .i64 a, .int .i64 n]] w (RPost bm bz w (verbF m 1 i a n)) := by
  have HI := Lib.hid hI; clear hI
  obtain ⟨hn, hi, b1, b2, l1, l2⟩ := hp
  have hlt := HI.out.lt
  obtain ⟨hlm, hlz⟩ := hlt
  have hne : bm ≠ bz := HI.out.ne
  have hne2 : w.heap.size ≠ bz := by omega
  have hne3 : w.heap.size + 1 ≠ bz := by omega
  have hfz := HI.out.frozen
  have k0 := HI.out.cellSt hi
  have k1 := HI.out.cellLn hi
  have k2 := HI.out.cellB
  obtain ⟨cap, hcz⟩ := HI.out.cellZ
  have hd : decide (m.zs.length ≤ i) = false := by simp; omega
  have hfin : verbF m 1 i a n = ((0, 2), m) := by unfold verbF; rw [if_pos rfl, if_pos (by rw [spanF_not]; rfl; omega)]
  have Hfin := Lib.hid hfin; clear hfin
  have hdd0 : decide (n < 1) = false := by simp; omega
  have hdd1 : decide (m.bl < n) = true := by simp; omega
  go_enter Try.func21, Try.ntmps21
  go_wp2_with (first | go_quiet (fail) | go_region)
  go_ret2
  refine ⟨?_, ?_, ?_⟩
  · rw [Hfin.out]; rfl
  · rw [Hfin.out]; exact (by repeat (first | exact HI.out | apply IsM.drewN | apply IsM.drew | apply IsM.alloc))
  · exact (by repeat (first | exact Mod.refl _ _ | apply Mod.drewN | apply Mod.drew | apply Mod.alloc | (refine Mod.set ?_ (.inl (by simp)) _)))

set_option maxHeartbeats 2000000 in
set_option maxRecDepth 100000 in
theorem rw_a0 (bm bz : Nat) (m : Mc) (i : Nat) (a n : Int) (w : World) (hI : IsM RM RZ w bm bz m) (hp : VerbPre m i) (h1 : 1 ≤ n) (h2 : n ≤ m.bl) (h : a < 0) :
    Calls Try.prog 21 #[.pointer (some ⟨bm, 0, none⟩), .agg #[.int .i64 1, .int .i64 i, .int .i64 a, .int .i64 n]] w (RPost bm bz w (verbF m 1 i a n)) := by
  have HI := Lib.hid hI; clear hI
  obtain ⟨hn, hi, b1, b2, l1, l2⟩ := hp
  have hlt := HI.out.lt
  obtain ⟨hlm, hlz⟩ := hlt
  have hne : bm ≠ bz := HI.out.ne
  have hne2 : w.heap.size ≠ bz := by omega
  have hne3 : w.heap.size + 1 ≠ bz := by omega
  have hfz := HI.out.frozen
  have k0 := HI.out.cellSt hi
  have k1 := HI.out.cellLn hi
  have k2 := HI.out.cellB
  obtain ⟨cap, hcz⟩ := HI.out.cellZ
  have hd : decide (m.zs.length ≤ i) = false := by simp; omega
  have hfin : verbF m 1 i a n = ((0, 2), m) := by unfold verbF; rw [if_pos rfl, if_pos (by rw [spanF_not]; rfl; omega)]
  have Hfin := Lib.hid hfin; clear hfin
  have hdd0 : decide (n < 1) = false := by simp; omega
  have hdd1 : decide (m.bl < n) = false := by simp; omega
  have hdd2 : decide (a < 0) = true := by simp; omega
  go_enter Try.func21, Try.ntmps21
  go_wp2_with (first | go_quiet (fail) | go_region)
  go_ret2
  refine ⟨?_, ?_, ?_⟩
  · rw [Hfin.out]; rfl
  · rw [Hfin.out]; exact (by repeat (first | exact HI.out | apply IsM.drewN | apply IsM.drew | apply IsM.alloc))
  · exact (by repeat (first | exact Mod.refl _ _ | apply Mod.drewN | apply Mod.drew | apply Mod.alloc | (refine Mod.set ?_ (.inl (by simp)) _)))

set_option maxHeartbeats 2000000 in
set_option maxRecDepth 100000 in
theorem rw_ab (bm bz : Nat) (m : Mc) (i : Nat) (a n : Int) (w : World) (hI : IsM RM RZ w bm bz m) (hp : VerbPre m i) (h1 : 1 ≤ n) (h2 : n ≤ m.bl) (h3 : 0 ≤ a) (h : m.bl - n < a) :
    Calls Try.prog 21 #[.pointer (some ⟨bm, 0, none⟩), .agg #[.int .i64 1, .int .i64 i, .int .i64 a, .int .i64 n]] w (RPost bm bz w (verbF m 1 i a n)) := by
  have HI := Lib.hid hI; clear hI
  obtain ⟨hn, hi, b1, b2, l1, l2⟩ := hp
  have hlt := HI.out.lt
  obtain ⟨hlm, hlz⟩ := hlt
  have hne : bm ≠ bz := HI.out.ne
  have hne2 : w.heap.size ≠ bz := by omega
  have hne3 : w.heap.size + 1 ≠ bz := by omega
  have hfz := HI.out.frozen
  have k0 := HI.out.cellSt hi
  have k1 := HI.out.cellLn hi
  have k2 := HI.out.cellB
  obtain ⟨cap, hcz⟩ := HI.out.cellZ
  have hd : decide (m.zs.length ≤ i) = false := by simp; omega
  have hfin : verbF m 1 i a n = ((0, 2), m) := by unfold verbF; rw [if_pos rfl, if_pos (by rw [spanF_not]; rfl; omega)]
  have Hfin := Lib.hid hfin; clear hfin
  have hdd0 : decide (n < 1) = false := by simp; omega
  have hdd1 : decide (m.bl < n) = false := by simp; omega
  have hdd2 : decide (a < 0) = false := by simp; omega
  have hdd3 : decide (m.bl - n < a) = true := by simp; omega
  go_enter Try.func21, Try.ntmps21
  go_wp2_with (first | go_quiet (fail) | go_region)
  go_ret2
  refine ⟨?_, ?_, ?_⟩
  · rw [Hfin.out]; rfl
  · rw [Hfin.out]; exact (by repeat (first | exact HI.out | apply IsM.drewN | apply IsM.drew | apply IsM.alloc))
  · exact (by repeat (first | exact Mod.refl _ _ | apply Mod.drewN | apply Mod.drew | apply Mod.alloc | (refine Mod.set ?_ (.inl (by simp)) _)))

set_option maxHeartbeats 2000000 in
set_option maxRecDepth 100000 in
theorem rw_full (bm bz : Nat) (m : Mc) (i : Nat) (a n : Int) (w : World) (hI : IsM RM RZ w bm bz m) (hp : VerbPre m i) (h1 : 1 ≤ n) (h2 : n ≤ m.bl) (h3 : 0 ≤ a) (h4 : a ≤ m.bl - n) (h : m.st i = 4) :
    Calls Try.prog 21 #[.pointer (some ⟨bm, 0, none⟩), .agg #[.int .i64 1, .int .i64 i, .int .i64 a, .int .i64 n]] w (RPost bm bz w (verbF m 1 i a n)) := by
  have HI := Lib.hid hI; clear hI
  obtain ⟨hn, hi, b1, b2, l1, l2⟩ := hp
  have hlt := HI.out.lt
  obtain ⟨hlm, hlz⟩ := hlt
  have hne : bm ≠ bz := HI.out.ne
  have hne2 : w.heap.size ≠ bz := by omega
  have hne3 : w.heap.size + 1 ≠ bz := by omega
  have hfz := HI.out.frozen
  have k0 := HI.out.cellSt hi
  have k1 := HI.out.cellLn hi
  have k2 := HI.out.cellB
  obtain ⟨cap, hcz⟩ := HI.out.cellZ
  have hd : decide (m.zs.length ≤ i) = false := by simp; omega
  have hfin : verbF m 1 i a n = ((0, 4), m) := by unfold verbF; rw [if_pos rfl, if_neg (by rw [spanF_mk (by omega)]; simp), if_pos h]
  have Hfin := Lib.hid hfin; clear hfin
  have hdd0 : decide (n < 1) = false := by simp; omega
  have hdd1 : decide (m.bl < n) = false := by simp; omega
  have hdd2 : decide (a < 0) = false := by simp; omega
  have hdd3 : decide (m.bl - n < a) = false := by simp; omega
  rw [h] at k0; clear h
  go_enter Try.func21, Try.ntmps21
  go_wp2_with (first | go_quiet (fail) | go_region)
  go_ret2
  refine ⟨?_, ?_, ?_⟩
  · rw [Hfin.out]; rfl
  · rw [Hfin.out]; exact (by repeat (first | exact HI.out | apply IsM.drewN | apply IsM.drew | apply IsM.alloc))
  · exact (by repeat (first | exact Mod.refl _ _ | apply Mod.drewN | apply Mod.drew | apply Mod.alloc | (refine Mod.set ?_ (.inl (by simp)) _)))

set_option maxHeartbeats 2000000 in
set_option maxRecDepth 100000 in
theorem rw_at (bm bz : Nat) (m : Mc) (i : Nat) (a n : Int) (w : World) (hI : IsM RM RZ w bm bz m) (hp : VerbPre m i) (h1 : 1 ≤ n) (h2 : n ≤ m.bl) (h3 : 0 ≤ a) (h4 : a ≤ m.bl - n) (h : m.st i ≠ 4) (h5 : a ≠ m.ln i) :
    Calls Try.prog 21 #[.pointer (some ⟨bm, 0, none⟩), .agg #[.int .i64 1, .int .i64 i, .int .i64 a, .int .i64 n]] w (RPost bm bz w (verbF m 1 i a n)) := by
  have HI := Lib.hid hI; clear hI
  obtain ⟨hn, hi, b1, b2, l1, l2⟩ := hp
  have hlt := HI.out.lt
  obtain ⟨hlm, hlz⟩ := hlt
  have hne : bm ≠ bz := HI.out.ne
  have hne2 : w.heap.size ≠ bz := by omega
  have hne3 : w.heap.size + 1 ≠ bz := by omega
  have hfz := HI.out.frozen
  have k0 := HI.out.cellSt hi
  have k1 := HI.out.cellLn hi
  have k2 := HI.out.cellB
  obtain ⟨cap, hcz⟩ := HI.out.cellZ
  have hd : decide (m.zs.length ≤ i) = false := by simp; omega
  have hfin : verbF m 1 i a n = ((0, 3), m) := by unfold verbF; rw [if_pos rfl, if_neg (by rw [spanF_mk (by omega)]; simp), if_neg h, if_pos h5]
  have Hfin := Lib.hid hfin; clear hfin
  have hdd0 : decide (n < 1) = false := by simp; omega
  have hdd1 : decide (m.bl < n) = false := by simp; omega
  have hdd2 : decide (a < 0) = false := by simp; omega
  have hdd3 : decide (m.bl - n < a) = false := by simp; omega
  have hb4 : (m.st i == 4) = false := by simpa using h
  have hb5 : (a != m.ln i) = true := by simpa using h5
  clear h h5
  go_enter Try.func21, Try.ntmps21
  go_wp2_with (first | go_quiet (fail) | go_region)
  go_ret2
  refine ⟨?_, ?_, ?_⟩
  · rw [Hfin.out]; rfl
  · rw [Hfin.out]; exact (by repeat (first | exact HI.out | apply IsM.drewN | apply IsM.drew | apply IsM.alloc))
  · exact (by repeat (first | exact Mod.refl _ _ | apply Mod.drewN | apply Mod.drew | apply Mod.alloc | (refine Mod.set ?_ (.inl (by simp)) _)))

set_option maxHeartbeats 2000000 in
set_option maxRecDepth 100000 in
theorem ra_n0 (bm bz : Nat) (m : Mc) (i : Nat) (a n : Int) (w : World) (hI : IsM RM RZ w bm bz m) (hp : VerbPre m i) (h : n < 1) :
    Calls Try.prog 21 #[.pointer (some ⟨bm, 0, none⟩), .agg #[.int .i64 2, .int .i64 i, .int .i64 a, .int .i64 n]] w (RPost bm bz w (verbF m 2 i a n)) := by
  have HI := Lib.hid hI; clear hI
  obtain ⟨hn, hi, b1, b2, l1, l2⟩ := hp
  have hlt := HI.out.lt
  obtain ⟨hlm, hlz⟩ := hlt
  have hne : bm ≠ bz := HI.out.ne
  have hne2 : w.heap.size ≠ bz := by omega
  have hne3 : w.heap.size + 1 ≠ bz := by omega
  have hfz := HI.out.frozen
  have k0 := HI.out.cellSt hi
  have k1 := HI.out.cellLn hi
  have k2 := HI.out.cellB
  obtain ⟨cap, hcz⟩ := HI.out.cellZ
  have hd : decide (m.zs.length ≤ i) = false := by simp; omega
  have hfin : verbF m 2 i a n = ((0, 2), m) := by unfold verbF; rw [if_neg (by decide), if_pos rfl, if_pos (by rw [spanF_not]; rfl; omega)]
  have Hfin := Lib.hid hfin; clear hfin
  have hdd0 : decide (n < 1) = true := by simp; omega
  go_enter Try.func21, Try.ntmps21
  go_wp2_with (first | go_quiet (fail) | go_region)
  go_ret2
  refine ⟨?_, ?_, ?_⟩
  · rw [Hfin.out]; rfl
  · rw [Hfin.out]; exact (by repeat (first | exact HI.out | apply IsM.drewN | apply IsM.drew | apply IsM.alloc))
  · exact (by repeat (first | exact Mod.refl _ _ | apply Mod.drewN | apply Mod.drew | apply Mod.alloc | (refine Mod.set ?_ (.inl (by simp)) _)))

set_option maxHeartbeats 2000000 in
set_option maxRecDepth 100000 in
theorem ra_nb (bm bz : Nat) (m : Mc) (i : Nat) (a n : Int) (w : World) (hI : IsM RM RZ w bm bz m) (hp : VerbPre m i) (h1 : 1 ≤ n) (h : m.bl < n) :
    Calls Try.prog 21 #[.pointer (some ⟨bm, 0, none⟩), .agg #[.int .i64 2, .int .i64 i, .int .i64 a, .int .i64 n]] w (RPost bm bz w (verbF m 2 i a n)) := by
  have HI := Lib.hid hI; clear hI
  obtain ⟨hn, hi, b1, b2, l1, l2⟩ := hp
  have hlt := HI.out.lt
  obtain ⟨hlm, hlz⟩ := hlt
  have hne : bm ≠ bz := HI.out.ne
  have hne2 : w.heap.size ≠ bz := by omega
  have hne3 : w.heap.size + 1 ≠ bz := by omega
  have hfz := HI.out.frozen
  have k0 := HI.out.cellSt hi
  have k1 := HI.out.cellLn hi
  have k2 := HI.out.cellB
  obtain ⟨cap, hcz⟩ := HI.out.cellZ
  have hd : decide (m.zs.length ≤ i) = false := by simp; omega
  have hfin : verbF m 2 i a n = ((0, 2), m) := by unfold verbF; rw [if_neg (by decide), if_pos rfl, if_pos (by rw [spanF_not]; rfl; omega)]
  have Hfin := Lib.hid hfin; clear hfin
  have hdd0 : decide (n < 1) = false := by simp; omega
  have hdd1 : decide (m.bl < n) = true := by simp; omega
  go_enter Try.func21, Try.ntmps21
  go_wp2_with (first | go_quiet (fail) | go_region)
  go_ret2
  refine ⟨?_, ?_, ?_⟩
  · rw [Hfin.out]; rfl
  · rw [Hfin.out]; exact (by repeat (first | exact HI.out | apply IsM.drewN | apply IsM.drew | apply IsM.alloc))
  · exact (by repeat (first | exact Mod.refl _ _ | apply Mod.drewN | apply Mod.drew | apply Mod.alloc | (refine Mod.set ?_ (.inl (by simp)) _)))

set_option maxHeartbeats 2000000 in
set_option maxRecDepth 100000 in
theorem ra_full (bm bz : Nat) (m : Mc) (i : Nat) (a n : Int) (w : World) (hI : IsM RM RZ w bm bz m) (hp : VerbPre m i) (h1 : 1 ≤ n) (h2 : n ≤ m.bl) (h : m.st i = 4) :
    Calls Try.prog 21 #[.pointer (some ⟨bm, 0, none⟩), .agg #[.int .i64 2, .int .i64 i, .int .i64 a, .int .i64 n]] w (RPost bm bz w (verbF m 2 i a n)) := by
  have HI := Lib.hid hI; clear hI
  obtain ⟨hn, hi, b1, b2, l1, l2⟩ := hp
  have hlt := HI.out.lt
  obtain ⟨hlm, hlz⟩ := hlt
  have hne : bm ≠ bz := HI.out.ne
  have hne2 : w.heap.size ≠ bz := by omega
  have hne3 : w.heap.size + 1 ≠ bz := by omega
  have hfz := HI.out.frozen
  have k0 := HI.out.cellSt hi
  have k1 := HI.out.cellLn hi
  have k2 := HI.out.cellB
  obtain ⟨cap, hcz⟩ := HI.out.cellZ
  have hd : decide (m.zs.length ≤ i) = false := by simp; omega
  have hfin : verbF m 2 i a n = ((0, 4), m) := by unfold verbF; rw [if_neg (by decide), if_pos rfl, if_neg (by rw [spanF_mk (by omega)]; simp), if_pos h]
  have Hfin := Lib.hid hfin; clear hfin
  have hdd0 : decide (n < 1) = false := by simp; omega
  have hdd1 : decide (m.bl < n) = false := by simp; omega
  rw [h] at k0; clear h
  go_enter Try.func21, Try.ntmps21
  go_wp2_with (first | go_quiet (fail) | go_region)
  go_ret2
  refine ⟨?_, ?_, ?_⟩
  · rw [Hfin.out]; rfl
  · rw [Hfin.out]; exact (by repeat (first | exact HI.out | apply IsM.drewN | apply IsM.drew | apply IsM.alloc))
  · exact (by repeat (first | exact Mod.refl _ _ | apply Mod.drewN | apply Mod.drew | apply Mod.alloc | (refine Mod.set ?_ (.inl (by simp)) _)))

set_option maxHeartbeats 2000000 in
set_option maxRecDepth 100000 in
theorem ra_long (bm bz : Nat) (m : Mc) (i : Nat) (a n : Int) (w : World) (hI : IsM RM RZ w bm bz m) (hp : VerbPre m i) (h1 : 1 ≤ n) (h2 : n ≤ m.bl) (h : m.st i ≠ 4) (h5 : m.bl - n < m.ln i) :
    Calls Try.prog 21 #[.pointer (some ⟨bm, 0, none⟩), .agg #[.int .i64 2, .int .i64 i, .int .i64 a, .int .i64 n]] w (RPost bm bz w (verbF m 2 i a n)) := by
  have HI := Lib.hid hI; clear hI
  obtain ⟨hn, hi, b1, b2, l1, l2⟩ := hp
  have hlt := HI.out.lt
  obtain ⟨hlm, hlz⟩ := hlt
  have hne : bm ≠ bz := HI.out.ne
  have hne2 : w.heap.size ≠ bz := by omega
  have hne3 : w.heap.size + 1 ≠ bz := by omega
  have hfz := HI.out.frozen
  have k0 := HI.out.cellSt hi
  have k1 := HI.out.cellLn hi
  have k2 := HI.out.cellB
  obtain ⟨cap, hcz⟩ := HI.out.cellZ
  have hd : decide (m.zs.length ≤ i) = false := by simp; omega
  have hfin : verbF m 2 i a n = ((0, 2), m) := by unfold verbF; rw [if_neg (by decide), if_pos rfl, if_neg (by rw [spanF_mk (by omega)]; simp), if_neg h, if_pos (by rw [spanF_not]; rfl; omega)]
  have Hfin := Lib.hid hfin; clear hfin
  have hdd0 : decide (n < 1) = false := by simp; omega
  have hdd1 : decide (m.bl < n) = false := by simp; omega
  have hdd2 : decide (m.bl - n < m.ln i) = true := by simp; omega
  have hb4 : (m.st i == 4) = false := by simpa using h
  clear h
  go_enter Try.func21, Try.ntmps21
  go_wp2_with (first | go_quiet (fail) | go_region)
  go_ret2
  refine ⟨?_, ?_, ?_⟩
  · rw [Hfin.out]; rfl
  · rw [Hfin.out]; exact (by repeat (first | exact HI.out | apply IsM.drewN | apply IsM.drew | apply IsM.alloc))
  · exact (by repeat (first | exact Mod.refl _ _ | apply Mod.drewN | apply Mod.drew | apply Mod.alloc | (refine Mod.set ?_ (.inl (by simp)) _)))


end Go.Proofs.Ytojceddgmmapdaa
