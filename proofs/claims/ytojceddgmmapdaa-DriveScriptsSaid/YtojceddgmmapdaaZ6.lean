/-
  Walks: Do.
-/
import Derived.Test.YtojceddgmmapdaaZ5
import Derived.Deep.RegionHeld3
import Derived.Laws.EntriesVeiled
namespace Go.Proofs.Ytojceddgmmapdaa
open Go.RowKit

abbrev fnV (f : Nat) : Value := .func (.func f) #[] #[]

theorem verbs_any (w : World) : Calls Try.prog 40 #[] w fun e w' => e = .returned (.agg #[.nilFunc, fnV 50, fnV 51, fnV 52, fnV 53, fnV 54, fnV 55, fnV 56]) ∧ Below w.heap.size w w' := by
  go_enter Try.func40, Try.ntmps40
  go_wp2
  exact bodyPost_ret (v := .agg #[.nilFunc, fnV 50, fnV 51, fnV 52, fnV 53, fnV 54, fnV 55, fnV 56]) (by simp [results, Try.results40, go_sem]) rfl ⟨rfl, (Below.refl _ _).alloc (Nat.le_refl _) _⟩

abbrev verbsV : Value := .agg #[.nilFunc, fnV 50, fnV 51, fnV 52, fnV 53, fnV 54, fnV 55, fnV 56]

set_option maxHeartbeats 1000000 in
set_option maxRecDepth 100000 in
theorem do_write (bm bz : Nat) (m : Mc) (i : Nat) (a n : Int) (w : World) (hI : IsM TM TZ w bm bz m) (hp : VerbPre m i) :
    Calls Try.prog 17 #[.pointer (some ⟨bm, 0, none⟩), .agg #[.int .i64 1, .int .i64 i, .int .i64 a, .int .i64 n]] w (VerbPost bm bz w (verbF m 1 i a n)) := by
  have HI := Lib.hid hI; clear hI
  have Hp := Lib.hid hp
  obtain ⟨hn, hi, _, _, _, _⟩ := hp
  have hlt := HI.out.lt
  obtain ⟨hlm, hlz⟩ := hlt
  obtain ⟨cap, hcz⟩ := HI.out.cellZ
  have hd : decide (m.zs.length ≤ i) = false := by simp; omega
  have hne : bm ≠ bz := HI.out.ne
  have hne2 : w.heap.size ≠ bz := by omega
  have hix : ∀ W : World, (Instr.index 87 verbsV (.int .i64 1)).run Try.prog W = .ok (fnV 50) W := fun _ => by kernel_rfl
  go_enter Try.func17, Try.ntmps17
  go_wp2_with (first | go_quiet (fail))
  go_region_held3 (fun w' => w'.cell? ⟨w.heap.size, 0, none⟩ = some (.int .i64 1) ∧ w'.cell? ⟨w.heap.size, 1, none⟩ = some (.int .i64 i) ∧ w'.cell? ⟨w.heap.size, 2, none⟩ = some (.int .i64 a) ∧ w'.cell? ⟨w.heap.size, 3, none⟩ = some (.int .i64 n) ∧ w'.cell? ⟨bm, 0, none⟩ = some (.slice (some ⟨bz, 0, none⟩) m.zs.length cap) ∧ w.heap.size < w'.heap.size ∧ bm < w'.heap.size) (simp [*, go_sem]) (first
    | (go_at_call 40; refine (verbs_any _).mono ?_; rintro e w1 ⟨rfl, hb⟩; obtain ⟨hc, hf, hs⟩ := bcell hb)
    | (go_at_call 50; refine (write_any bm bz m i 1 i a n _ (IsM.below (hb := hb) (by repeat (first | exact HI.out | apply IsM.drewN | apply IsM.drew | apply IsM.alloc))) Hp.out).mono ?_; rintro e w2 ⟨rfl, hI', hM'⟩; obtain ⟨hc2, hf2, hs2⟩ := mcell hM'))
  go_wp2
  go_ret2
  refine ⟨rfl, hI', ?_⟩
  exact Mod.trans' (Mod.trans' (by repeat (first | exact Mod.refl _ _ | apply Mod.drewN | apply Mod.drew | apply Mod.alloc)) (Mod.of_below hb _)) hM'

set_option maxHeartbeats 1000000 in
set_option maxRecDepth 100000 in
theorem do_append (bm bz : Nat) (m : Mc) (i : Nat) (a n : Int) (w : World) (hI : IsM TM TZ w bm bz m) (hp : VerbPre m i) :
    Calls Try.prog 17 #[.pointer (some ⟨bm, 0, none⟩), .agg #[.int .i64 2, .int .i64 i, .int .i64 a, .int .i64 n]] w (VerbPost bm bz w (verbF m 2 i a n)) := by
  have HI := Lib.hid hI; clear hI
  have Hp := Lib.hid hp
  obtain ⟨hn, hi, _, _, _, _⟩ := hp
  have hlt := HI.out.lt
  obtain ⟨hlm, hlz⟩ := hlt
  obtain ⟨cap, hcz⟩ := HI.out.cellZ
  have hd : decide (m.zs.length ≤ i) = false := by simp; omega
  have hne : bm ≠ bz := HI.out.ne
  have hne2 : w.heap.size ≠ bz := by omega
  have hix : ∀ W : World, (Instr.index 87 verbsV (.int .i64 2)).run Try.prog W = .ok (fnV 51) W := fun _ => by kernel_rfl
  go_enter Try.func17, Try.ntmps17
  go_wp2_with (first | go_quiet (fail))
  go_region_held3 (fun w' => w'.cell? ⟨w.heap.size, 0, none⟩ = some (.int .i64 2) ∧ w'.cell? ⟨w.heap.size, 1, none⟩ = some (.int .i64 i) ∧ w'.cell? ⟨w.heap.size, 2, none⟩ = some (.int .i64 a) ∧ w'.cell? ⟨w.heap.size, 3, none⟩ = some (.int .i64 n) ∧ w'.cell? ⟨bm, 0, none⟩ = some (.slice (some ⟨bz, 0, none⟩) m.zs.length cap) ∧ w.heap.size < w'.heap.size ∧ bm < w'.heap.size) (simp [*, go_sem]) (first
    | (go_at_call 40; refine (verbs_any _).mono ?_; rintro e w1 ⟨rfl, hb⟩; obtain ⟨hc, hf, hs⟩ := bcell hb)
    | (go_at_call 51; refine (append_any bm bz m i 2 i a n _ (IsM.below (hb := hb) (by repeat (first | exact HI.out | apply IsM.drewN | apply IsM.drew | apply IsM.alloc))) Hp.out).mono ?_; rintro e w2 ⟨rfl, hI', hM'⟩; obtain ⟨hc2, hf2, hs2⟩ := mcell hM'))
  go_wp2
  go_ret2
  refine ⟨rfl, hI', ?_⟩
  exact Mod.trans' (Mod.trans' (by repeat (first | exact Mod.refl _ _ | apply Mod.drewN | apply Mod.drew | apply Mod.alloc)) (Mod.of_below hb _)) hM'

set_option maxHeartbeats 1000000 in
set_option maxRecDepth 100000 in
theorem do_reset (bm bz : Nat) (m : Mc) (i : Nat) (a n : Int) (w : World) (hI : IsM TM TZ w bm bz m) (hp : VerbPre m i) :
    Calls Try.prog 17 #[.pointer (some ⟨bm, 0, none⟩), .agg #[.int .i64 3, .int .i64 i, .int .i64 a, .int .i64 n]] w (VerbPost bm bz w (verbF m 3 i a n)) := by
  have HI := Lib.hid hI; clear hI
  have Hp := Lib.hid hp
  obtain ⟨hn, hi, _, _, _, _⟩ := hp
  have hlt := HI.out.lt
  obtain ⟨hlm, hlz⟩ := hlt
  obtain ⟨cap, hcz⟩ := HI.out.cellZ
  have hd : decide (m.zs.length ≤ i) = false := by simp; omega
  have hne : bm ≠ bz := HI.out.ne
  have hne2 : w.heap.size ≠ bz := by omega
  have hix : ∀ W : World, (Instr.index 87 verbsV (.int .i64 3)).run Try.prog W = .ok (fnV 52) W := fun _ => by kernel_rfl
  go_enter Try.func17, Try.ntmps17
  go_wp2_with (first | go_quiet (fail))
  go_region_held3 (fun w' => w'.cell? ⟨w.heap.size, 0, none⟩ = some (.int .i64 3) ∧ w'.cell? ⟨w.heap.size, 1, none⟩ = some (.int .i64 i) ∧ w'.cell? ⟨w.heap.size, 2, none⟩ = some (.int .i64 a) ∧ w'.cell? ⟨w.heap.size, 3, none⟩ = some (.int .i64 n) ∧ w'.cell? ⟨bm, 0, none⟩ = some (.slice (some ⟨bz, 0, none⟩) m.zs.length cap) ∧ w.heap.size < w'.heap.size ∧ bm < w'.heap.size) (simp [*, go_sem]) (first
    | (go_at_call 40; refine (verbs_any _).mono ?_; rintro e w1 ⟨rfl, hb⟩; obtain ⟨hc, hf, hs⟩ := bcell hb)
    | (go_at_call 52; refine (reset_any bm bz m i 3 i a n _ (IsM.below (hb := hb) (by repeat (first | exact HI.out | apply IsM.drewN | apply IsM.drew | apply IsM.alloc))) Hp.out).mono ?_; rintro e w2 ⟨rfl, hI', hM'⟩; obtain ⟨hc2, hf2, hs2⟩ := mcell hM'))
  go_wp2
  go_ret2
  refine ⟨rfl, hI', ?_⟩
  exact Mod.trans' (Mod.trans' (by repeat (first | exact Mod.refl _ _ | apply Mod.drewN | apply Mod.drew | apply Mod.alloc)) (Mod.of_below hb _)) hM'

set_option maxHeartbeats 1000000 in
set_option maxRecDepth 100000 in
theorem do_finish (bm bz : Nat) (m : Mc) (i : Nat) (a n : Int) (w : World) (hI : IsM TM TZ w bm bz m) (hp : VerbPre m i) :
    Calls Try.prog 17 #[.pointer (some ⟨bm, 0, none⟩), .agg #[.int .i64 4, .int .i64 i, .int .i64 a, .int .i64 n]] w (VerbPost bm bz w (verbF m 4 i a n)) := by
  have HI := Lib.hid hI; clear hI
  have Hp := Lib.hid hp
  obtain ⟨hn, hi, _, _, _, _⟩ := hp
  have hlt := HI.out.lt
  obtain ⟨hlm, hlz⟩ := hlt
  obtain ⟨cap, hcz⟩ := HI.out.cellZ
  have hd : decide (m.zs.length ≤ i) = false := by simp; omega
  have hne : bm ≠ bz := HI.out.ne
  have hne2 : w.heap.size ≠ bz := by omega
  have hix : ∀ W : World, (Instr.index 87 verbsV (.int .i64 4)).run Try.prog W = .ok (fnV 53) W := fun _ => by kernel_rfl
  go_enter Try.func17, Try.ntmps17
  go_wp2_with (first | go_quiet (fail))
  go_region_held3 (fun w' => w'.cell? ⟨w.heap.size, 0, none⟩ = some (.int .i64 4) ∧ w'.cell? ⟨w.heap.size, 1, none⟩ = some (.int .i64 i) ∧ w'.cell? ⟨w.heap.size, 2, none⟩ = some (.int .i64 a) ∧ w'.cell? ⟨w.heap.size, 3, none⟩ = some (.int .i64 n) ∧ w'.cell? ⟨bm, 0, none⟩ = some (.slice (some ⟨bz, 0, none⟩) m.zs.length cap) ∧ w.heap.size < w'.heap.size ∧ bm < w'.heap.size) (simp [*, go_sem]) (first
    | (go_at_call 40; refine (verbs_any _).mono ?_; rintro e w1 ⟨rfl, hb⟩; obtain ⟨hc, hf, hs⟩ := bcell hb)
    | (go_at_call 53; refine (finish_any bm bz m i 4 i a n _ (IsM.below (hb := hb) (by repeat (first | exact HI.out | apply IsM.drewN | apply IsM.drew | apply IsM.alloc))) Hp.out).mono ?_; rintro e w2 ⟨rfl, hI', hM'⟩; obtain ⟨hc2, hf2, hs2⟩ := mcell hM'))
  go_wp2
  go_ret2
  refine ⟨rfl, hI', ?_⟩
  exact Mod.trans' (Mod.trans' (by repeat (first | exact Mod.refl _ _ | apply Mod.drewN | apply Mod.drew | apply Mod.alloc)) (Mod.of_below hb _)) hM'

set_option maxHeartbeats 1000000 in
set_option maxRecDepth 100000 in
theorem do_explicit (bm bz : Nat) (m : Mc) (i : Nat) (a n : Int) (w : World) (hI : IsM TM TZ w bm bz m) (hp : VerbPre m i) :
    Calls Try.prog 17 #[.pointer (some ⟨bm, 0, none⟩), .agg #[.int .i64 5, .int .i64 i, .int .i64 a, .int .i64 n]] w (VerbPost bm bz w (verbF m 5 i a n)) := by
  have HI := Lib.hid hI; clear hI
  have Hp := Lib.hid hp
  obtain ⟨hn, hi, _, _, _, _⟩ := hp
  have hlt := HI.out.lt
  obtain ⟨hlm, hlz⟩ := hlt
  obtain ⟨cap, hcz⟩ := HI.out.cellZ
  have hd : decide (m.zs.length ≤ i) = false := by simp; omega
  have hne : bm ≠ bz := HI.out.ne
  have hne2 : w.heap.size ≠ bz := by omega
  have hix : ∀ W : World, (Instr.index 87 verbsV (.int .i64 5)).run Try.prog W = .ok (fnV 54) W := fun _ => by kernel_rfl
  go_enter Try.func17, Try.ntmps17
  go_wp2_with (first | go_quiet (fail))
  go_region_held3 (fun w' => w'.cell? ⟨w.heap.size, 0, none⟩ = some (.int .i64 5) ∧ w'.cell? ⟨w.heap.size, 1, none⟩ = some (.int .i64 i) ∧ w'.cell? ⟨w.heap.size, 2, none⟩ = some (.int .i64 a) ∧ w'.cell? ⟨w.heap.size, 3, none⟩ = some (.int .i64 n) ∧ w'.cell? ⟨bm, 0, none⟩ = some (.slice (some ⟨bz, 0, none⟩) m.zs.length cap) ∧ w.heap.size < w'.heap.size ∧ bm < w'.heap.size) (simp [*, go_sem]) (first
    | (go_at_call 40; refine (verbs_any _).mono ?_; rintro e w1 ⟨rfl, hb⟩; obtain ⟨hc, hf, hs⟩ := bcell hb)
    | (go_at_call 54; refine (explicit_any bm bz m i 5 i a n _ (IsM.below (hb := hb) (by repeat (first | exact HI.out | apply IsM.drewN | apply IsM.drew | apply IsM.alloc))) Hp.out).mono ?_; rintro e w2 ⟨rfl, hI', hM'⟩; obtain ⟨hc2, hf2, hs2⟩ := mcell hM'))
  go_wp2
  go_ret2
  refine ⟨rfl, hI', ?_⟩
  exact Mod.trans' (Mod.trans' (by repeat (first | exact Mod.refl _ _ | apply Mod.drewN | apply Mod.drew | apply Mod.alloc)) (Mod.of_below hb _)) hM'

set_option maxHeartbeats 1000000 in
set_option maxRecDepth 100000 in
theorem do_shut (bm bz : Nat) (m : Mc) (i : Nat) (a n : Int) (w : World) (hI : IsM TM TZ w bm bz m) (hp : VerbPre m i) :
    Calls Try.prog 17 #[.pointer (some ⟨bm, 0, none⟩), .agg #[.int .i64 6, .int .i64 i, .int .i64 a, .int .i64 n]] w (VerbPost bm bz w (verbF m 6 i a n)) := by
  have HI := Lib.hid hI; clear hI
  have Hp := Lib.hid hp
  obtain ⟨hn, hi, _, _, _, _⟩ := hp
  have hlt := HI.out.lt
  obtain ⟨hlm, hlz⟩ := hlt
  obtain ⟨cap, hcz⟩ := HI.out.cellZ
  have hd : decide (m.zs.length ≤ i) = false := by simp; omega
  have hne : bm ≠ bz := HI.out.ne
  have hne2 : w.heap.size ≠ bz := by omega
  have hix : ∀ W : World, (Instr.index 87 verbsV (.int .i64 6)).run Try.prog W = .ok (fnV 55) W := fun _ => by kernel_rfl
  go_enter Try.func17, Try.ntmps17
  go_wp2_with (first | go_quiet (fail))
  go_region_held3 (fun w' => w'.cell? ⟨w.heap.size, 0, none⟩ = some (.int .i64 6) ∧ w'.cell? ⟨w.heap.size, 1, none⟩ = some (.int .i64 i) ∧ w'.cell? ⟨w.heap.size, 2, none⟩ = some (.int .i64 a) ∧ w'.cell? ⟨w.heap.size, 3, none⟩ = some (.int .i64 n) ∧ w'.cell? ⟨bm, 0, none⟩ = some (.slice (some ⟨bz, 0, none⟩) m.zs.length cap) ∧ w.heap.size < w'.heap.size ∧ bm < w'.heap.size) (simp [*, go_sem]) (first
    | (go_at_call 40; refine (verbs_any _).mono ?_; rintro e w1 ⟨rfl, hb⟩; obtain ⟨hc, hf, hs⟩ := bcell hb)
    | (go_at_call 55; refine (shut_any bm bz m i 6 i a n _ (IsM.below (hb := hb) (by repeat (first | exact HI.out | apply IsM.drewN | apply IsM.drew | apply IsM.alloc))) Hp.out).mono ?_; rintro e w2 ⟨rfl, hI', hM'⟩; obtain ⟨hc2, hf2, hs2⟩ := mcell hM'))
  go_wp2
  go_ret2
  refine ⟨rfl, hI', ?_⟩
  exact Mod.trans' (Mod.trans' (by repeat (first | exact Mod.refl _ _ | apply Mod.drewN | apply Mod.drew | apply Mod.alloc)) (Mod.of_below hb _)) hM'

set_option maxHeartbeats 1000000 in
set_option maxRecDepth 100000 in
theorem do_read (bm bz : Nat) (m : Mc) (i : Nat) (a n : Int) (w : World) (hI : IsM TM TZ w bm bz m) (hp : VerbPre m i) :
    Calls Try.prog 17 #[.pointer (some ⟨bm, 0, none⟩), .agg #[.int .i64 7, .int .i64 i, .int .i64 a, .int .i64 n]] w (VerbPost bm bz w (verbF m 7 i a n)) := by
  have HI := Lib.hid hI; clear hI
  have Hp := Lib.hid hp
  obtain ⟨hn, hi, _, _, _, _⟩ := hp
  have hlt := HI.out.lt
  obtain ⟨hlm, hlz⟩ := hlt
  obtain ⟨cap, hcz⟩ := HI.out.cellZ
  have hd : decide (m.zs.length ≤ i) = false := by simp; omega
  have hne : bm ≠ bz := HI.out.ne
  have hne2 : w.heap.size ≠ bz := by omega
  have hix : ∀ W : World, (Instr.index 87 verbsV (.int .i64 7)).run Try.prog W = .ok (fnV 56) W := fun _ => by kernel_rfl
  go_enter Try.func17, Try.ntmps17
  go_wp2_with (first | go_quiet (fail))
  go_region_held3 (fun w' => w'.cell? ⟨w.heap.size, 0, none⟩ = some (.int .i64 7) ∧ w'.cell? ⟨w.heap.size, 1, none⟩ = some (.int .i64 i) ∧ w'.cell? ⟨w.heap.size, 2, none⟩ = some (.int .i64 a) ∧ w'.cell? ⟨w.heap.size, 3, none⟩ = some (.int .i64 n) ∧ w'.cell? ⟨bm, 0, none⟩ = some (.slice (some ⟨bz, 0, none⟩) m.zs.length cap) ∧ w.heap.size < w'.heap.size ∧ bm < w'.heap.size) (simp [*, go_sem]) (first
    | (go_at_call 40; refine (verbs_any _).mono ?_; rintro e w1 ⟨rfl, hb⟩; obtain ⟨hc, hf, hs⟩ := bcell hb)
    | (go_at_call 56; refine (read_any bm bz m i 7 i a n _ (IsM.below (hb := hb) (by repeat (first | exact HI.out | apply IsM.drewN | apply IsM.drew | apply IsM.alloc))) Hp.out).mono ?_; rintro e w2 ⟨rfl, hI', hM'⟩; obtain ⟨hc2, hf2, hs2⟩ := mcell hM'))
  go_wp2
  go_ret2
  refine ⟨rfl, hI', ?_⟩
  exact Mod.trans' (Mod.trans' (by repeat (first | exact Mod.refl _ _ | apply Mod.drewN | apply Mod.drew | apply Mod.alloc)) (Mod.of_below hb _)) hM'

theorem do_refuses (bm bz : Nat) (m : Mc) (k z a n : Int) (w : World) (hI : IsM TM TZ w bm bz m) (hr : k < 1 ∨ 7 < k) :
    Calls Try.prog 17 #[.pointer (some ⟨bm, 0, none⟩), .agg #[.int .i64 k, .int .i64 z, .int .i64 a, .int .i64 n]] w (VerbPost bm bz w ((0, 1), m)) := by
  have HI := Lib.hid hI; clear hI
  by_cases h1 : k < 1
  · clear hr
    go_enter Try.func17, Try.ntmps17
    go_wp2_with (first | go_quiet (fail))
    go_ret2
    exact ⟨rfl, HI.out.alloc _, (Mod.refl _ _).alloc _⟩
  · have h7 : 7 < k := by omega
    clear hr
    go_enter Try.func17, Try.ntmps17
    go_wp2_with (first | go_quiet (fail))
    go_ret2
    exact ⟨rfl, HI.out.alloc _, (Mod.refl _ _).alloc _⟩

theorem do_none (k z a n : Int) (w : World) :
    Calls Try.prog 17 #[.pointer none, .agg #[.int .i64 k, .int .i64 z, .int .i64 a, .int .i64 n]] w fun e w' => e = .returned (.tuple #[.int .i64 0, .int .i64 1]) ∧ Below w.heap.size w w' := by
  go_enter Try.func17, Try.ntmps17
  go_wp2_with (first | go_quiet (fail))
  go_ret2
  exact ⟨rfl, (Below.refl _ _).alloc (Nat.le_refl _) _⟩

theorem do_far (bm bz : Nat) (m : Mc) (k z a n : Int) (w : World) (hI : IsM TM TZ w bm bz m) (hk : 1 ≤ k) (hk' : k ≤ 7) (hz : z < 0 ∨ (m.zs.length : Int) ≤ z) :
    Calls Try.prog 17 #[.pointer (some ⟨bm, 0, none⟩), .agg #[.int .i64 k, .int .i64 z, .int .i64 a, .int .i64 n]] w (VerbPost bm bz w ((0, 2), m)) := by
  have HI := Lib.hid hI; clear hI
  have hlt := HI.out.lt
  obtain ⟨hlm, hlz⟩ := hlt
  obtain ⟨cap, hcz⟩ := HI.out.cellZ
  by_cases h1 : z < 0
  · clear hz
    go_enter Try.func17, Try.ntmps17
    go_wp2_with (first | go_quiet (fail))
    go_ret2
    exact ⟨rfl, (HI.out.alloc _).drewN _, ((Mod.refl _ _).alloc _).drewN _⟩
  · have h2 : (m.zs.length : Int) ≤ z := by omega
    clear hz
    go_enter Try.func17, Try.ntmps17
    go_wp2_with (first | go_quiet (fail))
    go_ret2
    exact ⟨rfl, (HI.out.alloc _).drewN _, ((Mod.refl _ _).alloc _).drewN _⟩

/-- Do comes to doF. -/
theorem do_any (bm bz : Nat) (m : Mc) (k z a n : Int) (w : World) (hI : IsM TM TZ w bm bz m) (hok : m.ok) :
    Calls Try.prog 17 #[.pointer (some ⟨bm, 0, none⟩), .agg #[.int .i64 k, .int .i64 z, .int .i64 a, .int .i64 n]] w (VerbPost bm bz w (doF m k z a n)) := by
  unfold doF
  split
  · rename_i h; exact do_refuses bm bz m k z a n w hI h
  · rename_i h
    split
    · rename_i hz; exact do_far bm bz m k z a n w hI (by omega) (by omega) hz
    · rename_i hz
      obtain ⟨i, rfl⟩ := Int.eq_ofNat_of_zero_le (show 0 ≤ z by omega)
      have hi : i < m.zs.length := by omega
      rw [Int.toNat_natCast]
      have hv := hok.verb hi
      rcases (show k = 1 ∨ k = 2 ∨ k = 3 ∨ k = 4 ∨ k = 5 ∨ k = 6 ∨ k = 7 by omega) with rfl | rfl | rfl | rfl | rfl | rfl | rfl
      · exact do_write bm bz m i a n w hI hv
      · exact do_append bm bz m i a n w hI hv
      · exact do_reset bm bz m i a n w hI hv
      · exact do_finish bm bz m i a n w hI hv
      · exact do_explicit bm bz m i a n w hI hv
      · exact do_shut bm bz m i a n w hI hv
      · exact do_read bm bz m i a n w hI hv

end Go.Proofs.Ytojceddgmmapdaa
