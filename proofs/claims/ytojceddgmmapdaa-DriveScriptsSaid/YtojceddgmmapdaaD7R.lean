/-
  Walk of the drive's Do: what the machine refuses, and the kinds that do no more.
-/
import Derived.Test.YtojceddgmmapdaaD7P
import Derived.Deep.RegionLaw
namespace Go.Proofs.Ytojceddgmmapdaa
open Go.RowKit

set_option maxHeartbeats 4000000 in
set_option maxRecDepth 100000 in
theorem ddo_ref (bd bm bz bb bl : Nat) (d : Dv) (vs : List Value) (k z a n : Int) (s : ByteArray) (w : World) (hI : IsD w bd bm bz bb bl d vs) (hok : d.ok) (hs : s.size ≤ 9223372036854775807) (hd : d.dead = false) (hft : fitsF k n s = true) (he : (doF d.m k z a n).1.2 ≠ 0) :
    Calls Try.prog 28 #[.pointer (some ⟨bd, 0, none⟩), .agg #[.int .i64 k, .int .i64 z, .int .i64 a, .int .i64 n], .string s] w (DPost bd bm bz bb bl vs (ddoF d k z a n s) w) := by
  have heb : ((doF d.m k z a n).1.2 != 0) = true := by simpa using he
  have hf : ddoF d k z a n s = ((ByteArray.empty, 0, (doF d.m k z a n).1.2), { d with m := (doF d.m k z a n).2 }) := by simp [ddoF, hd, hft, he]
  have Hf := Lib.hid hf
  clear hf he
  have HI := Lib.hid hI; clear hI
  have Hok := Lib.hid hok; clear hok
  have Hft := Lib.hid hft; clear hft
  have Hd := Lib.hid hd; clear hd
  go_enter Try.func28, Try.ntmps28
  go_wp2_with fail
  refine (alive_any bd bm bz bb bl d vs _ (HI.out.same ((Mod.refl [] w).alloc _))).mono ?_
  rintro e w1 ⟨rfl, rfl⟩
  rw [Hd.out, if_neg (by decide)]
  go_wp2_with fail
  refine (fits_any k z a n s hs _).mono ?_
  rintro e w1 ⟨rfl, hb⟩
  rw [Hft.out]
  have HM : Hid (Mod [] w w1) := ((Mod.refl [] w).alloc _).trans' (Mod.of_below hb [])
  have hcm : Blk w1 w.heap.size #[.int .i64 k, .int .i64 z, .int .i64 a, .int .i64 n] 37 := (Mod.of_below hb []).blk (Blk.new w _ _) (by simp)
  clear hb
  have HI1 := Lib.hid (HI.out.same HM.out)
  have c0 := HI1.out.cells.c0
  have hlt := HI1.out.cells.lt
  have hltw := HI.out.cells.lt
  have q0 := hcm.cell (i := 0) rfl
  have q1 := hcm.cell (i := 1) rfl
  have q2 := hcm.cell (i := 2) rfl
  have q3 := hcm.cell (i := 3) rfl
  have hlw := hcm.lt
  have Hcm := Lib.hid hcm; clear hcm
  have Hdd : Hid (∀ w2, Mod [] w w1 → Mod [bz] w1 w2 → Mod (feet bd bm bz bb bl vs) w w2) := fun w2 h1 h2 => h1.trans h2 (by intro i hi h; rcases h with h | h; simp at h; simp at h; subst h; exact feet_head (by simp))
  go_wp2_with (first | go_region_with (go_at_call 17; refine (do_any bm bz d.m k z a n _ (by first | exact HI1.out.m | exact HI1.out.m.drewN _ | exact HI1.out.m.drew) Hok.out.m).mono ?_; rintro e w2 ⟨rfl, hI2, hm2⟩; have Hm2 : Hid (Mod [bz] w1 w2) := ⟨hm2.os, hm2.tape, hm2.output, hm2.size, hm2.block⟩; have HI2 := Lib.hid (HI1.out.mach hI2 (like_do d.m k z a n).len Hm2.out); have hcm2 := Hm2.out.blk Hcm.out (by simp; omega); have p0 : w2.cell? ⟨w.heap.size, 0, none⟩ = some (.int .i64 k) := hcm2.cell (i := 0) rfl; have p1 : w2.cell? ⟨w.heap.size, 1, none⟩ = some (.int .i64 z) := hcm2.cell (i := 1) rfl; have p3 : w2.cell? ⟨w.heap.size, 3, none⟩ = some (.int .i64 n) := hcm2.cell (i := 3) rfl; have hlw2 := hcm2.lt; have d1 : w2.cell? ⟨bd, 1, none⟩ = some (.slice (some ⟨bb, 0, none⟩) (doF d.m k z a n).2.zs.length (doF d.m k z a n).2.zs.length) := HI2.out.cells.c1; have d2 : w2.cell? ⟨bd, 2, none⟩ = some (.slice (some ⟨bl, 0, none⟩) (doF d.m k z a n).2.zs.length (doF d.m k z a n).2.zs.length) := HI2.out.cells.c2; have hlt2 := HI2.out.cells.lt; clear hcm2 hm2 hI2 q0 q1 q2 q3 c0))
  all_goals
    refine bodyPost_ret (results_tmp3 rfl _ _ _) rfl ?_
    rw [Hf.out]
    exact ⟨rfl, vs, HI2.out.same (by first | exact Mod.refl [] _ | exact (Mod.refl [] _).drew | exact (Mod.refl [] _).drewN _), by first | exact Hdd.out _ HM.out Hm2.out | exact (Hdd.out _ HM.out Hm2.out).drew | exact (Hdd.out _ HM.out Hm2.out).drewN _, fun x hx => .inl hx⟩

set_option maxHeartbeats 4000000 in
set_option maxRecDepth 100000 in
theorem ddo_oth (bd bm bz bb bl : Nat) (d : Dv) (vs : List Value) (k z a n : Int) (s : ByteArray) (w : World) (hI : IsD w bd bm bz bb bl d vs) (hok : d.ok) (hs : s.size ≤ 9223372036854775807) (hd : d.dead = false) (hft : fitsF k n s = true) (hk1 : k ≠ 1) (hk2 : k ≠ 2) (hk3 : k ≠ 3) (hk4 : k ≠ 4) (hk7 : k ≠ 7) (he : (doF d.m k z a n).1.2 = 0) :
    Calls Try.prog 28 #[.pointer (some ⟨bd, 0, none⟩), .agg #[.int .i64 k, .int .i64 z, .int .i64 a, .int .i64 n], .string s] w (DPost bd bm bz bb bl vs (ddoF d k z a n s) w) := by
  have heb : ((doF d.m k z a n).1.2 != 0) = false := by simpa using he
  have g1 : (k == 1) = false := by simpa using hk1
  have g2 : (k == 2) = false := by simpa using hk2
  have g7 : (k == 7) = false := by simpa using hk7
  have g3 : (k == 3) = false := by simpa using hk3
  have g4 : (k == 4) = false := by simpa using hk4
  have hf : ddoF d k z a n s = ((ByteArray.empty, (doF d.m k z a n).1.1, 0), { d with m := (doF d.m k z a n).2 }) := by simp [ddoF, hd, hft, he, hk1, hk2, hk7, hk3, hk4]
  have Hf := Lib.hid hf
  clear hf he hk1 hk2 hk7 hk3 hk4
  have HI := Lib.hid hI; clear hI
  have Hok := Lib.hid hok; clear hok
  have Hft := Lib.hid hft; clear hft
  have Hd := Lib.hid hd; clear hd
  go_enter Try.func28, Try.ntmps28
  go_wp2_with fail
  refine (alive_any bd bm bz bb bl d vs _ (HI.out.same ((Mod.refl [] w).alloc _))).mono ?_
  rintro e w1 ⟨rfl, rfl⟩
  rw [Hd.out, if_neg (by decide)]
  go_wp2_with fail
  refine (fits_any k z a n s hs _).mono ?_
  rintro e w1 ⟨rfl, hb⟩
  rw [Hft.out]
  have HM : Hid (Mod [] w w1) := ((Mod.refl [] w).alloc _).trans' (Mod.of_below hb [])
  have hcm : Blk w1 w.heap.size #[.int .i64 k, .int .i64 z, .int .i64 a, .int .i64 n] 37 := (Mod.of_below hb []).blk (Blk.new w _ _) (by simp)
  clear hb
  have HI1 := Lib.hid (HI.out.same HM.out)
  have c0 := HI1.out.cells.c0
  have hlt := HI1.out.cells.lt
  have hltw := HI.out.cells.lt
  have q0 := hcm.cell (i := 0) rfl
  have q1 := hcm.cell (i := 1) rfl
  have q2 := hcm.cell (i := 2) rfl
  have q3 := hcm.cell (i := 3) rfl
  have hlw := hcm.lt
  have Hcm := Lib.hid hcm; clear hcm
  have Hdd : Hid (∀ w2, Mod [] w w1 → Mod [bz] w1 w2 → Mod (feet bd bm bz bb bl vs) w w2) := fun w2 h1 h2 => h1.trans h2 (by intro i hi h; rcases h with h | h; simp at h; simp at h; subst h; exact feet_head (by simp))
  go_wp2_with (first | go_region_with (go_at_call 17; refine (do_any bm bz d.m k z a n _ (by first | exact HI1.out.m | exact HI1.out.m.drewN _ | exact HI1.out.m.drew) Hok.out.m).mono ?_; rintro e w2 ⟨rfl, hI2, hm2⟩; have Hm2 : Hid (Mod [bz] w1 w2) := ⟨hm2.os, hm2.tape, hm2.output, hm2.size, hm2.block⟩; have HI2 := Lib.hid (HI1.out.mach hI2 (like_do d.m k z a n).len Hm2.out); have hcm2 := Hm2.out.blk Hcm.out (by simp; omega); have p0 : w2.cell? ⟨w.heap.size, 0, none⟩ = some (.int .i64 k) := hcm2.cell (i := 0) rfl; have p1 : w2.cell? ⟨w.heap.size, 1, none⟩ = some (.int .i64 z) := hcm2.cell (i := 1) rfl; have p3 : w2.cell? ⟨w.heap.size, 3, none⟩ = some (.int .i64 n) := hcm2.cell (i := 3) rfl; have hlw2 := hcm2.lt; have d1 : w2.cell? ⟨bd, 1, none⟩ = some (.slice (some ⟨bb, 0, none⟩) (doF d.m k z a n).2.zs.length (doF d.m k z a n).2.zs.length) := HI2.out.cells.c1; have d2 : w2.cell? ⟨bd, 2, none⟩ = some (.slice (some ⟨bl, 0, none⟩) (doF d.m k z a n).2.zs.length (doF d.m k z a n).2.zs.length) := HI2.out.cells.c2; have hlt2 := HI2.out.cells.lt; clear hcm2 hm2 hI2 q0 q1 q2 q3 c0))
  all_goals
    refine bodyPost_ret (results_tmp3 rfl _ _ _) rfl ?_
    rw [Hf.out]
    exact ⟨rfl, vs, HI2.out.same (by first | exact Mod.refl [] _ | exact (Mod.refl [] _).drew | exact (Mod.refl [] _).drewN _), by first | exact Hdd.out _ HM.out Hm2.out | exact (Hdd.out _ HM.out Hm2.out).drew | exact (Hdd.out _ HM.out Hm2.out).drewN _, fun x hx => .inl hx⟩

end Go.Proofs.Ytojceddgmmapdaa
