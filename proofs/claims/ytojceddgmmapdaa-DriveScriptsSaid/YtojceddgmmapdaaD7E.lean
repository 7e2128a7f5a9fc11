/-
  Walk of the drive's Do: reset.
-/
import Derived.Test.YtojceddgmmapdaaD7P
import Derived.Deep.RegionLaw
namespace Go.Proofs.Ytojceddgmmapdaa
open Go.RowKit

set_option maxHeartbeats 4000000 in
set_option maxRecDepth 100000 in
theorem ddo_e (bd bm bz bb bl : Nat) (d : Dv) (vs : List Value) (k z a n : Int) (s : ByteArray) (w : World) (hI : IsD w bd bm bz bb bl d vs) (hok : d.ok) (hs : s.size ≤ 9223372036854775807) (hd : d.dead = false) (hft : fitsF k n s = true) (hk : k = 3) (he : (doF d.m k z a n).1.2 = 0) :
    Calls Try.prog 28 #[.pointer (some ⟨bd, 0, none⟩), .agg #[.int .i64 k, .int .i64 z, .int .i64 a, .int .i64 n], .string s] w (DPost bd bm bz bb bl vs (ddoF d k z a n s) w) := by
  obtain ⟨i, rfl⟩ := Int.eq_ofNat_of_zero_le (do_done d.m k z a n he).1
  have hdone := (do_done d.m k i a n he).2
  rw [Int.toNat_natCast] at hdone
  have hi := hdone.hi
  have hlen := (like_do d.m k i a n).len
  have hi2 : i < (doF d.m k i a n).2.zs.length := by rw [hlen]; exact hi
  have heb : ((doF d.m k i a n).1.2 != 0) = false := by simpa using he
  have Hdone := Lib.hid hdone; clear hdone
  have hf : ddoF d k i a n s = ((ByteArray.empty, (doF d.m k i a n).1.1, 0), { d with m := (doF d.m k i a n).2, bs := d.bs.set i [], la := d.la.set i 0 }) := by subst hk; simp [ddoF, hd, hft, he]
  have Hf := Lib.hid hf; clear hf
  subst hk
  clear he
  have HI := Lib.hid hI; clear hI
  have Hok := Lib.hid hok; clear hok
  have Hft := Lib.hid hft; clear hft
  have Hd := Lib.hid hd; clear hd
  go_enter Try.func28, Try.ntmps28
  go_wp2_with fail
  refine (alive_any bd bm bz bb bl d vs _ (HI.out.same ((Mod.refl [] w).alloc _))).mono ?_
  rintro e w1 ⟨rfl, rfl⟩
  rw [Hd.out, if_neg (by decide)]
  go_wp2_with fail
  refine (fits_any 3 i a n s hs _).mono ?_
  rintro e w1 ⟨rfl, hb⟩
  rw [Hft.out]
  have HM : Hid (Mod [] w w1) := ((Mod.refl [] w).alloc _).trans' (Mod.of_below hb [])
  have hcm : Blk w1 w.heap.size #[.int .i64 3, .int .i64 i, .int .i64 a, .int .i64 n] 37 := (Mod.of_below hb []).blk (Blk.new w _ _) (by simp)
  clear hb
  have HI1 := Lib.hid (HI.out.same HM.out)
  have c0 := HI1.out.cells.c0
  have hlt := HI1.out.cells.lt
  have hltw := HI.out.cells.lt
  have q0 := hcm.cell (i := 0) rfl
  have q1 := hcm.cell (i := 1) rfl
  have q2 := hcm.cell (i := 2) rfl
  have q3 := hcm.cell (i := 3) rfl
  have hlw := hcm.lt
  have Hcm := Lib.hid hcm; clear hcm
  have Hdd : Hid (∀ w2, Mod [] w w1 → Mod [bz] w1 w2 → Mod (feet bd bm bz bb bl vs) w w2) := fun w2 h1 h2 => h1.trans h2 (by intro i hi h; rcases h with h | h; simp at h; simp at h; subst h; exact feet_head (by simp))
  obtain ⟨-, -, n1, n2, -, -, -, -, -, n3⟩ := HI.out.nes
  have n1' := Ne.symm n1
  have n2' := Ne.symm n2
  have n3' := Ne.symm n3
  have n4 : w.heap.size ≠ bb := by omega
  have n4' := Ne.symm n4
  have n5 : w.heap.size ≠ bl := by omega
  have n5' := Ne.symm n5
  have n6 : w.heap.size ≠ bd := by omega
  have n6' := Ne.symm n6
  go_upto_region 16 with (first | go_region_with (go_at_call 17; refine (do_any bm bz d.m 3 i a n _ (by first | exact HI1.out.m | exact HI1.out.m.drewN _ | exact HI1.out.m.drew) Hok.out.m).mono ?_; rintro e w2 ⟨rfl, hI2, hm2⟩; have Hm2 : Hid (Mod [bz] w1 w2) := ⟨hm2.os, hm2.tape, hm2.output, hm2.size, hm2.block⟩; have HI2 := Lib.hid (HI1.out.mach hI2 (like_do d.m 3 i a n).len Hm2.out); have hcm2 := Hm2.out.blk Hcm.out (by simp; omega); have p0 : w2.cell? ⟨w.heap.size, 0, none⟩ = some (.int .i64 3) := hcm2.cell (i := 0) rfl; have p1 : w2.cell? ⟨w.heap.size, 1, none⟩ = some (.int .i64 i) := hcm2.cell (i := 1) rfl; have p3 : w2.cell? ⟨w.heap.size, 3, none⟩ = some (.int .i64 n) := hcm2.cell (i := 3) rfl; have hlw2 := hcm2.lt; have d1 : w2.cell? ⟨bd, 1, none⟩ = some (.slice (some ⟨bb, 0, none⟩) (doF d.m 3 i a n).2.zs.length (doF d.m 3 i a n).2.zs.length) := HI2.out.cells.c1; have d2 : w2.cell? ⟨bd, 2, none⟩ = some (.slice (some ⟨bl, 0, none⟩) (doF d.m 3 i a n).2.zs.length (doF d.m 3 i a n).2.zs.length) := HI2.out.cells.c2; have hlt2 := HI2.out.cells.lt; have v1 : w2.cell? ⟨bb, i, none⟩ = some (vs.getD i (.bool false)) := HI2.out.cellB (i := i) hi2; have v2 := HI2.out.cellL (i := i) hi2; have y1 := HI2.out.byt.frozen i; have y2 := HI2.out.las.frozen i; clear hcm2 hm2 hI2 q0 q1 q2 q3 c0))
  all_goals go_region
  all_goals go_wp2_with fail
  all_goals
    refine bodyPost_ret (results_tmp3 rfl _ _ _) rfl ?_
    rw [Hf.out]
    have hB0 : ∀ u : World, Mod [] w2 u → IsD ((u.setCell ⟨bb, i, none⟩ (.slice none 0 0)).setCell ⟨bl, i, none⟩ (.int .i64 0)) bd bm bz bb bl { d with m := (doF d.m 3 i a n).2, bs := d.bs.set i [], la := d.la.set i 0 } (vs.set i (.slice none 0 0)) := fun u hu => ((HI2.out.same hu).setB i hi2 [] (Mod.refl _ _) (by simp) (.slice none 0 0) [] (World.ownsRow_nil _ _ _ _) (by simp [Value.ownBlock])).setL i 0
    have hB1 : ∀ u : World, Mod [] w2 u → IsD ((u.setCell ⟨bl, i, none⟩ (.int .i64 0)).setCell ⟨bb, i, none⟩ (.slice none 0 0)) bd bm bz bb bl { d with m := (doF d.m 3 i a n).2, bs := d.bs.set i [], la := d.la.set i 0 } (vs.set i (.slice none 0 0)) := fun u hu => ((HI2.out.same hu).setL i 0).setB i hi2 [] (Mod.refl _ _) (by simp) (.slice none 0 0) [] (World.ownsRow_nil _ _ _ _) (by simp [Value.ownBlock])
    refine ⟨rfl, vs.set i (.slice none 0 0), by first | exact hB0 _ (Mod.refl _ _) | exact (hB0 _ (Mod.refl _ _)).same (Mod.refl [] _).drew | exact hB1 _ (Mod.refl _ _) | exact (hB1 _ (Mod.refl _ _)).same (Mod.refl [] _).drew | exact (hB0 _ ((Mod.refl [] _).drewN _)).same (Mod.refl [] _).drew | exact (hB1 _ ((Mod.refl [] _).drewN _)).same (Mod.refl [] _).drew, ?_, fun x hx => (feet_set hx).imp id (fun h => by simp [Value.ownBlock] at h)⟩
    have hm0 := Hdd.out _ HM.out Hm2.out
    have f1 : bb ∈ feet bd bm bz bb bl vs := feet_head (by simp)
    have f2 : bl ∈ feet bd bm bz bb bl vs := feet_head (by simp)
    first | exact (hm0.set (.inl f1) _).set (.inl f2) _ | exact ((hm0.set (.inl f1) _).set (.inl f2) _).drew | exact (hm0.set (.inl f2) _).set (.inl f1) _ | exact ((hm0.set (.inl f2) _).set (.inl f1) _).drew | exact (((hm0.drewN _).set (.inl f1) _).set (.inl f2) _).drew | exact (((hm0.drewN _).set (.inl f2) _).set (.inl f1) _).drew

end Go.Proofs.Ytojceddgmmapdaa
