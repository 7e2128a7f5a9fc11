/-
  Walk of the drive's Do: write.
-/
import Derived.Test.YtojceddgmmapdaaD7P
import Derived.Deep.RegionLaw
namespace Go.Proofs.Ytojceddgmmapdaa
open Go.RowKit

set_option maxHeartbeats 4000000 in
set_option maxRecDepth 100000 in
theorem ddo_w1 (bd bm bz bb bl : Nat) (d : Dv) (vs : List Value) (k z a n : Int) (s : ByteArray) (w : World) (hI : IsD w bd bm bz bb bl d vs) (hok : d.ok) (hs : s.size ≤ 9223372036854775807) (hd : d.dead = false) (hft : fitsF k n s = true) (hk : k = 1) (he : (doF d.m k z a n).1.2 = 0) :
    Calls Try.prog 28 #[.pointer (some ⟨bd, 0, none⟩), .agg #[.int .i64 k, .int .i64 z, .int .i64 a, .int .i64 n], .string s] w (DPost bd bm bz bb bl vs (ddoF d k z a n s) w) := by
  obtain ⟨i, rfl⟩ := Int.eq_ofNat_of_zero_le (do_done d.m k z a n he).1
  have hdone := (do_done d.m k i a n he).2
  rw [Int.toNat_natCast] at hdone
  have hi := hdone.hi
  have hlen := (like_do d.m k i a n).len
  have hi2 : i < (doF d.m k i a n).2.zs.length := by rw [hlen]; exact hi
  have heb : ((doF d.m k i a n).1.2 != 0) = false := by simpa using he
  have Hdone := Lib.hid hdone; clear hdone
  have hw := Hdone.out.w (by omega)
  have hfs : s.size = 64 * n.toNat := by
    have h1 : fitsF k n s = true := hft
    have h2 : writesF k = true := by subst hk; rfl
    unfold fitsF at h1
    rw [if_neg (by rw [h2]; intro h; rcases h with h | h; cases h; omega)] at h1
    simp only [Bool.and_eq_true, decide_eq_true_eq, beq_iff_eq] at h1
    omega
  have hB : (d.bs.getD i []).length + s.size ≤ 140737488355328 := by
    have h1 := (hok.each i hi).1
    have h2 : d.m.ln i = lnOf d.m.zs i := rfl
    have h3 := hok.m.b2
    omega
  have hf : ddoF d k i a n s = ((ByteArray.empty, (doF d.m k i a n).1.1, 0), { d with m := (doF d.m k i a n).2, bs := d.bs.set i (d.bs.getD i [] ++ s.data.toList) }) := by subst hk; simp [ddoF, hd, hft, he]
  have Hf := Lib.hid hf; clear hf
  have HB := Lib.hid hB
  clear hfs hB hw
  subst hk
  clear he
  obtain ⟨i0, ei0, ei1, ei2, ei3⟩ := info_parts Try.infoU8
  have HI := Lib.hid hI; clear hI
  have Hok := Lib.hid hok; clear hok
  have Hft := Lib.hid hft; clear hft
  have Hd := Lib.hid hd; clear hd
  go_enter Try.func28, Try.ntmps28
  go_wp2_with fail
  refine (alive_any bd bm bz bb bl d vs _ (HI.out.same ((Mod.refl [] w).alloc _))).mono ?_
  rintro e w1 ⟨rfl, rfl⟩
  rw [Hd.out, if_neg (by decide)]
  go_wp2_with fail
  refine (fits_any 1 i a n s hs _).mono ?_
  rintro e w1 ⟨rfl, hb⟩
  rw [Hft.out]
  have HM : Hid (Mod [] w w1) := ((Mod.refl [] w).alloc _).trans' (Mod.of_below hb [])
  have hcm : Blk w1 w.heap.size #[.int .i64 1, .int .i64 i, .int .i64 a, .int .i64 n] 37 := (Mod.of_below hb []).blk (Blk.new w _ _) (by simp)
  clear hb
  have HI1 := Lib.hid (HI.out.same HM.out)
  have c0 := HI1.out.cells.c0
  have hlt := HI1.out.cells.lt
  have hltw := HI.out.cells.lt
  have q0 := hcm.cell (i := 0) rfl
  have q1 := hcm.cell (i := 1) rfl
  have q2 := hcm.cell (i := 2) rfl
  have q3 := hcm.cell (i := 3) rfl
  have hlw := hcm.lt
  have Hcm := Lib.hid hcm; clear hcm
  have Hdd : Hid (∀ w2, Mod [] w w1 → Mod [bz] w1 w2 → Mod (feet bd bm bz bb bl vs) w w2) := fun w2 h1 h2 => h1.trans h2 (by intro i hi h; rcases h with h | h; simp at h; simp at h; subst h; exact feet_head (by simp))
  obtain ⟨-, -, n1, n2, -, -, -, -, -, n3⟩ := HI.out.nes
  have n1' := Ne.symm n1
  have n2' := Ne.symm n2
  have n3' := Ne.symm n3
  have n4 : w.heap.size ≠ bb := by omega
  have n4' := Ne.symm n4
  have n5 : w.heap.size ≠ bl := by omega
  have n5' := Ne.symm n5
  have n6 : w.heap.size ≠ bd := by omega
  have n6' := Ne.symm n6
  have ib0 : (0 : Int) ≤ (i : Int) := by omega
  have Hoff : Hid (∀ g, (vs.getD i (.bool false)).ownBlock = some g → g ≠ bd ∧ g ≠ bb ∧ g ≠ w.heap.size) := fun g hg => by
    have h1 := HI.out.rowOff hi hg
    have h2 := ownsRow_lt (HI.out.row i hi) hg
    omega
  have ib1 : (i : Int) < ((doF d.m 1 i a n).2.zs.length : Int) := by omega
  go_upto_region 12 with (first | go_region_with (go_at_call 17; refine (do_any bm bz d.m 1 i a n _ (by first | exact HI1.out.m | exact HI1.out.m.drewN _ | exact HI1.out.m.drew) Hok.out.m).mono ?_; rintro e w2 ⟨rfl, hI2, hm2⟩; have Hm2 : Hid (Mod [bz] w1 w2) := ⟨hm2.os, hm2.tape, hm2.output, hm2.size, hm2.block⟩; have HI2 := Lib.hid (HI1.out.mach hI2 (like_do d.m 1 i a n).len Hm2.out); have hcm2 := Hm2.out.blk Hcm.out (by simp; omega); have p0 : w2.cell? ⟨w.heap.size, 0, none⟩ = some (.int .i64 1) := hcm2.cell (i := 0) rfl; have p1 : w2.cell? ⟨w.heap.size, 1, none⟩ = some (.int .i64 i) := hcm2.cell (i := 1) rfl; have p3 : w2.cell? ⟨w.heap.size, 3, none⟩ = some (.int .i64 n) := hcm2.cell (i := 3) rfl; have hlw2 := hcm2.lt; have d1 : w2.cell? ⟨bd, 1, none⟩ = some (.slice (some ⟨bb, 0, none⟩) (doF d.m 1 i a n).2.zs.length (doF d.m 1 i a n).2.zs.length) := HI2.out.cells.c1; have d2 : w2.cell? ⟨bd, 2, none⟩ = some (.slice (some ⟨bl, 0, none⟩) (doF d.m 1 i a n).2.zs.length (doF d.m 1 i a n).2.zs.length) := HI2.out.cells.c2; have hlt2 := HI2.out.cells.lt; have v1 : w2.cell? ⟨bb, i, none⟩ = some (vs.getD i (.bool false)) := HI2.out.cellB (i := i) hi2; have y1 := HI2.out.byt.frozen i; have Hrow := Lib.hid (HI2.out.row i hi2); clear hcm2 hm2 hI2 q0 q1 q2 q3 c0))
  all_goals
    go_region_law
      ((refine step_append_str (by rfl) _ _ 97 9 (by rfl) 5 i0 Try.underlying97 Try.underlying9 ei0 ei1 ei2 ei3 (vs.getD i (.bool false)) (d.bs.getD i []).length (bc (d.bs.getD i [])) (by rfl) (by first | exact Hrow.out) s (by rfl) HB.out ?_; intro ad cp w3 hown3 hgrow3 hloc3; have s1 : w3.cell? ⟨bd, 1, none⟩ = _ := (grown_cell hgrow3 (b := bd) hlt2.1 (fun g hg => (Hoff.out g hg).1) 1).trans d1; have s2 : w3.cell? ⟨w.heap.size, 1, none⟩ = _ := (grown_cell hgrow3 hlw2 (fun g hg => (Hoff.out g hg).2.2) 1).trans p1; have s3 : w3.cell? ⟨bb, i, none⟩ = _ := (grown_cell hgrow3 (b := bb) hlt2.2.2.2.1 (fun g hg => (Hoff.out g hg).2.1) i).trans v1; have s4 : w3.frozen? ⟨bb, i, none⟩ = false := (grown_frozen hgrow3 (b := bb) hlt2.2.2.2.1 (fun g hg => (Hoff.out g hg).2.1) i).trans y1; have Hown3 := Lib.hid hown3; have Hgrow3 := Lib.hid hgrow3; have Hloc3 := Lib.hid hloc3; clear hown3 hgrow3 hloc3))
  all_goals go_wp2_with fail
  all_goals
    refine bodyPost_ret (results_tmp3 rfl _ _ _) rfl ?_
    rw [Hf.out]
    have hm0 : Mod (vs.getD i (.bool false)).ownBlock.toList w2 w3 := by
      have h1 : Mod (vs.getD i (.bool false)).ownBlock.toList _ w3 := Mod.of_grown Hgrow3.out _ (fun g hg => Option.mem_toList.2 hg)
      exact ⟨h1.os, h1.tape, h1.output, h1.size, h1.block⟩
    have hl : (d.bs.getD i [] ++ s.data.toList).length = (d.bs.getD i []).length + s.size := by
      rw [List.length_append]; rfl
    have hB0 : IsD (w3.setCell ⟨bb, i, none⟩ (.slice ad ((d.bs.getD i []).length + s.size) cp)) bd bm bz bb bl { d with m := (doF d.m 1 i a n).2, bs := d.bs.set i (d.bs.getD i [] ++ s.data.toList) } (vs.set i (.slice ad ((d.bs.getD i []).length + s.size) cp)) :=
      HI2.out.setB i hi2 _ hm0 (fun x hx => Option.mem_toList.1 hx) _ _ (by rw [hl, bc_append]; exact Hown3.out) (fun g hg => Hloc3.out g hg)
    refine ⟨rfl, vs.set i (.slice ad ((d.bs.getD i []).length + s.size) cp), by first | exact hB0 | exact hB0.same (Mod.refl [] _).drew | exact hB0.same ((Mod.refl [] _).drewN _), ?_, fun x hx => (feet_set hx).elim .inl (fun h => (Hloc3.out x h).elim (fun h => .inl (feet_row h)) (fun h => .inr ?_))⟩
    · have hm1 := (Hdd.out _ HM.out Hm2.out).trans hm0 (T := feet bd bm bz bb bl vs) (fun j _ h => h.elim id (fun h => feet_row (Option.mem_toList.1 h)))
      have f1 : bb ∈ feet bd bm bz bb bl vs := feet_head (by simp)
      first | exact hm1.set (.inl f1) _ | exact (hm1.set (.inl f1) _).drew | exact (hm1.set (.inl f1) _).drewN _
    · have h1 := HM.out.size
      have h2 := Hm2.out.size
      have h3 : w2.heap.size ≤ x := h
      omega

end Go.Proofs.Ytojceddgmmapdaa
