/-
  Walk of the drive's Do: read.
-/
import Derived.Test.YtojceddgmmapdaaD7P
import Derived.Deep.RegionLaw
namespace Go.Proofs.Ytojceddgmmapdaa
open Go.RowKit

set_option maxHeartbeats 4000000 in
set_option maxRecDepth 100000 in
theorem ddo_g (bd bm bz bb bl : Nat) (d : Dv) (vs : List Value) (k z a n : Int) (s : ByteArray) (w : World) (hI : IsD w bd bm bz bb bl d vs) (hok : d.ok) (hs : s.size ≤ 9223372036854775807) (hd : d.dead = false) (hft : fitsF k n s = true) (hk : k = 7) (he : (doF d.m k z a n).1.2 = 0) :
    Calls Try.prog 28 #[.pointer (some ⟨bd, 0, none⟩), .agg #[.int .i64 k, .int .i64 z, .int .i64 a, .int .i64 n], .string s] w (DPost bd bm bz bb bl vs (ddoF d k z a n s) w) := by
  subst hk
  obtain ⟨i, rfl⟩ := Int.eq_ofNat_of_zero_le (do_done d.m 7 z a n he).1
  have hdone := (do_done d.m 7 i a n he).2
  rw [Int.toNat_natCast] at hdone
  have hi := hdone.hi
  obtain ⟨-, ha0, hn1, han⟩ := hdone.r7 rfl
  obtain ⟨ja, rfl⟩ := Int.eq_ofNat_of_zero_le ha0
  obtain ⟨jn, rfl⟩ := Int.eq_ofNat_of_zero_le (show 0 ≤ n by omega)
  have hD := do_read7 d.m i ja jn he
  clear hdone he
  have hBl : (d.bs.getD i []).length ≤ 64 * 4096 ∧ 64 * (ja + jn) ≤ (d.bs.getD i []).length := by
    have h1 := (hok.each i hi).1
    have h2 : d.m.ln i = lnOf d.m.zs i := rfl
    have h3 := hok.m.b2
    have h4 := hok.m.each i hi
    omega
  obtain ⟨g, cp, hv, -, -⟩ := (hI.row i hi).form (by omega)
  have hcp : (d.bs.getD i []).length ≤ cp ∧ cp ≤ 9223372036854775807 := by
    obtain ⟨_, ⟨h1, h2⟩ | ⟨g', cap, cur, h1, _, _, h3, h4, _⟩⟩ := hI.row i hi
    · rw [h1] at hv; cases hv
    · rw [hv] at h1; cases h1; unfold maxLen at h4; exact ⟨h3, h4⟩
  have hf : ddoF d 7 i ja jn s = ((str (((d.bs.getD i []).drop (ja * 64)).take (jn * 64)), (ja : Int), 0), d) := by simp [ddoF, hd, hft, hD]; cases d; cases hd; rfl
  have hdo := fun u (h : IsM TM TZ u bm bz d.m) => do_any bm bz d.m 7 i ja jn u h hok.m
  rw [hD] at hdo
  have Hf := Lib.hid hf
  have Hdo := Lib.hid hdo
  have Hv := Lib.hid hv
  have hL : ∃ L, (d.bs.getD i []).length = L := ⟨_, rfl⟩
  obtain ⟨L, hL⟩ := hL
  rw [hL] at hBl hcp
  have HL := Lib.hid hL
  clear hf hdo hv hD hL
  have HI := Lib.hid hI; clear hI
  have Hok := Lib.hid hok; clear hok
  have Hft := Lib.hid hft; clear hft
  have Hd := Lib.hid hd; clear hd
  go_enter Try.func28, Try.ntmps28
  go_wp2_with fail
  refine (alive_any bd bm bz bb bl d vs _ (HI.out.same ((Mod.refl [] w).alloc _))).mono ?_
  rintro e w1 ⟨rfl, rfl⟩
  rw [Hd.out, if_neg (by decide)]
  go_wp2_with fail
  refine (fits_any 7 i ja jn s hs _).mono ?_
  rintro e w1 ⟨rfl, hb⟩
  rw [Hft.out]
  have HM : Hid (Mod [] w w1) := ((Mod.refl [] w).alloc _).trans' (Mod.of_below hb [])
  have hcm : Blk w1 w.heap.size #[.int .i64 7, .int .i64 i, .int .i64 (ja : Int), .int .i64 (jn : Int)] 37 := (Mod.of_below hb []).blk (Blk.new w _ _) (by simp)
  clear hb
  have HI1 := Lib.hid (HI.out.same HM.out)
  have c0 := HI1.out.cells.c0
  have hlt := HI1.out.cells.lt
  have hltw := HI.out.cells.lt
  have q0 := hcm.cell (i := 0) rfl
  have q1 := hcm.cell (i := 1) rfl
  have q2 := hcm.cell (i := 2) rfl
  have q3 := hcm.cell (i := 3) rfl
  have hlw := hcm.lt
  have Hcm := Lib.hid hcm; clear hcm
  have Hdd : Hid (∀ w2, Mod [] w w1 → Mod [bz] w1 w2 → Mod (feet bd bm bz bb bl vs) w w2) := fun w2 h1 h2 => h1.trans h2 (by intro i hi h; rcases h with h | h; simp at h; simp at h; subst h; exact feet_head (by simp))
  have ib0 : (0 : Int) ≤ (i : Int) := by omega
  have ib1 : (i : Int) < (d.m.zs.length : Int) := by omega
  have Hcv : Hid (∀ u c, IsD u bd bm bz bb bl d vs → (convert 97 9 (.slice (some ⟨g, ja * 64, none⟩) ((ja + jn) * 64 - ja * 64) c)).run Try.prog u = .ok (.string (str (((d.bs.getD i []).drop (ja * 64)).take (jn * 64)))) u) := fun u c hu => by
    have hr := hu.row i hi
    rw [Hv.out] at hr
    have hL := HL.out
    revert hr hL
    generalize d.bs.getD i [] = B
    intro hr hL
    have hl : ((B.drop (ja * 64)).take (jn * 64)).length = (ja + jn) * 64 - ja * 64 := by rw [List.length_take, List.length_drop, hL]; omega
    have h := run_convert_bytes_back (P := Try.prog) u 97 9 5 ⟨g, ja * 64, none⟩ c ((B.drop (ja * 64)).take (jn * 64)) Try.underlying97 Try.underlying5 Try.underlying9 (fun j hj => by
      rw [hl] at hj
      have hb : ja * 64 + j < B.length := by omega
      have hc := hr.cells (g := g) rfl (ja * 64 + j) _ (bc_get B _ hb)
      rw [Addr.add_lit] at hc ⊢
      simp only [List.getElem_take, List.getElem_drop]
      simpa using hc)
    rw [hl] at h
    exact h
  go_upto_region 14 with (first | go_region_with (go_at_call 17; refine (Hdo.out _ (by first | exact HI1.out.m | exact HI1.out.m.drewN _ | exact HI1.out.m.drew)).mono ?_; rintro e w2 ⟨rfl, hI2, hm2⟩; have Hm2 : Hid (Mod [bz] w1 w2) := ⟨hm2.os, hm2.tape, hm2.output, hm2.size, hm2.block⟩; have HI2 := Lib.hid (HI1.out.mach hI2 rfl Hm2.out); have hcm2 := Hm2.out.blk Hcm.out (by simp; omega); have p0 : w2.cell? ⟨w.heap.size, 0, none⟩ = some (.int .i64 7) := hcm2.cell (i := 0) rfl; have p1 : w2.cell? ⟨w.heap.size, 1, none⟩ = some (.int .i64 i) := hcm2.cell (i := 1) rfl; have p3 : w2.cell? ⟨w.heap.size, 3, none⟩ = some (.int .i64 (jn : Int)) := hcm2.cell (i := 3) rfl; have hlw2 := hcm2.lt; have d1 : w2.cell? ⟨bd, 1, none⟩ = some (.slice (some ⟨bb, 0, none⟩) d.m.zs.length d.m.zs.length) := HI2.out.cells.c1; have hlt2 := HI2.out.cells.lt; have v1 : w2.cell? ⟨bb, i, none⟩ = some (vs.getD i (.bool false)) := HI2.out.cellB (i := i) hi; have Hrow := Lib.hid (HI2.out.row i hi); rw [Hv.out] at v1; clear hcm2 hm2 hI2 q0 q1 q2 q3 c0))
  all_goals
    have m1 : IntKind.i64.wrap ((ja : Int) * 64) = (ja : Int) * 64 := IntWalk.i64_in _ (by omega)
    have m2 : IntKind.i64.wrap ((ja : Int) + (jn : Int)) = (ja : Int) + (jn : Int) := IntWalk.i64_in _ (by omega)
    have m3 : IntKind.i64.wrap (((ja : Int) + (jn : Int)) * 64) = ((ja : Int) + (jn : Int)) * 64 := IntWalk.i64_in _ (by omega)
    have l1 : (0 : Int) ≤ (ja : Int) * 64 := by omega
    have l2 : (0 : Int) ≤ ((ja : Int) + (jn : Int)) * 64 := by omega
    have l3 : (ja : Int) * 64 ≤ ((ja : Int) + (jn : Int)) * 64 := by omega
    have l4 : ((ja : Int) + (jn : Int)) * 64 ≤ (cp : Int) := by omega
    have l5 : ((ja : Int) * 64).toNat = ja * 64 := by omega
    have l6 : (((ja : Int) + (jn : Int)) * 64).toNat = (ja + jn) * 64 := by omega
    have hcv0 : (convert 97 9 (.slice (some ⟨g, ja * 64, none⟩) ((ja + jn) * 64 - ja * 64) (cp - ja * 64))).run Try.prog w2 = _ := Hcv.out w2 _ HI2.out
    have hcv1 : (convert 97 9 (.slice (some ⟨g, ja * 64, none⟩) ((ja + jn) * 64 - ja * 64) (cp - ja * 64))).run Try.prog w2.drew = _ := Hcv.out w2.drew _ (HI2.out.same (Mod.refl [] _).drew)
    go_region_with (fail)
  all_goals go_wp2_with fail
  all_goals
    refine bodyPost_ret (results_tmp3 rfl _ _ _) rfl ?_
    rw [Hf.out]
    exact ⟨rfl, vs, HI2.out.same (by first | exact Mod.refl [] _ | exact (Mod.refl [] _).drew | exact (Mod.refl [] _).drewN _), by first | exact Hdd.out _ HM.out Hm2.out | exact (Hdd.out _ HM.out Hm2.out).drew | exact (Hdd.out _ HM.out Hm2.out).drewN _, fun x hx => .inl hx⟩

end Go.Proofs.Ytojceddgmmapdaa
