/-
  Walk of the law ZoneLimits.
-/
import Derived.Test.YtojceddgmmapdaaZL1
import Derived.Test.YtojceddgmmapdaaZP
import Derived.Test.YtojceddgmmapdaaZC
namespace Go.Proofs.Ytojceddgmmapdaa
open Go.RowKit

theorem lim_facts (x0 x1 x2 x3 : Int) (m : Mc) (hl : (newF x0 x1 x2 x3).like m) (hg : m.good) (k z a n : Int) :
    (cntO (doF m k z a n).2.zs ≤ x2 ∧ cntA (doF m k z a n).2.zs ≤ x3 ∧ cntO (doF m k z a n).2.zs ≤ cntA (doF m k z a n).2.zs ∧ (getF (doF m k z a n).2 z).1.2 ≤ x1 ∧ 0 ≤ (getF (doF m k z a n).2 z).1.2) ∧
    (((doF m k z a n).1.2 = 0 ∧ (getF m z).2 = true ∧ ((getF m z).1.2 ≤ (getF (doF m k z a n).2 z).1.2 ∨ (k = 3 ∧ (getF (doF m k z a n).2 z).1.2 = 0))) ∨ ((doF m k z a n).1.2 ≠ 0 ∧ getF (doF m k z a n).2 z = getF m z)) := by
  have h2 := good_do hg k z a n
  have hl2 := hl.trans (like_do m k z a n)
  have hs := do_step m k z a n
  have hll := (like_do m k z a n).len
  generalize doF m k z a n = r at *
  obtain ⟨⟨at', f⟩, m2⟩ := r
  simp only at *
  have e1 : m2.bl = x1 := hl2.bl
  have e2 : m2.op = x2 := hl2.op
  have e3 : m2.ac = x3 := hl2.ac
  have hb1 := h2.b1
  refine ⟨⟨by rw [← e2]; exact h2.limO, by rw [← e3]; exact h2.limA, cntO_le_cntA _, ?_, ?_⟩, ?_⟩
  · unfold getF; split
    · rename_i hz
      have := h2.each z.toNat (by omega)
      show lnOf m2.zs z.toNat ≤ x1
      rw [← e1]; exact this.2.2.2
    · show (0 : Int) ≤ x1; omega
  · unfold getF; split
    · rename_i hz
      exact (h2.each z.toNat (by omega)).2.2.1
    · exact Int.le_refl _
  · rcases hs with ⟨hf, h0, h1, h3⟩ | ⟨hf, rfl⟩
    · left
      refine ⟨hf, ?_, ?_⟩
      · unfold getF; rw [if_pos ⟨h0, h1⟩]
      · unfold getF; rw [if_pos ⟨h0, h1⟩, if_pos ⟨h0, by omega⟩]; exact h3
    · exact .inr ⟨hf, rfl⟩

def LimRel (w : World) (bm bz : Nat) (m0 : Mc) (len k : Nat) (x0 x1 x2 x3 : Int) (m : Mc) (wr : World) : Prop :=
  k ≤ len ∧ k ≤ 200 ∧ m0.like m ∧ m.good ∧ IsM TM TZ wr bm bz m ∧ Mod [] w wr ∧ Blk wr w.heap.size #[.int .i64 x0, .int .i64 x1, .int .i64 x2, .int .i64 x3] 22

set_option maxHeartbeats 2000000 in
set_option maxRecDepth 100000 in
theorem zoneLimits_walk (x0 x1 x2 x3 : Int) (v : Value) (cs : List (Int × Int × Int × Int)) (b : Nat) (w : World) (hv : CmdsAt w v cs b) (hcl : cs.length ≤ 9223372036854775807) :
    Calls Try.prog 3 #[.agg #[.int .i64 x0, .int .i64 x1, .int .i64 x2, .int .i64 x3], v] w fun e w' => e = .returned (.bool true) ∧ Below w.heap.size w w' := by
  obtain ⟨a, c, rfl, ha⟩ := hv
  have Ha := Lib.hid ha; clear ha
  go_enter Try.func3, Try.ntmps3
  go_wp2_with fail
  refine (speaks05 _).mono ?_
  rintro e w1 ⟨rfl, hb1⟩
  have hbx : Blk w1 w.heap.size #[.int .i64 x0, .int .i64 x1, .int .i64 x2, .int .i64 x3] 22 := (Mod.of_below hb1 []).blk (Blk.new w _ _) (by simp)
  have hM1 : Mod [] w w1 := ((Mod.refl [] w).alloc _).trans' (Mod.of_below hb1 [])
  have HM1 := Lib.hid hM1
  clear hM1 hb1
  have c0 := hbx.cell (i := 0) rfl
  have c1 := hbx.cell (i := 1) rfl
  have c2 := hbx.cell (i := 2) rfl
  have c3 := hbx.cell (i := 3) rfl
  have Hbx := Lib.hid hbx; clear hbx
  go_wp2_with fail
  by_cases hok : newOk x0 x1 x2 x3 = true
  · refine (znew_ok x0 x1 x2 x3 _ hok).mono ?_
    rintro e w2 ⟨bm, bz, rfl, hI2, hm2, hb1, hb2⟩
    have hlw1 := HM1.out.size
    have hxlt := Hbx.out.lt
    go_wp2_with fail
    go_loopw [7] (fun i wr => ∃ (k : Nat) (m : Mc), i = .int .i64 k ∧ LimRel w bm bz (newF x0 x1 x2 x3) cs.length k x0 x1 x2 x3 m wr) (fun i _ => 200 - (intOf i).toNat)
    case atStart => exact ⟨0, newF x0 x1 x2 x3, rfl, Nat.zero_le _, by omega, Mc.like.refl _, good_new (newF_ok hok), hI2, HM1.out.trans' hm2, hm2.blk Hbx.out (by simp)⟩
    case round =>
      obtain ⟨k, m, rfl, hk, hk2, hlike, hgood, hIr, hmr, hbr⟩ := hrel
      have Hlike := Lib.hid hlike; clear hlike
      have Hgood := Lib.hid hgood; clear hgood
      have HIr := Lib.hid hIr; clear hIr
      have Hmr := Lib.hid hmr; clear hmr
      have Hbr := Lib.hid hbr; clear hbr
      by_cases hlt : k < cs.length
      · by_cases hlt2 : k < 200
        · obtain ⟨off, rfl, hblt, hcells⟩ := Ha.out (by omega)
          have hS : ∀ W, Mod [] w W → W.cell? ⟨b, off + k * 4, none⟩ = some (.int .i64 (cs.getD k (0, 0, 0, 0)).1) ∧ W.cell? ⟨b, off + k * 4 + 1, none⟩ = some (.int .i64 (cs.getD k (0, 0, 0, 0)).2.1) ∧
              W.cell? ⟨b, off + k * 4 + 2, none⟩ = some (.int .i64 (cs.getD k (0, 0, 0, 0)).2.2.1) ∧ W.cell? ⟨b, off + k * 4 + 3, none⟩ = some (.int .i64 (cs.getD k (0, 0, 0, 0)).2.2.2) := fun W hW =>
            ⟨(hW.cell hblt (by simp)).trans (hcells k hlt).1, (hW.cell hblt (by simp)).trans (hcells k hlt).2.1, (hW.cell hblt (by simp)).trans (hcells k hlt).2.2.1, (hW.cell hblt (by simp)).trans (hcells k hlt).2.2.2⟩
          clear hcells
          generalize cs.getD k (0, 0, 0, 0) = cmd at *
          obtain ⟨ck, cz, ca, cn⟩ := cmd
          simp only at hS
          have HS := Lib.hid hS; clear hS
          obtain ⟨s0, s1, s2, s3⟩ := HS.out _ Hmr.out
          have hsz := Hmr.out.size
          have hblt' : b < wr.heap.size := by omega
          go_wp2_with fail
          refine (get_any bm bz m cz _ HIr.out).mono ?_
          rintro e w3 ⟨rfl, hb3⟩
          have HM3 := Lib.hid (Hmr.out.trans' (Mod.of_below hb3 []))
          have HI3 := Lib.hid (HIr.out.below hb3)
          have HX3 := Lib.hid ((Mod.of_below hb3 []).blk Hbr.out (by simp))
          clear s0 s1 s2 s3 hb3
          obtain ⟨s0, s1, s2, s3⟩ := HS.out _ HM3.out
          have hsz3 := HM3.out.size
          have hblt3 : b < w3.heap.size := by omega
          generalize hwas : getF m cz = was at *
          have Hwas := Lib.hid hwas; clear hwas
          obtain ⟨⟨was1, was2⟩, there⟩ := was
          go_wp2_with fail
          refine (do_any bm bz m ck cz ca cn _ (HI3.out.alloc _) Hgood.out.toOk).mono ?_
          rintro e w4 ⟨rfl, hI4, hm4⟩
          have HW4 := Lib.hid (hm4.blk (Blk.new w3 #[.int .i64 was1, .int .i64 was2] 30) (by simp; have := HI3.out.lt; omega))
          have hM4 : Mod [] w w4 := ((HM3.out.alloc _).trans hm4 (T := []) (by intro i hi h; simp at h; subst h; omega))
          have HM4 := Lib.hid hM4; clear hM4
          have HX4 := Lib.hid (hm4.blk (HX3.out.alloc _) (by simp; omega))
          have hfacts := lim_facts x0 x1 x2 x3 m Hlike.out Hgood.out ck cz ca cn
          have Hgood2 := Lib.hid (good_do Hgood.out ck cz ca cn)
          have Hlike2 := Lib.hid (Hlike.out.trans (like_do m ck cz ca cn))
          rw [Hwas.out] at hfacts
          generalize doF m ck cz ca cn = r at *
          obtain ⟨⟨at', f⟩, m2⟩ := r
          simp only at hI4 hfacts Hgood2 Hlike2
          have HI4 := Lib.hid hI4; clear hI4
          generalize hnow : getF m2 cz = now at *
          have Hnow := Lib.hid hnow; clear hnow
          obtain ⟨⟨now1, now2⟩, ok2⟩ := now
          simp only at hfacts
          obtain ⟨⟨f1, f2, f3, f4, f5⟩, f6⟩ := hfacts
          have HF6 := Lib.hid f6; clear f6
          obtain ⟨s0, s1, s2, s3⟩ := HS.out _ HM4.out
          have hsz4 := HM4.out.size
          have hblt4 : b < w4.heap.size := by omega
          clear hm4
          go_wp2_with fail
          refine (get_any bm bz m2 cz _ HI4.out).mono ?_
          rintro e w5 ⟨rfl, hb5⟩
          rw [Hnow.out]
          have HM5 := Lib.hid (HM4.out.trans' (Mod.of_below hb5 []))
          have HI5 := Lib.hid (HI4.out.below hb5)
          have HX5 := Lib.hid ((Mod.of_below hb5 []).blk HX4.out (by simp))
          have HW5 := Lib.hid ((Mod.of_below hb5 []).blk HW4.out (by simp))
          clear s0 s1 s2 s3 hb5
          go_wp2_with fail
          refine (counts_any TM TZ bm bz m2 _ (HI5.out.alloc _) Hgood2.out.n2).mono ?_
          rintro e w6 ⟨rfl, hb6⟩
          have HM6 := Lib.hid ((HM5.out.alloc _).trans' (Mod.of_below hb6 []))
          have HI6 := Lib.hid ((HI5.out.alloc _).below hb6)
          have hX6 := ((Mod.of_below hb6 []).blk (HX5.out.alloc _) (by simp))
          have hW6 := ((Mod.of_below hb6 []).blk (HW5.out.alloc _) (by simp))
          have hN6 := ((Mod.of_below hb6 []).blk (Blk.new w5 #[.int .i64 now1, .int .i64 now2] 30) (by simp))
          have t1 := hX6.cell (i := 1) rfl
          have t2 := hX6.cell (i := 2) rfl
          have t3 := hX6.cell (i := 3) rfl
          have v0 := hW6.cell (i := 0) rfl
          have v1 := hW6.cell (i := 1) rfl
          have n0 := hN6.cell (i := 0) rfl
          have n1 := hN6.cell (i := 1) rfl
          have HX6 := Lib.hid hX6; clear hX6
          clear hW6 hN6 hb6
          obtain ⟨s0, s1, s2, s3⟩ := HS.out _ HM6.out
          generalize cntO m2.zs = co at *
          generalize cntA m2.zs = ca' at *
          rcases HF6.out with ⟨rfl, rfl, hb | ⟨rfl, rfl⟩⟩ | ⟨hf, h⟩
          · go_wp2_with fail
            go_roundw
            case rel => exact ⟨k + 1, m2, by go_num, by omega, by omega, Hlike2.out, Hgood2.out, HI6.out, HM6.out, HX6.out⟩
            case measure => simp [intOf]; omega
          · go_wp2_with fail
            all_goals first
              | (exfalso; omega)
              | (refine ⟨⟨k + 1, m2, by go_num, by omega, by omega, Hlike2.out, Hgood2.out, HI6.out, HM6.out, HX6.out⟩, ?_⟩; simp [intOf]; omega)
          · simp only [Prod.mk.injEq] at h
            obtain ⟨⟨rfl, rfl⟩, rfl⟩ := h
            have hf' : (f != 0) = true := by simpa using hf
            have hf'' : (f == 0) = false := by simpa using hf
            clear hf
            go_wp2_with fail
            all_goals first
              | (exfalso; omega)
              | (refine ⟨⟨k + 1, m2, by go_num, by omega, by omega, Hlike2.out, Hgood2.out, HI6.out, HM6.out, HX6.out⟩, ?_⟩; simp [intOf]; omega)
        · have hd : decide (k < 200) = false := by simpa using hlt2
          go_wp2_with fail
          go_ret
          exact ⟨rfl, Hmr.out.below (Nat.le_refl _)⟩
      · have hd : decide (k < cs.length) = false := by simpa using hlt
        go_wp2_with fail
        go_ret
        exact ⟨rfl, Hmr.out.below (Nat.le_refl _)⟩
  · refine (znew_no x0 x1 x2 x3 _ (by simpa using hok)).mono ?_
    rintro e w2 ⟨rfl, rfl⟩
    go_wp2_with fail
    go_ret
    exact ⟨rfl, HM1.out.below (Nat.le_refl _)⟩

theorem spanF_mk {a n b : Int} (h : 0 ≤ a ∧ 1 ≤ n ∧ a ≤ b ∧ n ≤ b - a) : spanF a n b = true := by simp [spanF, h]
theorem spanF_not {a n b : Int} (h : ¬ (0 ≤ a ∧ 1 ≤ n ∧ a ≤ b ∧ n ≤ b - a)) : spanF a n b = false := by
  cases e : spanF a n b with
  | false => rfl
  | true => exact absurd (spanF_true e) h

end Go.Proofs.Ytojceddgmmapdaa
