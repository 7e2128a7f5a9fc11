/-
  Walk of the law ZoneScripts.
-/
import Derived.Test.YtojceddgmmapdaaZQ8
import Derived.Test.YtojceddgmmapdaaZO2
import Derived.Test.YtojceddgmmapdaaZP2
namespace Go.Proofs.Ytojceddgmmapdaa
open Go.RowKit

/-- What holds between two rounds. -/
def SRel (w : World) (bm bz rm rz : Nat) (m : Mc) (wr : World) : Prop :=
  m.ok ∧ m.held ∧ IsM TM TZ wr bm bz m ∧ IsM RM RZ wr rm rz m ∧ Mod [] w wr

set_option maxHeartbeats 4000000 in
set_option maxRecDepth 100000 in
theorem zoneScripts_walk (x0 x1 x2 x3 : Int) (v v2 : Value) (cs : List Cmd) (lss : List (List Int)) (b b2 : Nat) (w : World) (hv : CmdsAt w v cs b) (hv2 : IntssAt w v2 lss b2) (hdl : lss.length ≤ 9223372036854775807) :
    Calls Try.prog 7 #[.agg #[.int .i64 x0, .int .i64 x1, .int .i64 x2, .int .i64 x3], v, v2] w fun e w' => e = .returned (.bool true) ∧ Below w.heap.size w w' := by
  have Hv := Lib.hid hv
  obtain ⟨a, c, rfl, _⟩ := hv
  obtain ⟨a2, c2, rfl, hl2⟩ := hv2
  have HL := Lib.hid hl2; clear hl2
  go_enter Try.func7, Try.ntmps7
  go_wp2_with fail
  refine (speaks05 _).mono ?_
  rintro e w1 ⟨rfl, hb1⟩
  have hbx : Blk w1 w.heap.size #[.int .i64 x0, .int .i64 x1, .int .i64 x2, .int .i64 x3] 22 := (Mod.of_below hb1 []).blk (Blk.new w _ _) (by simp)
  have HM1 := Lib.hid (((Mod.refl [] w).alloc (.cells #[.int .i64 x0, .int .i64 x1, .int .i64 x2, .int .i64 x3] 22)).trans' (Mod.of_below hb1 []))
  clear hb1
  have c0 := hbx.cell (i := 0) rfl
  have c1 := hbx.cell (i := 1) rfl
  have c2 := hbx.cell (i := 2) rfl
  have c3 := hbx.cell (i := 3) rfl
  have Hbx := Lib.hid hbx; clear hbx
  go_wp2_with fail
  by_cases hok : newOk x0 x1 x2 x3 = true
  · refine (znew_ok x0 x1 x2 x3 _ hok).mono ?_
    rintro e w2 ⟨bm, bz, rfl, hI2, hm2, hb1, hb2⟩
    have hlw1 := HM1.out.size
    clear c0 c1 c2 c3
    have hX2 := hm2.blk Hbx.out (by simp)
    have HM2 := Lib.hid (HM1.out.trans' hm2)
    have HI2 := Lib.hid hI2; clear hI2 hm2
    have c0 := hX2.cell (i := 0) rfl
    have c1 := hX2.cell (i := 1) rfl
    have c2 := hX2.cell (i := 2) rfl
    have c3 := hX2.cell (i := 3) rfl
    clear hX2
    have Hok := Lib.hid hok; clear hok
    go_wp2_with fail
    refine (rnew_ok x0 x1 x2 x3 _ Hok.out).mono ?_
    rintro e w3 ⟨rm, rz, rfl, hR3, hm3, hr1, hr2⟩
    have hlt2 := HI2.out.lt
    have HI3 := Lib.hid (HI2.out.mod hm3 (by simp) (by simp))
    have HR3 := Lib.hid hR3
    have HM3 := Lib.hid (HM2.out.trans' hm3)
    have hsw2 := HM2.out.size
    clear hR3 hm3 c0 c1 c2 c3
    have hnm := HI3.out.ne
    have hnr := HR3.out.ne
    go_wp2_with fail
    go_loopw [10] (fun s10 wr => ∃ (k : Nat) (m : Mc), s10 = .int .i64 k ∧ k ≤ cs.length ∧ SRel w bm bz rm rz m wr) (fun s10 _ => 200 - (intOf s10).toNat)
    case atStart => exact ⟨0, newF x0 x1 x2 x3, rfl, Nat.zero_le _, newF_ok Hok.out, held_new _ _ _ _, HI3.out, HR3.out, HM3.out⟩
    case round =>
      obtain ⟨k, m, rfl, hk, hokm, hheld, hI, hR, hM⟩ := hrel
      have Hokm := Lib.hid hokm; have Hheld := Lib.hid hheld; have HI := Lib.hid hI; have HR := Lib.hid hR; have HM := Lib.hid hM
      clear hokm hheld hI hR hM
      by_cases hlt : k < cs.length
      · by_cases hlt2 : k < 200
        · obtain ⟨off, cc, y0, y1, y2, y3, hv', hget, hblt, hS⟩ := cmd_cells Hv.out k hlt
          simp only [Value.slice.injEq] at hv'
          obtain ⟨rfl, _, rfl⟩ := hv'
          have HS := Lib.hid hS; clear hS hget
          have hltm := HI.out.lt
          have hltr := HR.out.lt
          go_wp2_with fail
          refine (clone_any bm bz m _ HI.out Hokm.out.n1 Hokm.out.n2).mono ?_
          rintro e w4 ⟨bt, zt, rfl, hT, hmt, hbt, hzt⟩
          have HM4 := Lib.hid (HM.out.trans' hmt)
          have HI4 := Lib.hid (HI.out.mod hmt (by simp) (by simp))
          have HR4 := Lib.hid (HR.out.mod hmt (by simp) (by simp))
          have HT4 := Lib.hid hT
          clear hT hmt
          have hlt4 := HT4.out.lt
          obtain ⟨s0, s1, s2, s3⟩ := HS.out _ HM4.out
          go_wp2_with fail
          refine (do_any bm bz m y0 y1 y2 y3 _ HI4.out Hokm.out).mono ?_
          rintro e w5 ⟨rfl, hI5, hm5⟩
          have HM5 := Lib.hid (HM4.out.trans hm5 (T := []) (by intro i hi h; simp at h; subst h; omega))
          have HI5 := Lib.hid hI5
          have HR5 := Lib.hid (HR4.out.mod hm5 (by simp; omega) (by simp; omega))
          have HT5 := Lib.hid (HT4.out.mod hm5 (by simp; omega) (by simp; omega))
          clear hI5 hm5 s0 s1 s2 s3
          obtain ⟨s0, s1, s2, s3⟩ := HS.out _ HM5.out
          go_wp2_with fail
          refine (rdo_any rm rz m y0 y1 y2 y3 _ HR5.out Hokm.out Hheld.out).mono ?_
          rintro e w6 ⟨rfl, hR6, hm6⟩
          have HM6 := Lib.hid (HM5.out.trans hm6 (T := []) (by intro i hi h; simp at h; subst h; omega))
          have HR6 := Lib.hid hR6
          have HI6 := Lib.hid (HI5.out.mod hm6 (by simp; omega) (by simp; omega))
          have HT6 := Lib.hid (HT5.out.mod hm6 (by simp; omega) (by simp; omega))
          clear hR6 hm6 s0 s1 s2 s3
          have Href := Lib.hid (do_refused m y0 y1 y2 y3)
          have Hdo := Lib.hid (fun W h => do_any bt zt m y0 y1 y2 y3 W h Hokm.out)
          have Hlen := Lib.hid (like_do m y0 y1 y2 y3).len
          have Hg2 : Hid ((doF m y0 y1 y2 y3).2.ok ∧ (doF m y0 y1 y2 y3).2.held) := ⟨ok_do Hokm.out y0 y1 y2 y3, held_do Hheld.out Hokm.out y0 y1 y2 y3⟩
          generalize doF m y0 y1 y2 y3 = r at *
          obtain ⟨⟨at', f⟩, m2⟩ := r
          obtain ⟨s0, s1, s2, s3⟩ := HS.out _ HM6.out
          have hn2 : m2.zs.length ≤ 64 := Hg2.out.1.n2
          have Hn2 := Lib.hid hn2; clear hn2
          go_upto_if 108 with (go_at_call 22; refine (same05_any bm bz rm rz m2 _ HI6.out HR6.out Hn2.out).mono ?_; rintro e w7 ⟨rfl, hb7⟩; have HM7 := Lib.hid (HM6.out.trans' (Mod.of_below hb7 [])); have HI7 := Lib.hid (HI6.out.below hb7); have HR7 := Lib.hid (HR6.out.below hb7); have HT7 := Lib.hid (HT6.out.below hb7); clear hb7)
          go_cut [16] (fun _ wx => SRel w bm bz rm rz m2 wx)
          case first =>
            by_cases hf : f = 0
            · subst hf
              go_wp2_with fail
              go_meet
              exact ⟨Hg2.out.1, Hg2.out.2, HI7.out, HR7.out, HM7.out⟩
            · have hfb : (f != 0) = true := by simpa using hf
              obtain ⟨s0, s1, s2, s3⟩ := HS.out _ HM7.out
              clear hf
              go_wp2_with fail
              refine (Hdo.out _ HT7.out).mono ?_
              rintro e w8 ⟨rfl, hT8, hm8⟩
              have HM8 := Lib.hid (HM7.out.trans hm8 (T := []) (by intro i hi h; simp at h; subst h; omega))
              have HT8 := Lib.hid hT8
              have HI8 := Lib.hid (HI7.out.mod hm8 (by simp; omega) (by simp; omega))
              have HR8 := Lib.hid (HR7.out.mod hm8 (by simp; omega) (by simp; omega))
              clear hT8 hm8
              go_wp2_with (go_at_call 22; refine (same05_any bt zt rm rz m2 _ HT8.out HR8.out Hn2.out).mono ?_; rintro e w9 ⟨rfl, hb9⟩; have HM9 := Lib.hid (HM8.out.trans' (Mod.of_below hb9 [])); have HI9 := Lib.hid (HI8.out.below hb9); have HR9 := Lib.hid (HR8.out.below hb9); clear hb9)
              go_meet
              exact ⟨Hg2.out.1, Hg2.out.2, HI9.out, HR9.out, HM9.out⟩
          case rest =>
            obtain ⟨hk1, hk2, hI9, hR9, hM9⟩ := hcut
            clear HI7 HR7 HM7 HT7 HI6 HR6 HM6 HT6 HI5 HR5 HM5 HT5 HI4 HR4 HM4 HT4 HI HR HM Hdo Href HS s0 s1 s2 s3
            have HI9 := Lib.hid hI9; have HR9 := Lib.hid hR9; have HM9 := Lib.hid hM9
            clear hI9 hR9 hM9
            have Hk1 := Lib.hid hk1; have Hk2 := Lib.hid hk2; clear hk1 hk2
            by_cases h7 : (k : Int) % 7 = 6
            · have hb7 : ((k : Int) % 7 == 6) = true := by simpa using h7
              by_cases hkl : k / 7 < lss.length
              · obtain ⟨off2, rfl, hblt2, hcell⟩ := HL.out (by omega)
                obtain ⟨u, g, hcu, hsu, hlu⟩ := hcell (k / 7) hkl
                clear hcell
                have hlm9 := HI9.out.lt
                have hlr9 := HR9.out.lt
                have hcu9 := (HM9.out.cell hblt2 (by simp)).trans hcu
                have hsu9 := hsu.mod HM9.out (by simp)
                generalize lss.getD (k / 7) [] = ls at *
                have hsw9 := HM9.out.size
                have Hsu9 := Lib.hid hsu9
                have Hsu := Lib.hid hsu
                clear hsu9 hsu
                have hbw : b2 < wc.heap.size := by omega
                go_wp2_with (at_builtin; refine wpList_append_ints rfl _ _ rfl rfl _ ls g rfl Hsu9.out hlu ?_; intro v' w10 b10 hb10 hv10 hm10)
                have HMA := Lib.hid (HM9.out.trans' hm10)
                have HRA := Lib.hid (HR9.out.mod hm10 (by simp) (by simp))
                refine (lost_any bm bz m2 _ ls b10 _ (HI9.out.mod hm10 (by simp) (by simp)) Hn2.out hv10 (by omega) (by omega)).mono ?_
                rintro e wA ⟨rfl, hIA, hmA⟩
                have HMB := Lib.hid (HMA.out.trans hmA (T := []) (by intro i hi h; simp at h; subst h; omega))
                have HRB := Lib.hid (HRA.out.mod hmA (by simp; omega) (by simp; omega))
                have HIB := Lib.hid hIA
                have hszB := hmA.size
                have hszA := hm10.size
                clear hIA hmA hcu9 hv10 hm10
                have hcuB := (HMB.out.cell hblt2 (by simp)).trans hcu
                have hbw2 : b2 < wA.heap.size := by omega
                obtain ⟨gr, hgr, hvr⟩ := Hsu.out.apart HMB.out (rz := rz) (by omega)
                have Hvr := Lib.hid hvr; clear hvr
                go_wp2_with fail
                refine (rlost_any rm rz m2 _ ls gr _ HRB.out Hn2.out Hvr.out hgr (by omega)).mono ?_
                rintro e wC ⟨rfl, hRC, hmC⟩
                have HMC := Lib.hid (HMB.out.trans hmC (T := []) (by intro i hi h; simp at h; subst h; omega))
                have HIC := Lib.hid (HIB.out.mod hmC (by simp; omega) (by simp; omega))
                have HRC := Lib.hid hRC
                have Hg3 : Hid (({ m2 with zs := lostL ls m2.zs } : Mc).ok ∧ ({ m2 with zs := lostL ls m2.zs } : Mc).held) := ⟨ok_lost Hk1.out ls, held_lost Hk1.out ls⟩
                clear hRC hmC hcuB Hvr
                generalize ({ m2 with zs := lostL ls m2.zs } : Mc) = m3 at *
                have hn3 : m3.zs.length ≤ 64 := Hg3.out.1.n2
                have Hn3 := Lib.hid hn3; clear hn3
                go_wp2_with (go_at_call 22; refine (same05_any bm bz rm rz m3 _ HIC.out HRC.out Hn3.out).mono ?_; rintro e wD ⟨rfl, hbD⟩; have HMD := Lib.hid (HMC.out.trans' (Mod.of_below hbD [])); have HID := Lib.hid (HIC.out.below hbD); have HRD := Lib.hid (HRC.out.below hbD); clear hbD)
                go_roundw
                · exact ⟨k + 1, m3, rfl, by omega, Hg3.out.1, Hg3.out.2, HID.out, HRD.out, HMD.out⟩
                · simp [intOf]; omega
              · have hkd : decide (k / 7 < lss.length) = false := by simpa using hkl
                go_wp2_with fail
                go_roundw
                · exact ⟨k + 1, m2, rfl, by omega, Hk1.out, Hk2.out, HI9.out, HR9.out, HM9.out⟩
                · simp [intOf]; omega
            · have hb7 : ((k : Int) % 7 == 6) = false := by simpa using h7
              go_wp2_with fail
              go_roundw
              · exact ⟨k + 1, m2, rfl, by omega, Hk1.out, Hk2.out, HI9.out, HR9.out, HM9.out⟩
              · simp [intOf]; omega
        · have hd : decide (k < 200) = false := by simpa using hlt2
          go_wp2_with fail
          go_ret
          exact ⟨rfl, HM.out.below (Nat.le_refl _)⟩
      · have hd : decide (k < cs.length) = false := by simpa using hlt
        go_wp2_with fail
        go_ret
        exact ⟨rfl, HM.out.below (Nat.le_refl _)⟩
  · refine (znew_no x0 x1 x2 x3 _ (by simpa using hok)).mono ?_
    rintro e w2 ⟨rfl, rfl⟩
    go_wp2_with fail
    refine (rnew_no x0 x1 x2 x3 _ (by simpa using hok)).mono ?_
    rintro e w3 ⟨rfl, rfl⟩
    go_wp2_with fail
    go_ret
    exact ⟨rfl, HM1.out.below (Nat.le_refl _)⟩

end Go.Proofs.Ytojceddgmmapdaa
