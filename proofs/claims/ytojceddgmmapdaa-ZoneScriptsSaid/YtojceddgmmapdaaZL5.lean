/-
  Walk of the law ZoneApart.
-/
import Derived.Test.YtojceddgmmapdaaZL4
namespace Go.Proofs.Ytojceddgmmapdaa
open Go.RowKit

abbrev Cmd := Int × Int × Int × Int
def step1 (m : Mc) (c : Cmd) : Mc := (doF m c.1 c.2.1 c.2.2.1 c.2.2.2).2
def runF (m : Mc) (cs : List Cmd) : Mc := cs.foldl step1 m

theorem good_run {m : Mc} (h : m.good) (cs : List Cmd) : (runF m cs).good := by
  induction cs generalizing m with
  | nil => exact h
  | cons c cs ih => exact ih (good_do h _ _ _ _)
theorem like_run (m : Mc) (cs : List Cmd) : m.like (runF m cs) := by
  induction cs generalizing m with
  | nil => exact Mc.like.refl m
  | cons c cs ih => exact (like_do m _ _ _ _).trans (ih _)
theorem run_snoc (m : Mc) (cs : List Cmd) (k : Nat) (hk : k < cs.length) : runF m (cs.take (k + 1)) = step1 (runF m (cs.take k)) (cs.getD k (0, 0, 0, 0)) := by
  have e : cs.getD k (0, 0, 0, 0) = cs[k] := by simp [List.getD_eq_getElem?_getD, List.getElem?_eq_getElem hk]
  rw [List.take_succ_eq_append_getElem hk, e]; unfold runF; rw [List.foldl_append]; rfl

/-- The cells of command k in a world behind w. -/
theorem cmd_cells {w : World} {v : Value} {cs : List Cmd} {b : Nat} (h : CmdsAt w v cs b) (k : Nat) (hk : k < cs.length) : ∃ (off c : Nat) (x0 x1 x2 x3 : Int), v = .slice (some ⟨b, off, none⟩) cs.length c ∧ cs.getD k (0, 0, 0, 0) = (x0, x1, x2, x3) ∧ b < w.heap.size ∧
    ∀ W, Mod [] w W → W.cell? ⟨b, off + k * 4, none⟩ = some (.int .i64 x0) ∧ W.cell? ⟨b, off + k * 4 + 1, none⟩ = some (.int .i64 x1) ∧ W.cell? ⟨b, off + k * 4 + 2, none⟩ = some (.int .i64 x2) ∧ W.cell? ⟨b, off + k * 4 + 3, none⟩ = some (.int .i64 x3) := by
  obtain ⟨a, c, hv, ha⟩ := h
  obtain ⟨off, rfl, hb, hc⟩ := ha (by omega)
  have hcells := hc k hk
  generalize cs.getD k (0, 0, 0, 0) = cmd at *
  obtain ⟨x0, x1, x2, x3⟩ := cmd
  exact ⟨off, c, x0, x1, x2, x3, hv, rfl, hb, fun W hW => ⟨(hW.cell hb (by simp)).trans hcells.1, (hW.cell hb (by simp)).trans hcells.2.1, (hW.cell hb (by simp)).trans hcells.2.2.1, (hW.cell hb (by simp)).trans hcells.2.2.2⟩⟩

set_option maxHeartbeats 2000000 in
set_option maxRecDepth 100000 in
theorem zoneApart_walk (x0 x1 x2 x3 : Int) (v v2 : Value) (cs ds : List Cmd) (b b2 : Nat) (w : World) (hv : CmdsAt w v cs b) (hv2 : CmdsAt w v2 ds b2) (hdl : ds.length ≤ 9223372036854775807) :
    Calls Try.prog 6 #[.agg #[.int .i64 x0, .int .i64 x1, .int .i64 x2, .int .i64 x3], v, v2] w fun e w' => e = .returned (.bool true) ∧ Below w.heap.size w w' := by
  have Hv := Lib.hid hv
  have Hv2 := Lib.hid hv2
  obtain ⟨a, c, rfl, _⟩ := hv
  obtain ⟨a2, c2, rfl, _⟩ := hv2
  go_enter Try.func6, Try.ntmps6
  go_wp2_with fail
  refine (speaks05 _).mono ?_
  rintro e w1 ⟨rfl, hb1⟩
  have hbx : Blk w1 w.heap.size #[.int .i64 x0, .int .i64 x1, .int .i64 x2, .int .i64 x3] 22 := (Mod.of_below hb1 []).blk (Blk.new w _ _) (by simp)
  have HM1 := Lib.hid (((Mod.refl [] w).alloc (.cells #[.int .i64 x0, .int .i64 x1, .int .i64 x2, .int .i64 x3] 22)).trans' (Mod.of_below hb1 []))
  clear hb1
  have c0 := hbx.cell (i := 0) rfl
  have c1 := hbx.cell (i := 1) rfl
  have c2 := hbx.cell (i := 2) rfl
  have c3 := hbx.cell (i := 3) rfl
  have Hbx := Lib.hid hbx; clear hbx
  go_wp2_with fail
  by_cases hok : newOk x0 x1 x2 x3 = true
  · refine (znew_ok x0 x1 x2 x3 _ hok).mono ?_
    rintro e w2 ⟨bm, bz, rfl, hI2, hm2, hb1, hb2⟩
    have hlw1 := HM1.out.size
    have hxlt := Hbx.out.lt
    clear c0 c1 c2 c3
    have HX2 := Lib.hid (hm2.blk Hbx.out (by simp))
    have HM2 := Lib.hid (HM1.out.trans' hm2)
    have HI2 := Lib.hid hI2; clear hI2 hm2
    have hx0 : 1 ≤ x0 ∧ x0 ≤ 64 := by simp [newOk] at hok; omega
    have Hok := Lib.hid hok; clear hok
    go_upto_block 0 with fail
    go_cut [9] (fun _ wx => ∃ m : Mc, m.good ∧ (newF x0 x1 x2 x3).like m ∧ IsM TM TZ wx bm bz m ∧ Mod [] w wx ∧ Blk wx w.heap.size #[.int .i64 x0, .int .i64 x1, .int .i64 x2, .int .i64 x3] 22)
    case first =>
      go_wp2_with fail
      go_loopw [9] (fun s9 wr => ∃ (k : Nat) (m : Mc), s9 = .int .i64 k ∧ k ≤ cs.length ∧ m.good ∧ (newF x0 x1 x2 x3).like m ∧ IsM TM TZ wr bm bz m ∧ Mod [] w wr ∧ Blk wr w.heap.size #[.int .i64 x0, .int .i64 x1, .int .i64 x2, .int .i64 x3] 22) (fun s9 _ => 200 - (intOf s9).toNat)
      case atStart => exact ⟨0, _, rfl, Nat.zero_le _, good_new (newF_ok Hok.out), Mc.like.refl _, HI2.out, HM2.out, HX2.out⟩
      case round =>
        obtain ⟨k, m, rfl, hk, hg, hl, hIr, hmr, hxr⟩ := hrel
        have Hg := Lib.hid hg; have Hl := Lib.hid hl; have HIr := Lib.hid hIr; have Hmr := Lib.hid hmr; have Hxr := Lib.hid hxr
        clear hg hl hIr hmr hxr
        by_cases hlt : k < cs.length
        · by_cases hlt2 : k < 60
          · obtain ⟨off, cc, y0, y1, y2, y3, hv', hget, hblt, hS⟩ := cmd_cells Hv.out k hlt
            simp only [Value.slice.injEq] at hv'
            obtain ⟨rfl, _, rfl⟩ := hv'
            have HS := Lib.hid hS; clear hS hget
            obtain ⟨s0, s1, s2, s3⟩ := HS.out _ Hmr.out
            go_wp2_with fail
            refine (do_any bm bz m y0 y1 y2 y3 _ HIr.out Hg.out.toOk).mono ?_
            rintro e wd ⟨rfl, hId, hmd⟩
            have HId := Lib.hid hId; have Hmd := Lib.hid hmd; clear hId hmd
            go_wp2_with fail
            go_roundw
            case rel => exact ⟨k + 1, _, by go_num, by omega, good_do Hg.out y0 y1 y2 y3, Hl.out.trans (like_do m y0 y1 y2 y3), HId.out, Hmr.out.trans Hmd.out (by intro i hi h; simp at h; subst h; omega), Hmd.out.blk Hxr.out (by simp; omega)⟩
            case measure => simp [intOf]; omega
          · have hd : decide (k < 60) = false := by simpa using hlt2
            go_wp2_with fail
            go_meet
            exact ⟨m, Hg.out, Hl.out, HIr.out, Hmr.out, Hxr.out⟩
        · have hd : decide (k < cs.length) = false := by simpa using hlt
          go_wp2_with fail
          go_meet
          exact ⟨m, Hg.out, Hl.out, HIr.out, Hmr.out, Hxr.out⟩
    case rest =>
      obtain ⟨m, hg, hl, hI3, hM3, hX3⟩ := hcut
      clear HI2 HM2 HX2 Hbx
      have Hg := Lib.hid hg; have Hl := Lib.hid hl; have HI3 := Lib.hid hI3; have HM3 := Lib.hid hM3; have HX3 := Lib.hid hX3
      clear hg hl hI3 hM3 hX3
      go_wp2_with fail
      refine (clone_any bm bz m _ HI3.out Hg.out.n1 Hg.out.n2).mono ?_
      rintro e w4 ⟨ba, za, rfl, hIa, hma, hba, hza⟩
      have hsz3 := HM3.out.size
      have hlt3 := HI3.out.lt
      have HI4 := Lib.hid (HI3.out.mod hma (by simp) (by simp))
      have HIa := Lib.hid hIa
      have HM4 := Lib.hid (HM3.out.trans' hma)
      have HX4 := Lib.hid (hma.blk HX3.out (by simp))
      clear hIa hma HI3 HM3 HX3
      go_wp2_with fail
      refine (clone_any bm bz m _ HI4.out Hg.out.n1 Hg.out.n2).mono ?_
      rintro e w5 ⟨bb, zb, rfl, hIb, hmb, hbb, hzb⟩
      have hsz4 := HM4.out.size
      have hlt4 := HIa.out.lt
      have HI5 := Lib.hid (HI4.out.mod hmb (by simp) (by simp))
      have HIa5 := Lib.hid (HIa.out.mod hmb (by simp) (by simp))
      have HIb5 := Lib.hid hIb
      have HM5 := Lib.hid (HM4.out.trans' hmb)
      have HX5 := Lib.hid (hmb.blk HX4.out (by simp))
      clear hIb hmb HI4 HIa HM4 HX4
      have hneb : bm ≠ bz := HI5.out.ne
      have hnea : ba ≠ za := HIa5.out.ne
      have hnebb : bb ≠ zb := HIb5.out.ne
      go_upto_block 2 with fail
      go_cut [12] (fun _ wx => IsM TM TZ wx bm bz (runF m (ds.take (min ds.length 60))) ∧ IsM TM TZ wx ba za m ∧ IsM TM TZ wx bb zb m ∧ Mod [] w wx ∧ Blk wx w.heap.size #[.int .i64 x0, .int .i64 x1, .int .i64 x2, .int .i64 x3] 22)
      case first =>
        go_wp2_with fail
        go_loopw [12] (fun s9 wr => ∃ k : Nat, s9 = .int .i64 k ∧ k ≤ ds.length ∧ k ≤ 60 ∧ IsM TM TZ wr bm bz (runF m (ds.take k)) ∧ IsM TM TZ wr ba za m ∧ IsM TM TZ wr bb zb m ∧ Mod [] w wr ∧ Blk wr w.heap.size #[.int .i64 x0, .int .i64 x1, .int .i64 x2, .int .i64 x3] 22) (fun s9 _ => 200 - (intOf s9).toNat)
        case atStart => exact ⟨0, rfl, Nat.zero_le _, by omega, HI5.out, HIa5.out, HIb5.out, HM5.out, HX5.out⟩
        case round =>
          obtain ⟨k, rfl, hk, hk6, hIm, hIa, hIb, hmr, hxr⟩ := hrel
          have HIm := Lib.hid hIm; have HIa := Lib.hid hIa; have HIb := Lib.hid hIb; have Hmr := Lib.hid hmr; have Hxr := Lib.hid hxr
          clear hIm hIa hIb hmr hxr
          by_cases hlt : k < ds.length
          · by_cases hlt2 : k < 60
            · obtain ⟨off, cc, y0, y1, y2, y3, hv', hget, hblt, hS⟩ := cmd_cells Hv2.out k hlt
              simp only [Value.slice.injEq] at hv'
              obtain ⟨rfl, _, rfl⟩ := hv'
              have HS := Lib.hid hS
              have Hst : Hid (runF m (ds.take (k + 1)) = (doF (runF m (ds.take k)) y0 y1 y2 y3).2) := by show _ = _; rw [run_snoc _ _ _ hlt, hget]; rfl
              clear hS hget
              obtain ⟨s0, s1, s2, s3⟩ := HS.out _ Hmr.out
              go_wp2_with fail
              refine (do_any bm bz (runF m (ds.take k)) y0 y1 y2 y3 _ HIm.out (good_run Hg.out _).toOk).mono ?_
              rintro e wd ⟨rfl, hId, hmd⟩
              have HId := Lib.hid hId; have Hmd := Lib.hid hmd; clear hId hmd
              go_wp2_with fail
              go_roundw
              case rel => exact ⟨k + 1, by go_num, by omega, by omega, by rw [Hst.out]; exact HId.out, HIa.out.mod Hmd.out (by simp; omega) (by simp; omega), HIb.out.mod Hmd.out (by simp; omega) (by simp; omega), Hmr.out.trans Hmd.out (by intro i hi h; simp at h; subst h; omega), Hmd.out.blk Hxr.out (by simp; omega)⟩
              case measure => simp [intOf]; omega
            · have hd : decide (k < 60) = false := by simpa using hlt2
              have hK : Hid (k = min ds.length 60) := by show k = min ds.length 60; omega
              go_wp2_with fail
              go_meet
              exact ⟨by rw [← hK.out]; exact HIm.out, HIa.out, HIb.out, Hmr.out, Hxr.out⟩
          · have hd : decide (k < ds.length) = false := by simpa using hlt
            have hK : Hid (k = min ds.length 60) := by show k = min ds.length 60; omega
            go_wp2_with fail
            go_meet
            exact ⟨by rw [← hK.out]; exact HIm.out, HIa.out, HIb.out, Hmr.out, Hxr.out⟩
      case rest =>
      obtain ⟨hIm, hIa, hIb, hmr, hxr⟩ := hcut
      go_upto_block 4 with fail
      go_cut [13] (fun _ wx => IsM TM TZ wx bm bz (runF m (ds.take (min ds.length 60))) ∧ IsM TM TZ wx ba za (runF m (ds.take (min ds.length 60))) ∧ IsM TM TZ wx bb zb m ∧ Mod [] w wx ∧ Blk wx w.heap.size #[.int .i64 x0, .int .i64 x1, .int .i64 x2, .int .i64 x3] 22)
      case first =>
        go_wp2_with fail
        go_loopw [13] (fun s9 wr => ∃ k : Nat, s9 = .int .i64 k ∧ k ≤ ds.length ∧ k ≤ 60 ∧ IsM TM TZ wr bm bz (runF m (ds.take (min ds.length 60))) ∧ IsM TM TZ wr ba za (runF m (ds.take k)) ∧ IsM TM TZ wr bb zb m ∧ Mod [] w wr ∧ Blk wr w.heap.size #[.int .i64 x0, .int .i64 x1, .int .i64 x2, .int .i64 x3] 22) (fun s9 _ => 200 - (intOf s9).toNat)
        case atStart => exact ⟨0, rfl, Nat.zero_le _, by omega, hIm, hIa, hIb, hmr, hxr⟩
        case round =>
          obtain ⟨k, rfl, hk, hk6, hIm, hIa, hIb, hmr, hxr⟩ := hrel
          have HIm := Lib.hid hIm; have HIa := Lib.hid hIa; have HIb := Lib.hid hIb; have Hmr := Lib.hid hmr; have Hxr := Lib.hid hxr
          clear hIm hIa hIb hmr hxr
          by_cases hlt : k < ds.length
          · by_cases hlt2 : k < 60
            · obtain ⟨off, cc, y0, y1, y2, y3, hv', hget, hblt, hS⟩ := cmd_cells Hv2.out k hlt
              simp only [Value.slice.injEq] at hv'
              obtain ⟨rfl, _, rfl⟩ := hv'
              have HS := Lib.hid hS
              have Hst : Hid (runF m (ds.take (k + 1)) = (doF (runF m (ds.take k)) y0 y1 y2 y3).2) := by show _ = _; rw [run_snoc _ _ _ hlt, hget]; rfl
              clear hS hget
              obtain ⟨s0, s1, s2, s3⟩ := HS.out _ Hmr.out
              go_wp2_with fail
              refine (do_any ba za (runF m (ds.take k)) y0 y1 y2 y3 _ HIa.out (good_run Hg.out _).toOk).mono ?_
              rintro e wd ⟨rfl, hId, hmd⟩
              have HId := Lib.hid hId; have Hmd := Lib.hid hmd; clear hId hmd
              go_wp2_with fail
              go_roundw
              case rel => exact ⟨k + 1, by go_num, by omega, by omega, HIm.out.mod Hmd.out (by simp; omega) (by simp; omega), by rw [Hst.out]; exact HId.out, HIb.out.mod Hmd.out (by simp; omega) (by simp; omega), Hmr.out.trans Hmd.out (by intro i hi h; simp at h; subst h; omega), Hmd.out.blk Hxr.out (by simp; omega)⟩
              case measure => simp [intOf]; omega
            · have hd : decide (k < 60) = false := by simpa using hlt2
              have hK : Hid (k = min ds.length 60) := by show k = min ds.length 60; omega
              go_wp2_with fail
              go_meet
              exact ⟨HIm.out, by rw [← hK.out]; exact HIa.out, HIb.out, Hmr.out, Hxr.out⟩
          · have hd : decide (k < ds.length) = false := by simpa using hlt
            have hK : Hid (k = min ds.length 60) := by show k = min ds.length 60; omega
            go_wp2_with fail
            go_meet
            exact ⟨HIm.out, by rw [← hK.out]; exact HIa.out, HIb.out, Hmr.out, Hxr.out⟩
      case rest =>
      obtain ⟨hIm, hIa, hIb, hmr, hxr⟩ := hcut
      generalize hM : runF m (ds.take (min ds.length 60)) = M at *
      have hgM : M.good := by rw [← hM]; exact good_run Hg.out _
      have hlM : m.like M := by rw [← hM]; exact like_run m _
      clear hM
      have hlen : M.zs.length = x0.toNat := by rw [hlM.len, Hl.out.len]; simp [newF]
      have HgM := Lib.hid hgM; have Hlen := Lib.hid hlen
      clear hgM hlM hlen
      have HIm := Lib.hid hIm; have HIa := Lib.hid hIa; have HIb := Lib.hid hIb; have Hmr := Lib.hid hmr; have Hxr := Lib.hid hxr
      clear hIm hIa hIb hmr hxr
      go_wp2_with fail
      refine (do_any bb zb m 0 0 0 0 _ (HIb.out.alloc _) Hg.out.toOk).mono ?_
      rintro e w6 ⟨rfl, hIb6, hm6⟩
      have e6 : doF m 0 0 0 0 = ((0, 1), m) := rfl
      rw [e6] at hIb6 ⊢
      have HIm6 := Lib.hid ((HIm.out.alloc (.cells #[.int .i64 0, .int .i64 0, .int .i64 0, .int .i64 0] 37)).mod hm6 (by simp; omega) (by simp; omega))
      have HIa6 := Lib.hid ((HIa.out.alloc (.cells #[.int .i64 0, .int .i64 0, .int .i64 0, .int .i64 0] 37)).mod hm6 (by simp; omega) (by simp; omega))
      have HM6 := Lib.hid ((Hmr.out.alloc (.cells #[.int .i64 0, .int .i64 0, .int .i64 0, .int .i64 0] 37)).trans hm6 (T := []) (by intro i hi h; simp at h; subst h; omega))
      have HX6 := Lib.hid (hm6.blk (Hxr.out.alloc _) (by simp; omega))
      clear hIb6 hm6 e6 HIm HIa HIb Hmr Hxr HI5 HIa5 HIb5 HM5 HX5
      have hsw6 := HM6.out.size
      go_wp2_with fail
      go_loopw [17] (fun s17 wr => ∃ k : Nat, s17 = .int .i64 k ∧ (k : Int) ≤ x0 ∧ IsM TM TZ wr bm bz M ∧ IsM TM TZ wr ba za M ∧ Mod [] w wr ∧ Blk wr w.heap.size #[.int .i64 x0, .int .i64 x1, .int .i64 x2, .int .i64 x3] 22) (fun s17 _ => 64 - (intOf s17).toNat)
      case atStart => exact ⟨0, rfl, by omega, HIm6.out, HIa6.out, HM6.out, HX6.out⟩
      case round =>
        obtain ⟨k, rfl, hk, hIm, hIa, hmr, hxr⟩ := hrel
        have HIm := Lib.hid hIm; have HIa := Lib.hid hIa; have Hmr := Lib.hid hmr; have Hxr := Lib.hid hxr
        have c0 := hxr.cell (i := 0) rfl
        clear hIm hIa hmr hxr
        have hxlt := Hxr.out.lt
        by_cases hlt : (k : Int) < x0
        · go_wp2_with fail
          refine (get_any bm bz M k _ HIm.out).mono ?_
          rintro e w7 ⟨rfl, hb7⟩
          have hN7 := Blk.new w7 #[.int .i64 (getF M k).1.1, .int .i64 (getF M k).1.2] 30
          have HIm7 := Lib.hid ((HIm.out.below hb7).alloc (.cells #[.int .i64 (getF M k).1.1, .int .i64 (getF M k).1.2] 30))
          have HIa7 := Lib.hid ((HIa.out.below hb7).alloc (.cells #[.int .i64 (getF M k).1.1, .int .i64 (getF M k).1.2] 30))
          have HM7 := Lib.hid ((Hmr.out.trans' (Mod.of_below hb7 [])).alloc (.cells #[.int .i64 (getF M k).1.1, .int .i64 (getF M k).1.2] 30))
          have HX7 := Lib.hid (((Mod.of_below hb7 []).blk Hxr.out (by simp)).alloc (.cells #[.int .i64 (getF M k).1.1, .int .i64 (getF M k).1.2] 30))
          clear hb7
          go_wp2_with fail
          refine (get_any ba za M k _ HIa7.out).mono ?_
          rintro e w8 ⟨rfl, hb8⟩
          have hN8 := (Mod.of_below hb8 []).blk hN7 (by simp)
          have n0 := hN8.cell (i := 0) rfl
          have n1 := hN8.cell (i := 1) rfl
          have hnlt := hN8.lt
          have HIm8 := Lib.hid ((HIm7.out.below hb8).alloc (.cells #[.int .i64 (getF M k).1.1, .int .i64 (getF M k).1.2] 30))
          have HIa8 := Lib.hid ((HIa7.out.below hb8).alloc (.cells #[.int .i64 (getF M k).1.1, .int .i64 (getF M k).1.2] 30))
          have HM8 := Lib.hid ((HM7.out.trans' (Mod.of_below hb8 [])).alloc (.cells #[.int .i64 (getF M k).1.1, .int .i64 (getF M k).1.2] 30))
          have HX8 := Lib.hid (((Mod.of_below hb8 []).blk HX7.out (by simp)).alloc (.cells #[.int .i64 (getF M k).1.1, .int .i64 (getF M k).1.2] 30))
          clear hb8 hN8 hN7
          go_wp2_with fail
          go_roundw
          case rel => exact ⟨k + 1, by go_num, by omega, HIm8.out, HIa8.out, HM8.out, HX8.out⟩
          case measure => simp [intOf]; omega
        · have hd : decide ((k : Int) < x0) = false := by simpa using hlt
          go_wp2_with fail
          refine (counts_any TM TZ bm bz M _ HIm.out HgM.out.n2).mono ?_
          rintro e w7 ⟨rfl, hb7⟩
          have HIa7 := Lib.hid (HIa.out.below hb7)
          have HM7 := Lib.hid (Hmr.out.trans' (Mod.of_below hb7 []))
          clear hb7
          go_wp2_with fail
          refine (counts_any TM TZ ba za M _ HIa7.out HgM.out.n2).mono ?_
          rintro e w8 ⟨rfl, hb8⟩
          have HM8 := Lib.hid (HM7.out.trans' (Mod.of_below hb8 []))
          clear hb8
          go_wp2_with fail
          go_ret
          exact ⟨rfl, HM8.out.below (Nat.le_refl _)⟩
  · refine (znew_no x0 x1 x2 x3 _ (by simpa using hok)).mono ?_
    rintro e w2 ⟨rfl, rfl⟩
    go_wp2_with fail
    go_ret
    exact ⟨rfl, HM1.out.below (Nat.le_refl _)⟩

end Go.Proofs.Ytojceddgmmapdaa
