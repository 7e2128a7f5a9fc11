/-
  Walks: IndexFunc over the zones, and enter: a zone is opened.
-/
import Derived.Test.YtojceddgmmapdaaZ1
namespace Go.Proofs.Ytojceddgmmapdaa
open Go.RowKit

theorem isImplicit_any (s l : Int) (w : World) : Calls Try.prog 62 #[.agg #[.int .i64 s, .int .i64 l]] w fun e w' => e = .returned (.bool (s == 1)) ∧ Below w.heap.size w w' := by
  go_enter Try.func62, Try.ntmps62
  go_wp2
  go_ret
  exact ⟨rfl, (Below.refl _ _).alloc (Nat.le_refl _) _⟩

theorem indexFunc_any (E : TypeId) (bz cap : Nat) (zs : List (Int × Int)) (r : List Value) (w : World) (hz : Blk w bz (zc zs ++ r).toArray E) (hn : zs.length ≤ 64) :
    Calls Try.prog 61 #[.slice (some ⟨bz, 0, none⟩) zs.length cap, .func (.func 62) #[] #[]] w fun e w' => e = .returned (.int .i64 (fidx zs)) ∧ Below w.heap.size w w' := by
  have Hz := Lib.hid hz; clear hz
  go_enter Try.func61, Try.ntmps61
  go_wp2
  go_loopw [8] (fun i wr => ∃ k : Nat, k ≤ zs.length ∧ i = .int .i64 k ∧ (∀ j, j < k → stOf zs j ≠ 1) ∧ Below w.heap.size w wr) (fun i _ => zs.length - (intOf i).toNat)
  case atStart => exact ⟨0, Nat.zero_le _, rfl, fun j hj => absurd hj (by omega), Below.refl _ _⟩
  case round =>
    obtain ⟨k, hk, rfl, hj, hb⟩ := hrel
    have Hj := Lib.hid hj; clear hj
    have Hb := Lib.hid hb; clear hb
    by_cases hlt : k < zs.length
    · have hc0 : wr.cell? ⟨bz, k * 2, none⟩ = some (.int .i64 (stOf zs k)) := (Hb.out.cell (p := ⟨bz, k * 2, none⟩) Hz.out.lt).trans (Hz.out.cell (zc_st zs r k hlt))
      have hc1 : wr.cell? ⟨bz, k * 2 + 1, none⟩ = some (.int .i64 (lnOf zs k)) := (Hb.out.cell (p := ⟨bz, k * 2 + 1, none⟩) Hz.out.lt).trans (Hz.out.cell (zc_ln zs r k hlt))
      have hB : w.heap.size ≤ wr.heap.size := Hb.out.size
      generalize hsk : stOf zs k = s at *
      generalize hlk : lnOf zs k = l at *
      have Hsk := Lib.hid hsk; clear hsk
      have Hlk := Lib.hid hlk; clear hlk
      by_cases h1 : s = 1
      · have hs1 : (s == 1) = true := by simpa using h1
        have Hs1 : Hid (s = 1) := h1; clear h1
        go_wp2_with (go_at_call 62; refine (isImplicit_any _ _ _).mono ?_; rintro e w' ⟨rfl, hb2⟩)
        go_ret
        exact ⟨by rw [fidx_some zs k hlt (Hsk.out.trans Hs1.out) Hj.out]; rfl, Hb.out.trans (Below.mono (by assumption) hB)⟩
      · have hs1 : (s == 1) = false := by simpa using h1
        have Hs1 : Hid (s ≠ 1) := h1; clear h1
        go_wp2_with (go_at_call 62; refine (isImplicit_any _ _ _).mono ?_; rintro e w' ⟨rfl, hb2⟩)
        go_roundw
        case rel => exact ⟨k + 1, by omega, by go_num, fun j hjk => by
          rcases Nat.lt_or_ge j k with h' | h'
          · exact Hj.out j h'
          · obtain rfl : j = k := by omega
            rw [Hsk.out]; exact Hs1.out, Hb.out.trans (Below.mono (by assumption) hB)⟩
        case measure => simp [intOf]; omega
    · have hd : decide (k < zs.length) = false := by simpa using hlt
      have hke : Hid (k = zs.length) := by show k = zs.length; omega
      go_wp2
      go_ret
      exact ⟨by rw [fidx_none zs (by rw [← hke.out]; exact Hj.out)]; rfl, Hb.out⟩

theorem IsM.setSt {T E : TypeId} {w : World} {bm bz : Nat} {m : Mc} (h : IsM T E w bm bz m) {i : Nat} (hi : i < m.zs.length) (s : Int) : IsM T E (w.setCell ⟨bz, i * 2, none⟩ (.int .i64 s)) bm bz (m.setSt i s) := by
  obtain ⟨⟨cap, h3⟩, ⟨r, h4⟩, h5⟩ := h
  refine ⟨⟨cap, ?_⟩, ⟨r, ?_⟩, h5⟩
  · have := h3.set_other (a := ⟨bz, i * 2, none⟩) (Ne.symm h5) (.int .i64 s)
    simpa [Mc.setSt] using this
  · have := h4.set (i * 2) (.int .i64 s)
    rwa [zc_setSt _ _ _ hi] at this
theorem IsM.setLn {T E : TypeId} {w : World} {bm bz : Nat} {m : Mc} (h : IsM T E w bm bz m) {i : Nat} (hi : i < m.zs.length) (s : Int) : IsM T E (w.setCell ⟨bz, i * 2 + 1, none⟩ (.int .i64 s)) bm bz (m.setLn i s) := by
  obtain ⟨⟨cap, h3⟩, ⟨r, h4⟩, h5⟩ := h
  refine ⟨⟨cap, ?_⟩, ⟨r, ?_⟩, h5⟩
  · have := h3.set_other (a := ⟨bz, i * 2 + 1, none⟩) (Ne.symm h5) (.int .i64 s)
    simpa [Mc.setLn] using this
  · have := h4.set (i * 2 + 1) (.int .i64 s)
    rwa [zc_setLn _ _ _ hi] at this

theorem IsM.cellSt {T E : TypeId} {w : World} {bm bz : Nat} {m : Mc} (h : IsM T E w bm bz m) {i : Nat} (hi : i < m.zs.length) : w.cell? ⟨bz, i * 2, none⟩ = some (.int .i64 (m.st i)) := by
  obtain ⟨r, h4⟩ := h.rows
  exact h4.cell (zc_st _ _ _ hi)
theorem IsM.cellLn {T E : TypeId} {w : World} {bm bz : Nat} {m : Mc} (h : IsM T E w bm bz m) {i : Nat} (hi : i < m.zs.length) : w.cell? ⟨bz, i * 2 + 1, none⟩ = some (.int .i64 (m.ln i)) := by
  obtain ⟨r, h4⟩ := h.rows
  exact h4.cell (zc_ln _ _ _ hi)
theorem IsM.frozen {T E : TypeId} {w : World} {bm bz : Nat} {m : Mc} (h : IsM T E w bm bz m) (o : Nat) : w.frozen? ⟨bz, o, none⟩ = false := by
  obtain ⟨r, h4⟩ := h.rows
  exact h4.frozen _
theorem IsM.cellO {T E : TypeId} {w : World} {bm bz : Nat} {m : Mc} (h : IsM T E w bm bz m) : w.cell? ⟨bm, 2, none⟩ = some (.int .i64 m.op) := by
  obtain ⟨cap, h4⟩ := h.mach
  exact h4.cell rfl
theorem IsM.cellB {T E : TypeId} {w : World} {bm bz : Nat} {m : Mc} (h : IsM T E w bm bz m) : w.cell? ⟨bm, 1, none⟩ = some (.int .i64 m.bl) := by
  obtain ⟨cap, h4⟩ := h.mach
  exact h4.cell rfl
theorem IsM.cellA {T E : TypeId} {w : World} {bm bz : Nat} {m : Mc} (h : IsM T E w bm bz m) : w.cell? ⟨bm, 3, none⟩ = some (.int .i64 m.ac) := by
  obtain ⟨cap, h4⟩ := h.mach
  exact h4.cell rfl
theorem IsM.cellZ {T E : TypeId} {w : World} {bm bz : Nat} {m : Mc} (h : IsM T E w bm bz m) : ∃ cap : Nat, w.cell? ⟨bm, 0, none⟩ = some (.slice (some ⟨bz, 0, none⟩) m.zs.length cap) := by
  obtain ⟨cap, h4⟩ := h.mach
  exact ⟨cap, h4.cell rfl⟩

@[simp] theorem Mc.setSt_len (m : Mc) (i : Nat) (s : Int) : (m.setSt i s).zs.length = m.zs.length := by simp [Mc.setSt]
@[simp] theorem Mc.setLn_len (m : Mc) (i : Nat) (s : Int) : (m.setLn i s).zs.length = m.zs.length := by simp [Mc.setLn]

abbrev TM : TypeId := 84
abbrev TZ : TypeId := 30

theorem IsM.below {T E : TypeId} {w w' : World} {bm bz : Nat} {m : Mc} (h : IsM T E w bm bz m) (hb : Below w.heap.size w w') : IsM T E w' bm bz m :=
  h.mod (Mod.of_below hb []) (by simp) (by simp)

set_option maxHeartbeats 1000000 in
theorem enter_any (bm bz : Nat) (m : Mc) (i : Nat) (s : Int) (w : World) (hI : IsM TM TZ w bm bz m) (hn : m.zs.length ≤ 64) (hi : i < m.zs.length) :
    Calls Try.prog 60 #[.pointer (some ⟨bm, 0, none⟩), .pointer (some ⟨bz, i * 2, none⟩), .int .i64 s] w fun e w' =>
      e = .returned (.int .i64 (enterF m i s).1) ∧ IsM TM TZ w' bm bz (enterF m i s).2 ∧ Mod [bz] w w' := by
  have HI := Lib.hid hI; clear hI
  have hcs := HI.out.cellSt hi
  have hfz := HI.out.frozen
  have hbz : bz < w.heap.size := HI.out.lt.2
  have Hn := Lib.hid hn; clear hn
  by_cases ho : isOp (m.st i) = true
  · by_cases hlt : m.st i < s
    · have hfin : enterF m i s = (0, m.setSt i s) := by simp [enterF, ho, hlt]
      have Hfin := Lib.hid hfin; clear hfin
      have Hup := Lib.hid (HI.out.setSt hi s)
      generalize m.st i = st at *
      go_enter Try.func60, Try.ntmps60
      go_wp2_with (go_at_call 41; refine (opened_any _ _).mono ?_; rintro e w' ⟨rfl, rfl⟩)
      go_ret
      rw [Hfin.out]
      exact ⟨rfl, Hup.out, (Mod.refl _ _).set (by simp) _⟩
    · have hfin : enterF m i s = (0, m.setSt i (m.st i)) := by simp [enterF, ho, hlt]
      have Hfin := Lib.hid hfin; clear hfin
      have Hup := Lib.hid (HI.out.setSt hi (m.st i))
      generalize m.st i = st at *
      have hle : s ≤ st := by omega
      go_enter Try.func60, Try.ntmps60
      go_wp2_with (go_at_call 41; refine (opened_any _ _).mono ?_; rintro e w' ⟨rfl, rfl⟩)
      go_ret
      rw [Hfin.out]
      exact ⟨rfl, Hup.out, (Mod.refl _ _).set (by simp) _⟩
  · have ho' : isOp (m.st i) = false := by simpa using ho
    clear ho
    obtain ⟨cap, hcz⟩ := HI.out.cellZ
    have F : ∀ w1, Below w.heap.size w w1 → w1.cell? ⟨bz, i * 2, none⟩ = some (.int .i64 (m.st i)) ∧ w1.cell? ⟨bm, 2, none⟩ = some (.int .i64 m.op) ∧ w1.cell? ⟨bm, 3, none⟩ = some (.int .i64 m.ac) ∧
        w1.cell? ⟨bm, 0, none⟩ = some (.slice (some ⟨bz, 0, none⟩) m.zs.length cap) ∧ (∀ o, w1.frozen? ⟨bz, o, none⟩ = false) ∧ ∃ r : List Value, Blk w1 bz (zc m.zs ++ r).toArray TZ := fun w1 hb =>
      have h1 := HI.out.below hb
      ⟨h1.cellSt hi, h1.cellO, h1.cellA, (hb.cell (p := ⟨bm, 0, none⟩) HI.out.lt.1).trans hcz, h1.frozen, h1.rows⟩
    have HF := Lib.hid F; clear F
    have hcnt : ∀ w1, Below w.heap.size w w1 → Calls Try.prog 18 #[.pointer (some ⟨bm, 0, none⟩)] w1 fun e w' => e = .returned (.tuple #[.int .i64 (cntO m.zs), .int .i64 (cntA m.zs)]) ∧ Below w1.heap.size w1 w' :=
      fun w1 hb => counts_any TM TZ bm bz m _ (HI.out.below hb) Hn.out
    have Hcnt := Lib.hid hcnt; clear hcnt
    by_cases hA : m.st i = 0 ∧ m.ac ≤ cntA m.zs
    · have hfin : enterF m i s = (5, m) := by unfold enterF; rw [if_neg (by simp [ho']), if_pos hA]
      have Hfin := Lib.hid hfin; clear hfin
      have HI1 := Lib.hid (fun w1 hb => HI.out.below (w' := w1) hb)
      obtain ⟨h0, hA⟩ := hA
      rw [h0] at hcs ho' HF
      clear h0 HI hcz
      generalize cntA m.zs = ca at *
      generalize cntO m.zs = co at *
      generalize m.ac = ac at *
      generalize m.op = op at *
      go_enter Try.func60, Try.ntmps60
      go_wp2_with (first
        | (go_at_call 41; refine (opened_any _ _).mono ?_; rintro e w' ⟨rfl, rfl⟩)
        | (go_at_call 18; refine (Hcnt.out _ (Below.refl _ _)).mono ?_; rintro e w1 ⟨rfl, hb⟩; obtain ⟨k0, k1, k2, k3, k4, k5⟩ := HF.out _ hb))
      go_ret
      rw [Hfin.out]
      exact ⟨rfl, HI1.out _ (by assumption), Mod.of_below (by assumption) _⟩
    · by_cases hO : m.op ≤ cntO m.zs
      · rcases fidx_cases m.zs with ⟨hf, hno⟩ | ⟨j, hj, hf, hj1, _⟩
        · have hfin : enterF m i s = (5, m) := by unfold enterF; rw [if_neg (by simp [ho']), if_neg hA, if_pos hO, hf]; rfl
          have Hfin := Lib.hid hfin; clear hfin hno
          have HI1 := Lib.hid (fun w1 hb => HI.out.below (w' := w1) hb)
          clear HI hcz
          generalize cntA m.zs = ca at *
          generalize cntO m.zs = co at *
          generalize m.ac = ac at *
          generalize m.op = op at *
          generalize m.st i = st at *
          have Hf := Lib.hid hf; clear hf
          by_cases h0 : st = 0
          · subst h0
            have hlt : ca < ac := by omega
            clear hA
            go_enter Try.func60, Try.ntmps60
            go_wp2_with (first
              | (go_at_call 41; refine (opened_any _ _).mono ?_; rintro e w' ⟨rfl, rfl⟩)
              | (go_at_call 18; refine (Hcnt.out _ (Below.refl _ _)).mono ?_; rintro e w1 ⟨rfl, hb⟩; obtain ⟨k0, k1, k2, k3, k4, r5, k5⟩ := HF.out _ hb; have K5 := Lib.hid k5; clear k5)
              | (go_at_call 61; refine (indexFunc_any TZ bz cap m.zs _ _ (Hid.out (by assumption)) Hn.out).mono ?_; rintro e w2 ⟨rfl, hb2⟩; rw [Hf.out]))
            go_ret
            rw [Hfin.out]
            have hb3 := hb.trans (hb2.mono hb.size)
            exact ⟨rfl, HI1.out _ hb3, Mod.of_below hb3 _⟩
          · have hb0 : (st == 0) = false := by simpa using h0
            clear hA h0
            go_enter Try.func60, Try.ntmps60
            go_wp2_with (first
              | (go_at_call 41; refine (opened_any _ _).mono ?_; rintro e w' ⟨rfl, rfl⟩)
              | (go_at_call 18; refine (Hcnt.out _ (Below.refl _ _)).mono ?_; rintro e w1 ⟨rfl, hb⟩; obtain ⟨k0, k1, k2, k3, k4, r5, k5⟩ := HF.out _ hb; have K5 := Lib.hid k5; clear k5)
              | (go_at_call 61; refine (indexFunc_any TZ bz cap m.zs _ _ (Hid.out (by assumption)) Hn.out).mono ?_; rintro e w2 ⟨rfl, hb2⟩; rw [Hf.out]))
            go_ret
            rw [Hfin.out]
            have hb3 := hb.trans (hb2.mono hb.size)
            exact ⟨rfl, HI1.out _ hb3, Mod.of_below hb3 _⟩
        · have hfin : enterF m i s = (0, (m.setSt j 3).setSt i s) := by
            unfold enterF; rw [if_neg (by simp [ho']), if_neg hA, if_pos hO, if_neg (by omega), hf]; rfl
          have hji : j ≠ i := by rintro rfl; have e : m.st j = 1 := hj1; rw [e] at ho'; exact absurd ho' (by decide)
          have hG : ∀ w1, Below w.heap.size w w1 → w1.cell? ⟨bz, j * 2, none⟩ = some (.int .i64 1) := fun w1 hb => by rw [← hj1]; exact (HI.out.below hb).cellSt hj
          have HG := Lib.hid hG; clear hG
          have Hfin := Lib.hid hfin; clear hfin hj1
          have HI1 := Lib.hid (fun w1 hb => ((HI.out.below (w' := w1) hb).setSt hj 3).setSt (i := i) (by simpa using hi) s)
          clear HI hcz
          generalize cntA m.zs = ca at *
          generalize cntO m.zs = co at *
          generalize m.ac = ac at *
          generalize m.op = op at *
          generalize m.st i = st at *
          have Hf := Lib.hid hf; clear hf
          have hn := Hn.out
          by_cases h0 : st = 0
          · subst h0
            have hlt : ca < ac := by omega
            clear hA
            go_enter Try.func60, Try.ntmps60
            go_wp2_with (first
              | (go_at_call 41; refine (opened_any _ _).mono ?_; rintro e w' ⟨rfl, rfl⟩)
              | (go_at_call 18; refine (Hcnt.out _ (Below.refl _ _)).mono ?_; rintro e w1 ⟨rfl, hb⟩; obtain ⟨k0, k1, k2, k3, k4, r5, k5⟩ := HF.out _ hb; have K5 := Lib.hid k5; clear k5)
              | (go_at_call 61; refine (indexFunc_any TZ bz cap m.zs _ _ (Hid.out (by assumption)) Hn.out).mono ?_; rintro e w2 ⟨rfl, hb2⟩; rw [Hf.out]; obtain ⟨l0, l1, l2, l3, l4, r6, l5⟩ := HF.out _ (hb.trans (hb2.mono hb.size)); have L5 := Lib.hid l5; clear l5; have l6 := HG.out _ (hb.trans (hb2.mono hb.size))))
            go_ret
            rw [Hfin.out]
            have hb3 := hb.trans (hb2.mono hb.size)
            exact ⟨rfl, HI1.out _ hb3, ((Mod.of_below hb3 _).set (by simp) _).set (by simp) _⟩
          · have hb0 : (st == 0) = false := by simpa using h0
            clear hA h0
            go_enter Try.func60, Try.ntmps60
            go_wp2_with (first
              | (go_at_call 41; refine (opened_any _ _).mono ?_; rintro e w' ⟨rfl, rfl⟩)
              | (go_at_call 18; refine (Hcnt.out _ (Below.refl _ _)).mono ?_; rintro e w1 ⟨rfl, hb⟩; obtain ⟨k0, k1, k2, k3, k4, r5, k5⟩ := HF.out _ hb; have K5 := Lib.hid k5; clear k5)
              | (go_at_call 61; refine (indexFunc_any TZ bz cap m.zs _ _ (Hid.out (by assumption)) Hn.out).mono ?_; rintro e w2 ⟨rfl, hb2⟩; rw [Hf.out]; obtain ⟨l0, l1, l2, l3, l4, r6, l5⟩ := HF.out _ (hb.trans (hb2.mono hb.size)); have L5 := Lib.hid l5; clear l5; have l6 := HG.out _ (hb.trans (hb2.mono hb.size))))
            go_ret
            rw [Hfin.out]
            have hb3 := hb.trans (hb2.mono hb.size)
            exact ⟨rfl, HI1.out _ hb3, ((Mod.of_below hb3 _).set (by simp) _).set (by simp) _⟩
      · have hfin : enterF m i s = (0, m.setSt i s) := by simp [enterF, ho', hA, hO]
        have Hfin := Lib.hid hfin; clear hfin
        have HI1 := Lib.hid (fun w1 hb => (HI.out.below (w' := w1) hb).setSt hi s)
        clear HI hcz
        generalize cntA m.zs = ca at *
        generalize cntO m.zs = co at *
        generalize m.ac = ac at *
        generalize m.op = op at *
        generalize m.st i = st at *
        by_cases h0 : st = 0
        · subst h0
          have hlt : ca < ac := by omega
          clear hA
          go_enter Try.func60, Try.ntmps60
          go_wp2_with (first
            | (go_at_call 41; refine (opened_any _ _).mono ?_; rintro e w' ⟨rfl, rfl⟩)
            | (go_at_call 18; refine (Hcnt.out _ (Below.refl _ _)).mono ?_; rintro e w1 ⟨rfl, hb⟩; obtain ⟨k0, k1, k2, k3, k4, k5⟩ := HF.out _ hb))
          go_ret
          rw [Hfin.out]
          exact ⟨rfl, HI1.out _ (by assumption), (Mod.of_below (by assumption) _).set (by simp) _⟩
        · have hb0 : (st == 0) = false := by simpa using h0
          clear hA h0
          go_enter Try.func60, Try.ntmps60
          go_wp2_with (first
            | (go_at_call 41; refine (opened_any _ _).mono ?_; rintro e w' ⟨rfl, rfl⟩)
            | (go_at_call 18; refine (Hcnt.out _ (Below.refl _ _)).mono ?_; rintro e w1 ⟨rfl, hb⟩; obtain ⟨k0, k1, k2, k3, k4, k5⟩ := HF.out _ hb))
          go_ret
          rw [Hfin.out]
          exact ⟨rfl, HI1.out _ (by assumption), (Mod.of_below (by assumption) _).set (by simp) _⟩

end Go.Proofs.Ytojceddgmmapdaa
