/-
  Walk of the law ZoneFrees.
-/
import Derived.Test.YtojceddgmmapdaaZL3
namespace Go.Proofs.Ytojceddgmmapdaa
open Go.RowKit

/-- So many zones, of which k have one block. -/
def fz (A k : Nat) : Mc := ⟨List.replicate k (1, 1) ++ List.replicate (A + 1 - k) (0, 0), 4, A, A⟩

theorem fz_len (A k : Nat) (h : k ≤ A) : (fz A k).zs.length = A + 1 := by simp [fz]; omega

theorem fz_new (A : Nat) : newF ((A : Int) + 1) 4 A A = fz A 0 := by
  unfold newF fz
  have : ((A : Int) + 1).toNat = A + 1 - 0 := by omega
  rw [this]; rfl

theorem fz_st (A k j : Nat) : stOf (fz A k).zs j = if j < k then 1 else 0 := by
  simp only [stOf, fz, List.getD_eq_getElem?_getD]
  split
  · rename_i h
    rw [List.getElem?_append_left (by simpa using h)]; simp [h]
  · rename_i h
    rw [List.getElem?_append_right (by simp; omega)]
    simp only [List.length_replicate, List.getElem?_replicate]
    split <;> rfl
theorem fz_ln (A k j : Nat) : lnOf (fz A k).zs j = if j < k then 1 else 0 := by
  simp only [lnOf, fz, List.getD_eq_getElem?_getD]
  split
  · rename_i h
    rw [List.getElem?_append_left (by simpa using h)]; simp [h]
  · rename_i h
    rw [List.getElem?_append_right (by simp; omega)]
    simp only [List.length_replicate, List.getElem?_replicate]
    split <;> rfl

theorem fz_ok (A k : Nat) (h1 : 1 ≤ A) (h2 : A ≤ 8) (hk : k ≤ A) : (fz A k).ok := by
  have hl := fz_len A k hk
  refine ⟨by omega, by omega, by show (1 : Int) ≤ 4; decide, by show (4 : Int) ≤ 4096; decide, by show (1 : Int) ≤ A; omega, Int.le_refl _, by rw [hl]; show (A : Int) ≤ _; omega, fun i hi => ?_⟩
  rw [fz_st, fz_ln]
  show 0 ≤ (if i < k then (1 : Int) else 0) ∧ _ ∧ _ ∧ (if i < k then (1 : Int) else 0) ≤ 4
  split <;> decide

theorem filter_rep (p : Int → Bool) (k : Nat) (a b : Int) : ((List.replicate k (a, b)).filter fun z => p z.1).length = if p a then k else 0 := by
  by_cases h : p a = true
  · rw [List.filter_eq_self.2 (by intro z hz; rw [(List.mem_replicate.1 hz).2]; exact h)]; simp [h]
  · rw [List.filter_eq_nil_iff.2 (by intro z hz; rw [(List.mem_replicate.1 hz).2]; exact h)]; simp [h]
theorem fz_cntO (A k : Nat) : cntO (fz A k).zs = k := by
  unfold cntO fz; rw [List.filter_append, List.length_append, filter_rep, filter_rep]; simp [isOp]
theorem fz_cntA (A k : Nat) : cntA (fz A k).zs = k := by
  unfold cntA fz; rw [List.filter_append, List.length_append, filter_rep, filter_rep]; simp [isAc]

theorem fz_set (A k : Nat) (h : k < A) : (fz A k).zs.set k (1, 1) = (fz A (k + 1)).zs := by
  show (List.replicate k ((1 : Int), (1 : Int)) ++ List.replicate (A + 1 - k) (0, 0)).set k (1, 1) = List.replicate (k + 1) (1, 1) ++ List.replicate (A + 1 - (k + 1)) (0, 0)
  apply List.ext_getElem?
  intro j
  rw [List.getElem?_set]
  by_cases e : k = j
  · subst e
    rw [if_pos rfl, if_pos (by simp; omega), List.getElem?_append_left (by simp)]
    simp
  · rw [if_neg e]
    by_cases h1 : j < k
    · rw [List.getElem?_append_left (by simpa using h1), List.getElem?_append_left (by simp; omega)]
      simp [h1, Nat.lt_succ_of_lt h1]
    · rw [List.getElem?_append_right (by simp; omega), List.getElem?_append_right (by simp; omega)]
      simp only [List.length_replicate, List.getElem?_replicate]
      have : (j - k < A + 1 - k) ↔ (j - (k + 1) < A + 1 - (k + 1)) := by omega
      simp [this]

/-- A first block into an Empty zone, where there is room for one more that is open and active. -/
theorem first_block (m : Mc) (z : Nat) (hz : z < m.zs.length) (hs : m.st z = 0) (hl : m.ln z = 0) (hb : m.bl = 4) (hA : cntA m.zs < m.ac) (hO : cntO m.zs < m.op) :
    doF m 2 z 0 1 = ((0, 0), { m with zs := m.zs.set z (1, 1) }) := by
  unfold doF
  rw [if_neg (by decide), if_neg (by omega), Int.toNat_natCast]
  unfold verbF
  rw [if_neg (by decide), if_pos rfl, if_neg (by rw [spanF_mk]; simp; omega), if_neg (by rw [hs]; decide), if_neg (by rw [spanF_mk]; simp; omega)]
  have e1 : enterF m z 1 = (0, m.setSt z 1) := by
    unfold enterF
    rw [if_neg (by rw [hs]; decide), if_neg (by omega), if_neg (by omega)]
  unfold growF
  rw [e1, hl, hb]
  simp only [ne_eq, not_true, if_false]
  rw [if_neg (by decide)]
  refine Prod.ext rfl ?_
  show Mc.mk _ _ _ _ = _
  congr 1
  show (m.zs.set z (1, m.ln z)).set z ((m.setSt z 1).st z, 0 + 1) = _
  rw [Mc.st_setSt _ _ hz, if_pos rfl, List.set_set]
  rfl

theorem no_block (m : Mc) (z : Nat) (hz : z < m.zs.length) (hs : m.st z = 0) (hl : m.ln z = 0) (hb : m.bl = 4) (hA : m.ac ≤ cntA m.zs) :
    doF m 2 z 0 1 = ((0, 5), m) := by
  unfold doF
  rw [if_neg (by decide), if_neg (by omega), Int.toNat_natCast]
  unfold verbF
  rw [if_neg (by decide), if_pos rfl, if_neg (by rw [spanF_mk]; simp; omega), if_neg (by rw [hs]; decide), if_neg (by rw [spanF_mk]; simp; omega)]
  have e1 : enterF m z 1 = (5, m) := by
    unfold enterF
    rw [if_neg (by rw [hs]; decide), if_pos ⟨hs, hA⟩]
  unfold growF
  rw [e1]
  rfl

theorem fz_append (A k : Nat) (h : k < A) : doF (fz A k) 2 k 0 1 = ((0, 0), fz A (k + 1)) := by
  rw [first_block (fz A k) k (by rw [fz_len _ _ (by omega)]; omega) (by show stOf _ _ = _; rw [fz_st]; simp) (by show lnOf _ _ = _; rw [fz_ln]; simp) rfl (by rw [fz_cntA]; show (k : Int) < A; omega) (by rw [fz_cntO]; show (k : Int) < A; omega), fz_set A k h]
  rfl
theorem fz_append_no (A : Nat) : doF (fz A A) 2 A 0 1 = ((0, 5), fz A A) :=
  no_block (fz A A) A (by rw [fz_len _ _ (Nat.le_refl _)]; omega) (by show stOf _ _ = _; rw [fz_st]; simp) (by show lnOf _ _ = _; rw [fz_ln]; simp) rfl (by rw [fz_cntA]; exact Int.le_refl _)

/-- The machine with one zone finished, or reset. -/
def fzF (A q : Nat) (p : Int × Int) : Mc := { fz A A with zs := (fz A A).zs.set q p }

theorem fz_finish (A q : Nat) (h : q < A) : doF (fz A A) 4 q 0 0 = ((0, 0), fzF A q (4, 1)) := by
  have hl := fz_len A A (Nat.le_refl _)
  unfold doF
  rw [if_neg (by decide), if_neg (by omega), Int.toNat_natCast]
  unfold verbF
  rw [if_neg (by decide), if_neg (by decide), if_neg (by decide), if_pos rfl]
  unfold Mc.setSt fzF
  have : (fz A A).ln q = 1 := by show lnOf _ _ = _; rw [fz_ln, if_pos h]
  rw [this]
theorem fz_reset (A q : Nat) (h : q < A) : doF (fz A A) 3 q 0 0 = ((0, 0), fzF A q (0, 0)) := by
  have hl := fz_len A A (Nat.le_refl _)
  unfold doF
  rw [if_neg (by decide), if_neg (by omega), Int.toNat_natCast]
  rfl

theorem fzF_ok (A q : Nat) (p : Int × Int) (h1 : 1 ≤ A) (h2 : A ≤ 8) (h : q < A) (hp : p = (4, 1) ∨ p = (0, 0)) : (fzF A q p).ok := by
  have hl := fz_len A A (Nat.le_refl _)
  rcases hp with rfl | rfl
  · exact ok_set (fz_ok A A h1 h2 (Nat.le_refl _)) (by omega) (by decide) (by decide) (by decide) (by show (1 : Int) ≤ 4; decide)
  · exact ok_set (fz_ok A A h1 h2 (Nat.le_refl _)) (by omega) (by decide) (by decide) (by decide) (by show (0 : Int) ≤ 4; decide)

theorem fzF_append (A q : Nat) (p : Int × Int) (h : q < A) (hp : p = (4, 1) ∨ p = (0, 0)) : ∃ m, doF (fzF A q p) 2 A 0 1 = ((0, 0), m) ∧ cntO m.zs = A ∧ cntA m.zs = A ∧ m.zs.length = A + 1 := by
  have hl := fz_len A A (Nat.le_refl _)
  have hq : q < (fz A A).zs.length := by omega
  have s0 : stOf (fz A A).zs q = 1 := by rw [fz_st, if_pos h]
  have hpo : isOp p.1 = false := by rcases hp with rfl | rfl <;> rfl
  have hpa : isAc p.1 = false := by rcases hp with rfl | rfl <;> rfl
  have c1 : cntO (fzF A q p).zs = A - 1 := by
    show cntO ((fz A A).zs.set q p) = _
    rw [cntO_set _ _ hq, fz_cntO, s0, hpo]; simp [isOp]
  have c2 : cntA (fzF A q p).zs = A - 1 := by
    show cntA ((fz A A).zs.set q p) = _
    rw [cntA_set _ _ hq, fz_cntA, s0, hpa]; simp [isAc]
  have hA : A < (fzF A q p).zs.length := by show A < ((fz A A).zs.set q p).length; simp; omega
  have sA : stOf (fzF A q p).zs A = 0 := by show stOf ((fz A A).zs.set q p) A = 0; rw [stOf_set _ _ hq, if_neg (by omega), fz_st, if_neg (by omega)]
  have lA : lnOf (fzF A q p).zs A = 0 := by show lnOf ((fz A A).zs.set q p) A = 0; rw [lnOf_set _ _ hq, if_neg (by omega), fz_ln, if_neg (by omega)]
  refine ⟨_, first_block (fzF A q p) A hA sA lA rfl (by rw [c2]; show (A : Int) - 1 < A; omega) (by rw [c1]; show (A : Int) - 1 < A; omega), ?_, ?_, ?_⟩
  · show cntO ((fzF A q p).zs.set A (1, 1)) = _
    rw [cntO_set _ _ hA, c1, sA]; simp [isOp]
  · show cntA ((fzF A q p).zs.set A (1, 1)) = _
    rw [cntA_set _ _ hA, c2, sA]; simp [isAc]
  · show ((fzF A q p).zs.set A (1, 1)).length = _
    show (((fz A A).zs.set q p).set A (1, 1)).length = _
    simp; omega

set_option maxHeartbeats 2000000 in
set_option maxRecDepth 100000 in
theorem zoneFrees_walk (x y : Int) (rs : Bool) (w : World) :
    Calls Try.prog 5 #[.int .i64 x, .int .i64 y, .bool rs] w fun e w' => e = .returned (.bool true) ∧ Below w.heap.size w w' := by
  go_enter Try.func5, Try.ntmps5
  go_wp2_with fail
  refine (speaks05 _).mono ?_
  rintro e w1 ⟨rfl, hb1⟩
  obtain ⟨r, hr, r0, r1⟩ : ∃ r, bits BinOp.and IntKind.i64 x 7 = r ∧ 0 ≤ r ∧ r ≤ 7 := ⟨_, i64_and7 x, by omega, by omega⟩
  go_upto_region 3 with fail
  go_cut [0] (fun s0 wx => ∃ a : Nat, s0 = .int .i64 a ∧ 1 ≤ a ∧ a ≤ 8 ∧ w1 = wx)
  case first =>
    go_wp2_with fail
    go_meet
    exact ⟨(1 + r).toNat, by rw [Int.toNat_of_nonneg (by omega)], by omega, by omega, rfl⟩
  case rest =>
    obtain ⟨a, rfl, a1, a2, rfl⟩ := hcut
    clear hr r0 r1
    have t1 : -(a : Int) < y.tmod a := by
      rcases Int.le_total 0 y with h | h
      · have := Int.tmod_nonneg (a : Int) h; omega
      · have := Int.lt_tmod_of_pos y (b := a) (by omega); omega
    have t2 : y.tmod a < a := Int.tmod_lt_of_pos _ (by omega)
    go_upto_region 4 with fail
    go_cut [1] (fun s1 wx => ∃ q : Nat, s1 = .int .i64 q ∧ q < a ∧ w1 = wx)
    case first =>
      go_wp2_with fail
      go_meet
      have e2 := Int.emod_nonneg (y.tmod a + a) (show (a : Int) ≠ 0 by omega)
      have e3 := Int.emod_lt_of_pos (y.tmod a + a) (show (0 : Int) < a by omega)
      exact ⟨((y.tmod a + a) % a).toNat, by rw [Int.toNat_of_nonneg e2], by omega, rfl⟩
    case rest =>
      obtain ⟨q, rfl, hq, rfl⟩ := hcut
      clear t1 t2
      have hok : newOk ((a : Int) + 1) 4 a a = true := by simp [newOk]; omega
      have Hok := Lib.hid hok; clear hok
      go_wp2_with fail
      refine (znew_ok ((a : Int) + 1) 4 a a _ Hok.out).mono ?_
      rintro e w2 ⟨bm, bz, rfl, hI2, hm2, hb2, hb3⟩
      rw [fz_new] at hI2
      have hsw := hb1.size
      have hM2 : Mod [] w w2 := (Mod.of_below hb1 []).trans' hm2
      have HM2 := Lib.hid hM2; clear hM2 hm2 hb1
      go_wp2_with fail
      go_loopw [9] (fun s9 wr => ∃ k : Nat, s9 = .int .i64 k ∧ k ≤ a ∧ IsM TM TZ wr bm bz (fz a k) ∧ Mod [] w wr) (fun s9 _ => a - (intOf s9).toNat)
      case atStart => exact ⟨0, rfl, by omega, hI2, HM2.out⟩
      case round =>
        obtain ⟨k, rfl, hk, hIr, hmr⟩ := hrel
        have HIr := Lib.hid hIr; clear hIr
        have Hmr := Lib.hid hmr; clear hmr
        by_cases hlt : k < a
        · have Hdo := Lib.hid (fz_append a k hlt)
          go_wp2_with fail
          refine (do_any bm bz (fz a k) 2 k 0 1 _ HIr.out (fz_ok a k a1 a2 hk)).mono ?_
          rintro e wd ⟨rfl, hId, hmd⟩
          rw [Hdo.out] at hId ⊢
          have HId := Lib.hid hId; clear hId
          go_wp2_with fail
          go_roundw
          case rel => exact ⟨k + 1, by go_num, by omega, HId.out, Hmr.out.trans hmd (by intro i hi h; simp at h; subst h; omega)⟩
          case measure => simp [intOf]; omega
        · have hd : decide (k < a) = false := by simpa using hlt
          have hke : Hid (k = a) := by show k = a; omega
          have HIa : Hid (IsM TM TZ wr bm bz (fz a a)) := by have := HIr.out; rw [hke.out] at this; exact this
          clear HIr
          have Hdo := Lib.hid (fz_append_no a)
          go_wp2_with fail
          refine (do_any bm bz (fz a a) 2 a 0 1 _ HIa.out (fz_ok a a a1 a2 (Nat.le_refl _))).mono ?_
          rintro e w3 ⟨rfl, hI3, hm3⟩
          rw [Hdo.out] at hI3 ⊢
          have HI3 := Lib.hid hI3; clear hI3
          have HM3 := Lib.hid (Hmr.out.trans hm3 (T := []) (by intro i hi h; simp at h; subst h; omega))
          clear hm3 HIa
          cases rs with
          | true =>
            obtain ⟨m9, hm9, c1, c2, c3⟩ := fzF_append a q (0, 0) hq (.inr rfl)
            have H9 := Lib.hid hm9; have C1 := Lib.hid c1; have C2 := Lib.hid c2; clear hm9 c1 c2
            have Hr := Lib.hid (fz_reset a q hq)
            go_wp2_with fail
            refine (do_any bm bz (fz a a) 3 q 0 0 _ HI3.out (fz_ok a a a1 a2 (Nat.le_refl _))).mono ?_
            rintro e w4 ⟨rfl, hI4, hm4⟩
            rw [Hr.out] at hI4 ⊢
            have HI4 := Lib.hid hI4; clear hI4
            have HM4 := Lib.hid (HM3.out.trans hm4 (T := []) (by intro i hi h; simp at h; subst h; omega))
            clear hm4
            go_wp2_with fail
            refine (do_any bm bz _ 2 a 0 1 _ HI4.out (fzF_ok a q (0, 0) a1 a2 hq (.inr rfl))).mono ?_
            rintro e w5 ⟨rfl, hI5, hm5⟩
            rw [H9.out] at hI5 ⊢
            have HI5 := Lib.hid hI5; clear hI5
            have HM5 := Lib.hid (HM4.out.trans hm5 (T := []) (by intro i hi h; simp at h; subst h; omega))
            clear hm5
            go_wp2_with fail
            refine (counts_any TM TZ bm bz m9 _ HI5.out (by omega)).mono ?_
            rintro e w6 ⟨rfl, hb6⟩
            rw [C1.out, C2.out]
            have HM6 := Lib.hid (HM5.out.trans' (Mod.of_below hb6 []))
            clear hb6
            go_wp2_with fail
            go_ret
            exact ⟨rfl, HM6.out.below (Nat.le_refl _)⟩
          | false =>
            obtain ⟨m9, hm9, c1, c2, c3⟩ := fzF_append a q (4, 1) hq (.inl rfl)
            have H9 := Lib.hid hm9; have C1 := Lib.hid c1; have C2 := Lib.hid c2; clear hm9 c1 c2
            have Hr := Lib.hid (fz_finish a q hq)
            go_wp2_with fail
            refine (do_any bm bz (fz a a) 4 q 0 0 _ HI3.out (fz_ok a a a1 a2 (Nat.le_refl _))).mono ?_
            rintro e w4 ⟨rfl, hI4, hm4⟩
            rw [Hr.out] at hI4 ⊢
            have HI4 := Lib.hid hI4; clear hI4
            have HM4 := Lib.hid (HM3.out.trans hm4 (T := []) (by intro i hi h; simp at h; subst h; omega))
            clear hm4
            go_wp2_with fail
            refine (do_any bm bz _ 2 a 0 1 _ HI4.out (fzF_ok a q (4, 1) a1 a2 hq (.inl rfl))).mono ?_
            rintro e w5 ⟨rfl, hI5, hm5⟩
            rw [H9.out] at hI5 ⊢
            have HI5 := Lib.hid hI5; clear hI5
            have HM5 := Lib.hid (HM4.out.trans hm5 (T := []) (by intro i hi h; simp at h; subst h; omega))
            clear hm5
            go_wp2_with fail
            refine (counts_any TM TZ bm bz m9 _ HI5.out (by omega)).mono ?_
            rintro e w6 ⟨rfl, hb6⟩
            rw [C1.out, C2.out]
            have HM6 := Lib.hid (HM5.out.trans' (Mod.of_below hb6 []))
            clear hb6
            go_wp2_with fail
            go_ret
            exact ⟨rfl, HM6.out.below (Nat.le_refl _)⟩

end Go.Proofs.Ytojceddgmmapdaa
