/-
  Plain and walk: the law RigKilled.
-/
import Derived.Test.YtadpeopbfoppjaaGC3
import Derived.Test.YtadpeopbfoppjaaGO1
namespace Go.Proofs.Ytadpeopbfoppjaa
open Go.RowKit

/-- Of D drives the x-th died; k commands were given, n of them counted. -/
structure KInv (D x k n : Nat) (r : Rg) : Prop where
  len : r.ds.length = D
  ap : ∀ j, j < D → j ≠ x → ∃ a : Int, 0 ≤ a ∧ a ≤ k ∧ Ap (r.ds.getD j dv0) a 32 2 4
  dead : (r.ds.getD x dv0).m = apm 0 32 2 4 ∧ (r.ds.getD x dv0).dead = true
  set : r.set = none
  off : r.off = false
  cnt : r.cnt = n
  nk : n ≤ k

theorem kl_start {D x : Nat} (hx : x < D) : KInv D x 0 0 (gkillF (gnewF D 5 32 2 4) x) := by
  have hl : (gnewF D 5 32 2 4).ds.length = D := by simp [gnewF]
  have ht : thereF (gnewF D 5 32 2 4) (x : Int) = true := thereF_nat (by rw [hl]; exact hx)
  have hg : ∀ j, j < D → (gnewF D 5 32 2 4).ds.getD j dv0 = dnewF 5 32 2 4 := fun j hj => by
    simp [gnewF, List.getD_eq_getElem?_getD, hj]
  unfold gkillF
  rw [ht, if_pos rfl, Int.toNat_natCast, hg x hx]
  refine ⟨by simp [Rg.put, hl], fun j hj hjx => ⟨0, by omega, by omega, ?_⟩, ?_, rfl, rfl, rfl, by omega⟩
  · show Ap (((gnewF D 5 32 2 4).ds.set x _).getD j dv0) 0 32 2 4
    rw [getD_set_ne _ _ _ _ _ hjx, hg j hj]
    exact ⟨rfl, rfl⟩
  · show (((gnewF D 5 32 2 4).ds.set x _).getD x dv0).m = _ ∧ (((gnewF D 5 32 2 4).ds.set x _).getD x dv0).dead = true
    rw [getD_set_self _ _ _ _ (by rw [hl]; exact hx)]
    exact ⟨rfl, rfl⟩

theorem kl_dead {D x k n j : Nat} {r : Rg} (h : KInv D x k n r) (hj : j < D) : gdeadF r j = decide (j = x) := by
  have ht : thereF r (j : Int) = true := thereF_nat (by rw [h.len]; exact hj)
  unfold gdeadF
  rw [ht, if_pos rfl, Int.toNat_natCast]
  by_cases hx : j = x
  · subst hx; rw [h.dead.2]; simp
  · obtain ⟨a, _, _, h2⟩ := h.ap j hj hx
    rw [h2.2]; simp [hx]

theorem kl_doDead {D x k n : Nat} {r : Rg} {s : ByteArray} (h : KInv D x k n r) (hx : x < D) : gdoF r x 2 0 0 1 s = ((ByteArray.empty, 0, 7), r) := by
  have ht : thereF r (x : Int) = true := thereF_nat (by rw [h.len]; exact hx)
  have hr : greachF r (x : Int) true = (7, r) := by
    unfold greachF
    rw [ht, h.off, Int.toNat_natCast, h.dead.2]
    rfl
  have hb : (!((2 : Int) == 7)) = true := by decide
  unfold gdoF
  rw [hb, hr]
  rfl

theorem kl_do {D x k n j : Nat} {r : Rg} {s : ByteArray} (h : KInv D x k n r) (hj : j < D) (hjx : j ≠ x) (hk : k ≤ 25) (hs : s.size = 64) :
    (∃ a, (gdoF r j 2 0 0 1 s).1 = (ByteArray.empty, a, 0)) ∧ KInv D x (k + 1) (n + 1) (gdoF r j 2 0 0 1 s).2 := by
  obtain ⟨a, h0, h1, hap⟩ := h.ap j hj hjx
  have ht : thereF r (j : Int) = true := thereF_nat (by rw [h.len]; exact hj)
  have hr : greachF r (j : Int) true = (0, { r with cnt := wrap64 (r.cnt + 1) }) := by
    unfold greachF
    rw [ht, h.off, Int.toNat_natCast, hap.2]
    simp only [Bool.not_true, Bool.false_eq_true, if_false, if_true]
    unfold gstepF
    rw [h.set, ← h.off]
  have hnk := h.nk
  have hw : wrap64 (r.cnt + 1) = ((n + 1 : Nat) : Int) := by rw [h.cnt]; unfold wrap64; omega
  obtain ⟨e1, e2⟩ := hap.app (s := s) h0 (by omega) (by omega) (by omega) hs
  have hb : (!((2 : Int) == 7)) = true := by decide
  unfold gdoF
  rw [hb, hr]
  simp only [ne_eq, not_true_eq_false, if_false, Int.toNat_natCast]
  refine ⟨⟨a, e1⟩, ⟨by simp [Rg.put, h.len], fun t ht htx => ?_, ?_, h.set, h.off, hw, by omega⟩⟩
  · show ∃ a', 0 ≤ a' ∧ a' ≤ ((k + 1 : Nat) : Int) ∧ Ap ((r.ds.set j _).getD t dv0) a' 32 2 4
    by_cases htj : t = j
    · subst htj
      rw [getD_set_self _ _ _ _ (by rw [h.len]; exact hj)]
      exact ⟨a + 1, by omega, by omega, e2⟩
    · rw [getD_set_ne _ _ _ _ _ htj]
      obtain ⟨a', g0, g1, g2⟩ := h.ap t ht htx
      exact ⟨a', g0, by omega, g2⟩
  · show ((r.ds.set j _).getD x dv0).m = _ ∧ ((r.ds.set j _).getD x dv0).dead = true
    rw [getD_set_ne _ _ _ _ _ (Ne.symm hjx)]
    exact h.dead

theorem KInv.next {D x k n : Nat} {r : Rg} (h : KInv D x k n r) : KInv D x (k + 1) n r :=
  ⟨h.len, fun j hj hjx => by obtain ⟨a, h0, h1, h2⟩ := h.ap j hj hjx; exact ⟨a, h0, by omega, h2⟩, h.dead, h.set, h.off, h.cnt, by have := h.nk; omega⟩

theorem kl_zone {D x k n : Nat} {r : Rg} (h : KInv D x k n r) (hx : x < D) : gzoneF r x 0 = ((0, 0), true) := by
  have ht : thereF r (x : Int) = true := thereF_nat (by rw [h.len]; exact hx)
  unfold gzoneF
  rw [ht, if_pos rfl, Int.toNat_natCast, h.dead.1]
  rfl
theorem kl_flush {D x k n : Nat} {r : Rg} (h : KInv D x k n r) (hx : x < D) : gflushF r x = (7, r) := by
  have ht : thereF r (x : Int) = true := thereF_nat (by rw [h.len]; exact hx)
  have hr : greachF r (x : Int) true = (7, r) := by
    unfold greachF
    rw [ht, h.off, Int.toNat_natCast, h.dead.2]
    rfl
  unfold gflushF
  rw [hr]
  rfl

/-- A remainder made one that isn't below 0. -/
theorem rem_in (x : Int) (D : Nat) (h1 : 2 ≤ D) (h2 : D ≤ 5) : ∃ j : Nat, j < D ∧ Int.tmod (Int.tmod x (D : Int) + D) (D : Int) = j ∧ -5 < Int.tmod x (D : Int) ∧ Int.tmod x (D : Int) < 5 := by
  have hb : -(D : Int) < Int.tmod x D ∧ Int.tmod x D < D := by
    by_cases hx : 0 ≤ x
    · rw [Int.tmod_eq_emod_of_nonneg hx]
      have := Int.emod_nonneg x (show (D : Int) ≠ 0 by omega)
      have := Int.emod_lt_of_pos x (show (0 : Int) < D by omega)
      omega
    · have e : Int.tmod x D = -(Int.tmod (-x) D) := by rw [← Int.neg_tmod, Int.neg_neg]
      rw [e, Int.tmod_eq_emod_of_nonneg (show 0 ≤ -x by omega)]
      have := Int.emod_nonneg (-x) (show (D : Int) ≠ 0 by omega)
      have := Int.emod_lt_of_pos (-x) (show (0 : Int) < D by omega)
      omega
  generalize Int.tmod x D = t at *
  rw [Int.tmod_eq_emod_of_nonneg (show 0 ≤ t + D by omega)]
  have h3 := Int.emod_nonneg (t + D) (show (D : Int) ≠ 0 by omega)
  have h4 := Int.emod_lt_of_pos (t + D) (show (0 : Int) < D by omega)
  exact ⟨((t + D) % D).toNat, by omega, by omega, by omega, by omega⟩

theorem i64_and3' (x : Int) : bits .and .i64 x 3 = x % 4 := i64_mask 2 (by decide) x

set_option maxHeartbeats 4000000 in
set_option maxRecDepth 100000 in
theorem rigKilled_walk (drives dead : Int) (v : Value) (xs : List ActD) (b : Nat) (w : World) (hv : ActsAt w v xs b) :
    Calls Try.prog 5 #[.int .i64 drives, .int .i64 dead, v] w fun e w' => e = .returned (.bool true) ∧ Below w.heap.size w w' := by
  have Hv := Lib.hid hv
  obtain ⟨va, vc, rfl, -⟩ := hv
  have hmk := make_u8 64 (by omega) 64 rfl
  have g1 := i64_and3' drives
  obtain ⟨m, hm⟩ := Int.eq_ofNat_of_zero_le (show 0 ≤ drives % 4 by omega)
  have hm4 : m < 4 := by omega
  rw [hm] at g1
  clear hm
  obtain ⟨x, hx, hx2, hx3, hx4⟩ := rem_in dead (2 + m) (by omega) (by omega)
  rw [show (((2 + m : Nat)) : Int) = 2 + (m : Int) by omega] at hx2 hx3 hx4
  have Hx2 := Lib.hid hx2
  clear hx2
  go_enter Try.func5, Try.ntmps5
  go_wp2_with fail
  refine (speaks08_any _).mono ?_
  rintro e w1 ⟨rfl, hm1⟩
  have H1 := Lib.hid hm1; clear hm1
  go_wp2_with fail
  rw [Hx2.out]
  have e2 : ((2 + m : Nat) : Int) = 2 + (m : Int) := by omega
  have hn := fun W => gnewA 3 5 32 2 4 (2 + m) W rfl (by omega) (by omega)
  simp only [e2] at hn
  have Hn := Lib.hid hn
  clear hn e2
  refine (Hn.out _).mono ?_
  rintro e w2 ⟨br, rfl, h2⟩
  have H2 := Lib.hid h2; clear h2
  go_wp2_with fail
  refine (gkillA (x : Int) H2.out).mono ?_
  rintro e w3 ⟨rfl, h3⟩
  have H3 := Lib.hid h3
  have hst : Hid (KInv (2 + m) x 0 0 (gkillF (gnewF (2 + m) 5 32 2 4) x)) := kl_start hx
  clear h3 H2
  go_wp2_with fail
  go_loopw [9, 10] (fun s9 s10 wr => ∃ (i n : Nat) (r : Rg), s9 = .int .i64 n ∧ s10 = .int .i64 i ∧ i ≤ xs.length ∧ i ≤ 20 ∧ KInv (2 + m) x i n r ∧ RAt w1 wr br r) (fun _ s10 _ => 50 - (intOf s10).toNat)
  case atStart => exact ⟨0, 0, _, rfl, rfl, by omega, by omega, hst.out, H3.out⟩
  case round =>
    obtain ⟨i, n, r, rfl, rfl, hi, hi20, hR, hA⟩ := hrel
    have hni := hR.nk
    have HR := Lib.hid hR; have HA := Lib.hid hA
    clear hR hA
    by_cases hlt : i < xs.length ∧ i < 20
    · obtain ⟨hlt, hlt2⟩ := hlt
      obtain ⟨off, cc, a0, a1, a2, a3, a4, a5, keep, ka, kl, kc, hv', hget, hblt, hS⟩ := act_cells Hv.out i hlt
      simp only [Value.slice.injEq] at hv'
      obtain ⟨rfl, _, rfl⟩ := hv'
      have HS := Lib.hid hS; clear hS hget
      obtain ⟨q0, q1, q2, q3, q4, q5, q6⟩ := HS.out wr (H1.out.trans' HA.out.M)
      obtain ⟨j, hj, hj2, hj3, hj4⟩ := rem_in a1 (2 + m) (by omega) (by omega)
      rw [show (((2 + m : Nat)) : Int) = 2 + (m : Int) by omega] at hj2 hj3 hj4
      have Hj2 := Lib.hid hj2
      have hcv := zs_conv (wr.alloc (.cells (Array.replicate 64 (.int .u8 0)) 5)) wr.heap.size 64 (Blk.new wr _ _)
      clear hj2 q0 q2 q3 q4 q5 q6
      go_wp2_with fail
      rw [Hj2.out]
      refine (gdoA (j : Int) 2 0 0 1 (zs 64) (HA.out.alloc _) (by rw [zs64]; omega)).mono ?_
      clear hcv
      by_cases hjx : j = x
      · subst hjx
        rw [kl_doDead HR.out hj]
        rintro e w4 ⟨rfl, hA4⟩
        have HA4 := Lib.hid hA4
        have hgd : gdeadF r (j : Int) = true := by rw [kl_dead HR.out hj]; simp
        have Hgd := Lib.hid hgd
        clear hA4 hgd
        go_wp2_with fail
        refine (gdeadA (j : Int) HA4.out).mono ?_
        rintro e w5 ⟨rfl, rfl⟩
        rw [Hgd.out]
        go_wp2_with fail
        go_roundw
        case rel => exact ⟨i + 1, n, r, rfl, by go_num, by omega, by omega, HR.out.next, HA4.out⟩
        case measure => simp [intOf]; omega
      · obtain ⟨⟨a, ha⟩, hR'⟩ := kl_do (s := zs 64) HR.out hj hjx (by omega) zs64
        obtain ⟨⟨y1, y2, y3⟩, r', hp⟩ : ∃ p r', gdoF r j 2 0 0 1 (zs 64) = (p, r') := ⟨_, _, rfl⟩
        rw [hp] at ha hR' ⊢
        rintro e w4 ⟨rfl, hA4⟩
        simp only [Prod.mk.injEq] at ha
        obtain ⟨rfl, rfl, rfl⟩ := ha
        have HA4 := Lib.hid hA4
        have HR' := Lib.hid hR'
        have hgd := kl_dead hR' hj
        rw [decide_eq_false hjx] at hgd
        have Hgd := Lib.hid hgd
        have hb1 : ((j : Int) == (x : Int)) = false := by simp; omega
        have hb2 : (j == x) = false := by simpa using hjx
        have hb3 : ((j : Int) != (x : Int)) = true := by simp; omega
        have hb4 : (j != x) = true := by simpa using hjx
        clear hA4 hgd hR' hp
        go_wp2_with fail
        refine (gdeadA (j : Int) HA4.out).mono ?_
        rintro e w5 ⟨rfl, rfl⟩
        rw [Hgd.out]
        go_wp2_with fail
        go_roundw
        case rel => exact ⟨i + 1, n + 1, r', by go_num, by go_num, by omega, by omega, HR'.out, HA4.out⟩
        case measure => simp [intOf]; omega
    · have hzn := kl_zone HR.out hx
      have hfl := kl_flush HR.out hx
      have hcn := HR.out.cnt
      have Hzn := Lib.hid hzn; have Hfl := Lib.hid hfl; have Hcn := Lib.hid hcn
      clear hzn hfl hcn
      have hend : (decide (i < xs.length) = false) ∨ (decide (i < xs.length) = true ∧ decide ((i : Int) < 20) = false) := by
        by_cases h1 : i < xs.length
        · exact .inr ⟨by simpa using h1, by simp; omega⟩
        · exact .inl (by simpa using h1)
      clear hlt
      rcases hend with k1 | ⟨k1, k2⟩
      all_goals
        go_wp2_with fail
        refine (gzoneA (x : Int) 0 HA.out).mono ?_
        rw [Hzn.out]
        rintro e w4 ⟨rfl, hb⟩
        have hz : zoneV (0, 0) = .agg #[.int .i64 0, .int .i64 0] := rfl
        rw [hz]
        have hA4 : RAt w1 (w4.alloc (.cells #[.int .i64 0, .int .i64 0] 45)) br r := (HA.out.below hb).alloc _
        have HA4 := Lib.hid hA4
        clear hb hz hA4
        go_wp2_with fail
        refine (gcountA HA4.out).mono ?_
        rintro e w5 ⟨rfl, rfl⟩
        rw [Hcn.out]
        go_wp2_with fail
        refine (gflushA (x : Int) HA4.out).mono ?_
        rw [Hfl.out]
        rintro e w5 ⟨rfl, hA5⟩
        have HA5 := Lib.hid hA5
        clear hA5
        go_wp2_with fail
        go_ret
        exact ⟨rfl, (H1.out.trans' HA5.out.M).below (Nat.le_refl _)⟩

end Go.Proofs.Ytadpeopbfoppjaa
