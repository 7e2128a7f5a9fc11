/-
  Plain and walk: the law RigReads.
-/
import Derived.Test.YtadpeopbfoppjaaGC2
namespace Go.Proofs.Ytadpeopbfoppjaa
open Go.RowKit

/-- k blocks are appended to drive 0, of n + 1 that are to be ahead of the cut. -/
structure RdInv (n k : Nat) (r : Rg) : Prop where
  len : r.ds.length = 2
  ap : Ap (r.ds.getD 0 dv0) k 32 1 1
  ap1 : Ap (r.ds.getD 1 dv0) 0 32 1 1
  set : r.set = some ((n : Int) + 2 - k, [])
  off : r.off = false
  cnt : r.cnt = k

theorem rd_start (n : Nat) : RdInv n 0 (gcutF (gnewF 2 5 32 1 1) ((n : Int) + 2) []) := by
  have h : max ((n : Int) + 2) 1 = (n : Int) + 2 - ((0 : Nat) : Int) := by omega
  exact ⟨rfl, ⟨rfl, rfl⟩, ⟨rfl, rfl⟩, by show some (max ((n : Int) + 2) 1, []) = _; rw [h], rfl, rfl⟩

theorem rd_app {n k : Nat} {r : Rg} {s : ByteArray} (h : RdInv n k r) (hk : k ≤ n) (hn : n ≤ 15) (hs : s.size = 64) :
    (gdoF r 0 2 0 0 1 s).1 = (ByteArray.empty, (k : Int), 0) ∧ RdInv n (k + 1) (gdoF r 0 2 0 0 1 s).2 := by
  have ht : thereF r 0 = true := by simp [thereF, h.len]
  have hr : greachF r 0 true = (0, { r with set := some ((n : Int) + 2 - k - 1, []), cnt := wrap64 (r.cnt + 1) }) := by
    unfold greachF
    rw [ht, h.off, Int.toNat_zero, h.ap.2]
    simp only [Bool.not_true, Bool.false_eq_true, if_false, if_true]
    unfold gstepF
    rw [h.set]
    simp only
    rw [if_neg (by omega), ← h.off]
  have hw : wrap64 (r.cnt + 1) = ((k + 1 : Nat) : Int) := by rw [h.cnt]; unfold wrap64; omega
  obtain ⟨e1, e2⟩ := h.ap.app (s := s) (by omega) (by omega) (by omega) (by omega) hs
  have hb : (!((2 : Int) == 7)) = true := by decide
  unfold gdoF
  rw [hb, hr]
  simp only [ne_eq, not_true_eq_false, if_false, Int.toNat_zero]
  refine ⟨e1, ⟨by simp [Rg.put, h.len], ?_, ?_, ?_, h.off, hw⟩⟩
  · show Ap ((r.ds.set 0 _).getD 0 dv0) ((k + 1 : Nat) : Int) 32 1 1
    rw [getD_set_self _ _ _ _ (by rw [h.len]; omega)]
    exact e2
  · show Ap ((r.ds.set 0 _).getD 1 dv0) 0 32 1 1
    rw [getD_set_ne _ _ _ _ _ (by omega)]
    exact h.ap1
  · show some ((n : Int) + 2 - k - 1, []) = some ((n : Int) + 2 - ((k + 1 : Nat) : Int), [])
    congr 2; omega

theorem rd_read' {n k i : Nat} {r : Rg} (h : RdInv n k r) (hi : i < k) : ∃ s, gdoF r 0 7 0 i 1 ByteArray.empty = ((s, (i : Int), 0), r) := by
  have ht : thereF r 0 = true := by simp [thereF, h.len]
  have hr : greachF r 0 false = (0, r) := by
    unfold greachF
    rw [ht, h.off, Int.toNat_zero, h.ap.2]
    rfl
  obtain ⟨s, hs⟩ := h.ap.read (i := (i : Int)) (by omega) (by omega)
  have hb : (!((7 : Int) == 7)) = false := by decide
  refine ⟨s, ?_⟩
  unfold gdoF
  rw [hb, hr]
  simp only [ne_eq, not_true_eq_false, if_false, Int.toNat_zero]
  rw [hs]
  have : r.put 0 (r.ds.getD 0 dv0) = r := by
    unfold Rg.put
    have e : r.ds.set 0 (r.ds.getD 0 dv0) = r.ds := by
      apply List.ext_getElem?
      intro j
      by_cases hj : j = 0
      · subst hj
        rw [List.getElem?_set_self (by rw [h.len]; omega)]
        rw [List.getD_eq_getElem?_getD, List.getElem?_eq_getElem (by rw [h.len]; omega)]
        rfl
      · rw [List.getElem?_set_ne (Ne.symm hj)]
    rw [e]
  rw [this]

theorem rd_flush {n : Nat} {r : Rg} (h : RdInv n (n + 1) r) : gflushF r 1 = (6, gfailF r []) := by
  have ht : thereF r 1 = true := by simp [thereF, h.len]
  have hr : greachF r 1 true = (6, gfailF r []) := by
    unfold greachF
    rw [ht, h.off, show (1 : Int).toNat = 1 from rfl, h.ap1.2]
    simp only [Bool.not_true, Bool.false_eq_true, if_false, if_true]
    unfold gstepF
    rw [h.set]
    simp only
    rw [if_pos (by omega)]
  unfold gflushF
  rw [hr]
  rfl

set_option maxHeartbeats 4000000 in
set_option maxRecDepth 100000 in
theorem rigReads_walk (n reads : Int) (w : World) : Calls Try.prog 4 #[.int .i64 n, .int .i64 reads] w fun e w' => e = .returned (.bool true) ∧ Below w.heap.size w w' := by
  have hmk := make_u8 64 (by omega) 64 rfl
  have g1 := i64_and15 n
  have g2 := i64_and31 reads
  obtain ⟨m, hm⟩ := Int.eq_ofNat_of_zero_le (show 0 ≤ n % 16 by omega)
  obtain ⟨q, hq⟩ := Int.eq_ofNat_of_zero_le (show 0 ≤ reads % 32 by omega)
  have hm16 : m < 16 := by omega
  have hq32 : q < 32 := by omega
  rw [hm] at g1
  rw [hq] at g2
  clear hm hq
  go_enter Try.func4, Try.ntmps4
  go_wp2_with fail
  refine (speaks08_any _).mono ?_
  rintro e w1 ⟨rfl, hm1⟩
  have H1 := Lib.hid hm1; clear hm1
  go_wp2_with fail
  refine (gnewA 3 5 32 1 1 2 _ rfl (by omega) (by omega)).mono ?_
  rintro e w2 ⟨br, rfl, h2⟩
  have H2 := Lib.hid h2; clear h2
  have hcv := zs_conv (w2.alloc (.cells (Array.replicate 64 (.int .u8 0)) 5)) w2.heap.size 64 (Blk.new w2 _ _)
  go_wp2_with fail
  refine (gcutA (b := 0) ((m : Int) + 2) [] _ (H2.out.alloc _) (by omega) (ints_nil _) keep_nil).mono ?_
  rintro e w3 ⟨rfl, h3⟩
  have H3 := Lib.hid h3
  clear h3 H2 hcv
  have hst : Hid (RdInv m 0 (gcutF (gnewF 2 5 32 1 1) ((m : Int) + 2) [])) := rd_start m
  go_wp2_with fail
  go_loopw [8] (fun s8 wr => ∃ (i : Nat) (r : Rg), s8 = .int .i64 i ∧ i ≤ m + 1 ∧ RdInv m i r ∧ RAt w1 wr br r) (fun s8 _ => 50 - (intOf s8).toNat)
  case atStart => exact ⟨0, _, rfl, by omega, hst.out, H3.out⟩
  case round =>
    obtain ⟨i, r, rfl, hi, hR, hA⟩ := hrel
    have HR := Lib.hid hR; have HA := Lib.hid hA
    clear hR hA
    by_cases hlt : i ≤ m
    · go_wp2_with fail
      refine (gdoA 0 2 0 0 1 (zs 64) HA.out (by rw [zs64]; omega)).mono ?_
      obtain ⟨ha, hR'⟩ := rd_app (s := zs 64) HR.out hlt (by omega) zs64
      obtain ⟨⟨x1, x2, x3⟩, r', hp⟩ : ∃ p r', gdoF r 0 2 0 0 1 (zs 64) = (p, r') := ⟨_, _, rfl⟩
      rw [hp] at ha hR' ⊢
      rintro e w4 ⟨rfl, hA4⟩
      simp only [Prod.mk.injEq] at ha
      obtain ⟨rfl, rfl, rfl⟩ := ha
      have HA4 := Lib.hid hA4
      have HR' := Lib.hid hR'
      clear hA4 hR'
      go_wp2_with fail
      go_loopw [12] (fun s12 wx => ∃ k : Nat, s12 = .int .i64 k ∧ k ≤ q ∧ RAt w1 wx br r') (fun s12 _ => 50 - (intOf s12).toNat)
      case atStart => exact ⟨0, rfl, by omega, HA4.out⟩
      case round =>
        obtain ⟨k, rfl, hk, hAk⟩ := hrel
        have HAk := Lib.hid hAk
        clear hAk
        by_cases hkq : k < q
        · go_wp2_with fail
          refine (gdoA 0 7 0 i 1 ByteArray.empty HAk.out (by decide)).mono ?_
          obtain ⟨y, hy⟩ := rd_read' (i := i) HR'.out (by omega)
          rw [hy]
          rintro e w5 ⟨rfl, hA5⟩
          have HA5 := Lib.hid hA5
          clear hA5 hy
          go_wp2_with fail
          go_roundw
          case rel => exact ⟨k + 1, by go_num, by omega, HA5.out⟩
          case measure => simp [intOf]; omega
        · have hd : decide (k < q) = false := by simpa using hkq
          go_wp2_with fail
          go_roundw
          case rel => exact ⟨i + 1, r', by go_num, by omega, HR'.out, HAk.out⟩
          case measure => simp [intOf]; omega
    · obtain rfl : i = m + 1 := by omega
      have hfl := rd_flush HR.out
      have hcnt := HR.out.cnt
      have Hfl := Lib.hid hfl
      have Hcnt := Lib.hid hcnt
      clear hfl hcnt
      go_wp2_with fail
      refine (gcountA HA.out).mono ?_
      rintro e w4 ⟨rfl, rfl⟩
      rw [Hcnt.out]
      go_wp2_with fail
      refine (gflushA 1 HA.out).mono ?_
      rw [Hfl.out]
      rintro e w4 ⟨rfl, hA4⟩
      have HA4 := Lib.hid hA4
      have hoff : (gfailF r []).off = true := rfl
      have hcnt2 : (gfailF r []).cnt = ((m + 1 : Nat) : Int) := Hcnt.out
      have Hoff := Lib.hid hoff; have Hcnt2 := Lib.hid hcnt2
      clear hA4 hoff hcnt2
      generalize gfailF r [] = rf at *
      go_wp2_with fail
      refine (goffA HA4.out).mono ?_
      rintro e w5 ⟨rfl, rfl⟩
      rw [Hoff.out]
      go_wp2_with fail
      refine (gcountA HA4.out).mono ?_
      rintro e w5 ⟨rfl, rfl⟩
      rw [Hcnt2.out]
      go_wp2_with fail
      go_ret
      exact ⟨rfl, (H1.out.trans' HA4.out.M).below (Nat.le_refl _)⟩

end Go.Proofs.Ytadpeopbfoppjaa
