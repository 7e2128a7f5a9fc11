/-
  Plain and walk: the law RigCuts.
-/
import Derived.Test.YtadpeopbfoppjaaGS
import Derived.Test.YtadpeopbfoppjaaGC1
import Derived.Deep.CutBlock
namespace Go.Proofs.Ytadpeopbfoppjaa
open Go.RowKit

/-- k commands are done, the cut is at the c-th. -/
structure CutInv (c k : Nat) (r : Rg) : Prop where
  len : r.ds.length = 3
  ap : ∀ j, j < 3 → ∃ a : Int, 0 ≤ a ∧ a ≤ k ∧ Ap (r.ds.getD j dv0) a 64 1 1
  set : r.set = some ((c : Int) - k, [1048576])
  off : r.off = false
  cnt : r.cnt = k
/-- The power has failed. -/
structure Gone (c : Nat) (r : Rg) : Prop where
  len : r.ds.length = 3
  off : r.off = true
  cnt : r.cnt = (c : Int) - 1

theorem thereF_3 {r : Rg} (h : r.ds.length = 3) {j : Nat} (hj : j < 3) : thereF r (j : Int) = true := thereF_nat (by omega)

theorem cut_go {c k j : Nat} {r : Rg} {s : ByteArray} (h : CutInv c k r) (hk : k + 1 < c) (hk2 : k ≤ 40) (hj : j < 3) (hs : s.size = 64) :
    (∃ a, (gdoF r j 2 0 0 1 s).1 = (ByteArray.empty, a, 0)) ∧ CutInv c (k + 1) (gdoF r j 2 0 0 1 s).2 := by
  obtain ⟨a, h0, h1, hap⟩ := h.ap j hj
  have hr : greachF r (j : Int) true = (0, { r with set := some ((c : Int) - k - 1, [1048576]), cnt := wrap64 (r.cnt + 1) }) := by
    unfold greachF
    rw [thereF_3 h.len hj, h.off, Int.toNat_natCast, hap.2]
    simp only [Bool.not_true, Bool.false_eq_true, if_false, if_true]
    unfold gstepF
    rw [h.set]
    simp only
    rw [if_neg (by omega), ← h.off]
  have hw : wrap64 (r.cnt + 1) = ((k + 1 : Nat) : Int) := by rw [h.cnt]; unfold wrap64; omega
  obtain ⟨e1, e2⟩ := hap.app (s := s) h0 (by omega) (by omega) (by omega) hs
  have hb : (!((2 : Int) == 7)) = true := by decide
  unfold gdoF
  rw [hb, hr]
  simp only [ne_eq, not_true_eq_false, if_false, Int.toNat_natCast]
  refine ⟨⟨a, e1⟩, ⟨by simp [Rg.put, h.len], fun t ht => ?_, ?_, h.off, hw⟩⟩
  · show ∃ a', 0 ≤ a' ∧ a' ≤ ((k + 1 : Nat) : Int) ∧ Ap ((r.ds.set j _).getD t dv0) a' 64 1 1
    by_cases htj : t = j
    · subst htj
      rw [getD_set_self _ _ _ _ (by rw [h.len]; exact hj)]
      exact ⟨a + 1, by omega, by omega, e2⟩
    · rw [getD_set_ne _ _ _ _ _ htj]
      obtain ⟨a', g0, g1, g2⟩ := h.ap t ht
      exact ⟨a', g0, by omega, g2⟩
  · show some ((c : Int) - k - 1, [1048576]) = some ((c : Int) - ((k + 1 : Nat) : Int), [1048576])
    congr 2; omega

theorem cut_end {c k j : Nat} {r : Rg} {s : ByteArray} (h : CutInv c k r) (hk : k + 1 = c) (hj : j < 3) :
    (gdoF r j 2 0 0 1 s).1 = (ByteArray.empty, 0, 6) ∧ Gone c (gdoF r j 2 0 0 1 s).2 := by
  obtain ⟨a, h0, h1, hap⟩ := h.ap j hj
  have hr : greachF r (j : Int) true = (6, gfailF r [1048576]) := by
    unfold greachF
    rw [thereF_3 h.len hj, h.off, Int.toNat_natCast, hap.2]
    simp only [Bool.not_true, Bool.false_eq_true, if_false, if_true]
    unfold gstepF
    rw [h.set]
    simp only
    rw [if_pos (by omega)]
  have hb : (!((2 : Int) == 7)) = true := by decide
  unfold gdoF
  rw [hb, hr]
  simp only [ne_eq, show ¬ (6 : Int) = 0 by decide, not_false_eq_true, if_true]
  exact ⟨trivial, by simp [gfailF, h.len], rfl, by show r.cnt = _; rw [h.cnt]; omega⟩

theorem gone_go {c j : Nat} {r : Rg} {s : ByteArray} (h : Gone c r) (hj : j < 3) : gdoF r j 2 0 0 1 s = ((ByteArray.empty, 0, 6), r) := by
  have hr : greachF r (j : Int) true = (6, r) := by
    unfold greachF
    rw [thereF_3 h.len hj, h.off]
    rfl
  have hb : (!((2 : Int) == 7)) = true := by decide
  unfold gdoF
  rw [hb, hr]
  rfl

/-- Behind i commands. -/
def CutRel (c i : Nat) (done : Nat) (r : Rg) : Prop := (i < c ∧ done = i ∧ CutInv c i r) ∨ (c ≤ i ∧ done + 1 = c ∧ Gone c r)

theorem cut_start (c : Nat) (hc : 1 ≤ c) : CutRel c 0 0 (gcutF (gnewF 3 5 64 1 1) (c : Int) [1048576]) := by
  refine .inl ⟨hc, rfl, rfl, fun j hj => ⟨0, by omega, by omega, ?_⟩, ?_, rfl, rfl⟩
  · have : j = 0 ∨ j = 1 ∨ j = 2 := by omega
    rcases this with rfl | rfl | rfl <;> exact ⟨rfl, rfl⟩
  · show some (max (c : Int) 1, [1048576]) = _
    congr 2; omega

theorem cut_step {c i done j : Nat} {r : Rg} {s : ByteArray} (h : CutRel c i done r) (hi : i ≤ 40) (hj : j < 3) (hs : s.size = 64) :
    ((∃ a, (gdoF r j 2 0 0 1 s).1 = (ByteArray.empty, a, 0)) ∧ CutRel c (i + 1) (done + 1) (gdoF r j 2 0 0 1 s).2) ∨
    ((gdoF r j 2 0 0 1 s).1 = (ByteArray.empty, 0, 6) ∧ (gdoF r j 2 0 0 1 s).2.off = true ∧ CutRel c (i + 1) done (gdoF r j 2 0 0 1 s).2) := by
  rcases h with ⟨h1, rfl, h2⟩ | ⟨h1, h2, h3⟩
  · by_cases hk : done + 1 < c
    · obtain ⟨e1, e2⟩ := cut_go h2 hk hi hj hs
      exact .inl ⟨e1, .inl ⟨hk, rfl, e2⟩⟩
    · obtain ⟨e1, e2⟩ := cut_end (s := s) h2 (by omega) hj
      exact .inr ⟨e1, e2.off, .inr ⟨by omega, by omega, e2⟩⟩
  · have e := gone_go (s := s) h3 hj
    rw [e]
    exact .inr ⟨rfl, h3.off, .inr ⟨by omega, h2, h3⟩⟩

theorem cut_done {c i done : Nat} {r : Rg} (h : CutRel c i done r) : (done : Int) = min (i : Int) ((c : Int) - 1) ∧ r.cnt = done ∧ r.off = decide ((c : Int) ≤ (i : Int)) := by
  rcases h with ⟨h1, rfl, h2⟩ | ⟨h1, h2, h3⟩
  · exact ⟨by omega, h2.cnt, by rw [h2.off]; simp; omega⟩
  · exact ⟨by omega, by rw [h3.cnt]; omega, by rw [h3.off]; simp; omega⟩

theorem i64_and63 (x : Int) : bits .and .i64 x 63 = x % 64 := i64_mask 6 (by decide) x
theorem i64_and31 (x : Int) : bits .and .i64 x 31 = x % 32 := i64_mask 5 (by decide) x

set_option maxHeartbeats 4000000 in
set_option maxRecDepth 100000 in
theorem rigCuts_walk (n all : Int) (w : World) : Calls Try.prog 3 #[.int .i64 n, .int .i64 all] w fun e w' => e = .returned (.bool true) ∧ Below w.heap.size w w' := by
  have hmk := make_u8 64 (by omega) 64 rfl
  have g1 := i64_and63 n
  have g2 := i64_and31 all
  obtain ⟨m, hm⟩ := Int.eq_ofNat_of_zero_le (show 0 ≤ n % 64 by omega)
  obtain ⟨q, hq⟩ := Int.eq_ofNat_of_zero_le (show 0 ≤ all % 32 by omega)
  have hm64 : m < 64 := by omega
  have hq32 : q < 32 := by omega
  rw [hm] at g1
  rw [hq] at g2
  clear hm hq
  go_enter Try.func3, Try.ntmps3
  go_wp2_with fail
  refine (speaks08_any _).mono ?_
  rintro e w1 ⟨rfl, hm1⟩
  have H1 := Lib.hid hm1; clear hm1
  go_wp2_with fail
  refine (gnewA 3 5 64 1 1 3 _ rfl (by omega) (by omega)).mono ?_
  rintro e w2 ⟨br, rfl, h2⟩
  have H2 := Lib.hid h2; clear h2
  go_wp2_with fail
  refine (gcutA (b := w2.heap.size) (m : Int) [1048576] _ (H2.out.alloc _) (by omega) (ints_one (Blk.new w2 _ _)) (keep_one ⟨by decide, by decide⟩)).mono ?_
  rintro e w3 ⟨rfl, h3⟩
  have H3 := Lib.hid h3
  clear h3 H2
  have hcv := zs_conv (w3.alloc (.cells (Array.replicate 64 (.int .u8 0)) 5)) w3.heap.size 64 (Blk.new w3 _ _)
  obtain ⟨c, hc, hc1⟩ : ∃ c : Nat, (c : Int) = max (m : Int) 1 ∧ 1 ≤ c := ⟨(max (m : Int) 1).toNat, by omega, by omega⟩
  have Hc := Lib.hid hc
  have hst : Hid (CutRel c 0 0 (gcutF (gnewF 3 5 64 1 1) (m : Int) [1048576])) := by
    have h := cut_start c hc1
    have e : gcutF (gnewF 3 5 64 1 1) (c : Int) [1048576] = gcutF (gnewF 3 5 64 1 1) (m : Int) [1048576] := by
      unfold gcutF
      congr 2
      simp only [Prod.mk.injEq, and_true]
      omega
    rw [e] at h
    exact h
  clear hc
  go_wp2_with fail
  go_loopw [8, 9] (fun s8 s9 wr => ∃ (i done : Nat) (r : Rg), s8 = .int .i64 done ∧ s9 = .int .i64 i ∧ i ≤ q + 1 ∧ CutRel c i done r ∧ RAt w1 wr br r) (fun _ s9 _ => 50 - (intOf s9).toNat)
  case atStart => exact ⟨0, 0, _, rfl, rfl, by omega, hst.out, H3.out.alloc _⟩
  case round =>
    obtain ⟨i, done, r, rfl, rfl, hi, hR, hA⟩ := hrel
    have HR := Lib.hid hR; have HA := Lib.hid hA
    have hdl : Hid (done ≤ 40) := by
      have h := cut_done hR
      show done ≤ 40
      omega
    have hdl2 := hdl.out
    clear hR hA hcv
    by_cases hlt : i < q + 1
    · have hltI : (i : Int) < 1 + (q : Int) := by omega
      obtain ⟨j, hj, hji⟩ : ∃ j : Nat, j < 3 ∧ (i : Int) % 3 = (j : Int) := ⟨i % 3, by omega, by omega⟩
      have Hji := Lib.hid hji
      clear hji
      go_wp2_with fail
      refine (gdoA ((i : Int) % 3) 2 0 0 1 (zs 64) HA.out (by rw [zs64]; omega)).mono ?_
      rw [Hji.out]
      have hstep := cut_step (s := zs 64) HR.out (by omega) hj zs64
      obtain ⟨⟨x1, x2, x3⟩, r', hp⟩ : ∃ p r', gdoF r j 2 0 0 1 (zs 64) = (p, r') := ⟨_, _, rfl⟩
      rw [hp] at hstep ⊢
      rintro e w4 ⟨rfl, hA4⟩
      have HA4 := Lib.hid hA4
      clear hA4
      rcases hstep with ⟨⟨a, ha⟩, hR'⟩ | ⟨ha, hoff, hR'⟩
      · simp only [Prod.mk.injEq] at ha
        obtain ⟨rfl, rfl, rfl⟩ := ha
        have HR' := Lib.hid hR'
        clear hR'
        go_wp2_with fail
        go_roundw
        case rel => exact ⟨i + 1, done + 1, r', by go_num, by go_num, by omega, HR'.out, HA4.out⟩
        case measure => simp [intOf]; omega
      · simp only [Prod.mk.injEq] at ha
        obtain ⟨rfl, rfl, rfl⟩ := ha
        have HR' := Lib.hid hR'
        have Hoff : Hid (r'.off = true) := hoff
        clear hR' hoff
        go_wp2_with fail
        refine (goffA HA4.out).mono ?_
        rintro e w5 ⟨rfl, rfl⟩
        rw [Hoff.out]
        go_wp2_with fail
        go_roundw
        case rel => exact ⟨i + 1, done, r', rfl, by go_num, by omega, HR'.out, HA4.out⟩
        case measure => simp [intOf]; omega
    · obtain rfl : i = q + 1 := by omega
      have hd := cut_done HR.out
      have Hd1 := Lib.hid hd.1; have Hd2 := Lib.hid hd.2.1; have Hd3 := Lib.hid hd.2.2
      clear hd
      have hcb : (c : Int) ≤ ((q + 1 : Nat) : Int) ∨ ¬ (c : Int) ≤ ((q + 1 : Nat) : Int) := by omega
      by_cases k1 : (m : Int) < 1
      all_goals by_cases k2 : (1 : Int) + (q : Int) < (m : Int) - 1
      all_goals by_cases k3 : (c : Int) ≤ 1 + (q : Int)
      all_goals first | (exfalso; have := Hc.out; omega) | skip
      all_goals
        go_wp2_with (first
          | (go_at_call 12; refine (gcountA HA.out).mono ?_; rintro e w5 ⟨rfl, rfl⟩; rw [Hd2.out])
          | (go_at_call 11; refine (goffA HA.out).mono ?_; rintro e w5 ⟨rfl, rfl⟩; rw [Hd3.out]))
      all_goals first | (exfalso; have := Hc.out; have := Hd1.out; omega) | skip
      all_goals
        go_ret
        refine ⟨?_, (H1.out.trans' HA.out.M).below (Nat.le_refl _)⟩
      all_goals
        have hcv := Hc.out
        have hb1 : m < 1 → (decide ((c : Int) ≤ (q : Int) + 1) == decide ((1 : Int) ≤ 1 + (q : Int))) = true := fun h => by
          have : ((c : Int) ≤ (q : Int) + 1) ↔ ((1 : Int) ≤ 1 + (q : Int)) := by omega
          simp only [this, beq_self_eq_true]
        have hb2 : ¬ m < 1 → (decide ((c : Int) ≤ (q : Int) + 1) == decide ((m : Int) ≤ 1 + (q : Int))) = true := fun h => by
          have : ((c : Int) ≤ (q : Int) + 1) ↔ ((m : Int) ≤ 1 + (q : Int)) := by omega
          simp only [this, beq_self_eq_true]
        clear hcv
        first
          | (have h := hb1 (by omega); show Ending.returned (Value.bool _) = _; rw [h])
          | (have h := hb2 (by omega); show Ending.returned (Value.bool _) = _; rw [h])

end Go.Proofs.Ytadpeopbfoppjaa
