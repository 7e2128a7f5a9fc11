/-
  Walk of DriveReads.
-/
import Derived.Test.YtojceddgmmapdaaDW1
import Derived.Deep.CutBlock
namespace Go.Proofs.Ytojceddgmmapdaa
open Go.RowKit

set_option maxHeartbeats 8000000 in
set_option maxRecDepth 100000 in
theorem driveReads_walk (v : Value) (xs : List ActD) (b : Nat) (at_ n : Int) (w : World) (hv : ActsAt w v xs b) (_hxl : xs.length ≤ 9223372036854775807) (hat : -9223372036854775808 ≤ at_ ∧ at_ ≤ 9223372036854775807) (hn : -9223372036854775808 ≤ n ∧ n ≤ 9223372036854775807) :
    Calls Try.prog 9 #[v, .int .i64 at_, .int .i64 n] w fun e w' => e = .returned (.bool true) ∧ Below w.heap.size w w' := by
  have Hv := Lib.hid hv
  obtain ⟨va, vc, rfl, -⟩ := hv
  go_enter Try.func9, Try.ntmps9
  go_wp2_with fail
  refine (speaks07_any _).mono ?_
  rintro e w1 ⟨rfl, hm1⟩
  have H1 := Lib.hid hm1; clear hm1
  go_wp2_with fail
  refine (dnewA 2 120 2 2 _ rfl).mono ?_
  rintro e w2 ⟨bd, bm, bz, bb, bl, vs, rfl, h2⟩
  have H2 : Hid (DAt w1 w2 bd bm bz bb bl (rd [] 0) vs) := h2
  clear h2
  go_upto_block 0 with fail
  go_cut [9] (fun s9 wx => ∃ (A : ByteArray) (T : Nat) (vs' : List Value), s9 = .string A ∧ A.size = 64 * T ∧ T ≤ 120 ∧ DAt w1 wx bd bm bz bb bl (rd A.data.toList T) vs')
  case first =>
    go_wp2_with fail
    go_loopw [9, 10] (fun s9 s10 wr => ∃ (k : Nat) (A : ByteArray) (T : Nat) (vs' : List Value), s10 = .int .i64 k ∧ k ≤ xs.length ∧ T ≤ 4 * k ∧ k ≤ 30 ∧ s9 = .string A ∧ A.size = 64 * T ∧ DAt w1 wr bd bm bz bb bl (rd A.data.toList T) vs') (fun _ s10 _ => 200 - (intOf s10).toNat)
    case atStart => exact ⟨0, ByteArray.empty, 0, vs, rfl, Nat.zero_le _, Nat.zero_le _, by omega, rfl, rfl, H2.out⟩
    case round =>
      obtain ⟨k, A, T, vs', rfl, hk, hT, hk30, rfl, hA, hr⟩ := hrel
      have HA := Lib.hid hA; have Hr := Lib.hid hr
      have hdiv : (A.size : Int) / 64 = (T : Int) := by omega
      clear hA hr
      by_cases hlt : k < xs.length
      · by_cases hlt2 : k < 30
        · obtain ⟨off, cc, a0, a1, a2, a3, a4, a5, keep, ka, kl, kc, hv', hget, hblt, hS⟩ := act_cells Hv.out k hlt
          simp only [Value.slice.injEq] at hv'
          obtain ⟨rfl, _, rfl⟩ := hv'
          have HS := Lib.hid hS; clear hS hget
          obtain ⟨q0, q1, q2, q3, q4, q5, q6⟩ := HS.out wr (H1.out.trans' Hr.out.M)
          have h43 := i64_and3 a3
          obtain ⟨q, hq⟩ := Int.eq_ofNat_of_zero_le (show 0 ≤ a3 % 4 by omega)
          have hq4 : q < 4 := by omega
          rw [hq] at h43
          clear hq
          go_wp2_with fail
          refine (text_any 2 a1 a2 (1 + (q : Int)) 0 a5 (.slice ka kl kc) k _).mono ?_
          rintro e wt ⟨s, rfl, hs, hbt⟩
          have hs : s.size = 64 * (1 + q) := by
            rw [hs]
            have : textB 2 (1 + (q : Int)) = true := by
              simp only [textB, Bool.and_eq_true, decide_eq_true_eq]
              exact ⟨⟨rfl, by omega⟩, by omega⟩
            unfold textN
            rw [if_pos this]
            omega
          have hbx := Blk.new wr #[.int .i64 2, .int .i64 a1, .int .i64 a2, .int .i64 (1 + (q : Int)), .int .i64 0, .int .u8 a5, .slice ka kl kc] 61
          have hbx2 := (Mod.of_below hbt []).blk hbx (by simp)
          have x3 := hbx2.cell (i := 3) rfl
          have hlx := hbx2.lt
          have Hr2 := Lib.hid ((Hr.out.alloc (.cells #[.int .i64 2, .int .i64 a1, .int .i64 a2, .int .i64 (1 + (q : Int)), .int .i64 0, .int .u8 a5, .slice ka kl kc] 61)).below hbt)
          have Hs := Lib.hid hs
          clear hbt hbx hbx2 hs q0 q1 q2 q3 q4 q5 q6
          go_wp2_with fail
          refine (ddoA 1 1 (T : Int) (1 + (q : Int)) s Hr2.out (by rw [Hs.out]; omega)).mono ?_
          have hD := rd_write (l := A.data.toList) (T := T) (q := 1 + q) (s := s) (by omega) (by omega) Hs.out
          rw [show (((1 + q : Nat)) : Int) = 1 + (q : Int) by omega] at hD
          rw [hD]
          clear hD
          rintro e wd ⟨rfl, vs2, hd, -, -⟩
          have Hd := Lib.hid hd
          have hcs : A.size + s.size ≤ 100000 := by rw [HA.out, Hs.out]; omega
          clear hd x3
          go_wp2_with fail
          go_roundw
          case rel => exact ⟨k + 1, A ++ s, T + (1 + q), vs2, by go_num, by omega, by omega, by omega, rfl, by rw [ByteArray.size_append, HA.out, Hs.out]; omega, by have := Hd.out; rwa [ByteArray.data_append, Array.toList_append]⟩
          case measure => simp [intOf]; omega
        · have hd : decide (k < 30) = false := by simpa using hlt2
          go_wp2_with fail
          go_meet
          exact ⟨A, T, vs', rfl, HA.out, by omega, Hr.out⟩
      · have hd : decide (k < xs.length) = false := by simpa using hlt
        go_wp2_with fail
        go_meet
        exact ⟨A, T, vs', rfl, HA.out, by omega, Hr.out⟩
  case rest =>
    obtain ⟨A, T, vs', rfl, hA, hT, hr⟩ := hcut
    have HA := Lib.hid hA; have Hr := Lib.hid hr
    have hdiv : (A.size : Int) / 64 = (T : Int) := by omega
    have hAl : A.size ≤ 100000 := by omega
    clear hA hr
    go_wp2_with fail
    refine (ddoA 7 1 at_ n ByteArray.empty Hr.out (by decide)).mono ?_
    by_cases hok : 0 ≤ at_ ∧ 1 ≤ n ∧ at_ ≤ T ∧ n ≤ T - at_
    · obtain ⟨k1, k2, k3, k4⟩ := hok
      obtain ⟨ja, rfl⟩ := Int.eq_ofNat_of_zero_le k1
      obtain ⟨jn, rfl⟩ := Int.eq_ofNat_of_zero_le (show 0 ≤ n by omega)
      rw [rd_read _ _ ⟨by omega, by omega, by omega⟩]
      have hx : str ((A.data.toList.drop ((ja : Int).toNat * 64)).take ((jn : Int).toNat * 64)) = A.extract (64 * ja) (64 * (ja + jn)) := by
        rw [← str_extract]
        congr 2
        · simp only [Int.toNat_natCast]; omega
        · congr 1; simp only [Int.toNat_natCast]; omega
      rw [hx]
      rintro e wd ⟨rfl, vs2, hd, -, -⟩
      have Hd := Lib.hid hd
      clear hd hx
      have b1 : decide ((T : Int) < (ja : Int)) = false := by simp; omega
      have b2 : decide ((T : Int) - (ja : Int) < (jn : Int)) = false := by simp; omega
      have b3 : ((64 : Int) * (ja : Int)).toNat = 64 * ja := by omega
      have b4 : ((64 : Int) * ((ja : Int) + (jn : Int))).toNat = 64 * (ja + jn) := by omega
      have b5 : 64 * (ja + jn) ≤ A.size := by rw [HA.out]; omega
      go_wp2_with fail
      go_ret
      exact ⟨rfl, (H1.out.trans' Hd.out.M).below (Nat.le_refl _)⟩
    · rw [rd_read_no _ _ hok]
      rintro e wd ⟨rfl, vs2, hd, -, -⟩
      have Hd := Lib.hid hd
      clear hd
      have hb : Hid (¬ (0 ≤ at_ ∧ 1 ≤ n ∧ at_ ≤ T ∧ n ≤ T - at_)) := hok
      by_cases c1 : at_ < 0
      · go_wp2_with fail
        go_ret
        exact ⟨rfl, (H1.out.trans' Hd.out.M).below (Nat.le_refl _)⟩
      · by_cases c2 : n < 1
        · have d2 : decide (n < 1) = true := by simpa using c2
          go_wp2_with fail
          go_ret
          exact ⟨rfl, (H1.out.trans' Hd.out.M).below (Nat.le_refl _)⟩
        · by_cases c3 : (T : Int) < at_
          · have d2 : decide ((T : Int) < at_) = true := by simpa using c3
            go_wp2_with fail
            go_ret
            exact ⟨rfl, (H1.out.trans' Hd.out.M).below (Nat.le_refl _)⟩
          · have d2 : decide ((T : Int) - at_ < n) = true := by simp; omega
            go_wp2_with fail
            all_goals first
              | (exfalso; have := hb.out; omega)
              | (go_ret; exact ⟨rfl, (H1.out.trans' Hd.out.M).below (Nat.le_refl _)⟩)

end Go.Proofs.Ytojceddgmmapdaa
