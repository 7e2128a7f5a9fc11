/-
  Walk of the document's sum (corbelref02.Sum).
-/
import Derived.Test.YticpjnpafmehaaaDoorRC1
namespace Go.Proofs.YticpjnpafmehaaaDoor
open Go.RowKit
set_option linter.unusedVariables false
set_option linter.unusedSimpArgs false

/-- b bits of a byte, the lowest first. -/
def bitsTo (c B : W32) : Nat → W32
  | 0 => c
  | b + 1 => ((bitsTo c B b) >>> 1) ^^^ (if ((B >>> b).getLsbD 0) != (bitsTo c B b).getLsbD 0 then poly else 0#32)
theorem bitsTo_inv (c B : W32) : ∀ b, bitsTo c B b ^^^ (B >>> b) = nbits b (c ^^^ B) := by
  have key : ∀ (n : Nat) (x : W32), nbits (n + 1) x = bit1 (nbits n x) := by
    intro n x; rw [nbits_add n 1]; rfl
  intro b
  induction b with
  | zero => simp [bitsTo, nbits]
  | succ b ih =>
    rw [key, ← ih]
    unfold bit1
    rw [BitVec.ushiftRight_xor_distrib, BitVec.getLsbD_xor]
    simp only [bitsTo]
    have e : B >>> b >>> 1 = B >>> (b + 1) := by rw [BitVec.shiftRight_add]
    rw [e]
    have h2 : ∀ p q r : W32, (p ^^^ q) ^^^ r = p ^^^ r ^^^ q := fun p q r => by rw [BitVec.xor_assoc, BitVec.xor_comm q r, ← BitVec.xor_assoc]
    rw [h2]
    congr 1
    congr 1
    cases (B >>> b).getLsbD 0 <;> cases (bitsTo c B b).getLsbD 0 <;> rfl
theorem bitsTo_all (c : W32) (x : UInt8) : bitsTo c (u32 x) 8 = step8 (c ^^^ u32 x) := by
  have h := bitsTo_inv c (u32 x) 8
  have hz : (u32 x) >>> 8 = 0#32 := by
    apply BitVec.eq_of_toNat_eq
    rw [BitVec.toNat_ushiftRight, Nat.shiftRight_eq_div_pow, Nat.div_eq_of_lt (u32_lt x)]; rfl
  rw [hz, BitVec.xor_zero] at h
  rw [h, step8_nbits]
theorem bit_low (c : W32) : c.getLsbD 0 = decide (c.toNat % 2 = 1) := by
  unfold BitVec.getLsbD
  rw [Nat.testBit_zero]
theorem bit_test (c : W32) (x : UInt8) (b : Nat) : (((((x.toNat : Int) / 2 ^ b) % 2) != ((c.toNat : Int) % 2)) = (((u32 x >>> b).getLsbD 0) != c.getLsbD 0)) := by
  rw [bit_low, bit_low, BitVec.toNat_ushiftRight, Nat.shiftRight_eq_div_pow]
  have e1 : (u32 x).toNat = x.toNat := by unfold u32; rw [BitVec.toNat_ofNat]; have := u8_lt x; omega
  rw [e1]
  have e2 : ((2 : Int) ^ b) = ((2 ^ b : Nat) : Int) := by simp
  rw [e2, ← Int.natCast_ediv]
  generalize x.toNat / 2 ^ b = p
  rw [Bool.eq_iff_iff]
  simp only [bne_iff_ne, ne_eq]
  by_cases h1 : p % 2 = 1 <;> by_cases h2 : c.toNat % 2 = 1 <;> simp [h1, h2] <;> omega

theorem bit_test_t (c : W32) (x : UInt8) (b : Nat) : (((((x.toNat : Int) / 2 ^ b).tmod 2) != ((c.toNat : Int) % 2)) = (((u32 x >>> b).getLsbD 0) != c.getLsbD 0)) := by
  rw [Int.tmod_eq_emod_of_nonneg (Int.ediv_nonneg (by omega) (by have : (0 : Int) < 2 ^ b := Int.pow_pos (by decide); omega))]
  exact bit_test c x b
theorem half32 (c : W32) : ((c.toNat : Int) / (2 : Int)) = (((c >>> 1).toNat : Nat) : Int) := by
  rw [BitVec.toNat_ushiftRight, Nat.shiftRight_eq_div_pow]; omega
theorem bitsTo_one (c B : W32) (b : Nat) (h : (((B >>> b).getLsbD 0) != (bitsTo c B b).getLsbD 0) = true) : bits .xor .u32 (((bitsTo c B b).toNat : Int) / (2 : Int)) 2197175160 = ((bitsTo c B (b + 1)).toNat : Int) := by
  rw [half32, show (2197175160 : Int) = ((poly.toNat : Nat) : Int) from rfl, xor32]
  simp only [bitsTo]
  rw [if_pos h]
theorem bitsTo_none (c B : W32) (b : Nat) (h : (((B >>> b).getLsbD 0) != (bitsTo c B b).getLsbD 0) = false) : (((bitsTo c B b).toNat : Int) / (2 : Int)) = ((bitsTo c B (b + 1)).toNat : Int) := by
  rw [half32]
  simp only [bitsTo]
  rw [if_neg (by rw [h]; simp), BitVec.xor_zero]

set_option maxHeartbeats 2000000 in
set_option maxRecDepth 100000 in
theorem refSum_any (s : ByteArray) (w : World) (hs : s.size ≤ 9223372036854775807) :
    Calls Tryd.prog 38 #[.string s] w fun e w' => e = .returned (.int .u32 ((crcL s.data.toList).toNat : Int)) ∧ w = w' := by
  go_enter Tryd.func38, Tryd.ntmps38
  go_wp2
  go_loop [3, 4] (fun s3 s4 => ∃ i : Nat, i ≤ s.size ∧ s4 = .int .i64 i ∧ s3 = .int .u32 ((run (s.data.toList.take i) (~~~ 0#32)).toNat : Int)) (fun _ s4 => s.size - (intOf s4).toNat)
  case atStart => exact ⟨0, Nat.zero_le _, rfl, rfl⟩
  case round =>
    obtain ⟨i, hi, rfl, rfl⟩ := hrel
    by_cases hlt : i < s.size
    · obtain ⟨B, hB⟩ : ∃ B, Go.Proofs.YticpjnpafmehaaaDoor.u32 s[i] = B := ⟨_, rfl⟩
      have hr : run (s.data.toList.take (i + 1)) (~~~ 0#32) = bitsTo (run (s.data.toList.take i) (~~~ 0#32)) B 8 := by
        rw [← hB, bitsTo_all, List.take_succ_eq_append_getElem (by simpa using hlt), run_append]; rfl
      have HR := Lib.hid hr
      have HB := Lib.hid hB
      clear hr hB
      generalize run (s.data.toList.take i) (~~~ 0#32) = c at *
      go_wp2
      go_loop [3, 5] (fun s3 s5 => ∃ b : Nat, b ≤ 8 ∧ s5 = .int .i64 b ∧ s3 = .int .u32 ((bitsTo c B b).toNat : Int)) (fun _ s5 => 8 - (intOf s5).toNat)
      case atStart => exact ⟨0, Nat.zero_le _, rfl, rfl⟩
      case round =>
        obtain ⟨b, hb, rfl, rfl⟩ := hrel
        by_cases hb8 : b < 8
        · have hbI : (b : Int) < 8 := by omega
          have hcl := u32_lt' (bitsTo c B b)
          have hxl := u8_lt s[i]
          have hT := bit_test_t (bitsTo c B b) s[i] b
          rw [HB.out] at hT
          have HT := Lib.hid hT
          clear hT
          have H1 := Lib.hid (bitsTo_one c B b)
          have H0 := Lib.hid (bitsTo_none c B b)
          by_cases ht : ((((s[i].toNat : Int) / 2 ^ b).tmod 2) != ((bitsTo c B b).toNat : Int) % 2) = true
          · go_wp2
            go_round
            case rel => exact ⟨b + 1, by omega, by go_num, by rw [H1.out (by rw [← HT.out]; exact ht)]⟩
            case measure => simp [intOf]; omega
          · have ht2 : ((((s[i].toNat : Int) / 2 ^ b).tmod 2) != ((bitsTo c B b).toNat : Int) % 2) = false := by simpa using ht
            clear ht
            go_wp2
            go_round
            case rel => exact ⟨b + 1, by omega, by go_num, by rw [H0.out (by rw [← HT.out]; exact ht2)]⟩
            case measure => simp [intOf]; omega
        · obtain rfl : b = 8 := by omega
          go_wp2
          go_round
          case rel => exact ⟨i + 1, by omega, by go_num, by rw [HR.out]⟩
          case measure => simp [intOf]; omega
    · obtain rfl : i = s.size := by omega
      have e1 : s.data.toList.take s.size = s.data.toList := List.take_of_length_le (Nat.le_refl _)
      rw [e1]
      have hn : ((crcL s.data.toList).toNat : Int) = 4294967295 - ((run s.data.toList (~~~ 0#32)).toNat : Int) := by
        unfold crcL
        rw [BitVec.toNat_not]
        have := u32_lt' (run s.data.toList (~~~ 0#32))
        omega
      have HN := Lib.hid hn
      have hcl := u32_lt' (run s.data.toList (~~~ 0#32))
      clear hn e1
      generalize run s.data.toList (~~~ 0#32) = c at *
      go_wp2
      go_ret
      exact ⟨by rw [HN.out]; rfl, rfl⟩

end Go.Proofs.YticpjnpafmehaaaDoor
