/-
  Walks of crc.step, crc.Sum: over the table that the program lays.
-/
import Derived.Test.YticpjnpafmehaaaDoorRP0
import Derived.Test.YticpjnpafmehaaaDoorProg
namespace Go.Proofs.YticpjnpafmehaaaDoor
open Go.RowKit
set_option linter.unusedVariables false
set_option linter.unusedSimpArgs false

/-- The table lies where the program has laid it. -/
structure TabIn (w : World) : Prop where
  lt : 0 < w.heap.size
  cell : ∀ i, i < 16 → w.cell? ⟨0, i, none⟩ = some (.int .u32 ((tab.getD i 0#32).toNat : Int))

theorem TabIn.below {w w' : World} {B : Nat} (h : TabIn w) (hb : Below B w w') (hB : 0 < B) : TabIn w' :=
  ⟨Nat.lt_of_lt_of_le h.lt hb.size, fun i hi => by
    rw [hb.cell (p := ⟨0, i, none⟩) hB]; exact h.cell i hi⟩

theorem u32_lt' (c : W32) : c.toNat < 4294967296 := c.isLt

theorem and15 (c : W32) : bits .and .u32 (c.toNat : Int) 15 = ((c.toNat % 16 : Nat) : Int) := by
  show IntKind.u32.wrap ((BitVec.ofInt 32 (c.toNat : Int) &&& BitVec.ofInt 32 15).toNat : Int) = _
  have h1 : BitVec.ofInt 32 (c.toNat : Int) = c := by
    rw [BitVec.ofInt_natCast]
    apply BitVec.eq_of_toNat_eq
    rw [BitVec.toNat_ofNat]
    exact Nat.mod_eq_of_lt c.isLt
  have h2 : BitVec.ofInt 32 15 = 15#32 := rfl
  rw [h1, h2, BitVec.toNat_and, show (15#32).toNat = 2 ^ 4 - 1 from rfl, Nat.and_two_pow_sub_one_eq_mod]
  show (((c.toNat % 2 ^ 4 : Nat) : Int)) % 4294967296 = _
  omega
theorem xor32 (a b : W32) : bits .xor .u32 (a.toNat : Int) (b.toNat : Int) = ((a ^^^ b).toNat : Int) := by
  show IntKind.u32.wrap ((BitVec.ofInt 32 (a.toNat : Int) ^^^ BitVec.ofInt 32 (b.toNat : Int)).toNat : Int) = _
  have h : ∀ c : W32, BitVec.ofInt 32 (c.toNat : Int) = c := fun c => by
    rw [BitVec.ofInt_natCast]
    apply BitVec.eq_of_toNat_eq
    rw [BitVec.toNat_ofNat]
    exact Nat.mod_eq_of_lt c.isLt
  rw [h, h]
  have := u32_lt' (a ^^^ b)
  show ((a ^^^ b).toNat : Int) % 4294967296 = _
  omega
theorem shr4 (c : W32) : (c >>> 4).toNat = c.toNat / 16 := by
  rw [BitVec.toNat_ushiftRight, Nat.shiftRight_eq_div_pow]
theorem and15n (c : W32) : (c &&& 15#32).toNat = c.toNat % 16 := by
  rw [BitVec.toNat_and, show (15#32).toNat = 2 ^ 4 - 1 from rfl, Nat.and_two_pow_sub_one_eq_mod]

set_option maxHeartbeats 1000000 in
theorem crcStep_any (c : W32) (w : World) (hT : TabIn w) : Calls Tryd.prog 56 #[.int .u32 (c.toNat : Int)] w fun e w' => e = .returned (.int .u32 ((step8 c).toNat : Int)) ∧ w = w' := by
  have HT := Lib.hid hT; clear hT
  go_enter Tryd.func56, Tryd.ntmps56
  go_wp2
  go_loop [0, 3] (fun s0 s3 => ∃ (k : Nat) (d : W32), k ≤ 2 ∧ s3 = .int .i64 k ∧ s0 = .int .u32 (d.toNat : Int) ∧ (if k = 0 then d = c else if k = 1 then d = nib c else d = step8 c)) (fun _ s3 => 2 - (intOf s3).toNat)
  case atStart => exact ⟨0, c, by omega, rfl, rfl, rfl⟩
  case round =>
    obtain ⟨k, d, hk, rfl, rfl, hd⟩ := hrel
    have Hd := Lib.hid hd; clear hd
    have h1 := and15 d
    have h2 := HT.out.cell (d.toNat % 16) (Nat.mod_lt _ (by decide))
    have h3 := u32_lt' d
    by_cases hlt : k < 2
    · have hltI : (k : Int) < 2 := by omega
      have Hd2 : Hid (if k + 1 = 1 then nib d = nib c else nib d = step8 c) := by
        have := Hd.out
        show if k + 1 = 1 then _ else _
        by_cases h0 : k = 0
        · rw [if_pos h0] at this; rw [if_pos (by omega), this]
        · rw [if_neg h0, if_pos (by omega)] at this; rw [if_neg (by omega), this]; rfl
      go_wp2
      go_round
      case rel =>
        refine ⟨k + 1, nib d, by omega, by go_num, ?_, ?_⟩
        · have e1 : ((d.toNat : Int) / (16 : Int)) = (((d >>> 4).toNat : Nat) : Int) := by rw [shr4]; omega
          have e2 : tab[d.toNat % 16]?.getD 0#32 = tab.getD (d &&& 15#32).toNat 0#32 := by rw [and15n, List.getD_eq_getElem?_getD]
          rw [e1, e2, xor32]
          rfl
        · rw [if_neg (by omega)]; exact Hd2.out
      case measure => simp [intOf]; omega
    · go_wp2
      go_ret
      have hk2 : k = 2 := by omega
      subst hk2
      have := Hd.out
      rw [if_neg (by omega), if_neg (by omega)] at this
      exact ⟨by rw [this]; rfl, rfl⟩

/-- The register behind the first parts. -/
def runs (l : List ByteArray) (c : W32) : W32 := run (l.flatMap fun s => s.data.toList) c
def cat (l : List ByteArray) : List UInt8 := l.flatMap fun s => s.data.toList

theorem run_snoc (l : List UInt8) (b : UInt8) (c : W32) : run (l ++ [b]) c = step8 (run l c ^^^ u32 b) := by rw [run_append]; rfl

/-- A slice of texts in the heap. -/
def StrsIn (w : World) (v : Value) (l : List ByteArray) : Prop := ∃ (a : Option Addr) (c : Nat), v = .slice a l.length c ∧ (0 < l.length → ∃ b off, a = some ⟨b, off, none⟩ ∧ ∀ j, j < l.length → w.cell? ⟨b, off + j, none⟩ = some (.string (l.getD j ⟨#[]⟩)))

set_option maxHeartbeats 1000000 in
theorem crcSum_any (v : Value) (l : List ByteArray) (w : World) (hT : TabIn w) (hv : StrsIn w v l) (hl : l.length ≤ 9223372036854775807) (hs : ∀ j, (l.getD j ⟨#[]⟩).size ≤ 9223372036854775807) :
    Calls Tryd.prog 36 #[v] w fun e w' => e = .returned (.int .u32 ((crcL (cat l)).toNat : Int)) ∧ w = w' := by
  have HT := Lib.hid hT; clear hT
  obtain ⟨a, c, rfl, hv⟩ := hv
  have Hv := Lib.hid hv; clear hv
  go_enter Tryd.func36, Tryd.ntmps36
  go_wp2
  go_loop [3, 9] (fun s3 s9 => ∃ k : Nat, k ≤ l.length ∧ s9 = .int .i64 k ∧ s3 = .int .u32 ((run (cat (l.take k)) (~~~ 0#32)).toNat : Int)) (fun _ s9 => l.length - (intOf s9).toNat)
  case atStart => exact ⟨0, Nat.zero_le _, rfl, rfl⟩
  case round =>
    obtain ⟨k, hk, rfl, rfl⟩ := hrel
    by_cases hlt : k < l.length
    · obtain ⟨b, off, rfl, hc⟩ := Hv.out (by omega)
      have hck := hc k hlt
      have hsk := hs k
      clear hc
      generalize hS : l.getD k ⟨#[]⟩ = S at *
      have HS := Lib.hid hS
      clear hS
      generalize hR : run (cat (l.take k)) (~~~ 0#32) = R at *
      have HR := Lib.hid hR
      clear hR
      go_wp2
      go_loop [3, 15] (fun s3 s15 => ∃ i : Nat, i ≤ S.size ∧ s15 = .int .i64 i ∧ s3 = .int .u32 ((run (S.data.toList.take i) R).toNat : Int)) (fun _ s15 => S.size - (intOf s15).toNat)
      case atStart => exact ⟨0, Nat.zero_le _, rfl, rfl⟩
      case round =>
        obtain ⟨i, hi, rfl, rfl⟩ := hrel
        by_cases hil : i < S.size
        · have hrs : run (S.data.toList.take (i + 1)) R = step8 (run (S.data.toList.take i) R ^^^ u32 S[i]) := by
            rw [List.take_succ_eq_append_getElem (by simpa using hil), run_snoc]; rfl
          have Hrs := Lib.hid hrs
          have hxor : bits .xor .u32 ((run (S.data.toList.take i) R).toNat : Int) (S[i].toNat : Int) = ((run (S.data.toList.take i) R ^^^ u32 S[i]).toNat : Int) := by
            have e : ((u32 S[i]).toNat : Int) = (S[i].toNat : Int) := by
              unfold u32
              rw [BitVec.toNat_ofNat]
              have := u8_lt S[i]
              omega
            rw [← xor32, e]
          have Hxor := Lib.hid hxor
          clear hrs hxor
          generalize run (S.data.toList.take i) R = X at *
          have hX := u32_lt' X
          have hb := u8_lt S[i]
          go_wp2_with fail
          rw [Hxor.out]
          refine (crcStep_any _ _ HT.out).mono ?_
          rintro e w1 ⟨rfl, rfl⟩
          go_wp2_with fail
          go_round
          case rel => exact ⟨i + 1, by omega, by go_num, by rw [Hrs.out]⟩
          case measure => simp [intOf]; omega
        · obtain rfl : i = S.size := by omega
          go_wp2_with fail
          go_round
          case rel =>
            refine ⟨k + 1, by omega, by go_num, ?_⟩
            have e1 : S.data.toList.take S.size = S.data.toList := List.take_of_length_le (Nat.le_refl _)
            have e2 : cat (l.take (k + 1)) = cat (l.take k) ++ S.data.toList := by
              rw [List.take_succ_eq_append_getElem hlt]
              unfold cat
              rw [List.flatMap_append]
              congr 1
              have := HS.out
              rw [List.getD_eq_getElem?_getD, List.getElem?_eq_getElem hlt] at this
              simp at this
              simp [this]
            rw [e1, e2, run_append, HR.out]
          case measure => simp [intOf]; omega
    · obtain rfl : k = l.length := by omega
      have hfin : crcL (cat l) = ~~~ (run (cat l) (~~~ 0#32)) := rfl
      rw [List.take_length]
      have Hf := Lib.hid hfin
      clear hfin
      generalize run (cat l) (~~~ 0#32) = R at *
      have hR := u32_lt' R
      go_wp2
      go_ret
      refine ⟨?_, rfl⟩
      rw [Hf.out]
      have e : IntKind.u32.max = (((~~~ 0#32 : W32).toNat : Nat) : Int) := by decide
      have e2 : (~~~ 0#32 : W32) ^^^ R = ~~~ R := by
        rw [BitVec.xor_comm]
        have := BitVec.xor_allOnes (x := R)
        exact this
      show Ending.returned (Value.int .u32 (bits .xor .u32 IntKind.u32.max (R.toNat : Int))) = _
      rw [e, xor32, e2]

end Go.Proofs.YticpjnpafmehaaaDoor
