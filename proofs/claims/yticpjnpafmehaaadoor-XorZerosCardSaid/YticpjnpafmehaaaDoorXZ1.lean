/-
  So many noughts (xor.Zero, over the shelf's strings.Repeat); walk of the law XorZeros.
-/
import Derived.Test.YticpjnpafmehaaaDoorXT1
import Derived.Test.YticpjnpafmehaaaDoorShelf
namespace Go.Proofs.YticpjnpafmehaaaDoor.XPlain
open Go.RowKit Go.Proofs.YticpjnpafmehaaaDoor.X Go.Proofs.YticpjnpafmehaaaDoorW.PrintWords Go.Proofs.YticpjnpafmehaaaDoorW.PrintLast Go.Proofs.YticpjnpafmehaaaDoorW.PrintMore

/-- So many noughts. -/
def zerosB (n : Nat) : ByteArray := ⟨(List.replicate n 0).toArray⟩
theorem repeat_zero (n : Nat) : Lib.repeatL [0] n = List.replicate n 0 := by
  induction n with
  | zero => rfl
  | succ n ih => simp [Lib.repeatL, List.replicate_succ] at ih ⊢; try exact ih
def xor_Zero.f (a0 : Int) : Option ByteArray := if a0 < 0 then some ⟨#[]⟩ else if 65536 < a0 then some ⟨#[]⟩ else some (zerosB a0.toNat)
theorem xor_Zero.calls (a0 : Int) (r : ByteArray) (w : World) (h : xor_Zero.f a0 = some r) :
    Calls Tryd.prog 21 #[.int .i64 a0] w fun e w' => e = .returned (.string r) ∧ Below w.heap.size w w' := by
  unfold xor_Zero.f at h
  by_cases h1 : a0 < 0
  · rw [if_pos h1] at h
    obtain rfl : ⟨#[]⟩ = r := Option.some.inj h
    clear h
    go_enter Tryd.func21, Tryd.ntmps21
    go_wp2_with fail
    go_ret
    exact ⟨rfl, Below.refl _ _⟩
  · rw [if_neg h1] at h
    by_cases h2 : 65536 < a0
    · rw [if_pos h2] at h
      obtain rfl : ⟨#[]⟩ = r := Option.some.inj h
      clear h
      go_enter Tryd.func21, Tryd.ntmps21
      go_wp2_with fail
      go_ret
      exact ⟨rfl, Below.refl _ _⟩
    · rw [if_neg h2] at h
      obtain rfl : zerosB a0.toNat = r := Option.some.inj h
      clear h
      obtain ⟨n, rfl⟩ := Int.eq_ofNat_of_zero_le (show 0 ≤ a0 by omega)
      rw [Int.toNat_natCast]
      have hz : (⟨(Lib.repeatL (⟨#[0]⟩ : ByteArray).data.toList n).toArray⟩ : ByteArray) = zerosB n := by
        show (⟨(Lib.repeatL [0] n).toArray⟩ : ByteArray) = _
        rw [repeat_zero]; rfl
      have Hz := Lib.hid hz
      clear hz
      have d2 : decide ((65536 : Int) < (n : Int)) = false := by simpa using h2
      go_enter Tryd.func21, Tryd.ntmps21
      go_wp2_with fail
      refine (Tryd.strings_Repeat ⟨#[0]⟩ n _ (by omega) (by show 1 * n ≤ _; omega)).mono ?_
      rw [Hz.out]
      rintro e w1 ⟨rfl, hb⟩
      go_wp2_with fail
      go_ret
      exact ⟨rfl, hb⟩

theorem zerosB_size (n : Nat) : (zerosB n).size = n := by
  show (zerosB n).data.toList.length = n
  simp [zerosB]
theorem zerosB_allz (n : Nat) : allz (zerosB n) = true := by
  unfold allz zerosB
  simp
theorem at_zerosB (n t : Nat) : at_ (zerosB n) t = 0 := by
  unfold at_ zerosB
  simp only [List.getD_eq_getElem?_getD, List.getElem?_replicate]
  split <;> rfl
theorem add_empty (a : ByteArray) : par [a, ⟨#[]⟩] = a := by
  apply bytes_ext
  · rw [par_size, long_two]; show max a.size 0 = a.size; omega
  · intro t ht
    rw [par_at', xs_two]
    have : at_ ⟨#[]⟩ t = 0 := by unfold at_; simp
    rw [this, xor_zero']

/-- Nothing but noughts so far. -/
def zpre (s : ByteArray) (i : Nat) : Bool := (s.data.toList.take i).all (· == 0)
theorem zpre_zero (s : ByteArray) : zpre s 0 = true := rfl
theorem zpre_all (s : ByteArray) : zpre s s.size = allz s := by
  unfold zpre allz
  rw [List.take_of_length_le (by show s.data.toList.length ≤ s.size; exact Nat.le_refl _)]
theorem zpre_succ (s : ByteArray) (i : Nat) (h : i < s.size) : zpre s (i + 1) = (zpre s i && (s[i] == 0)) := by
  unfold zpre
  rw [List.take_succ_eq_append_getElem (by simpa using h), List.all_append]
  simp
  rfl

set_option maxHeartbeats 2000000 in
set_option maxRecDepth 100000 in
theorem xorZeros_walk (n : Int) (s : ByteArray) (w : World) (hs : s.size ≤ 140737488351232) :
    Calls Tryd.prog 8 #[.int .i64 n, .string s] w fun e w' => e = .returned (.bool true) ∧ Below w.heap.size w w' := by
  by_cases hn : n < 0 ∨ 65536 < n
  · have hf : xor_Zero.f n = some ⟨#[]⟩ := by
      unfold xor_Zero.f
      split
      · rfl
      · rw [if_pos (by omega)]
    have d1 : decide (n < 0) = true ∨ (decide (n < 0) = false ∧ decide (65536 < n) = true) := by
      by_cases h : n < 0
      · exact .inl (by simpa using h)
      · exact .inr ⟨by simpa using h, by simp; omega⟩
    have Hf := Lib.hid hf
    clear hf hn
    rcases d1 with k1 | ⟨k1, k2⟩
    all_goals
      go_enter Tryd.func8, Tryd.ntmps8
      go_wp2_with fail
      refine (corbellaw03_speaks.calls _ true _ speaks_ev.rounds.choose_spec).mono ?_
      rintro e w1 ⟨rfl, hb1⟩
      have H1 := Lib.hid hb1
      clear hb1
      go_wp2_with fail
      refine (xor_Zero.calls n _ _ Hf.out).mono ?_
      rintro e w2 ⟨rfl, hb2⟩
      have H2 : Hid (Below w.heap.size w w2) := H1.out.trans (hb2.mono H1.out.size)
      clear hb2
      go_wp2_with fail
      go_ret
      exact ⟨rfl, H2.out⟩
  · obtain ⟨m, rfl⟩ := Int.eq_ofNat_of_zero_le (show 0 ≤ n by omega)
    have hf : xor_Zero.f (m : Int) = some (zerosB m) := by
      unfold xor_Zero.f
      rw [if_neg (by omega), if_neg (by omega), Int.toNat_natCast]
    have Hf := Lib.hid hf
    have hm : m ≤ 65536 := by omega
    have k2 : decide ((65536 : Int) < (m : Int)) = false := by simp; omega
    have k1 : decide ((m : Int) < 0) = false := by simp
    have hz1 := zerosB_size m
    have Hz1 := Lib.hid hz1
    clear hz1
    clear hf hn
    go_enter Tryd.func8, Tryd.ntmps8
    go_wp2_with fail
    refine (corbellaw03_speaks.calls _ true _ speaks_ev.rounds.choose_spec).mono ?_
    rintro e w1 ⟨rfl, hb1⟩
    have H1 := Lib.hid hb1
    clear hb1
    go_wp2_with fail
    refine (xor_Zero.calls m _ _ Hf.out).mono ?_
    rintro e w2 ⟨rfl, hb2⟩
    have H2 : Hid (Below w.heap.size w w2) := H1.out.trans (hb2.mono H1.out.size)
    clear hb2
    go_wp2_with fail
    go_loop [6, 7] (fun s6 s7 => ∃ i : Nat, i ≤ s.size ∧ s7 = .int .i64 i ∧ s6 = .bool (zpre s i)) (fun _ s7 => s.size - (intOf s7).toNat)
    case atStart => exact ⟨0, Nat.zero_le _, rfl, rfl⟩
    case round =>
      obtain ⟨i, hi, rfl, rfl⟩ := hrel
      by_cases hlt : i < s.size
      · have hsn := zpre_succ s i hlt
        have Hsn := Lib.hid hsn
        clear hsn
        cases hz : zpre s i with
        | false =>
          have Hz := Lib.hid hz
          clear hz
          go_wp2_with fail
          go_round
          case rel => exact ⟨i + 1, by omega, by go_num, by rw [Hsn.out, Hz.out]; rfl⟩
          case measure => simp [intOf]; omega
        | true =>
          have Hz := Lib.hid hz
          clear hz
          by_cases h0 : s[i] = 0
          · have hb : ((s[i].toNat : Int) == 0) = true := by rw [h0]; rfl
            have Hh : Hid ((s[i] == 0) = true) := by show _ = _; rw [h0]; rfl
            clear h0
            go_wp2_with fail
            go_round
            case rel => exact ⟨i + 1, by omega, by go_num, by rw [Hsn.out, Hz.out, Hh.out]; rfl⟩
            case measure => simp [intOf]; omega
          · have hb : ((s[i].toNat : Int) == 0) = false := by
              rw [beq_eq_false_iff_ne]
              intro e
              exact h0 ((u8_zero_iff _).1 e)
            have Hh : Hid ((s[i] == 0) = false) := by show _ = _; simpa using h0
            clear h0
            go_wp2_with fail
            go_round
            case rel => exact ⟨i + 1, by omega, by go_num, by rw [Hsn.out, Hz.out, Hh.out]; rfl⟩
            case measure => simp [intOf]; omega
      · obtain rfl : i = s.size := by omega
        rw [zpre_all s]
        have hd : decide (s.size < s.size) = false := by simp
        have hl : (((zerosB m).size : Int) == (m : Int)) = true := by rw [Hz1.out]; simp
        have hl2 : ((zerosB m).size == m) = true := by rw [Hz1.out]; simp
        go_wp2_with fail
        refine (empty_c (zerosB m) (by rw [Hz1.out]; omega) _).mono ?_
        rintro e w3 ⟨rfl, ⟨n3, rfl⟩⟩
        rw [zerosB_allz]
        go_wp2_with fail
        refine (empty_c s hs _).mono ?_
        rintro e w4 ⟨rfl, ⟨n4, rfl⟩⟩
        go_wp2_with fail
        refine (add_c (zerosB m) ⟨#[]⟩ (by rw [Hz1.out]; omega) (by show 0 ≤ _; omega) _).mono ?_
        rw [add_empty]
        rintro e w5 ⟨rfl, hb5⟩
        have H5 : Hid (Below w.heap.size w w5) := (below_dr H2.out (n3 + n4)).trans (hb5.mono H2.out.size)
        clear hb5
        go_wp2_with fail
        go_ret
        exact ⟨rfl, H5.out⟩

end Go.Proofs.YticpjnpafmehaaaDoor.XPlain
