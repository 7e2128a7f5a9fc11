/-
  Walk of the document's numbers as bytes (corbelref01.Put).
-/
import Derived.Test.YticpjnpafmehaaaDoorRN0
namespace Go.Proofs.YticpjnpafmehaaaDoor
open Go.RowKit
set_option linter.unusedVariables false
set_option linter.unusedSimpArgs false

theorem Below.alloc1' {a w : World} (h : Below a.heap.size a w) (o : Obj) : Below a.heap.size a (w.alloc o) := h.alloc h.size o
theorem one_byte (X : World) (g : Nat) (b : UInt8) (hB : Blk X g #[.int .u8 (b.toNat : Int)] 5) : (convert 30 9 (.slice (some ⟨g, 0, none⟩) 1 1)).run Tryd.prog X = Result.ok (.string ⟨#[b]⟩) X := by
  exact run_convert_bytes_back (P := Tryd.prog) X 30 9 5 ⟨g, 0, none⟩ 1 [b] Tryd.underlying30 Tryd.underlying5 Tryd.underlying9 (fun j hj => by
    rw [Addr.add_lit, Nat.zero_add]
    have hj' : j = 0 := by simpa using hj
    subst hj'
    exact hB.cell rfl)
theorem be_cons (b : UInt8) (i n : Nat) (h : UInt8.ofNat (n / 256 ^ i) = b) : (⟨#[b]⟩ : ByteArray) ++ str (be i n) = str (be (i + 1) n) := by
  subst h
  have : ∀ x y : ByteArray, x.data = y.data → x = y := fun x y h => by cases x; cases y; simp_all
  apply this
  simp [str, be]

set_option maxHeartbeats 2000000 in
set_option maxRecDepth 100000 in
theorem refPut_any (n w : Nat) (W : World) (hw1 : 1 ≤ w) (hw : w ≤ 7) (hn : n < 256 ^ w) (hn2 : n ≤ 9223372036854775807) :
    Calls Tryd.prog 37 #[.int .i64 (n : Int), .int .i64 (w : Int)] W fun e w' => e = .returned (.string (str (be w n))) ∧ Below W.heap.size W w' := by
  have d1 : decide ((w : Int) < 1) = false := by simp; omega
  have d2 : decide ((7 : Int) < (w : Int)) = false := by simp; omega
  have d3 : decide ((n : Int) < 0) = false := by simp
  have HN := Lib.hid hn
  clear hn
  go_enter Tryd.func37, Tryd.ntmps37
  go_wp2
  go_loopw [0, 5, 6] (fun s0 s5 s6 wr => ∃ i : Nat, s6 = .int .i64 i ∧ i ≤ w ∧ s0 = .int .i64 ((n / 256 ^ i : Nat) : Int) ∧ s5 = .string (str (be i n)) ∧ Below W.heap.size W wr) (fun _ _ s6 _ => w - (intOf s6).toNat)
  case atStart => exact ⟨0, rfl, Nat.zero_le _, by simp, rfl, Below.refl _ _⟩
  case round =>
    obtain ⟨i, rfl, hi, rfl, rfl, hW⟩ := hrel
    have HW := Lib.hid hW
    have hsz := hW.size
    clear hW
    obtain ⟨m, hm⟩ : ∃ m, n / 256 ^ i = m := ⟨_, rfl⟩
    have HM := Lib.hid hm
    have hmn : m ≤ 9223372036854775807 := by rw [← hm]; exact Nat.le_trans (Nat.div_le_self _ _) hn2
    rw [hm]
    by_cases hlt : i < w
    · obtain ⟨b, hb⟩ : ∃ b, UInt8.ofNat m = b := ⟨_, rfl⟩
      have hbm : ((m : Int) % 256) = (b.toNat : Int) := by rw [← hb, UInt8.toNat_ofNat']; omega
      have hbl := u8_lt b
      have HS := Lib.hid (be_cons b i n (by rw [hm]; exact hb))
      have hss : (str (be i n)).size = i := by show (be i n).length = i; exact be_length _ _
      have hd : n / 256 ^ (i + 1) = m / 256 := by rw [← hm, Nat.pow_succ, Nat.div_div_eq_div_mul]
      have HD := Lib.hid hd
      clear hm hb hd
      obtain ⟨T, hT⟩ : ∃ T, str (be i n) = T := ⟨_, rfl⟩
      have HT := Lib.hid hT
      rw [hT] at hss ⊢
      have hss1 : T.size ≤ 7 := by omega
      have hss2 : (⟨#[b]⟩ : ByteArray).size + T.size ≤ 9223372036854775807 := by show 1 + T.size ≤ _; omega
      have hcv := fun X : World => one_byte (X.alloc (.cells #[.int .u8 (b.toNat : Int)] 5)) X.heap.size b (Blk.new X _ _)
      clear hT hss
      go_wp2
      go_roundw
      case rel => exact ⟨i + 1, by go_num, by omega, by rw [HD.out]; go_num, by rw [← HS.out, HT.out], Below.alloc1' HW.out _⟩
      case measure => simp [intOf]; omega
    · obtain rfl : i = w := by omega
      have hm0 : m = 0 := by rw [← hm]; exact Nat.div_eq_of_lt HN.out
      subst hm0
      have hlt2 : decide (i < i) = false := by simp
      clear hm
      go_wp2
      go_ret
      exact ⟨rfl, HW.out⟩

end Go.Proofs.YticpjnpafmehaaaDoor
