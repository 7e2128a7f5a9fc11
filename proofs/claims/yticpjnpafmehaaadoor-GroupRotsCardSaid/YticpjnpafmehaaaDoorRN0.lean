/-
  Walks of nums.Put, nums.Get.
-/
import Derived.Test.YticpjnpafmehaaaDoorRC1
import Derived.Test.YticpjnpafmehaaaDoorShelf
namespace Go.Proofs.YticpjnpafmehaaaDoor
open Go.RowKit
set_option linter.unusedVariables false
set_option linter.unusedSimpArgs false

def str (l : List UInt8) : ByteArray := ⟨l.toArray⟩
def bc (l : List UInt8) : List Value := l.map fun b => Value.int .u8 b.toNat
theorem bc_length (l : List UInt8) : (bc l).length = l.length := by simp [bc]
theorem bc_get (l : List UInt8) (j : Nat) (h : j < l.length) : (bc l)[j]? = some (.int .u8 ((l[j]).toNat : Int)) := by simp [bc, h]
theorem u8_of (x : Int) (h : 0 ≤ x ∧ x < 256) : ((UInt8.ofNat x.toNat).toNat : Int) = x := by
  simp only [UInt8.toNat_ofNat']
  omega
theorem bc_set (l : List UInt8) (k : Nat) (y : UInt8) : (bc l).set k (.int .u8 (y.toNat : Int)) = bc (l.set k y) := by
  simp only [bc, List.map_set]

theorem madeCells_const (z : Array Value) (v : Value) (n : Nat) (h0 : 0 < z.size) (h : ∀ i, i < z.size → z[i]! = v) : madeCells z n = Array.replicate n v := by
  apply Array.ext
  · simp [madeCells]
  · intro i h1 h2
    have e : (madeCells z n)[i] = z[i % z.size]! := by simp [madeCells]
    rw [e, Array.getElem_replicate]; exact h _ (Nat.mod_lt _ h0)

theorem Tryd.infoU8 : (Tryd.prog.info? 5).map (fun i => (i.zero, i.size, i.bytes)) = some (some (.int .u8 0), 1, 1) := by kernel_rfl
theorem make_u8 (n : Nat) (hn : n ≤ 1000000) (x : Int) (hx : x = (n : Int)) (W : World) : (Instr.makeSlice 30 (.int .i64 x) (.int .i64 x)).run Tryd.prog W = .ok (.slice (some ⟨W.heap.size, 0, none⟩) n n) (W.alloc (.cells (Array.replicate n (.int .u8 0)) 5)) := by
  subst hx
  obtain ⟨i0, hi, hz0, hz1, hz2⟩ := info_parts Tryd.infoU8
  have h := run_make W 30 5 i0 _ Tryd.underlying30 hi hz0 .i64 .i64 (n : Int) (n : Int) (by omega) (by omega) (by rw [hz2]; omega) (by omega)
  rw [h, hz1, Int.toNat_natCast, madeCells_const _ (.int .u8 0) _ (by decide) (by intro j hj; match j, hj with | 0, _ => rfl)]
  simp

/-- The bytes that are put so far. -/
def putTo (w n i : Nat) : List UInt8 := (List.range w).map fun t => if t < i then UInt8.ofNat (n / 256 ^ (w - 1 - t)) else 0
theorem putTo_length (w n i : Nat) : (putTo w n i).length = w := by simp [putTo]
theorem putTo_zero (w n : Nat) : putTo w n 0 = List.replicate w 0 := by
  apply List.ext_getElem
  · simp [putTo]
  · intro i h1 h2; simp [putTo]
theorem putTo_succ (w n i : Nat) (h : i < w) : putTo w n (i + 1) = (putTo w n i).set i (UInt8.ofNat (n / 256 ^ (w - 1 - i))) := by
  apply List.ext_getElem
  · simp [putTo]
  · intro j h1 h2
    rw [List.getElem_set]
    simp only [putTo, List.getElem_map, List.getElem_range]
    by_cases hj : i = j
    · subst hj; simp
    · rw [if_neg hj]
      by_cases h3 : j < i
      · rw [if_pos h3, if_pos (by omega)]
      · rw [if_neg h3, if_neg (by omega)]
theorem be_range (w n : Nat) : be w n = (List.range w).map fun t => UInt8.ofNat (n / 256 ^ (w - 1 - t)) := by
  induction w with
  | zero => rfl
  | succ w ih =>
    rw [be, List.range_succ_eq_map, List.map_cons, List.map_map, ih]
    congr 1
    apply List.map_congr_left
    intro t ht
    have := List.mem_range.1 ht
    simp only [Function.comp]
    congr 3
    omega
theorem putTo_all (w n : Nat) : putTo w n w = be w n := by
  rw [be_range]
  unfold putTo
  apply List.map_congr_left
  intro t ht
  rw [if_pos (List.mem_range.1 ht)]

theorem shr_byte (n j : Nat) : (n : Int) / 2 ^ (8 * j) % 256 = (((UInt8.ofNat (n / 256 ^ j)).toNat : Nat) : Int) := by
  have e3 : ((2 : Int) ^ (8 * j)) = ((256 ^ j : Nat) : Int) := by rw [show (256 : Nat) = 2 ^ 8 by decide, ← Nat.pow_mul]; simp
  rw [e3, ← Int.natCast_ediv, UInt8.toNat_ofNat']
  omega

set_option maxHeartbeats 2000000 in
set_option maxRecDepth 100000 in
theorem put_any (n w : Nat) (W : World) (hw1 : 1 ≤ w) (hw : w ≤ 6) (hn : n < 256 ^ w) (hn2 : n ≤ 1099511627776) :
    Calls Tryd.prog 35 #[.int .i64 (n : Int), .int .i64 (w : Int)] W fun e w' => e = .returned (.string (str (be w n))) ∧ Below W.heap.size W w' := by
  have hmk := make_u8 w (by omega) w rfl
  have d1 : decide ((w : Int) < 1) = false := by simp; omega
  have d2 : decide ((7 : Int) < (w : Int)) = false := by simp; omega
  have d3 : decide ((n : Int) < 0) = false := by simp
  have hq : (n : Int) / 2 ^ (8 * w) = 0 := by
    have e3 : ((2 : Int) ^ (8 * w)) = ((256 ^ w : Nat) : Int) := by rw [show (256 : Nat) = 2 ^ 8 by decide, ← Nat.pow_mul]; simp
    rw [e3, ← Int.natCast_ediv, Nat.div_eq_of_lt hn]; rfl
  have hqb : ((n : Int) / 2 ^ (8 * w) != 0) = false := by rw [hq]; rfl
  clear hq hn
  go_enter Tryd.func35, Tryd.ntmps35
  go_wp2
  go_loopw [28] (fun s28 wr => ∃ i : Nat, s28 = .int .i64 i ∧ i ≤ w ∧ Blk wr W.heap.size (bc (putTo w n i)).toArray 5 ∧ Below W.heap.size W wr) (fun s28 _ => w - (intOf s28).toNat)
  case atStart =>
    refine ⟨0, rfl, Nat.zero_le _, ?_, (Below.refl _ _).alloc (Nat.le_refl _) _⟩
    have h1 := Blk.new W (Array.replicate w (.int .u8 0)) 5
    have e : (bc (putTo w n 0)).toArray = Array.replicate w (.int .u8 0) := by rw [putTo_zero]; simp [bc]
    rw [e]; exact h1
  case round =>
    obtain ⟨i, rfl, hi, hB, hW⟩ := hrel
    have HB := Lib.hid hB; have HW := Lib.hid hW
    have hlb := hB.lt
    by_cases hlt : i < w
    · have Hs := Lib.hid (putTo_succ w n i hlt)
      obtain ⟨u, hc⟩ : ∃ u, wr.cell? ⟨W.heap.size, i, none⟩ = some (.int .u8 u) := ⟨_, hB.cell (by simpa using bc_get (putTo w n i) i (by rw [putTo_length]; exact hlt))⟩
      have fz := hB.frozen i
      have Hsb := Lib.hid (shr_byte n (w - 1 - i))
      clear hB hW
      go_wp2
      go_roundw
      case rel =>
        refine ⟨i + 1, by go_num, by omega, ?_, HW.out.setCell (Nat.le_refl _) _⟩
        rw [Hsb.out, Hs.out, ← bc_set]
        have := HB.out.set i (.int .u8 ((UInt8.ofNat (n / 256 ^ (w - 1 - i))).toNat : Int))
        rwa [List.setIfInBounds_toArray] at this
      case measure => simp [intOf]; omega
    · obtain rfl : i = w := by omega
      have hcv := run_convert_bytes_back (P := Tryd.prog) wr 30 9 5 ⟨W.heap.size, 0, none⟩ i (putTo i n i) Tryd.underlying30 Tryd.underlying5 Tryd.underlying9 (fun j hj => by
        rw [Addr.add_lit, Nat.zero_add]
        exact hB.cell (by simpa using bc_get _ j hj))
      rw [putTo_length, putTo_all] at hcv
      have hd : decide (i < i) = false := by simp
      clear hB hW
      go_wp2
      go_ret
      exact ⟨rfl, HW.out⟩

/-! ### Get -/
theorem or_byte (x b : Nat) (hx : x < 256 ^ 6) (hb : b < 256) : bits .or .i64 ((x : Int) * 256) (b : Int) = ((x * 256 + b : Nat) : Int) := by
  have ex : ((x : Int) * 256) = ((x * 256 : Nat) : Int) := by omega
  rw [ex]
  show IntKind.i64.wrap ((BitVec.ofInt 64 ((x * 256 : Nat) : Int) ||| BitVec.ofInt 64 (b : Int)).toNat : Int) = _
  have h64 : (2 : Nat) ^ 64 = 18446744073709551616 := by decide
  have h6 : (256 : Nat) ^ 6 = 281474976710656 := by decide
  rw [BitVec.ofInt_natCast, BitVec.ofInt_natCast, BitVec.toNat_or, BitVec.toNat_ofNat, BitVec.toNat_ofNat, Nat.mod_eq_of_lt (by omega), Nat.mod_eq_of_lt (by omega)]
  have e6 : x * 256 ||| b = x * 256 + b := by
    have : x * 256 = x <<< 8 := by rw [Nat.shiftLeft_eq]
    rw [this, ← Nat.shiftLeft_add_eq_or_of_lt (show b < 2 ^ 8 by omega)]
  rw [e6, IntKind.wrap_i64]
  omega

set_option maxHeartbeats 2000000 in
theorem get_any (s : ByteArray) (W : World) (h1 : 1 ≤ s.size) (hs : s.size ≤ 6) :
    Calls Tryd.prog 40 #[.string s] W fun e w' => e = .returned (.tuple #[.int .i64 (nb s.data.toList : Int), .bool true]) ∧ W = w' := by
  have d1 : decide (s.size < 1) = false := decide_eq_false (by omega)
  have d2 : decide (7 < s.size) = false := decide_eq_false (by omega)
  have d1' : decide ((s.size : Int) < 1) = false := decide_eq_false (by omega)
  have d2' : decide ((7 : Int) < (s.size : Int)) = false := decide_eq_false (by omega)
  have hl : s.data.toList.length = s.size := rfl
  go_enter Tryd.func40, Tryd.ntmps40
  go_wp2
  go_loop [4, 16] (fun s4 s16 => ∃ i : Nat, i ≤ s.size ∧ s16 = .int .i64 i ∧ s4 = .int .i64 (nb (s.data.toList.take i) : Int)) (fun _ s16 => s.size - (intOf s16).toNat)
  case atStart => exact ⟨0, Nat.zero_le _, rfl, rfl⟩
  case round =>
    obtain ⟨i, hi, rfl, rfl⟩ := hrel
    by_cases hlt : i < s.size
    · have hx := nb_lt (s.data.toList.take i)
      have hxl : (s.data.toList.take i).length = i := by simp; omega
      rw [hxl] at hx
      have hx6 : nb (s.data.toList.take i) < 256 ^ 6 := Nat.lt_of_lt_of_le hx (Nat.pow_le_pow_right (by decide) (by omega))
      have h6 : (256 : Nat) ^ 6 = 281474976710656 := by decide
      have e1 : nb (s.data.toList.take (i + 1)) = nb (s.data.toList.take i) * 256 + (s[i]).toNat := by
        rw [List.take_succ_eq_append_getElem (by simpa using hlt), nb_snoc]; rfl
      have hor := or_byte (nb (s.data.toList.take i)) (s[i]).toNat hx6 (u8_lt _)
      rw [← e1] at hor
      have Hor := Lib.hid hor
      have hX : nb (s.data.toList.take i) < 281474976710656 := by omega
      have hb := u8_lt s[i]
      clear hx hx6 h6 e1 hor hxl
      go_wp2
      go_round
      case rel => exact ⟨i + 1, by omega, by go_num, by rw [← Hor.out]⟩
      case measure => simp [intOf]; omega
    · obtain rfl : i = s.size := by omega
      have e1 : s.data.toList.take s.size = s.data.toList := List.take_of_length_le (Nat.le_refl _)
      rw [e1]
      have hd : decide (s.size < s.size) = false := by simp
      go_wp2
      go_ret2
      exact ⟨rfl, rfl⟩

/-! ### Zero, Blocks -/
/-- So many noughts. -/
def zerosB (n : Nat) : ByteArray := ⟨(List.replicate n 0).toArray⟩
theorem repeat_zero (n : Nat) : Lib.repeatL [0] n = List.replicate n 0 := by
  induction n with
  | zero => rfl
  | succ n ih => simp [Lib.repeatL, List.replicate_succ] at ih ⊢; try exact ih
def xor_Zero.f (a0 : Int) : Option ByteArray := if a0 < 0 then some ⟨#[]⟩ else if 65536 < a0 then some ⟨#[]⟩ else some (zerosB a0.toNat)
theorem xor_Zero.calls (a0 : Int) (r : ByteArray) (w : World) (h : xor_Zero.f a0 = some r) :
    Calls Tryd.prog 21 #[.int .i64 a0] w fun e w' => e = .returned (.string r) ∧ Below w.heap.size w w' := by
  unfold xor_Zero.f at h
  by_cases h1 : a0 < 0
  · rw [if_pos h1] at h
    obtain rfl : ⟨#[]⟩ = r := Option.some.inj h
    clear h
    go_enter Tryd.func21, Tryd.ntmps21
    go_wp2_with fail
    go_ret
    exact ⟨rfl, Below.refl _ _⟩
  · rw [if_neg h1] at h
    by_cases h2 : 65536 < a0
    · rw [if_pos h2] at h
      obtain rfl : ⟨#[]⟩ = r := Option.some.inj h
      clear h
      go_enter Tryd.func21, Tryd.ntmps21
      go_wp2_with fail
      go_ret
      exact ⟨rfl, Below.refl _ _⟩
    · rw [if_neg h2] at h
      obtain rfl : zerosB a0.toNat = r := Option.some.inj h
      clear h
      obtain ⟨n, rfl⟩ := Int.eq_ofNat_of_zero_le (show 0 ≤ a0 by omega)
      rw [Int.toNat_natCast]
      have hz : (⟨(Lib.repeatL (⟨#[0]⟩ : ByteArray).data.toList n).toArray⟩ : ByteArray) = zerosB n := by
        show (⟨(Lib.repeatL [0] n).toArray⟩ : ByteArray) = _
        rw [repeat_zero]; rfl
      have Hz := Lib.hid hz
      clear hz
      have d2 : decide ((65536 : Int) < (n : Int)) = false := by simpa using h2
      go_enter Tryd.func21, Tryd.ntmps21
      go_wp2_with fail
      refine (Tryd.strings_Repeat ⟨#[0]⟩ n _ (by omega) (by show 1 * n ≤ _; omega)).mono ?_
      rw [Hz.out]
      rintro e w1 ⟨rfl, hb⟩
      go_wp2_with fail
      go_ret
      exact ⟨rfl, hb⟩

end Go.Proofs.YticpjnpafmehaaaDoor
