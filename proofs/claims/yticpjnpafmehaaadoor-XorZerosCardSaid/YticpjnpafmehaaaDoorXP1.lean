/-
  Plain: what the printed functions of package xor come to: bytes as a function of the place.
-/
import Derived.Test.YticpjnpafmehaaaDoorXx1
namespace Go.Proofs.YticpjnpafmehaaaDoor.XPlain
open Go.RowKit Go.Proofs.YticpjnpafmehaaaDoor.X Go.Proofs.YticpjnpafmehaaaDoorW.PrintWords Go.Proofs.YticpjnpafmehaaaDoorW.PrintLast Go.Proofs.YticpjnpafmehaaaDoorW.PrintMore

/-- The byte at a place; nought beyond the end. -/
def at_ (s : ByteArray) (i : Nat) : UInt8 := s.data.toList.getD i 0

/-- n bytes, told by their places, as numbers. -/
def NF (n : Nat) (f : Nat → UInt8) : List Int := (List.range n).map fun t => ((f t).toNat : Int)

theorem bt_at (s : ByteArray) (i : Nat) : bt s (i : Int) = ((at_ s i).toNat : Int) := by
  unfold bt at_
  rw [Int.toNat_natCast]
  by_cases h : i < s.size
  · rw [dif_pos h, List.getD_eq_getElem?_getD, List.getElem?_eq_getElem (show i < s.data.toList.length from h)]
    rfl
  · rw [dif_neg h, List.getD_eq_getElem?_getD, List.getElem?_eq_none (by show s.data.toList.length ≤ i; have : s.data.toList.length = s.size := rfl; omega)]
    rfl

theorem NF_length (n : Nat) (f : Nat → UInt8) : (NF n f).length = n := by simp [NF]
theorem NF_congr {n : Nat} {f g : Nat → UInt8} (h : ∀ t, t < n → f t = g t) : NF n f = NF n g := by
  unfold NF
  apply List.map_congr_left
  intro t ht
  rw [h t (List.mem_range.1 ht)]
theorem NF_rd (n : Nat) (f : Nat → UInt8) (i : Nat) (h : i < n) : rd (NF n f) (i : Int) = ((f i).toNat : Int) := by
  unfold rd NF
  rw [Int.toNat_natCast]
  simp [List.getD_eq_getElem?_getD, h]
theorem NF_set (n : Nat) (f : Nat → UInt8) (i : Nat) (h : i < n) (y : UInt8) : (NF n f).set i ((y.toNat : Nat) : Int) = NF n (fun t => if t = i then y else f t) := by
  unfold NF
  apply List.ext_getElem?
  intro j
  by_cases hj : j = i
  · subst hj
    rw [List.getElem?_set_self (by simpa using h)]
    simp [h]
  · rw [List.getElem?_set_ne (Ne.symm hj)]
    by_cases hjn : j < n
    · simp [hjn, hj]
    · rw [List.getElem?_eq_none (by simp; omega), List.getElem?_eq_none (by simp; omega)]

theorem xor8 (a b : UInt8) : Go.bits .xor .u8 (a.toNat : Int) (b.toNat : Int) = ((a ^^^ b).toNat : Int) := by
  show IntKind.u8.wrap ((BitVec.ofInt 8 (a.toNat : Int) ^^^ BitVec.ofInt 8 (b.toNat : Int)).toNat : Int) = _
  have h : ∀ c : UInt8, BitVec.ofInt 8 (c.toNat : Int) = c.toBitVec := fun c => by
    rw [BitVec.ofInt_natCast]
    apply BitVec.eq_of_toNat_eq
    rw [BitVec.toNat_ofNat]
    exact Nat.mod_eq_of_lt c.toBitVec.isLt
  rw [h, h]
  have h2 : (a.toBitVec ^^^ b.toBitVec).toNat = (a ^^^ b).toNat := rfl
  rw [h2]
  have h3 : (a ^^^ b).toNat < 256 := (a ^^^ b).toBitVec.isLt
  show ((a ^^^ b).toNat : Int) % 256 = _
  omega

/-! ### load, store -/
def part (s : ByteArray) (i : Nat) : Nat → Nat
  | 0 => 0
  | j + 1 => part s i j + (at_ s (i + j)).toNat * 256 ^ j

theorem part_lt (s : ByteArray) (i j : Nat) : part s i j < 256 ^ j := by
  induction j with
  | zero => simp [part]
  | succ j ih =>
    have h : (at_ s (i + j)).toNat < 256 := (at_ s (i + j)).toBitVec.isLt
    have h2 : (at_ s (i + j)).toNat * 256 ^ j ≤ 255 * 256 ^ j := Nat.mul_le_mul_right _ (by omega)
    rw [part, Nat.pow_succ]
    omega

theorem part_digit (s : ByteArray) (i : Nat) (n j : Nat) (h : j < n) : part s i n / 256 ^ j % 256 = (at_ s (i + j)).toNat := by
  induction n with
  | zero => omega
  | succ n ih =>
    have hp : 0 < 256 ^ j := Nat.pow_pos (by decide)
    by_cases hj : j = n
    · subst hj
      rw [part, Nat.add_mul_div_right _ _ hp, Nat.div_eq_of_lt (part_lt s i j), Nat.zero_add]
      exact Nat.mod_eq_of_lt (at_ s (i + j)).toBitVec.isLt
    · have e : 256 ^ n = 256 ^ (n - j - 1) * 256 * 256 ^ j := by
        rw [← Nat.pow_succ, ← Nat.pow_add]; congr 1; omega
      rw [part, e, ← Nat.mul_assoc, Nat.add_mul_div_right _ _ hp, ← Nat.mul_assoc, Nat.add_mul_mod_self_right]
      exact ih (by omega)

theorem or_part (x b j : Nat) (hx : x < 256 ^ j) (hb : b < 256) (hj : j < 8) : Go.bits .or .u64 (x : Int) (shl .u64 (IntKind.u64.wrap (b : Int)) (8 * (j : Int))) = ((x + b * 256 ^ j : Nat) : Int) := by
  have hp : 256 ^ j * 256 ≤ 2 ^ 64 := by
    rw [← Nat.pow_succ, show (256 : Nat) = 2 ^ 8 by decide, ← Nat.pow_mul]
    exact Nat.pow_le_pow_right (by decide) (by omega)
  have hb2 : b * 256 ^ j ≤ 255 * 256 ^ j := Nat.mul_le_mul_right _ (by omega)
  have e1 : IntKind.u64.wrap (b : Int) = (b : Int) := by show (b : Int) % 18446744073709551616 = _; omega
  have e2 : (min (8 * (j : Int)).toNat IntKind.u64.bits) = 8 * j := by show min (8 * (j : Int)).toNat 64 = _; omega
  have e3 : ((2 : Int) ^ (8 * j)) = ((256 ^ j : Nat) : Int) := by rw [show (256 : Nat) = 2 ^ 8 by decide, ← Nat.pow_mul]; simp
  have e4 : shl .u64 (IntKind.u64.wrap (b : Int)) (8 * (j : Int)) = ((b * 256 ^ j : Nat) : Int) := by
    unfold shl
    rw [e1, e2, e3]
    show ((b : Int) * ((256 ^ j : Nat) : Int)) % 18446744073709551616 = _
    rw [← Int.natCast_mul]
    have : b * 256 ^ j < 18446744073709551616 := by have : (2 : Nat) ^ 64 = 18446744073709551616 := by decide
                                                    omega
    omega
  rw [e4]
  show IntKind.u64.wrap ((BitVec.ofInt 64 (x : Int) ||| BitVec.ofInt 64 ((b * 256 ^ j : Nat) : Int)).toNat : Int) = _
  have h64 : (2 : Nat) ^ 64 = 18446744073709551616 := by decide
  rw [BitVec.ofInt_natCast, BitVec.ofInt_natCast, BitVec.toNat_or, BitVec.toNat_ofNat, BitVec.toNat_ofNat, Nat.mod_eq_of_lt (by omega), Nat.mod_eq_of_lt (by omega)]
  have e5 : b * 256 ^ j = b <<< (8 * j) := by rw [Nat.shiftLeft_eq, show (256 : Nat) = 2 ^ 8 by decide, ← Nat.pow_mul]
  have hx2 : x < 2 ^ (8 * j) := by rw [Nat.pow_mul]; exact hx
  have e6 : x ||| b * 256 ^ j = x + b * 256 ^ j := by
    rw [e5, Nat.or_comm, ← Nat.shiftLeft_add_eq_or_of_lt hx2, Nat.add_comm]
  rw [e6]
  show ((x + b * 256 ^ j : Nat) : Int) % 18446744073709551616 = _
  omega

theorem shr_part (s : ByteArray) (i j : Nat) (hj : j < 8) : (shr .u64 ((part s i 8 : Nat) : Int) (8 * (j : Int))) % 256 = ((at_ s (i + j)).toNat : Int) := by
  unfold shr
  have e2 : (min (8 * (j : Int)).toNat IntKind.u64.bits) = 8 * j := by show min (8 * (j : Int)).toNat 64 = _; omega
  have e3 : ((2 : Int) ^ (8 * j)) = ((256 ^ j : Nat) : Int) := by rw [show (256 : Nat) = 2 ^ 8 by decide, ← Nat.pow_mul]; simp
  rw [e2, e3, ← Int.natCast_ediv]
  have := part_digit s i 8 j hj
  omega

theorem load_from (s : ByteArray) (i : Nat) (hi : i + 8 ≤ s.size) (hs : s.size ≤ 140737488355328) (d : Nat) : ∀ j, j + d = 8 → Ev (fun k => xor_load.l0 k s (i : Int) ((part s i j : Nat) : Int) (j : Int)) ((part s i 8 : Nat) : Int) := by
  induction d with
  | zero =>
    intro j hj
    obtain rfl : j = 8 := by omega
    refine Ev.step (f := fun _ => some ((part s i 8 : Nat) : Int)) (fun k => ?_) (Ev.now _)
    simp only [xor_load.l0]
    rw [if_neg (by omega)]
  | succ d ih =>
    intro j hj
    refine Ev.step (fun k => ?_) (ih (j + 1) (by omega))
    have w1 : wrap64 ((i : Int) + (j : Int)) = ((i + j : Nat) : Int) := by unfold wrap64; omega
    have w2 : wrap64 (8 * (j : Int)) = 8 * (j : Int) := by unfold wrap64; omega
    have w3 : wrap64 ((j : Int) + 1) = ((j + 1 : Nat) : Int) := by unfold wrap64; omega
    simp only [xor_load.l0]
    rw [w1, w2, w3, if_pos (by omega), if_pos (by omega), if_pos (by omega), if_pos (by omega), bt_at, or_part _ (at_ s (i + j)).toNat _ (part_lt s i j) (at_ s (i + j)).toBitVec.isLt (by omega)]
    rfl

theorem load_ev (s : ByteArray) (i : Nat) (hi : i + 8 ≤ s.size) (hs : s.size ≤ 140737488355328) : Ev (fun k => xor_load.f k s (i : Int)) ((part s i 8 : Nat) : Int) := load_from s i hi hs 8 0 rfl

theorem store_from (s : ByteArray) (n i : Nat) (f : Nat → UInt8) (hi : i + 8 ≤ n) (hn : n ≤ 281474976710656) (d : Nat) : ∀ j, j + d = 8 →
    Ev (fun k => xor_store.l0 k (NF n fun t => if i ≤ t ∧ t < i + j then f t ^^^ at_ s t else f t) (i : Int) ((part s i 8 : Nat) : Int) (j : Int)) (NF n fun t => if i ≤ t ∧ t < i + 8 then f t ^^^ at_ s t else f t) := by
  induction d with
  | zero =>
    intro j hj
    obtain rfl : j = 8 := by omega
    refine Ev.step (f := fun _ => some _) (fun k => ?_) (Ev.now _)
    simp only [xor_store.l0]
    rw [if_neg (by omega)]
  | succ d ih =>
    intro j hj
    refine Ev.step (fun k => ?_) (ih (j + 1) (by omega))
    have w1 : wrap64 ((i : Int) + (j : Int)) = ((i + j : Nat) : Int) := by unfold wrap64; omega
    have w2 : wrap64 (8 * (j : Int)) = 8 * (j : Int) := by unfold wrap64; omega
    have w3 : wrap64 ((j : Int) + 1) = ((j + 1 : Nat) : Int) := by unfold wrap64; omega
    simp only [xor_store.l0]
    rw [w1, w2, w3, if_pos (by omega), if_pos (by omega), if_pos (by rw [NF_length]; omega), if_pos (by omega), shr_part s i j (by omega), NF_rd _ _ _ (by omega), if_neg (by omega), xor8, Int.toNat_natCast, NF_set _ _ _ (by omega)]
    congr 1
    apply NF_congr
    intro t ht
    by_cases h1 : t = i + j
    · subst h1
      rw [if_pos rfl, if_pos (by omega)]
    · rw [if_neg h1]
      by_cases h2 : i ≤ t ∧ t < i + j
      · rw [if_pos h2, if_pos (by omega)]
      · rw [if_neg h2, if_neg (by omega)]

theorem store_ev (s : ByteArray) (n i : Nat) (f : Nat → UInt8) (hi : i + 8 ≤ n) (hn : n ≤ 281474976710656) :
    Ev (fun k => xor_store.f k (NF n f) (i : Int) ((part s i 8 : Nat) : Int)) (NF n fun t => if i ≤ t ∧ t < i + 8 then f t ^^^ at_ s t else f t) := by
  have := store_from s n i f hi hn 8 0 rfl
  rwa [NF_congr (g := f) (fun t _ => if_neg (by omega))] at this

end Go.Proofs.YticpjnpafmehaaaDoor.XPlain
