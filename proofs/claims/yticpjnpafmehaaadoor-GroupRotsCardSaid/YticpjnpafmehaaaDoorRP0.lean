/-
  Plain: numbers as bytes, the highest first; CRC-32C by nbits, by halves of bytes, and over bytes; four changed bytes change it.
-/
import Derived.Test.YticpjnpafmehaaaDoorB0
namespace Go.Proofs.YticpjnpafmehaaaDoor

/-! ### numbers as bytes -/
/-- w bytes of a number, the highest first. -/
def be : Nat → Nat → List UInt8
  | 0, _ => []
  | w + 1, n => UInt8.ofNat (n / 256 ^ w) :: be w n
/-- The number of bytes. -/
def nb : List UInt8 → Nat
  | [] => 0
  | b :: l => b.toNat * 256 ^ l.length + nb l

theorem be_length (w n : Nat) : (be w n).length = w := by induction w <;> simp [be, *]
theorem u8_lt (b : UInt8) : b.toNat < 256 := b.toBitVec.isLt
theorem nb_lt (l : List UInt8) : nb l < 256 ^ l.length := by
  induction l with
  | nil => simp [nb]
  | cons b l ih =>
    have := u8_lt b
    have h2 : b.toNat * 256 ^ l.length ≤ 255 * 256 ^ l.length := Nat.mul_le_mul_right _ (by omega)
    simp only [nb, List.length_cons, Nat.pow_succ]
    omega
theorem be_mod (w n : Nat) : be w (n % 256 ^ w) = be w n := by
  have key : ∀ (w v : Nat), w ≤ v → be w (n % 256 ^ v) = be w n := by
    intro w
    induction w with
    | zero => intros; rfl
    | succ w ih =>
      intro v hv
      simp only [be]
      rw [ih v (by omega)]
      congr 1
      obtain ⟨k, rfl⟩ : ∃ k, v = w + 1 + k := ⟨v - (w + 1), by omega⟩
      have e : 256 ^ (w + 1 + k) = 256 ^ w * (256 * 256 ^ k) := by rw [Nat.pow_add, Nat.pow_succ, Nat.mul_assoc]
      rw [e, Nat.mod_mul_right_div_self]
      apply UInt8.toNat_inj.1
      simp only [UInt8.toNat_ofNat']
      rw [Nat.mod_mod_of_dvd _ ⟨256 ^ k, rfl⟩]
  exact key w w (Nat.le_refl w)
theorem nb_be (w n : Nat) (h : n < 256 ^ w) : nb (be w n) = n := by
  induction w generalizing n with
  | zero => simp at h; simp [nb, be, h]
  | succ w ih =>
    rw [Nat.pow_succ] at h
    have hq : n / 256 ^ w < 256 := Nat.div_lt_of_lt_mul (by rw [Nat.mul_comm]; rw [Nat.mul_comm] at h; omega)
    simp only [nb, be, be_length]
    rw [UInt8.toNat_ofNat', Nat.mod_eq_of_lt (by omega), ← be_mod, ih _ (Nat.mod_lt _ (Nat.pow_pos (by decide)))]
    have := Nat.div_add_mod n (256 ^ w)
    rw [Nat.mul_comm] at this
    exact this
theorem be_nb (l : List UInt8) : be l.length (nb l) = l := by
  induction l with
  | nil => rfl
  | cons b l ih =>
    have hp : 0 < 256 ^ l.length := Nat.pow_pos (by decide)
    have h1 := nb_lt l
    simp only [List.length_cons, be, nb]
    have e1 : (b.toNat * 256 ^ l.length + nb l) / 256 ^ l.length = b.toNat := by
      rw [Nat.mul_comm, Nat.mul_add_div hp, Nat.div_eq_of_lt h1, Nat.add_zero]
    have e2 : be l.length (b.toNat * 256 ^ l.length + nb l) = l := by
      rw [← be_mod, Nat.mul_comm, Nat.mul_add_mod, Nat.mod_eq_of_lt h1, ih]
    rw [e1, e2]
    congr 1
    apply UInt8.toNat_inj.1
    rw [UInt8.toNat_ofNat']
    exact Nat.mod_eq_of_lt (u8_lt b)
theorem nb_inj {a b : List UInt8} (hl : a.length = b.length) (h : nb a = nb b) : a = b := by
  rw [← be_nb a, ← be_nb b, hl, h]
theorem be_inj {w a b : Nat} (ha : a < 256 ^ w) (hb : b < 256 ^ w) (h : be w a = be w b) : a = b := by
  rw [← nb_be w a ha, ← nb_be w b hb, h]
theorem nb_snoc (l : List UInt8) (b : UInt8) : nb (l ++ [b]) = nb l * 256 + b.toNat := by
  induction l with
  | nil => simp [nb]
  | cons c l ih =>
    simp only [List.cons_append, nb, ih, List.length_append, List.length_cons, List.length_nil, Nat.pow_add]
    rw [Nat.add_mul, Nat.pow_succ, Nat.pow_zero, Nat.one_mul, ← Nat.mul_assoc]
    omega

/-! ### CRC-32C -/
abbrev W32 := BitVec 32
def poly : W32 := 0x82F63B78#32
/-- One bit of nothing. -/
def bit1 (c : W32) : W32 := (c >>> 1) ^^^ (if c.getLsbD 0 then poly else 0#32)
def tab : List W32 := [
  0x00000000#32, 0x105ec76f#32, 0x20bd8ede#32, 0x30e349b1#32, 0x417b1dbc#32, 0x5125dad3#32, 0x61c69362#32, 0x7198540d#32,
  0x82f63b78#32, 0x92a8fc17#32, 0xa24bb5a6#32, 0xb21572c9#32, 0xc38d26c4#32, 0xd3d3e1ab#32, 0xe330a81a#32, 0xf36e6f75#32]
def nib (c : W32) : W32 := (c >>> 4) ^^^ tab.getD (c &&& 15#32).toNat 0#32
def step8 (c : W32) : W32 := nib (nib c)
def u32 (b : UInt8) : W32 := BitVec.ofNat 32 b.toNat
def run : List UInt8 → W32 → W32
  | [], c => c
  | b :: l, c => run l (step8 (c ^^^ u32 b))
def crcL (l : List UInt8) : W32 := ~~~ (run l (~~~ 0#32))

theorem bit1_xor (a b : W32) : bit1 (a ^^^ b) = bit1 a ^^^ bit1 b := by
  unfold bit1
  rw [BitVec.getLsbD_xor, BitVec.ushiftRight_xor_distrib]
  have e : ∀ p q : W32, (a >>> 1 ^^^ p) ^^^ (b >>> 1 ^^^ q) = (a >>> 1 ^^^ b >>> 1) ^^^ (p ^^^ q) := by
    intro p q
    ext i hi
    simp only [BitVec.getElem_xor]
    cases (a >>> 1)[i] <;> cases (b >>> 1)[i] <;> cases p[i] <;> cases q[i] <;> rfl
  rw [e]
  cases a.getLsbD 0 <;> cases b.getLsbD 0 <;> simp
theorem bit1_zero : bit1 0#32 = 0#32 := by decide
theorem bit1_even (c : W32) (h : c.getLsbD 0 = false) : bit1 c = c >>> 1 := by
  unfold bit1; rw [h]; simp
def nbits : Nat → W32 → W32
  | 0, c => c
  | n + 1, c => nbits n (bit1 c)
theorem nbits_xor (n : Nat) : ∀ a b : W32, nbits n (a ^^^ b) = nbits n a ^^^ nbits n b := by
  induction n with
  | zero => intros; rfl
  | succ n ih => intro a b; simp only [nbits]; rw [bit1_xor, ih]
theorem nbits_zero (n : Nat) : nbits n 0#32 = 0#32 := by
  induction n with
  | zero => rfl
  | succ n ih => simp only [nbits]; rw [bit1_zero, ih]
theorem nbits_add (n m : Nat) : ∀ c, nbits (n + m) c = nbits m (nbits n c) := by
  induction n with
  | zero => intro c; rw [Nat.zero_add]; rfl
  | succ n ih => intro c; rw [Nat.succ_add]; simp only [nbits]; exact ih _
/-- Bits of nothing under no ones: a shift. -/
theorem nbits_shift (n : Nat) : ∀ c : W32, (∀ i, i < n → c.getLsbD i = false) → nbits n c = c >>> n := by
  induction n with
  | zero => intro c _; simp [nbits]
  | succ n ih =>
    intro c h
    simp only [nbits]
    rw [bit1_even c (h 0 (by omega)), ih _ (fun i hi => by rw [BitVec.getLsbD_ushiftRight]; exact h (1 + i) (by omega)), ← BitVec.shiftRight_add]
    congr 1; omega
theorem tab_nbits : ∀ i : Fin 16, nbits 4 (BitVec.ofNat 32 i.val) = tab.getD i.val 0#32 := by decide
theorem nib_nbits (c : W32) : nib c = nbits 4 c := by
  have e : c = (c &&& ~~~ 15#32) ^^^ (c &&& 15#32) := by
    ext i hi
    simp only [BitVec.getElem_xor, BitVec.getElem_and, BitVec.getElem_not]
    cases c[i] <;> cases (15#32)[i] <;> rfl
  have hl : (c &&& 15#32).toNat < 16 := by
    rw [BitVec.toNat_and]
    exact Nat.lt_of_le_of_lt (Nat.and_le_right) (by decide)
  have h1 : nbits 4 (c &&& ~~~ 15#32) = c >>> 4 := by
    rw [nbits_shift 4 _ (fun i hi => by
      rw [BitVec.getLsbD_and]
      have : ∀ i : Fin 4, (~~~ 15#32).getLsbD i.val = false := by decide
      rw [this ⟨i, hi⟩, Bool.and_false])]
    ext i hi
    rw [BitVec.getElem_ushiftRight, BitVec.getElem_ushiftRight, BitVec.getLsbD_and]
    by_cases hi2 : 4 + i < 32
    · have : ∀ i : Fin 28, (~~~ 15#32).getLsbD (4 + i.val) = true := by decide
      rw [this ⟨i, by omega⟩, Bool.and_true]
    · rw [BitVec.getLsbD_of_ge _ _ (by omega)]; rfl
  have h2 : nbits 4 (c &&& 15#32) = tab.getD (c &&& 15#32).toNat 0#32 := by
    rw [← tab_nbits ⟨_, hl⟩]
    congr 1
    apply BitVec.eq_of_toNat_eq
    rw [BitVec.toNat_ofNat]
    exact (Nat.mod_eq_of_lt (by omega)).symm
  conv => rhs; rw [e]
  rw [nbits_xor, h1, h2]
  rfl
theorem step8_nbits (c : W32) : step8 c = nbits 8 c := by
  unfold step8
  rw [nib_nbits, nib_nbits]
  exact (nbits_add 4 4 c).symm
theorem step8_xor (a b : W32) : step8 (a ^^^ b) = step8 a ^^^ step8 b := by rw [step8_nbits, step8_nbits, step8_nbits, nbits_xor]
theorem step8_zero : step8 0#32 = 0#32 := by rw [step8_nbits, nbits_zero]

/-- A bit's step can be taken back. -/
theorem bit1_zero_iff {c : W32} (h : bit1 c = 0#32) : c = 0#32 := by
  have h0 : c.getLsbD 0 = false := by
    cases h0 : c.getLsbD 0 with
    | false => rfl
    | true =>
      have : (bit1 c).getLsbD 31 = true := by
        unfold bit1
        rw [h0, if_pos rfl, BitVec.getLsbD_xor, BitVec.getLsbD_ushiftRight, BitVec.getLsbD_of_ge _ _ (by omega)]
        decide
      rw [h] at this
      simp at this
  rw [bit1_even c h0] at h
  apply BitVec.eq_of_getLsbD_eq
  intro i hi
  rw [BitVec.getLsbD_zero]
  cases i with
  | zero => exact h0
  | succ i =>
    have := congrArg (fun x : W32 => x.getLsbD i) h
    simp only [BitVec.getLsbD_ushiftRight, BitVec.getLsbD_zero] at this
    rw [Nat.add_comm]
    exact this
theorem nbits_zero_iff (n : Nat) : ∀ {c : W32}, nbits n c = 0#32 → c = 0#32 := by
  induction n with
  | zero => intro c h; exact h
  | succ n ih => intro c h; exact bit1_zero_iff (ih h)
theorem xor_eq_zero {a b : W32} (h : a ^^^ b = 0#32) : a = b := by
  have : (a ^^^ b) ^^^ b = 0#32 ^^^ b := by rw [h]
  rwa [BitVec.xor_assoc, BitVec.xor_self, BitVec.xor_zero, BitVec.zero_xor] at this
theorem step8_inj {a b : W32} (h : step8 a = step8 b) : a = b := by
  apply xor_eq_zero
  apply nbits_zero_iff 8
  rw [← step8_nbits, step8_xor, h, BitVec.xor_self]
/-- A byte that is shifted in from above comes out as it was. -/
theorem nbits_shl (n k : Nat) (x : W32) (h : x.toNat < 2 ^ (32 - n)) (hn : n ≤ 32) (hk : k = n) : nbits n (x <<< k) = x := by
  subst hk
  rw [nbits_shift k _ (fun i hi => by rw [BitVec.getLsbD_shiftLeft]; simp [hi])]
  apply BitVec.eq_of_toNat_eq
  rw [BitVec.toNat_ushiftRight, BitVec.toNat_shiftLeft, Nat.shiftLeft_eq, Nat.shiftRight_eq_div_pow]
  have hp : 0 < 2 ^ k := Nat.pow_pos (by decide)
  have : x.toNat * 2 ^ k < 2 ^ 32 := by
    have e : 2 ^ 32 = 2 ^ (32 - k) * 2 ^ k := by rw [← Nat.pow_add]; congr 1; omega
    rw [e]
    exact (Nat.mul_lt_mul_right hp).2 h
  rw [Nat.mod_eq_of_lt this, Nat.mul_div_cancel _ hp]

theorem u32_lt (b : UInt8) : (u32 b).toNat < 256 := by
  have := u8_lt b
  unfold u32
  rw [BitVec.toNat_ofNat]
  omega
theorem u32_inj {a b : UInt8} (h : u32 a = u32 b) : a = b := by
  have := congrArg BitVec.toNat h
  unfold u32 at this
  rw [BitVec.toNat_ofNat, BitVec.toNat_ofNat] at this
  have h1 := u8_lt a
  have h2 := u8_lt b
  exact UInt8.toNat_inj.1 (by omega)

theorem run_append (a b : List UInt8) : ∀ c, run (a ++ b) c = run b (run a c) := by
  induction a with
  | nil => intro c; rfl
  | cons x a ih => intro c; exact ih _
theorem run_inj (l : List UInt8) : ∀ {c d : W32}, run l c = run l d → c = d := by
  induction l with
  | nil => intro c d h; exact h
  | cons x l ih =>
    intro c d h
    have := step8_inj (ih h)
    have h2 : (c ^^^ u32 x) ^^^ u32 x = (d ^^^ u32 x) ^^^ u32 x := by rw [this]
    rwa [BitVec.xor_assoc, BitVec.xor_self, BitVec.xor_zero, BitVec.xor_assoc, BitVec.xor_self, BitVec.xor_zero] at h2

/-- Four bytes at once. -/
def word (x0 x1 x2 x3 : UInt8) : W32 := u32 x0 ^^^ (u32 x1 <<< 8) ^^^ (u32 x2 <<< 16) ^^^ (u32 x3 <<< 24)
theorem run4 (x0 x1 x2 x3 : UInt8) (c : W32) : run [x0, x1, x2, x3] c = nbits 32 (c ^^^ word x0 x1 x2 x3) := by
  have h1 := u32_lt x1
  have h2 := u32_lt x2
  have h3 := u32_lt x3
  have e1 : u32 x1 = nbits 8 (u32 x1 <<< 8) := (nbits_shl 8 8 _ (by omega) (by omega) rfl).symm
  have e2 : u32 x2 = nbits 16 (u32 x2 <<< 16) := (nbits_shl 16 16 _ (by omega) (by omega) rfl).symm
  have e3 : u32 x3 = nbits 24 (u32 x3 <<< 24) := (nbits_shl 24 24 _ (by omega) (by omega) rfl).symm
  simp only [run, step8_nbits]
  conv => lhs; rw [e1]
  rw [← nbits_xor, ← nbits_add]
  conv => lhs; rw [e2]
  rw [← nbits_xor, ← nbits_add]
  conv => lhs; rw [e3]
  rw [← nbits_xor, ← nbits_add]
  congr 1
  unfold word
  simp only [BitVec.xor_assoc]
theorem u32_high (x : UInt8) (j : Nat) (hj : 8 ≤ j) : (u32 x).getLsbD j = false := by
  have h := u32_lt x
  unfold BitVec.getLsbD
  apply Nat.testBit_lt_two_pow
  exact Nat.lt_of_lt_of_le h (Nat.pow_le_pow_right (n := 2) (by decide) hj)
theorem word_toNat (x0 x1 x2 x3 : UInt8) : (word x0 x1 x2 x3).getLsbD = fun i => if i < 8 then (u32 x0).getLsbD i else if i < 16 then (u32 x1).getLsbD (i - 8) else if i < 24 then (u32 x2).getLsbD (i - 16) else if i < 32 then (u32 x3).getLsbD (i - 24) else false := by
  funext i
  have hz := u32_high
  have e1 := hz x0 i
  have e2 := hz x1 (i - 8)
  have e3 := hz x2 (i - 16)
  unfold word
  simp only [BitVec.getLsbD_xor, BitVec.getLsbD_shiftLeft]
  clear hz
  generalize (u32 x0).getLsbD i = p0 at *
  generalize (u32 x1).getLsbD (i - 8) = p1 at *
  generalize (u32 x2).getLsbD (i - 16) = p2 at *
  by_cases h1 : i < 8
  · simp [h1, show i < 16 by omega, show i < 24 by omega]
  · by_cases h2 : i < 16
    · simp [h1, h2, show i < 24 by omega, show i < 32 by omega, e1 (by omega)]
    · by_cases h3 : i < 24
      · simp [h1, h2, h3, show i < 32 by omega, e1 (by omega), e2 (by omega)]
      · by_cases h4 : i < 32
        · simp [h1, h2, h3, h4, e1 (by omega), e2 (by omega), e3 (by omega)]
        · simp [h1, h2, h3, h4, e1 (by omega)]
theorem u32_ext {a b : UInt8} (h : ∀ j, j < 8 → (u32 a).getLsbD j = (u32 b).getLsbD j) : a = b := by
  apply u32_inj
  apply BitVec.eq_of_getLsbD_eq
  intro i hi
  by_cases h8 : i < 8
  · exact h i h8
  · rw [u32_high a i (by omega), u32_high b i (by omega)]
theorem run4_inj {x0 x1 x2 x3 y0 y1 y2 y3 : UInt8} {c : W32} (h : run [x0, x1, x2, x3] c = run [y0, y1, y2, y3] c) : x0 = y0 ∧ x1 = y1 ∧ x2 = y2 ∧ x3 = y3 := by
  rw [run4, run4] at h
  have h2 : word x0 x1 x2 x3 = word y0 y1 y2 y3 := by
    have := nbits_zero_iff 32 (c := (c ^^^ word x0 x1 x2 x3) ^^^ (c ^^^ word y0 y1 y2 y3)) (by rw [nbits_xor, h, BitVec.xor_self])
    have := xor_eq_zero this
    have h3 : c ^^^ (c ^^^ word x0 x1 x2 x3) = c ^^^ (c ^^^ word y0 y1 y2 y3) := by rw [this]
    rwa [← BitVec.xor_assoc, ← BitVec.xor_assoc, BitVec.xor_self, BitVec.zero_xor, BitVec.zero_xor] at h3
  have hb : ∀ i, (word x0 x1 x2 x3).getLsbD i = (word y0 y1 y2 y3).getLsbD i := fun i => by rw [h2]
  simp only [word_toNat] at hb
  refine ⟨u32_ext fun j hj => ?_, u32_ext fun j hj => ?_, u32_ext fun j hj => ?_, u32_ext fun j hj => ?_⟩
  · have := hb j
    simpa [hj] using this
  · have := hb (8 + j)
    simpa [show ¬ 8 + j < 8 by omega, show 8 + j < 16 by omega] using this
  · have := hb (16 + j)
    simpa [show ¬ 16 + j < 8 by omega, show ¬ 16 + j < 16 by omega, show 16 + j < 24 by omega] using this
  · have := hb (24 + j)
    simpa [show ¬ 24 + j < 8 by omega, show ¬ 24 + j < 16 by omega, show ¬ 24 + j < 24 by omega, show 24 + j < 32 by omega] using this

theorem list4 {l : List UInt8} (h : l.length = 4) : ∃ a b c d, l = [a, b, c, d] := by
  match l, h with
  | [a, b, c, d], _ => exact ⟨a, b, c, d, rfl⟩
/-- Up to four bytes are told by the sum. -/
theorem run_short {x y : List UInt8} {c : W32} (hl : x.length = y.length) (h4 : x.length ≤ 4) (h : run x c = run y c) : x = y := by
  have hx : (x ++ List.replicate (4 - x.length) 0).length = 4 := by simp; omega
  have hy : (y ++ List.replicate (4 - x.length) 0).length = 4 := by simp; omega
  have h2 : run (x ++ List.replicate (4 - x.length) 0) c = run (y ++ List.replicate (4 - x.length) 0) c := by rw [run_append, run_append, h]
  obtain ⟨a0, a1, a2, a3, ha⟩ := list4 hx
  obtain ⟨b0, b1, b2, b3, hb⟩ := list4 hy
  rw [ha, hb] at h2
  obtain ⟨rfl, rfl, rfl, rfl⟩ := run4_inj h2
  have := ha.trans hb.symm
  exact List.append_cancel_right this
theorem crc_burst {a x y b : List UInt8} (hl : x.length = y.length) (h4 : x.length ≤ 4) (h : crcL (a ++ x ++ b) = crcL (a ++ y ++ b)) : x = y := by
  unfold crcL at h
  have h1 : run (a ++ x ++ b) (~~~ 0#32) = run (a ++ y ++ b) (~~~ 0#32) := by
    have := congrArg (fun z : W32 => ~~~ z) h
    simpa using this
  rw [run_append, run_append, run_append, run_append] at h1
  exact run_short hl h4 (run_inj b h1)

end Go.Proofs.YticpjnpafmehaaaDoor
