/-
  What the printed Decode of group answers, as the plain law has it.
-/
import Derived.Test.YticpjnpafmehaaaDoorUP1
namespace Go.Proofs.YticpjnpafmehaaaDoor.U
open Go.RowKit Go.Proofs.YticpjnpafmehaaaDoorW.PrintWords Go.Proofs.YticpjnpafmehaaaDoorW.PrintLast Go.Proofs.YticpjnpafmehaaaDoorW.PrintMore
set_option linter.unusedVariables false
set_option linter.unusedSimpArgs false

/-- A byte of a text, as the print has it. -/
theorem bt_get (s : ByteArray) (i : Nat) (h : i < s.size) : bt s (i : Int) = (((bl s).getD i 0).toNat : Int) := by
  unfold bt
  rw [dif_pos (by simpa using h)]
  have : (bl s)[i]? = some ((bl s)[i]'h) := List.getElem?_eq_getElem h
  rw [List.getD_eq_getElem?_getD, this]
  rfl
theorem get_f (s : ByteArray) (h1 : 1 ≤ s.size) (h2 : s.size ≤ 6) : nums_Get.f s = some ((nb (bl s) : Int), true) := by
  unfold nums_Get.f; rw [if_pos ⟨h1, h2⟩]
theorem empty_f (s : ByteArray) (h : s.size ≤ 140737488351232) : xor_Empty.f s = some ((bl s).all (· == 0)) := by
  unfold xor_Empty.f; rw [if_pos h]; rfl
theorem and31 (n : Nat) (h : n < 4294967296) : (Go.bits .and .i64 (n : Int) 2147483648 != 0) = decide (2147483648 ≤ n) := by
  have e : Go.bits .and .i64 (n : Int) 2147483648 = ((n &&& 2147483648 : Nat) : Int) := by
    show IntKind.i64.wrap ((BitVec.ofInt 64 (n : Int) &&& BitVec.ofInt 64 ((2147483648 : Nat) : Int)).toNat : Int) = _
    have h64 : (2 : Nat) ^ 64 = 18446744073709551616 := by decide
    rw [BitVec.ofInt_natCast, BitVec.ofInt_natCast, BitVec.toNat_and, BitVec.toNat_ofNat, BitVec.toNat_ofNat, Nat.mod_eq_of_lt (by omega), Nat.mod_eq_of_lt (by omega), IntKind.wrap_i64]
    have : n &&& 2147483648 ≤ 2147483648 := Nat.and_le_right
    omega
  have ht : n.testBit 31 = decide (2147483648 ≤ n) := by
    rw [Nat.testBit, Nat.shiftRight_eq_div_pow, Nat.one_and_eq_mod_two]
    by_cases hh : 2147483648 ≤ n
    · have : n / 2 ^ 31 = 1 := by omega
      rw [this, decide_eq_true hh]; rfl
    · have : n / 2 ^ 31 = 0 := by omega
      rw [this, decide_eq_false hh]; rfl
  have e2 : n &&& 2147483648 = if 2147483648 ≤ n then 2147483648 else 0 := by
    apply Nat.eq_of_testBit_eq
    intro i
    rw [Nat.testBit_and, show (2147483648 : Nat) = 2 ^ 31 from rfl, Nat.testBit_two_pow]
    by_cases h31 : 31 = i
    · subst h31
      rw [ht, show (2 ^ 31 : Nat) = 2147483648 from rfl]
      by_cases hh : 2147483648 ≤ n
      · rw [if_pos hh, decide_eq_true hh]; decide
      · rw [if_neg hh, decide_eq_false hh]; decide
    · rw [decide_eq_false h31, Bool.and_false]
      split
      · rw [Nat.testBit_two_pow, decide_eq_false h31]
      · simp
  rw [e, e2]
  by_cases hh : 2147483648 ≤ n
  · rw [if_pos hh, decide_eq_true hh]; rfl
  · rw [if_neg hh, decide_eq_false hh]; rfl
theorem andNot31 (n : Nat) (h : n < 4294967296) : Go.bits .andNot .i64 (n : Int) 2147483648 = ((n % 2147483648 : Nat) : Int) := by
  show IntKind.i64.wrap ((BitVec.ofInt 64 (n : Int) &&& ~~~(BitVec.ofInt 64 ((2147483648 : Nat) : Int))).toNat : Int) = _
  have h1 : BitVec.ofInt 64 (n : Int) = BitVec.ofNat 64 n := BitVec.ofInt_natCast ..
  rw [h1, BitVec.ofInt_natCast]
  have h64 : (2 : Nat) ^ 64 = 18446744073709551616 := by decide
  have e : (BitVec.ofNat 64 n &&& ~~~(BitVec.ofNat 64 2147483648)).toNat = n % 2147483648 := by
    apply Nat.eq_of_testBit_eq
    intro i
    rw [BitVec.testBit_toNat, BitVec.getLsbD_and, BitVec.getLsbD_not, BitVec.getLsbD_ofNat, BitVec.getLsbD_ofNat, show (2147483648 : Nat) = 2 ^ 31 from rfl, Nat.testBit_mod_two_pow, Nat.testBit_two_pow]
    by_cases h31 : i < 31
    · have : ¬31 = i := by omega
      simp [h31, this, show i < 64 by omega]
    · by_cases h32 : i = 31
      · subst h32; simp
      · have hb : n.testBit i = false := Nat.testBit_lt_two_pow (Nat.lt_of_lt_of_le (show n < 2 ^ 32 by omega) (Nat.pow_le_pow_right (by omega) (by omega)))
        simp [hb, h31]
  rw [e, IntKind.wrap_i64]
  omega
theorem ent_f (n : Nat) (h : n < 4294967296) : (⟨Go.bits .andNot .i64 (n : Int) 2147483648, (Go.bits .and .i64 (n : Int) 2147483648 != 0)⟩ : S62) = toE (entOf n) := by
  rw [and31 n h, andNot31 n h]
  unfold entOf toE
  by_cases hh : n < 2147483648
  · rw [if_pos hh, decide_eq_false (by omega), Nat.mod_eq_of_lt hh]
  · rw [if_neg hh, decide_eq_true (by omega)]
    have : n % 2147483648 = n - 2147483648 := by omega
    rw [this]
    congr 1
    omega

def ofD (D : Gp × Int × Int) : Int × (List (S62)) × List ByteArray × Int × Int := (D.1.seq, D.1.es.map toE, D.1.ds, D.2.1, D.2.2)
theorem ofD_none (e : Int) : ofD (g0, 0, e) = (0, ([] : List (S62)), ([] : List ByteArray), 0, e) := rfl

theorem cutD_len (l : List UInt8) (es : List (Int × Bool)) : (cutD l es).length = es.length := by
  induction es generalizing l with
  | nil => rfl
  | cons e es ih => simp [cutD, ih]
theorem dataLen_append (a b : List (Int × Bool)) : dataLen (a ++ b) = dataLen a + dataLen b := by
  induction a with
  | nil => simp [dataLen]
  | cons e a ih => simp [dataLen, ih]; omega
theorem cutD_append (l : List UInt8) (a b : List (Int × Bool)) : cutD l (a ++ b) = cutD l a ++ cutD (l.drop (dataLen a)) b := by
  induction a generalizing l with
  | nil => simp [cutD, dataLen]
  | cons e a ih => simp [cutD, dataLen, ih, List.drop_drop, Nat.add_comm]
theorem entsOf_snoc (l : List UInt8) (k : Nat) : entsOf l (k + 1) = entsOf l k ++ [entOf (nb ((l.drop (4 * k)).take 4))] := by
  induction k generalizing l with
  | zero => simp [entsOf]
  | succ k ih =>
    have h1 : entsOf l (k + 1 + 1) = entOf (nb (l.take 4)) :: entsOf (l.drop 4) (k + 1) := rfl
    rw [h1, ih]
    have h2 : entsOf l (k + 1) = entOf (nb (l.take 4)) :: entsOf (l.drop 4) k := rfl
    rw [h2, List.drop_drop, show 4 + 4 * k = 4 * (k + 1) by omega]; rfl
/-- What follows on the data. -/
def fin (l : List UInt8) (seq : Int) (es : List (Int × Bool)) (c : Nat) : Gp × Int × Int :=
  if goodG ⟨seq, es, cutD (l.drop 64) es⟩ = false then (g0, 0, 10)
  else if nb ((l.drop (9 + 4 * c)).take 4) = (crcL (l.take (9 + 4 * c) ++ (l.drop 64).take (dataLen es))).toNat then (⟨seq, es, cutD (l.drop 64) es⟩, (blkN es : Int), 0) else (g0, 0, 11)

theorem dec_l1 (s : ByteArray) (hs : s.size ≤ 140737488355328) (c : Nat) (hc : c ≤ 6) (es : List (Int × Bool)) (hn : es.length = c) (seq : Int) (h64 : 64 + dataLen es ≤ s.size) :
    ∀ (d i k : Nat), es.length - i = d → i ≤ es.length → d + 20 < k →
      group_Decode.l1 k s ((9 + 4 * c : Nat) : Int) (blkN es : Int) (str (((bl s).drop (64 + dataLen (es.take i))).take (dataLen (es.drop i)))) (es.map toE) (es.length : Int) (i : Int) seq (es.map toE) (cutD ((bl s).drop 64) (es.take i)) = some (ofD (fin (bl s) seq es c)) := by
  intro d
  have hb64 := (dataLen_mod es).1
  have hble := (dataLen_mod es).2
  have hblk : ((blkN es : Nat) : Int) * 64 = ((64 + dataLen es : Nat) : Int) := by unfold blkN; omega
  induction d with
  | zero =>
    intro i k hd hi hk
    obtain ⟨k, rfl⟩ : ∃ m, k = m + 1 := ⟨k - 1, by omega⟩
    obtain rfl : i = es.length := by omega
    simp only [group_Decode.l1]
    rw [if_neg (by omega), List.take_length, right_f _ _ _ k (by omega)]
    rw [Option.bind_some]
    unfold fin
    cases hg : goodG ⟨seq, es, cutD ((bl s).drop 64) es⟩ with
    | false => rw [if_neg (by simp), if_pos rfl]; rfl
    | true =>
      rw [if_pos rfl, if_neg (show ¬(true = false) by simp), hblk, w64 _ (by omega), w64 _ (by omega)]
      rw [if_pos (by omega), if_pos (by omega), if_pos (by omega)]
      have e4 : (((9 + 4 * c : Nat) : Int) + 4).toNat = 13 + 4 * c := by omega
      rw [Int.toNat_natCast, e4, get_f _ (by rw [ByteArray.size_extract]; omega) (by rw [ByteArray.size_extract]; omega)]
      rw [Option.bind_some]
      rw [if_pos (by omega), if_pos (by omega), if_pos (by omega), Int.toNat_natCast]
      have hl1 : bl (s.extract (9 + 4 * c) (13 + 4 * c)) = ((bl s).drop (9 + 4 * c)).take 4 := by rw [bl_ext]; congr 1; omega
      have hl2 : bl (s.extract 0 (9 + 4 * c)) = (bl s).take (9 + 4 * c) := by rw [bl_ext]; rfl
      have hl3 : bl (s.extract 64 (64 + dataLen es)) = ((bl s).drop 64).take (dataLen es) := by rw [bl_ext]; congr 1; omega
      have hsum : crc_Sum.f [s.extract 0 (9 + 4 * c), s.extract 64 (64 + dataLen es)] = some ((crcL ((bl s).take (9 + 4 * c) ++ ((bl s).drop 64).take (dataLen es))).toNat : Int) := by
        unfold crc_Sum.f
        have hcat : cat [s.extract 0 (9 + 4 * c), s.extract 64 (64 + dataLen es)] = (bl s).take (9 + 4 * c) ++ ((bl s).drop 64).take (dataLen es) := by
          show bl _ ++ (bl _ ++ []) = _
          rw [hl2, hl3, List.append_nil]
        rw [if_pos, hcat]
        simp only [List.all_cons, List.all_nil, Bool.and_true, Bool.and_eq_true, decide_eq_true_eq, ByteArray.size_extract]
        omega
      rw [hsum]
      rw [Option.bind_some]
      rw [hl1]
      have hlt := nb_lt (((bl s).drop (9 + 4 * c)).take 4)
      have hll : (((bl s).drop (9 + 4 * c)).take 4).length = 4 := by rw [List.length_take, List.length_drop, bl_size]; omega
      rw [hll] at hlt
      have h256 : (256 : Nat) ^ 4 = 4294967296 := by decide
      have hmod : ((nb (((bl s).drop (9 + 4 * c)).take 4) : Nat) : Int) % 4294967296 = (nb (((bl s).drop (9 + 4 * c)).take 4) : Nat) := by omega
      rw [hmod]
      by_cases hcr : nb (((bl s).drop (9 + 4 * c)).take 4) = (crcL ((bl s).take (9 + 4 * c) ++ ((bl s).drop 64).take (dataLen es))).toNat
      · rw [if_pos (by omega), if_pos hcr]; rfl
      · rw [if_neg (by omega), if_neg hcr]; rfl
  | succ d ih =>
    intro i k hd hi hk
    obtain ⟨k, rfl⟩ : ∃ m, k = m + 1 := ⟨k - 1, by omega⟩
    have hlt : i < es.length := by omega
    have hsplit : dataLen es = dataLen (es.take i) + dataLen (es.drop i) := by rw [← dataLen_append, List.take_append_drop]
    have hdr : dataLen (es.drop i) = wantsE es[i] + dataLen (es.drop (i + 1)) := by rw [drop_cons es i hlt]; rfl
    have htk : dataLen (es.take (i + 1)) = dataLen (es.take i) + wantsE es[i] := by
      rw [List.take_succ_eq_append_getElem hlt, dataLen_append]; simp [dataLen]
    have hw : wantsE es[i] ≤ 64 := by unfold wantsE; split <;> omega
    obtain ⟨R, hR⟩ : ∃ R, ((bl s).drop (64 + dataLen (es.take i))).take (dataLen (es.drop i)) = R := ⟨_, rfl⟩
    have hRl : R.length = dataLen (es.drop i) := by rw [← hR, List.length_take, List.length_drop, bl_size]; omega
    have hrs : (str R).size = dataLen (es.drop i) := by rw [str_size, hRl]
    simp only [group_Decode.l1]
    rw [hR, if_pos (by omega), if_pos (by omega), if_pos (by rw [List.length_map]; omega), rdE es i hlt, wants_f]
    rw [Option.bind_some]
    rw [if_pos (by omega), if_pos (by omega), if_pos (by rw [cutD_len, List.length_take]; omega), Option.bind_some, if_pos (by omega), if_pos (by omega), Int.toNat_natCast, w64 _ (by omega)]
    have e1 : (str R).extract (wantsE es[i]) (str R).size = str (((bl s).drop (64 + dataLen (es.take (i + 1)))).take (dataLen (es.drop (i + 1)))) := by
      apply bl_inj
      rw [bl_ext, bl_str, bl_str, hrs, ← hR, List.drop_take, List.drop_drop, htk, List.take_take, Nat.add_assoc]
      congr 1
      omega
    have e2 : cutD ((bl s).drop 64) (es.take i) ++ [(str R).extract 0 (wantsE es[i])] = cutD ((bl s).drop 64) (es.take (i + 1)) := by
      rw [List.take_succ_eq_append_getElem hlt, cutD_append]
      congr 1
      simp only [cutD]
      congr 1
      apply bl_inj
      rw [bl_ext, bl_str, bl_str, ← hR, List.drop_drop, List.drop_zero, List.take_take]
      congr 1
      omega
    rw [e1, e2]
    exact ih (i + 1) k (by omega) (by omega) (by omega)

theorem dec_l0 (s : ByteArray) (hs : s.size ≤ 140737488355328) (h64 : 64 ≤ s.size) (c : Nat) (hc : c ≤ 6) (seq : Int) :
    ∀ (d i k : Nat), c - i = d → i ≤ c → d + 300 < k →
      group_Decode.l0 k s ((9 + 4 * c : Nat) : Int) ((9 + 4 * i : Nat) : Int) seq ((entsOf ((bl s).drop 9) i).map toE) =
        some (ofD (if s.size < 64 + dataLen (entsOf ((bl s).drop 9) c) then (g0, 0, 10) else fin (bl s) seq (entsOf ((bl s).drop 9) c) c)) := by
  intro d
  induction d with
  | zero =>
    intro i k hd hi hk
    obtain ⟨k, rfl⟩ : ∃ m, k = m + 1 := ⟨k - 1, by omega⟩
    obtain rfl : i = c := by omega
    obtain ⟨es, hes⟩ : ∃ es, entsOf ((bl s).drop 9) i = es := ⟨_, rfl⟩
    have hn : es.length = i := by rw [← hes, entsOf_len]
    have hb64 := (dataLen_mod es).1
    have hble := (dataLen_mod es).2
    have hblk : ((blkN es : Nat) : Int) * 64 = ((64 + dataLen es : Nat) : Int) := by unfold blkN; omega
    simp only [group_Decode.l0]
    rw [hes, if_neg (by omega), blocks_f es (by omega) k (by omega)]
    rw [Option.bind_some]
    rw [hblk, w64 _ (by omega)]
    by_cases hsz : s.size < 64 + dataLen es
    · rw [if_pos (by omega), if_pos hsz]; rfl
    · rw [if_neg (by omega), if_neg hsz, if_pos (by omega), if_pos (by omega), Int.toNat_natCast]
      have h1 := dec_l1 s hs i hc es hn seq (by omega) (es.length - 0) 0 k rfl (by omega) (by omega)
      have e1 : s.extract 64 (64 + dataLen es) = str (((bl s).drop (64 + dataLen (es.take 0))).take (dataLen (es.drop 0))) := by
        apply bl_inj
        rw [bl_ext, bl_str]
        show _ = ((bl s).drop (64 + 0)).take (dataLen es)
        congr 1; omega
      rw [e1, List.length_map]
      exact h1
  | succ d ih =>
    intro i k hd hi hk
    obtain ⟨k, rfl⟩ : ∃ m, k = m + 1 := ⟨k - 1, by omega⟩
    simp only [group_Decode.l0]
    have e1 : wrap64 (((9 + 4 * i : Nat) : Int) + 4) = ((9 + 4 * (i + 1) : Nat) : Int) := by rw [w64 _ (by omega)]; omega
    rw [if_pos (by omega), if_pos (by omega), e1, if_pos (by omega), if_pos (by omega), Int.toNat_natCast, Int.toNat_natCast]
    rw [get_f _ (by rw [ByteArray.size_extract]; omega) (by rw [ByteArray.size_extract]; omega)]
    rw [Option.bind_some]
    have hl1 : bl (s.extract (9 + 4 * i) (9 + 4 * (i + 1))) = (((bl s).drop 9).drop (4 * i)).take 4 := by
      rw [bl_ext, List.drop_drop]; congr 1; omega
    have hlt := nb_lt ((((bl s).drop 9).drop (4 * i)).take 4)
    have hll : ((((bl s).drop 9).drop (4 * i)).take 4).length = 4 := by rw [List.length_take, List.length_drop, List.length_drop, bl_size]; omega
    rw [hll] at hlt
    have h256 : (256 : Nat) ^ 4 = 4294967296 := by decide
    rw [hl1, ent_f _ (by omega), if_pos (by rw [List.length_map, entsOf_len]; omega)]
    have e2 : (entsOf ((bl s).drop 9) i).map toE ++ [toE (entOf (nb ((((bl s).drop 9).drop (4 * i)).take 4)))] = (entsOf ((bl s).drop 9) (i + 1)).map toE := by
      rw [entsOf_snoc, List.map_append]; rfl
    rw [e2]
    exact ih (i + 1) k (by omega) (by omega) (by omega)

theorem dec_f (s : ByteArray) (hs : s.size ≤ 140737488351232) (k : Nat) (hk : 400 < k) : group_Decode.f k s = some (ofD (decG (bl s))) := by
  obtain ⟨k, rfl⟩ : ∃ m, k = m + 2 := ⟨k - 2, by omega⟩
  unfold group_Decode.f decG
  rw [toL]
  by_cases h0 : bl s = []
  · rw [if_pos h0, if_pos h0]; rfl
  · rw [if_neg h0, if_neg h0]
    by_cases h6 : s.size < 64
    · rw [if_pos (by omega), if_pos (.inl (by rw [bl_size]; exact h6))]
      simp only [group_Decode.j0]
      rfl
    · rw [if_neg (by omega), if_pos (by omega), if_pos (by omega), toL]
      have e2 : bl (s.extract 0 2) = (bl s).take 2 := by rw [bl_ext]; rfl
      rw [e2]
      by_cases h2 : (bl s).take 2 = [67, 71]
      · rw [if_neg (by rintro (h | h); rw [bl_size] at h; omega; exact h h2)]
        have hb : ((bl s).take 2 != ([67, 71] : List UInt8)) = false := by rw [h2]; rfl
        rw [hb]
        obtain ⟨c, hc⟩ : ∃ c, ((bl s).getD 8 0).toNat = c := ⟨_, rfl⟩
        have hcl : c < 256 := by rw [← hc]; exact u8_lt _
        have hbt : wrap64 (bt s 8) = (c : Int) := by
          have := bt_get s 8 (by omega)
          rw [show ((8 : Nat) : Int) = 8 from rfl, hc] at this
          rw [this, w64 _ (by omega)]
        simp only [group_Decode.j0]
        rw [hc, hbt, if_neg (by simp), if_pos (by omega), if_pos (by omega)]
        rw [get_f _ (by rw [ByteArray.size_extract]; omega) (by rw [ByteArray.size_extract]; omega)]
        rw [Option.bind_some]
        have e26 : bl (s.extract 2 8) = ((bl s).drop 2).take 6 := by rw [bl_ext]
        have e9 : wrap64 (9 + wrap64 (4 * (c : Int))) = ((9 + 4 * c : Nat) : Int) := by rw [w64 (4 * (c : Int)) (by omega), w64 _ (by omega)]; omega
        have e13 : wrap64 (((9 + 4 * c : Nat) : Int) + 4) = ((13 + 4 * c : Nat) : Int) := by rw [w64 _ (by omega)]; omega
        rw [if_pos (by omega), e26, e9, e13]
        by_cases h1 : (c : Int) < 1
        · rw [if_pos h1, if_pos (.inl (by omega))]
          simp only [group_Decode.j1]
          rfl
        · rw [if_neg h1]
          by_cases h7 : (c : Int) > 6
          · rw [if_pos h7, if_pos (.inr (.inl (by omega)))]
            simp only [group_Decode.j1]
            rfl
          · rw [if_neg h7, if_pos (by omega), if_pos (by omega), if_pos (by omega), Int.toNat_natCast]
            rw [empty_f _ (by rw [ByteArray.size_extract]; omega)]
            rw [Option.bind_some]
            have ez : bl (s.extract (13 + 4 * c) 64) = ((bl s).drop (13 + 4 * c)).take (51 - 4 * c) := by rw [bl_ext]; congr 1; omega
            rw [ez]
            cases hz : (((bl s).drop (13 + 4 * c)).take (51 - 4 * c)).all (· == 0) with
            | false =>
              rw [if_pos (.inr (.inr rfl))]
              simp only [group_Decode.j1]
              rfl
            | true =>
              rw [if_neg (by rintro (h | h | h); omega; omega; cases h)]
              simp only [group_Decode.j1]
              rw [if_neg (by simp)]
              have := dec_l0 s (by omega) (by omega) c (by omega) (nb (((bl s).drop 2).take 6) : Int) (c - 0) 0 k rfl (by omega) (by omega)
              rw [show (((9 + 4 * 0 : Nat)) : Int) = 9 from rfl] at this
              rw [show ([] : List S62) = (entsOf ((bl s).drop 9) 0).map toE from rfl, this, bl_size]
              rfl
      · rw [if_pos (.inr h2)]
        have hb : ((bl s).take 2 != ([67, 71] : List UInt8)) = true := by rw [bne_iff_ne]; exact h2
        rw [hb]
        simp only [group_Decode.j0]
        rfl

end Go.Proofs.YticpjnpafmehaaaDoor.U
