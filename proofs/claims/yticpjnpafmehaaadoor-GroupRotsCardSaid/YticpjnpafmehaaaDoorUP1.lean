/-
  What the printed functions of group answer: right, head, Encode, Blocks, Decode, as the plain law has them.
-/
import Derived.Test.YticpjnpafmehaaaDoorUx6
import Derived.Test.YticpjnpafmehaaaDoorGP0
namespace Go.Proofs.YticpjnpafmehaaaDoor.U
open Go.RowKit Go.Proofs.YticpjnpafmehaaaDoorW.PrintWords Go.Proofs.YticpjnpafmehaaaDoorW.PrintLast Go.Proofs.YticpjnpafmehaaaDoorW.PrintMore
set_option linter.unusedVariables false
set_option linter.unusedSimpArgs false

def toE (e : Int × Bool) : S62 := ⟨e.1, e.2⟩
theorem rdE (es : List (Int × Bool)) (i : Nat) (h : i < es.length) : rd_T62 (es.map toE) (i : Int) = toE es[i] := by
  unfold rd_T62; rw [Int.toNat_natCast, List.getD_eq_getElem?_getD, List.getElem?_map, List.getElem?_eq_getElem h]; rfl
theorem rdD (ds : List ByteArray) (i : Nat) (h : i < ds.length) : rdOf ByteArray.empty ds (i : Int) = ds[i] := by
  unfold rdOf; rw [Int.toNat_natCast, List.getD_eq_getElem?_getD, List.getElem?_eq_getElem h]; rfl
theorem drop_cons {α : Type} (l : List α) (i : Nat) (h : i < l.length) : l.drop i = l[i] :: l.drop (i + 1) := by rw [List.drop_eq_getElem_cons h]
theorem wants_f (e : Int × Bool) : group_Entry_wants.f (toE e).f0 (toE e).f1 = some (wantsE e : Int) := by
  unfold group_Entry_wants.f wantsE toE
  cases e.2 <;> rfl

theorem right_l0 (seq : Int) (es : List (Int × Bool)) (ds : List ByteArray) (hl : ds.length = es.length) (hn : es.length ≤ 6) :
    ∀ (d i k : Nat), es.length - i = d → i ≤ es.length → d < k → group_Group_right.l0 k (es.map toE) (es.length : Int) (i : Int) seq (es.map toE) ds = some (pairOk (es.drop i) (ds.drop i)) := by
  intro d
  induction d with
  | zero =>
    intro i k hd hi hk
    obtain ⟨k, rfl⟩ : ∃ m, k = m + 1 := ⟨k - 1, by omega⟩
    obtain rfl : i = es.length := by omega
    simp only [group_Group_right.l0]
    rw [if_neg (by omega), List.drop_length, List.drop_of_length_le (by omega)]; rfl
  | succ d ih =>
    intro i k hd hi hk
    obtain ⟨k, rfl⟩ : ∃ m, k = m + 1 := ⟨k - 1, by omega⟩
    have hlt : i < es.length := by omega
    simp only [group_Group_right.l0]
    rw [if_pos (by omega), if_pos (by omega), if_pos (by rw [List.length_map]; omega), rdE es i hlt, drop_cons es i hlt, drop_cons ds i (by omega)]
    simp only [pairOk]
    by_cases h0 : es[i].1 < 0
    · rw [if_pos (show (toE es[i]).f0 < 0 from h0), decide_eq_false (by omega)]; rfl
    · rw [if_neg (show ¬(toE es[i]).f0 < 0 from h0), decide_eq_true (show 0 ≤ es[i].1 by omega)]
      by_cases h1 : es[i].1 ≥ 2147483648
      · rw [if_pos (show (toE es[i]).f0 ≥ 2147483648 from h1), decide_eq_false (by omega)]; rfl
      · rw [if_neg (show ¬(toE es[i]).f0 ≥ 2147483648 from h1), decide_eq_true (show es[i].1 < 2147483648 by omega), if_pos (by omega), wants_f]
        simp only [Option.bind_some, Bool.true_and]
        rw [rdD ds i (by omega)]
        by_cases h2 : ds[i].size = wantsE es[i]
        · rw [if_pos (by omega), decide_eq_true h2, w64 _ (by omega)]
          exact ih (i + 1) k (by omega) (by omega) (by omega)
        · rw [if_neg (by omega), decide_eq_false h2]; rfl

theorem right_f (seq : Int) (es : List (Int × Bool)) (ds : List ByteArray) (k : Nat) (hk : 10 < k) : group_Group_right.f k seq (es.map toE) ds = some (goodG ⟨seq, es, ds⟩) := by
  obtain ⟨k, rfl⟩ : ∃ m, k = m + 1 := ⟨k - 1, by omega⟩
  unfold group_Group_right.f goodG
  simp only [List.length_map]
  by_cases h0 : seq < 0
  · rw [if_pos h0, decide_eq_false (by omega)]; simp [group_Group_right.j0]
  · rw [if_neg h0, decide_eq_true (show 0 ≤ seq by omega)]
    by_cases h1 : seq > 1099511627776
    · rw [if_pos h1, decide_eq_false (by omega)]; simp [group_Group_right.j0]
    · rw [if_neg h1, decide_eq_true (show seq ≤ 1099511627776 by omega)]
      by_cases h2 : (es.length : Int) < 1
      · rw [if_pos h2, decide_eq_false (show ¬1 ≤ es.length by omega)]; simp [group_Group_right.j0]
      · rw [if_neg h2, decide_eq_true (show 1 ≤ es.length by omega)]
        by_cases h3 : (es.length : Int) > 6
        · rw [if_pos h3, decide_eq_false (show ¬es.length ≤ 6 by omega)]; simp [group_Group_right.j0]
        · rw [if_neg h3, decide_eq_true (show es.length ≤ 6 by omega)]
          simp only [group_Group_right.j0, Bool.true_and]
          by_cases h4 : ds.length = es.length
          · have hb : ((ds.length : Int) != (es.length : Int)) = false := by rw [h4]; simp
            rw [hb, if_neg (by simp), List.length_map]
            have := right_l0 seq es ds h4 (by omega) (es.length - 0) 0 k rfl (by omega) (by omega)
            exact this
          · have hb : ((ds.length : Int) != (es.length : Int)) = true := by
              rw [bne_iff_ne]; omega
            rw [hb, if_pos rfl]
            congr 1
            cases hp : pairOk es ds with
            | false => rfl
            | true => exact absurd (pairOk_len hp) h4

theorem put_f (n w : Nat) (hw1 : 1 ≤ w) (hw : w ≤ 6) (hn : n < 256 ^ w) (h2 : n ≤ 1099511627776) : nums_Put.f (n : Int) (w : Int) = some (str (be w n)) := by
  unfold nums_Put.f
  rw [Int.toNat_natCast, Int.toNat_natCast, if_pos ⟨by omega, by omega, by omega, hn, by omega⟩]

theorem or31 (n : Nat) (h : n < 2147483648) : Go.bits .or .i64 (n : Int) 2147483648 = ((n + 2147483648 : Nat) : Int) := by
  show IntKind.i64.wrap ((BitVec.ofInt 64 (n : Int) ||| BitVec.ofInt 64 ((2147483648 : Nat) : Int)).toNat : Int) = _
  have h64 : (2 : Nat) ^ 64 = 18446744073709551616 := by decide
  rw [BitVec.ofInt_natCast, BitVec.ofInt_natCast, BitVec.toNat_or, BitVec.toNat_ofNat, BitVec.toNat_ofNat, Nat.mod_eq_of_lt (by omega), Nat.mod_eq_of_lt (by omega)]
  have e6 : n ||| 2147483648 = n + 2147483648 := by
    have := Nat.shiftLeft_add_eq_or_of_lt (show n < 2 ^ 31 by omega) 1
    rw [Nat.or_comm, show (2147483648 : Nat) = 1 <<< 31 from rfl, ← this]; omega
  rw [e6, IntKind.wrap_i64]
  omega
theorem entPut (e : Int × Bool) (h0 : 0 ≤ e.1) (h1 : e.1 < 2147483648) : (if (toE e).f1 = true then nums_Put.f (Go.bits .or .i64 ((toE e).f0) 2147483648) 4 else nums_Put.f ((toE e).f0) 4) = some (str (be 4 (entV e))) := by
  obtain ⟨b, t⟩ := e
  obtain ⟨n, rfl⟩ := Int.eq_ofNat_of_zero_le h0
  simp only at h1
  have h256 : (256 : Nat) ^ 4 = 4294967296 := by decide
  unfold toE entV
  cases t
  · simp only [Bool.false_eq_true, if_false, Int.toNat_natCast]
    exact put_f n 4 (by omega) (by omega) (by omega) (by omega)
  · simp only [if_true, Int.toNat_natCast]
    rw [or31 n (by omega)]
    exact put_f (n + 2147483648) 4 (by omega) (by omega) (by omega) (by omega)

theorem head_l0 (es : List (Int × Bool)) (ds : List ByteArray) (hp : ∀ e ∈ es, 0 ≤ e.1 ∧ e.1 < 2147483648) (hn : es.length ≤ 6) (P : List UInt8) (hP : P.length ≤ 100) :
    ∀ (d i k : Nat), es.length - i = d → i ≤ es.length → d < k → group_Group_head.l0 k (str (P ++ entsTxt (es.take i))) (es.map toE) (es.length : Int) (i : Int) = some (str (P ++ entsTxt es)) := by
  intro d
  induction d with
  | zero =>
    intro i k hd hi hk
    obtain ⟨k, rfl⟩ : ∃ m, k = m + 1 := ⟨k - 1, by omega⟩
    obtain rfl : i = es.length := by omega
    simp only [group_Group_head.l0]
    rw [if_neg (by omega), List.take_length]
  | succ d ih =>
    intro i k hd hi hk
    obtain ⟨k, rfl⟩ : ∃ m, k = m + 1 := ⟨k - 1, by omega⟩
    have hlt : i < es.length := by omega
    have hen := hp es[i] (List.getElem_mem hlt)
    have key := entPut es[i] hen.1 hen.2
    have htl : (entsTxt (es.take i)).length = 4 * i := by rw [entsTxt_len, List.length_take]; omega
    have hsz : (str (P ++ entsTxt (es.take i))).size + (str (be 4 (entV es[i]))).size ≤ 9223372036854775807 := by
      rw [str_size, str_size, List.length_append, be_length]; omega
    have happ : str (P ++ entsTxt (es.take i)) ++ str (be 4 (entV es[i])) = str (P ++ entsTxt (es.take (i + 1))) := by
      have ht : entsTxt (es.take (i + 1)) = entsTxt (es.take i) ++ be 4 (entV es[i]) := by
        rw [List.take_succ_eq_append_getElem hlt]
        unfold entsTxt
        rw [List.flatMap_append]
        simp only [List.flatMap_cons, List.flatMap_nil, List.append_nil]
      rw [str_append, ht, List.append_assoc]
    have hnext := ih (i + 1) k (by omega) (by omega) (by omega)
    simp only [group_Group_head.l0]
    rw [if_pos (by omega), if_pos (by omega), if_pos (by rw [List.length_map]; omega), rdE es i hlt]
    split at key
    · rename_i ht
      rw [if_pos ht, key]
      simp only [Option.bind_some]
      rw [if_pos hsz, happ, w64 _ (by omega)]
      exact hnext
    · rename_i ht
      rw [if_neg ht, key]
      simp only [Option.bind_some]
      rw [if_pos hsz, happ, w64 _ (by omega)]
      exact hnext

theorem pairOk_each : ∀ {es : List (Int × Bool)} {ds : List ByteArray}, pairOk es ds = true → ∀ e ∈ es, 0 ≤ e.1 ∧ e.1 < 2147483648
  | [], [], _ => by simp
  | [], _ :: _, h => by simp [pairOk] at h
  | _ :: _, [], h => by simp [pairOk] at h
  | e :: es, d :: ds, h => by
    simp only [pairOk, Bool.and_eq_true, decide_eq_true_eq] at h
    intro x hx
    rcases List.mem_cons.1 hx with rfl | hx
    · exact ⟨h.1, h.2.1⟩
    · exact pairOk_each h.2.2.2 x hx
theorem pairOk_size : ∀ {es : List (Int × Bool)} {ds : List ByteArray}, pairOk es ds = true → ∀ d ∈ ds, d.size ≤ 64
  | [], [], _ => by simp
  | [], _ :: _, h => by simp [pairOk] at h
  | _ :: _, [], h => by simp [pairOk] at h
  | e :: es, d :: ds, h => by
    simp only [pairOk, Bool.and_eq_true, decide_eq_true_eq] at h
    intro x hx
    rcases List.mem_cons.1 hx with rfl | hx
    · rw [h.2.2.1]; unfold wantsE; split <;> omega
    · exact pairOk_size h.2.2.2 x hx

theorem head_f (g : Gp) (hg : goodG g = true) (k : Nat) (hk : 10 < k) : group_Group_head.f k g.seq (g.es.map toE) g.ds = some (str (headG g)) := by
  obtain ⟨h1, h2, h3⟩ := (good_iff g).1 hg
  obtain ⟨n, hn⟩ := Int.eq_ofNat_of_zero_le h1.1
  have h256 : (256 : Nat) ^ 6 = 281474976710656 := by decide
  unfold group_Group_head.f
  rw [hn]
  rw [show nums_Put.f (n : Int) 6 = some (str (be 6 n)) from put_f n 6 (by omega) (by omega) (by omega) (by omega)]
  simp only [Option.bind_some]
  rw [List.length_map, if_pos (by rw [str_size, be_length]; omega)]
  rw [show nums_Put.f (g.es.length : Int) 1 = some (str (be 1 g.es.length)) from put_f g.es.length 1 (by omega) (by omega) (by omega) (by omega)]
  simp only [Option.bind_some]
  rw [if_pos (by rw [ByteArray.size_append, str_size, str_size, be_length, be_length]; show 2 + 6 + 1 ≤ _; omega)]
  have e1 : ((⟨#[67, 71]⟩ : ByteArray) ++ str (be 6 n)) ++ str (be 1 g.es.length) = str (([67, 71] ++ (be 6 n ++ be 1 g.es.length)) ++ entsTxt (g.es.take 0)) := by
    rw [show (⟨#[67, 71]⟩ : ByteArray) = str [67, 71] from rfl, str_append, str_append]
    simp [entsTxt]
  rw [e1]
  have := head_l0 g.es g.ds (pairOk_each h3) h2.2 ([67, 71] ++ (be 6 n ++ be 1 g.es.length)) (by simp [be_length]) (g.es.length - 0) 0 k rfl (by omega) (by omega)
  rw [show ((0 : Nat) : Int) = 0 from rfl] at this
  rw [this]
  unfold headG
  rw [hn, Int.toNat_natCast]
  simp only [List.append_assoc]

theorem zero_f (n : Nat) (h : n ≤ 65536) : xor_Zero.f (n : Int) = some (str (List.replicate n 0)) := by
  unfold xor_Zero.f
  rw [if_neg (by omega), if_neg (by omega), Int.toNat_natCast]; rfl
theorem join_f (ds : List ByteArray) (h1 : (cat ds).length ≤ 140737488355328) (h2 : ds.length ≤ 140737488355328) : strings_Join.f ds (⟨#[]⟩ : ByteArray) = some (str (cat ds)) := by
  unfold strings_Join.f
  rw [if_pos ⟨rfl, h1, h2⟩]; rfl
theorem sum2_f (a b : ByteArray) (ha : a.size ≤ 140737488355328) (hb : b.size ≤ 140737488355328) : crc_Sum.f [a, b] = some ((crcL (bl a ++ bl b)).toNat : Int) := by
  unfold crc_Sum.f
  have hc : cat [a, b] = bl a ++ bl b := by show bl a ++ (bl b ++ []) = _; rw [List.append_nil]
  rw [if_pos (by simp only [List.all_cons, List.all_nil, decide_eq_true ha, decide_eq_true hb, Bool.and_true]), hc]
theorem enc_tail (H D : List UInt8) (n C : Nat) (hH : H.length = 9 + 4 * n) (hn : n ≤ 6) (hD : D.length ≤ 1000) (hC : C < 4294967296) :
    (nums_Put.f (wrap64 ((C : Nat) : Int)) 4).bind (fun t125 => (if (str H).size + t125.size ≤ 9223372036854775807 then ((xor_Zero.f (wrap64 (64 - ((str H ++ t125).size : Int)))).bind fun t126 => (if (str H ++ t125).size + t126.size ≤ 9223372036854775807 then (if ((str H ++ t125) ++ t126).size + (str D).size ≤ 9223372036854775807 then (some (((str H ++ t125) ++ t126) ++ str D, (0 : Int))) else (none)) else (none))) else (none))) =
      some (str (H ++ (be 4 C ++ (List.replicate (51 - 4 * n) 0 ++ D))), 0) := by
  have h256 : (256 : Nat) ^ 4 = 4294967296 := by decide
  have hz := zero_f (51 - 4 * n) (by omega)
  have hput : nums_Put.f (C : Int) 4 = some (str (be 4 C)) := put_f C 4 (by omega) (by omega) (by omega) (by omega)
  have s2 : (str (H ++ be 4 C)).size = 13 + 4 * n := by rw [str_size, List.length_append, be_length, hH]; omega
  have s1 : (str H).size + (str (be 4 C)).size ≤ 9223372036854775807 := by rw [str_size, str_size, be_length]; omega
  have s3 : (str (H ++ be 4 C)).size + (str (List.replicate (51 - 4 * n) (0 : UInt8))).size ≤ 9223372036854775807 := by rw [s2, str_size, List.length_replicate]; omega
  have s4 : (str (H ++ be 4 C ++ List.replicate (51 - 4 * n) (0 : UInt8))).size + (str D).size ≤ 9223372036854775807 := by
    rw [str_size, str_size, List.length_append, List.length_append, be_length, hH, List.length_replicate]; omega
  have e0 : (64 : Int) - ((13 + 4 * n : Nat) : Int) = ((51 - 4 * n : Nat) : Int) := by omega
  have b1 : -9223372036854775808 ≤ (C : Int) ∧ (C : Int) ≤ 9223372036854775807 := by omega
  have b2 : -9223372036854775808 ≤ ((51 - 4 * n : Nat) : Int) ∧ ((51 - 4 * n : Nat) : Int) ≤ 9223372036854775807 := by omega
  rw [w64 _ b1, hput]
  simp only [Option.bind_some]
  have e1 : wrap64 (64 - ((str H ++ str (be 4 C)).size : Int)) = ((51 - 4 * n : Nat) : Int) := by rw [str_append, s2, e0, w64 _ b2]
  rw [if_pos s1, e1, hz]
  simp only [Option.bind_some]
  rw [str_append, if_pos s3, str_append, if_pos s4, str_append]
  simp only [List.append_assoc]
theorem enc_all (F J : Option ByteArray) (H D : List UInt8) (n C : Nat) (hF : F = some (str H)) (hJ : J = some (str D)) (hH : H.length = 9 + 4 * n) (hn : n ≤ 6) (hD : D.length ≤ 1000) (hC : (crcL (H ++ D)).toNat = C) :
    (J.bind fun t119 => (F.bind fun t120 => ((crc_Sum.f (([t120, t119] : List ByteArray))).bind fun t124 => ((nums_Put.f (wrap64 (t124)) 4).bind fun t125 => (if t120.size + t125.size ≤ 9223372036854775807 then ((xor_Zero.f (wrap64 (64 - ((t120 ++ t125).size : Int)))).bind fun t126 => (if (t120 ++ t125).size + t126.size ≤ 9223372036854775807 then (if ((t120 ++ t125) ++ t126).size + t119.size ≤ 9223372036854775807 then (some (((t120 ++ t125) ++ t126) ++ t119, (0 : Int))) else (none)) else (none))) else (none)))))) =
      some (str (H ++ (be 4 C ++ (List.replicate (51 - 4 * n) 0 ++ D))), 0) := by
  have hCl : C < 4294967296 := by rw [← hC]; exact (crcL (H ++ D)).isLt
  have hs := sum2_f (str H) (str D) (by rw [str_size]; omega) (by rw [str_size]; omega)
  rw [bl_str, bl_str, hC] at hs
  have ht := enc_tail H D n C hH hn hD hCl
  rw [hJ, Option.bind_some, hF, Option.bind_some, hs, Option.bind_some]
  exact ht
theorem enc_good (g : Gp) (k : Nat) (hk : 10 < k) (hg : goodG g = true) : group_Encode.f k g.seq (g.es.map toE) g.ds = some (str (encG g), 0) := by
  obtain ⟨h1, h2, h3⟩ := (good_iff g).1 hg
  have hcat := pairOk_cat h3
  have hdl := (dataLen_mod g.es).2
  have hlen := pairOk_len h3
  have hr := right_f g.seq g.es g.ds k hk
  rw [show goodG ⟨g.seq, g.es, g.ds⟩ = true from hg] at hr
  unfold group_Encode.f
  rw [hr]
  simp only [Option.bind_some]
  rw [if_pos trivial]
  exact enc_all _ _ (headG g) (cat g.ds) g.es.length _ (head_f g hg k hk) (join_f g.ds (by omega) (by omega)) (headG_len g) h2.2 (by omega) rfl
theorem enc_bad (g : Gp) (k : Nat) (hk : 10 < k) (hg : goodG g = false) : group_Encode.f k g.seq (g.es.map toE) g.ds = some ((⟨#[]⟩ : ByteArray), 1) := by
  have hr := right_f g.seq g.es g.ds k hk
  rw [show goodG ⟨g.seq, g.es, g.ds⟩ = false from hg] at hr
  unfold group_Encode.f
  rw [hr]
  simp only [Option.bind_some]
  rw [if_neg (by simp)]

theorem blocks_l0 (es : List (Int × Bool)) (hn : es.length ≤ 100) :
    ∀ (d i k acc : Nat), es.length - i = d → i ≤ es.length → d < k → acc ≤ 1 + i → group_Blocks.l0 k (acc : Int) (es.map toE) (es.length : Int) (i : Int) = some ((acc + dataLen (es.drop i) / 64 : Nat) : Int) := by
  intro d
  induction d with
  | zero =>
    intro i k acc hd hi hk ha
    obtain ⟨k, rfl⟩ : ∃ m, k = m + 1 := ⟨k - 1, by omega⟩
    simp only [group_Blocks.l0]
    rw [if_neg (by omega), List.drop_of_length_le (by omega)]; simp [dataLen]
  | succ d ih =>
    intro i k acc hd hi hk ha
    obtain ⟨k, rfl⟩ : ∃ m, k = m + 1 := ⟨k - 1, by omega⟩
    have hlt : i < es.length := by omega
    simp only [group_Blocks.l0]
    rw [if_pos (by omega), if_pos (by omega), if_pos (by rw [List.length_map]; omega), rdE es i hlt, wants_f]
    simp only [Option.bind_some]
    have hd2 : dataLen (es.drop i) = wantsE es[i] + dataLen (es.drop (i + 1)) := by rw [drop_cons es i hlt]; rfl
    have hw : wantsE es[i] = 0 ∨ wantsE es[i] = 64 := by unfold wantsE; split <;> simp
    have e1 : wrap64 ((acc : Int) + wrap64 (Int.tdiv (wantsE es[i] : Int) 64)) = ((acc + wantsE es[i] / 64 : Nat) : Int) := by
      rcases hw with hw | hw
      · rw [hw]; simp; rw [w64 0 (by omega), Int.add_zero, w64 _ (by omega)]
      · rw [hw, show Int.tdiv ((64 : Nat) : Int) 64 = 1 from rfl, w64 1 (by omega), w64 _ (by omega)]; omega
    rw [e1, w64 _ (by omega)]
    have := ih (i + 1) k (acc + wantsE es[i] / 64) (by omega) (by omega) (by omega) (by rcases hw with hw | hw <;> rw [hw] <;> omega)
    rw [show ((i : Int) + 1) = ((i + 1 : Nat) : Int) by omega, this, hd2]
    congr 2
    rcases hw with hw | hw <;> rw [hw] <;> omega
theorem blocks_f (es : List (Int × Bool)) (hn : es.length ≤ 100) (k : Nat) (hk : 200 < k) : group_Blocks.f k (es.map toE) = some ((blkN es : Nat) : Int) := by
  unfold group_Blocks.f
  have := blocks_l0 es hn (es.length - 0) 0 k 1 rfl (by omega) (by omega) (by omega)
  rw [List.length_map]
  exact this

end Go.Proofs.YticpjnpafmehaaaDoor.U
