/-
  The printed texts of RecordDecodes: the scans.
  Plain law of RecordEncodes, RecordDecodes: the document's functions.
  Plain law of RecordEncodes, RecordDecodes: the scans, the laws.
-/
import Derived.Test.YtadpeopbfoppjaaDoorEx6
import Derived.Test.YtadpeopbfoppjaaDoorEx8
import Derived.Test.YtadpeopbfoppjaaDoorRP1


namespace Go.Proofs.YtadpeopbfoppjaaDoor.E
open Go.RowKit Go.Proofs.YtadpeopbfoppjaaDoorW.PrintWords Go.Proofs.YtadpeopbfoppjaaDoorW.PrintLast Go.Proofs.YtadpeopbfoppjaaDoorW.PrintMore
set_option linter.unusedVariables false
set_option linter.unusedSimpArgs false

theorem w64 (x : Int) (h : -9223372036854775808 ≤ x ∧ x ≤ 9223372036854775807) : wrap64 x = x := by unfold wrap64; omega

/-- The number of bytes, as the document reads it. -/
theorem num_l0 (s : ByteArray) (hs : s.size ≤ 7) : ∀ (d i k : Nat), s.size - i = d → i ≤ s.size → d < k → corbelref01_Get.l0 k s (nb ((bl s).take i) : Int) (i : Int) = some ((nb (bl s) : Int), true) := by
  intro d
  induction d with
  | zero =>
    intro i k hd hi hk
    obtain ⟨k, rfl⟩ : ∃ m, k = m + 1 := ⟨k - 1, by omega⟩
    simp only [corbelref01_Get.l0]
    rw [if_neg (by omega), List.take_of_length_le (by rw [bl_size]; omega)]
  | succ d ih =>
    intro i k hd hi hk
    obtain ⟨k, rfl⟩ : ∃ m, k = m + 1 := ⟨k - 1, by omega⟩
    have hlt : i < (bl s).length := by rw [bl_size]; omega
    have hx := nb_lt ((bl s).take i)
    have hxl : ((bl s).take i).length = i := by rw [List.length_take]; omega
    rw [hxl] at hx
    have hx6 : nb ((bl s).take i) < 256 ^ 6 := Nat.lt_of_lt_of_le hx (Nat.pow_le_pow_right (by decide) (by omega))
    have h6 : (256 : Nat) ^ 6 = 281474976710656 := by decide
    have hb := u8_lt ((bl s)[i]'hlt)
    simp only [corbelref01_Get.l0]
    rw [if_pos (by omega), if_pos (by omega), V.bt_last s i (by rw [← bl_size]; exact hlt)]
    have e1 : wrap64 (wrap64 (256 * (nb ((bl s).take i) : Int)) + wrap64 (((bl s)[i]'hlt).toNat : Int)) = (nb ((bl s).take (i + 1)) : Int) := by
      rw [List.take_succ_eq_append_getElem hlt, nb_snoc, w64 (256 * (nb ((bl s).take i) : Int)) (by omega), w64 (((bl s)[i]'hlt).toNat : Int) (by omega), w64 _ (by omega)]; omega
    show corbelref01_Get.l0 k s (wrap64 (wrap64 (256 * (nb ((bl s).take i) : Int)) + wrap64 (((bl s)[i]'hlt).toNat : Int))) _ = _
    rw [e1, w64 _ (by omega)]
    exact ih (i + 1) k (by omega) (by omega) (by omega)
theorem num_ev (s : ByteArray) (k : Nat) (h1 : 1 ≤ s.size) (h7 : s.size ≤ 7) (hk : 10 < k) : corbelref06_num.f k s = some (nb (bl s) : Int) := by
  obtain ⟨k, rfl⟩ : ∃ m, k = m + 1 := ⟨k - 1, by omega⟩
  unfold corbelref06_num.f corbelref01_Get.f
  rw [if_neg (by omega), decide_eq_false (by omega)]
  simp only [corbelref01_Get.j0]
  rw [if_neg (by simp)]
  have := num_l0 s h7 (s.size - 0) 0 k rfl (Nat.zero_le _) (by omega)
  rw [show ((nb ((bl s).take 0) : Nat) : Int) = 0 from rfl, show ((0 : Nat) : Int) = 0 from rfl] at this
  rw [this]; rfl
theorem num_fv (s : ByteArray) (k j : Nat) (hk : 10 < k) (i n : Nat) (hi : i = fAt j) (hn : n = fAt j + fWide j) (hj : 1 ≤ fWide j ∧ fWide j ≤ 7) (hs : n ≤ s.size) : corbelref06_num.f k (s.extract i n) = some (fv (bl s) j) := by
  subst hi hn
  rw [num_ev _ k (by rw [ByteArray.size_extract]; omega) (by rw [ByteArray.size_extract]; omega) hk]
  unfold fv
  rw [bl_ext, Nat.add_sub_cancel_left]

/-- What the document's Encode answers. -/
theorem refenc_f (x : Rc) (h : x.body.size ≤ 140737488355328) : corbelref06_Encode.f x.kind x.seq x.a x.b x.c x.d x.body = some (if goodR x = true then str (encTxt x) else ⟨#[]⟩) := by
  unfold corbelref06_Encode.f; rw [if_pos h]
theorem head_two (x : Rc) : (headTo x 6).take 2 = [67, 66] := by rw [head_eq]; rfl
theorem str_ne (x : Rc) : ¬(str (encTxt x)).toList = [] := by
  rw [toL, bl_str]; intro h
  have := encTxt_len x; rw [h] at this; simp at this; omega

/-- The tuple of an answer. -/
def tup (x : Rc × Int × Int) : Int × Int × Int × Int × Int × Int × ByteArray × Int × Int := (x.1.kind, x.1.seq, x.1.a, x.1.b, x.1.c, x.1.d, x.1.body, x.2.1, x.2.2)

set_option maxHeartbeats 4000000 in
theorem j0_ev (s : ByteArray) (hs : 64 ≤ s.size) (hs2 : s.size ≤ 1000000) (b : ByteArray) (n : Int) (k : Nat) (hk : 3 < k) (hb : (b.size : Int) = bodyLen (fv (bl s) 0)) (hn : n = bodyLen (fv (bl s) 0) / 64 + 1) (hbb : bl b = ((bl s).drop 64).take (bodyLen (fv (bl s) 0)).toNat) (hlen : 64 + bodyLen (fv (bl s) 0) ≤ (s.size : Int)) :
    corbelref06_Decode.j0 k s n (fv (bl s) 0) (fv (bl s) 1) (fv (bl s) 2) (fv (bl s) 3) (fv (bl s) 4) (fv (bl s) 5) b = some (tup (decL (bl s))) := by
  obtain ⟨k, rfl⟩ : ∃ m, k = m + 2 := ⟨k - 2, by omega⟩
  have hbs := bodyLen_le (fv (bl s) 0)
  have henc := refenc_f (rcOf (bl s) b) (by show b.size ≤ _; omega)
  simp only [corbelref06_Decode.j0]
  show (corbelref06_Encode.f (rcOf (bl s) b).kind (rcOf (bl s) b).seq (rcOf (bl s) b).a (rcOf (bl s) b).b (rcOf (bl s) b).c (rcOf (bl s) b).d (rcOf (bl s) b).body).bind _ = _
  rw [henc]
  simp only [Option.bind_some]
  have hL : (bl s).length = s.size := bl_size s
  have hright : rightF (rcOf (bl s) ⟨#[]⟩) = rightF (rcOf (bl s) b) := rfl
  have hgood : goodR (rcOf (bl s) b) = rightF (rcOf (bl s) b) := by
    unfold goodR
    rw [decide_eq_true (show ((rcOf (bl s) b).body.size : Int) = bodyLen (rcOf (bl s) b).kind from hb), Bool.and_true]
  have hdec : decL (bl s) = if ¬(bl s).take 2 = [67, 66] ∨ ¬((bl s).drop 25).take 39 = List.replicate 39 0 then (rc0, 0, 10)
      else if rightF (rcOf (bl s) b) = true then (if nb (((bl s).drop 21).take 4) = (crcL ((bl s).take 21 ++ bl b)).toNat then (rcOf (bl s) b, n, 0) else (rc0, 0, 11)) else (rc0, 0, 10) := by
    unfold decL
    rw [if_neg (by omega), hright, ← hbb, str_bl, hn]
    have e1 : ((bl s).length < 64 ∨ ¬(bl s).take 2 = [67, 66] ∨ ¬((bl s).drop 25).take 39 = List.replicate 39 0) ↔ (¬(bl s).take 2 = [67, 66] ∨ ¬((bl s).drop 25).take 39 = List.replicate 39 0) := by
      constructor
      · rintro (h | h)
        · omega
        · exact h
      · exact .inr
    have e2 : (rightF (rcOf (bl s) b) = true ∧ 64 + bodyLen (fv (bl s) 0) ≤ ((bl s).length : Int)) ↔ rightF (rcOf (bl s) b) = true := ⟨fun h => h.1, fun h => ⟨h, by rw [hL]; exact hlen⟩⟩
    simp only [e1, e2]
  have hten : some ((0 : Int), (0 : Int), (0 : Int), (0 : Int), (0 : Int), (0 : Int), (⟨#[]⟩ : ByteArray), (0 : Int), (10 : Int)) = some (tup (rc0, 0, 10)) := rfl
  have height : ((str (encTxt (rcOf (bl s) b))).size : Int) = 64 + b.size := by
    rw [show (str (encTxt (rcOf (bl s) b))).size = (encTxt (rcOf (bl s) b)).length from rfl, encTxt_len]; rfl
  by_cases hg : rightF (rcOf (bl s) b) = true
  · rw [if_pos (hgood.trans hg), if_neg (str_ne _)]
    rw [if_pos (by decide), if_pos (by omega), if_pos (by omega)]
    have e21 : ((s.extract 0 21).toList = ((str (encTxt (rcOf (bl s) b))).extract 0 21).toList) ↔ (bl s).take 2 = [67, 66] := by
      rw [toL, toL, bl_ext, bl_ext, bl_str]
      show (bl s).take 21 = (encTxt (rcOf (bl s) b)).take 21 ↔ _
      have : (encTxt (rcOf (bl s) b)).take 21 = headTo (rcOf (bl s) b) 6 := by
        unfold encTxt; rw [List.append_assoc, List.append_assoc, List.take_left' (head_len _)]
      rw [this]
      constructor
      · intro h
        have h2 := congrArg (fun l : List UInt8 => l.take 2) h
        simp only [List.take_take, head_two] at h2
        exact h2
      · intro h
        exact (head_of (bl s) b (by omega) h).symm
    by_cases hm : (bl s).take 2 = [67, 66]
    · rw [if_pos (e21.2 hm), if_pos (by decide), if_pos (by omega), if_pos (by omega)]
      have hhead : headTo (rcOf (bl s) b) 6 = (bl s).take 21 := head_of (bl s) b (by omega) hm
      have ez : ((s.extract 25 64).toList != ((str (encTxt (rcOf (bl s) b))).extract 25 64).toList) = !decide (((bl s).drop 25).take 39 = List.replicate 39 0) := by
        rw [toL, toL, bl_ext, bl_ext, bl_str]
        have : ((encTxt (rcOf (bl s) b)).drop 25).take (64 - 25) = List.replicate 39 0 := by
          unfold encTxt
          rw [List.append_assoc]
          exact mid _ _ _ 25 39 (by rw [List.length_append, head_len, be_length]) (by simp)
        rw [this]
        rw [Bool.eq_iff_iff]; simp
      rw [ez]
      simp only [corbelref06_Decode.j1]
      by_cases hz : ((bl s).drop 25).take 39 = List.replicate 39 0
      · have hd2 : decL (bl s) = (if nb (((bl s).drop 21).take 4) = (crcL ((bl s).take 21 ++ bl b)).toNat then (rcOf (bl s) b, n, 0) else (rc0, 0, 11)) := by
          rw [hdec, if_neg (by rintro (h | h); exact h hm; exact h hz), if_pos hg]
        rw [decide_eq_true hz, if_neg (by decide), if_pos (by decide), if_pos (by omega), if_pos (by omega), hd2]
        have es : ((s.extract 21 25).toList = ((str (encTxt (rcOf (bl s) b))).extract 21 25).toList) ↔ nb (((bl s).drop 21).take 4) = (crcL ((bl s).take 21 ++ bl b)).toNat := by
          rw [toL, toL, bl_ext, bl_ext, bl_str]
          have : ((encTxt (rcOf (bl s) b)).drop 21).take (25 - 21) = be 4 (crcL ((bl s).take 21 ++ bl b)).toNat := by
            unfold encTxt
            rw [List.append_assoc, List.append_assoc, hhead]
            exact mid _ _ _ 21 4 (by rw [List.length_take]; omega) (be_length _ _)
          rw [this]
          show ((bl s).drop 21).take 4 = _ ↔ _
          constructor
          · intro h
            rw [h, nb_be 4 _ (by have := (crcL ((bl s).take 21 ++ bl b)).isLt; omega)]
          · intro h
            rw [← h, be_take (bl s) 21 4 (by omega)]
        by_cases hc : nb (((bl s).drop 21).take 4) = (crcL ((bl s).take 21 ++ bl b)).toNat
        · rw [if_pos (es.2 hc), if_pos hc]; rfl
        · rw [if_neg (fun h => hc (es.1 h)), if_neg hc]; rfl
      · rw [decide_eq_false hz, if_pos (by decide), hdec, if_pos (.inr hz)]; rfl
    · rw [if_neg (fun h => hm (e21.1 h))]
      simp only [corbelref06_Decode.j1]
      rw [if_pos trivial, hdec, if_pos (.inl hm)]; rfl
  · rw [if_neg (show ¬goodR (rcOf (bl s) b) = true by rw [hgood]; exact hg)]
    rw [if_pos (by rw [toL])]
    simp only [corbelref06_Decode.j1]
    rw [if_pos trivial, hdec, if_neg hg, ite_self]; rfl

theorem refdec_ev (s : ByteArray) (hs2 : s.size ≤ 1000000) (k : Nat) (hk : 20 < k) : corbelref06_Decode.f k s = some (tup (decL (bl s))) := by
  have hL : (bl s).length = s.size := bl_size s
  unfold corbelref06_Decode.f
  by_cases h0 : s.size = 0
  · rw [if_pos (by rw [toL]; exact List.eq_nil_of_length_eq_zero (by omega))]
    unfold decL; rw [if_pos (by omega)]; rfl
  · rw [if_neg (by rw [toL]; intro h; rw [h] at hL; simp at hL; omega)]
    by_cases h64 : s.size < 64
    · rw [if_pos (by omega)]
      unfold decL; rw [if_neg (by omega), if_pos (.inl (by omega))]; rfl
    · rw [if_neg (by omega)]
      rw [if_pos (by decide), if_pos (by omega), num_fv s k 0 (by omega) 2 3 rfl rfl (by decide) (by omega)]
      simp only [Option.bind_some]
      rw [if_pos (by decide), if_pos (by omega), num_fv s k 1 (by omega) 3 9 rfl rfl (by decide) (by omega)]
      simp only [Option.bind_some]
      rw [if_pos (by decide), if_pos (by omega), num_fv s k 2 (by omega) 9 11 rfl rfl (by decide) (by omega)]
      simp only [Option.bind_some]
      rw [if_pos (by decide), if_pos (by omega), num_fv s k 3 (by omega) 11 13 rfl rfl (by decide) (by omega)]
      simp only [Option.bind_some]
      rw [if_pos (by decide), if_pos (by omega), num_fv s k 4 (by omega) 13 19 rfl rfl (by decide) (by omega)]
      simp only [Option.bind_some]
      rw [if_pos (by decide), if_pos (by omega), num_fv s k 5 (by omega) 19 21 rfl rfl (by decide) (by omega)]
      simp only [Option.bind_some]
      by_cases h4 : fv (bl s) 0 = 4
      · have hbl : bodyLen (fv (bl s) 0) = 64 := by rw [h4]; rfl
        rw [if_pos h4]
        by_cases h128 : s.size < 128
        · rw [if_pos (by omega)]
          unfold decL
          rw [if_neg (by omega)]
          split
          · rfl
          · rw [if_neg (by rintro ⟨_, h⟩; omega)]; rfl
        · rw [if_neg (by omega), if_pos (by decide), if_pos (by omega)]
          refine j0_ev s (by omega) hs2 _ 2 k (by omega) ?_ ?_ ?_ ?_
          · rw [hbl, ByteArray.size_extract]; omega
          · rw [hbl]; rfl
          · rw [hbl, bl_ext]; rfl
          · omega
      · have hbl : bodyLen (fv (bl s) 0) = 0 := by unfold bodyLen; rw [if_neg h4]
        rw [if_neg h4]
        refine j0_ev s (by omega) hs2 _ 1 k (by omega) ?_ ?_ ?_ ?_
        · rw [hbl]; rfl
        · rw [hbl]; rfl
        · rw [hbl]; rfl
        · omega

end Go.Proofs.YtadpeopbfoppjaaDoor.E

namespace Go.Proofs.YtadpeopbfoppjaaDoor.E
open Go.RowKit Go.Proofs.YtadpeopbfoppjaaDoorW.PrintWords Go.Proofs.YtadpeopbfoppjaaDoorW.PrintLast Go.Proofs.YtadpeopbfoppjaaDoorW.PrintMore
set_option linter.unusedVariables false
set_option linter.unusedSimpArgs false

def blkN (x : Rc) : Nat := (bodyLen x.kind).toNat / 64 + 1
theorem blkN_eq (x : Rc) : bodyLen x.kind / 64 + 1 = (blkN x : Int) := by
  unfold blkN; rcases bodyLen_cases x.kind with h | h <;> rw [h] <;> rfl
theorem blkN_len {x : Rc} (h : goodR x = true) : (encTxt x).length = 64 * blkN x := by
  rw [encTxt_len]
  have := ((good_iff x).1 h).2
  unfold blkN
  rcases bodyLen_cases x.kind with e | e <;> rw [e] at this ⊢ <;> omega
/-- All records from the beginning on. -/
def scanL : Nat → List UInt8 → List Rc × Nat
  | 0, _ => ([], 0)
  | k + 1, l => if (decL l).2.2 = 0 then ((decL l).1 :: (scanL k (l.drop (64 * blkN (decL l).1))).1, blkN (decL l).1 + (scanL k (l.drop (64 * blkN (decL l).1))).2) else ([], 0)
theorem dec_step (l : List UInt8) (h : (decL l).2.2 = 0) : (decL l).2.1 = (blkN (decL l).1 : Int) ∧ 1 ≤ blkN (decL l).1 ∧ 64 * blkN (decL l).1 ≤ l.length ∧ goodR (decL l).1 = true := by
  have e : decL l = ((decL l).1, (decL l).2.1, 0) := by
    rw [← h]
  obtain ⟨hg, hn, q, hq⟩ := dec_good e
  refine ⟨by rw [hn, blkN_eq], by unfold blkN; omega, ?_, hg⟩
  have := congrArg List.length hq
  rw [List.length_append, blkN_len hg] at this
  omega
theorem scanL_len (k : Nat) : ∀ l, l.length ≤ 64 * k → (scanL k l).1.length ≤ k := by
  induction k with
  | zero => intro l _; simp [scanL]
  | succ k ih =>
    intro l hl
    unfold scanL
    split
    · rename_i h
      have := dec_step l h
      simp only [List.length_cons]
      have := ih (l.drop (64 * blkN (decL l).1)) (by rw [List.length_drop]; omega)
      omega
    · simp

def toS (x : Rc) : S29 := ⟨x.kind, x.seq, x.a, x.b, x.c, x.d, x.body⟩
def toR (x : Rc) : S31 := ⟨x.kind, x.seq, x.a, x.b, x.c, x.d, x.body⟩
theorem dec_f (s : ByteArray) : record_Decode.f s = some (tup (decL (bl s))) := by
  unfold record_Decode.f; rw [dec_list]; rfl

set_option maxHeartbeats 2000000 in
theorem scan_ev (s : ByteArray) (hs : s.size ≤ 1000000) : ∀ (k K p : Nat) (acc : List S29), 64 * p ≤ s.size → s.size - 64 * p ≤ 64 * k → k < K → acc.length + k < 2199023255552 →
    record_Scan.l0 K s acc (p : Int) = some (acc ++ (scanL (k + 1) ((bl s).drop (64 * p))).1.map toS, ((p + (scanL (k + 1) ((bl s).drop (64 * p))).2 : Nat) : Int)) := by
  intro k
  induction k with
  | zero =>
    intro K p acc hp hk hK hacc
    obtain ⟨K, rfl⟩ : ∃ m, K = m + 1 := ⟨K - 1, by omega⟩
    have e1 : wrap64 ((p : Int) * 64) = ((p * 64 : Nat) : Int) := by rw [w64 _ (by omega)]; omega
    have hl : (bl s).drop (64 * p) = [] := List.drop_of_length_le (by rw [bl_size]; omega)
    have hd : (decL []).2.2 = 13 := by decide
    simp only [record_Scan.l0]
    rw [e1]
    clear e1
    rw [if_pos (by omega), if_pos (by omega), dec_f, bl_ext, Int.toNat_natCast, Nat.mul_comm p 64, hl]
    simp only [Option.bind_some, tup, List.take_nil, scanL, hd]
    rw [if_neg (by decide), if_neg (by decide)]
    simp
  | succ k ih =>
    intro K p acc hp hk hK hacc
    obtain ⟨K, rfl⟩ : ∃ m, K = m + 1 := ⟨K - 1, by omega⟩
    have e1 : wrap64 ((p : Int) * 64) = ((p * 64 : Nat) : Int) := by rw [w64 _ (by omega)]; omega
    have hr : ((bl s).drop (64 * p)).take (s.size - 64 * p) = (bl s).drop (64 * p) := List.take_of_length_le (Nat.le_of_eq (by rw [List.length_drop, bl_size]))
    have hrl : ((bl s).drop (64 * p)).length = s.size - 64 * p := by rw [List.length_drop, bl_size]
    simp only [record_Scan.l0]
    rw [e1]
    clear e1
    rw [if_pos (by omega), if_pos (by omega), dec_f, bl_ext, Int.toNat_natCast, Nat.mul_comm p 64, hr]
    simp only [Option.bind_some, tup]
    have e2 : scanL (k + 1 + 1) ((bl s).drop (64 * p)) = if (decL ((bl s).drop (64 * p))).2.2 = 0 then ((decL ((bl s).drop (64 * p))).1 :: (scanL (k + 1) (((bl s).drop (64 * p)).drop (64 * blkN (decL ((bl s).drop (64 * p))).1))).1, blkN (decL ((bl s).drop (64 * p))).1 + (scanL (k + 1) (((bl s).drop (64 * p)).drop (64 * blkN (decL ((bl s).drop (64 * p))).1))).2) else ([], 0) := rfl
    rw [e2]
    by_cases h : (decL ((bl s).drop (64 * p))).2.2 = 0
    · obtain ⟨h1, h2, h3, _⟩ := dec_step _ h
      rw [if_pos h, if_pos h, if_pos (by omega), h1]
      generalize decL ((bl s).drop (64 * p)) = X at *
      have e3 : wrap64 ((p : Int) + (blkN X.1 : Int)) = ((p + blkN X.1 : Nat) : Int) := by rw [w64 _ (by omega)]; omega
      rw [e3]
      clear e3
      rw [ih K (p + blkN X.1) _ (by omega) (by omega) (by omega) (by simp; omega)]
      rw [List.drop_drop, show 64 * p + 64 * blkN X.1 = 64 * (p + blkN X.1) by omega]
      simp [toS, Nat.add_assoc]
    · rw [if_neg h, if_neg h]; simp

set_option maxHeartbeats 2000000 in
theorem refscan_ev : ∀ (k K p : Nat) (s : ByteArray) (acc : List S31), s.size ≤ 1000000 → p + s.size ≤ 2000000 → s.size ≤ 64 * k → k + 30 < K → acc.length + k < 2199023255552 →
    corbelref06_Scan.l0 K s acc (p : Int) = some (acc ++ (scanL (k + 1) (bl s)).1.map toR, ((p + (scanL (k + 1) (bl s)).2 : Nat) : Int)) := by
  intro k
  induction k with
  | zero =>
    intro K p s acc hs hp hk hK hacc
    obtain ⟨K, rfl⟩ : ∃ m, K = m + 1 := ⟨K - 1, by omega⟩
    have hl : bl s = [] := List.eq_nil_of_length_eq_zero (by rw [bl_size]; omega)
    have hd : (decL []).2.2 = 13 := by decide
    simp only [corbelref06_Scan.l0]
    rw [refdec_ev s hs K (by omega), hl]
    simp only [Option.bind_some, tup, scanL, hd]
    rw [if_neg (by decide), if_neg (by decide)]
    simp
  | succ k ih =>
    intro K p s acc hs hp hk hK hacc
    obtain ⟨K, rfl⟩ : ∃ m, K = m + 1 := ⟨K - 1, by omega⟩
    have hL : (bl s).length = s.size := bl_size s
    simp only [corbelref06_Scan.l0]
    rw [refdec_ev s hs K (by omega)]
    simp only [Option.bind_some, tup]
    have e2 : scanL (k + 1 + 1) (bl s) = if (decL (bl s)).2.2 = 0 then ((decL (bl s)).1 :: (scanL (k + 1) ((bl s).drop (64 * blkN (decL (bl s)).1))).1, blkN (decL (bl s)).1 + (scanL (k + 1) ((bl s).drop (64 * blkN (decL (bl s)).1))).2) else ([], 0) := rfl
    rw [e2]
    by_cases h : (decL (bl s)).2.2 = 0
    · obtain ⟨h1, h2, h3, _⟩ := dec_step _ h
      have e3 : wrap64 (64 * (blkN (decL (bl s)).1 : Int)) = ((64 * blkN (decL (bl s)).1 : Nat) : Int) := by rw [w64 _ (by omega)]; omega
      have e4 : wrap64 ((p : Int) + (blkN (decL (bl s)).1 : Int)) = ((p + blkN (decL (bl s)).1 : Nat) : Int) := by rw [w64 _ (by omega)]; omega
      rw [if_pos h, if_pos h, if_pos (by omega), h1, e3, e4]
      clear e3 e4
      rw [if_pos (by omega), if_pos (by omega), Int.toNat_natCast]
      have e5 : bl (s.extract (64 * blkN (decL (bl s)).1) s.size) = (bl s).drop (64 * blkN (decL (bl s)).1) := by
        rw [bl_ext, List.take_of_length_le (by rw [List.length_drop]; omega)]
      have hsz : (s.extract (64 * blkN (decL (bl s)).1) s.size).size = s.size - 64 * blkN (decL (bl s)).1 := by rw [ByteArray.size_extract]; omega
      have := ih K (p + blkN (decL (bl s)).1) (s.extract (64 * blkN (decL (bl s)).1) s.size) (acc ++ [toR (decL (bl s)).1]) (by omega) (by omega) (by omega) (by omega) (by simp; omega)
      rw [e5] at this
      rw [show ([⟨(decL (bl s)).1.kind, (decL (bl s)).1.seq, (decL (bl s)).1.a, (decL (bl s)).1.b, (decL (bl s)).1.c, (decL (bl s)).1.d, (decL (bl s)).1.body⟩] : List S31) = [toR (decL (bl s)).1] from rfl, this]
      simp [Nat.add_assoc]
    · rw [if_neg h, if_neg h]; simp

theorem rdS_get {α : Type} (xs : List α) (i : Nat) (d v : α) (h : xs[i]? = some v) : xs.getD i d = v := by
  rw [List.getD_eq_getElem?_getD, h]; rfl
def x0 : Rc := ⟨3, 7, 1, 0, 9, 0, ⟨#[]⟩⟩
theorem good0 : goodR x0 = true := by decide
theorem enc_f (x : Rc) (h : x.body.size ≤ 140737488355328) : record_Encode.f x.kind x.seq x.a x.b x.c x.d x.body = some (encF x) := by
  unfold record_Encode.f; rw [if_pos h]
theorem encF_good {x : Rc} (h : goodR x = true) : encF x = (str (encTxt x), 0) := by unfold encF; rw [if_pos h]
theorem encF_bad {x : Rc} (h : goodR x = false) : encF x = (⟨#[]⟩, 1) := by unfold encF; rw [h]; rfl
theorem speaks_ev : corbellaw06_speaks.f = some true := by
  unfold corbellaw06_speaks.f
  have h1 : record_Encode.f 3 7 1 0 9 0 (⟨#[]⟩ : ByteArray) = some (str (encTxt x0), 0) := by rw [← encF_good good0]; exact enc_f x0 (by decide)
  have hd : decL (bl (str (encTxt x0))) = (x0, 1, 0) := by
    rw [bl_str, ← List.append_nil (encTxt x0), dec_enc x0 [] good0]; rfl
  have hsz : (str (encTxt x0)).size = 64 := by show (encTxt x0).length = 64; rw [encTxt_len]; rfl
  have h3 : ((str (encTxt x0)).extract 0 3).toList = ([67, 66, 3] : List UInt8) := by
    rw [toL, bl_ext, bl_str]
    show (encTxt x0).take 3 = _
    unfold encTxt
    rw [head_eq]
    rfl
  rw [h1]
  simp only [Option.bind_some]
  rw [dec_f, hd]
  simp only [Option.bind_some, tup]
  have hb : x0.body.toList = [] := by rw [toL]; rfl
  rw [h3, hsz, hb]
  simp only [if_true]
  rw [if_pos (by decide), if_pos (by decide), if_pos (by decide)]
  rfl

end Go.Proofs.YtadpeopbfoppjaaDoor.E
