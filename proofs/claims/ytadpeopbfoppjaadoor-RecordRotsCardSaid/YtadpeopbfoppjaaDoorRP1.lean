/-
  Plain: records as bytes and back (no program in sight).
-/
import Derived.Test.YtadpeopbfoppjaaDoorRE6
namespace Go.Proofs.YtadpeopbfoppjaaDoor
open Go.RowKit

/-- The bytes of a text. -/
abbrev bl (s : ByteArray) : List UInt8 := s.data.toList
theorem bl_str (l : List UInt8) : bl (str l) = l := by simp [bl, str]
theorem str_bl (s : ByteArray) : str (bl s) = s := by cases s; simp [bl, str]
theorem bl_size (s : ByteArray) : (bl s).length = s.size := rfl
theorem bl_inj {a b : ByteArray} (h : bl a = bl b) : a = b := by rw [← str_bl a, ← str_bl b, h]
theorem bl_ext (s : ByteArray) (i j : Nat) : bl (s.extract i j) = ((bl s).drop i).take (j - i) := by
  show (s.extract i j).data.toList = _
  rw [ByteArray.data_extract, Array.toList_extract, List.extract_eq_take_drop]
theorem bl_append (a b : ByteArray) : bl (a ++ b) = bl a ++ bl b := by simp [bl]
theorem toL (s : ByteArray) : s.toList = bl s := ByteArray.toList_eq s

theorem mid (p m q : List UInt8) (i n : Nat) (hi : p.length = i) (hn : m.length = n) : ((p ++ (m ++ q)).drop i).take n = m := by
  subst hi hn
  rw [List.drop_left, List.take_left]

/-- The six fields' bytes. -/
def fieldsTxt (x : Rc) : List UInt8 := be 1 x.kind.toNat ++ (be 6 x.seq.toNat ++ (be 2 x.a.toNat ++ (be 2 x.b.toNat ++ (be 6 x.c.toNat ++ be 2 x.d.toNat))))
theorem head_eq (x : Rc) : headTo x 6 = [67, 66] ++ fieldsTxt x := by
  show [67, 66] ++ (be 1 x.kind.toNat ++ (be 6 x.seq.toNat ++ (be 2 x.a.toNat ++ (be 2 x.b.toNat ++ (be 6 x.c.toNat ++ (be 2 x.d.toNat ++ [])))))) = _
  rw [List.append_nil]; rfl
theorem head_len (x : Rc) : (headTo x 6).length = 21 := by rw [head_eq]; simp [fieldsTxt, be_length]
theorem encTxt_len (x : Rc) : (encTxt x).length = 64 + x.body.size := by
  unfold encTxt
  simp only [List.length_append, head_len, be_length, List.length_replicate]
  show 21 + 4 + 39 + (bl x.body).length = _
  rw [bl_size]

/-- The fields as a list of texts tells them. -/
def fv (l : List UInt8) (k : Nat) : Int := (nb ((l.drop (fAt k)).take (fWide k)) : Int)
theorem rd_fv (s : ByteArray) (k : Nat) : rdF s k = fv (bl s) k := by
  unfold rdF fv
  show ((nb (bl (s.extract (fAt k) (fAt k + fWide k))) : Nat) : Int) = _
  rw [bl_ext, Nat.add_sub_cancel_left]

/-- Are the numbers of a record as they may be? -/
def numsOk (x : Rc) : Prop := (1 ≤ x.kind ∧ x.kind ≤ 6) ∧ (0 ≤ x.seq ∧ x.seq ≤ 1099511627776) ∧ (0 ≤ x.a ∧ x.a ≤ 65535) ∧ (0 ≤ x.b ∧ x.b ≤ 65535) ∧ (0 ≤ x.c ∧ x.c ≤ 1099511627776) ∧ (0 ≤ x.d ∧ x.d ≤ 65535)
theorem right_iff (x : Rc) : rightF x = true ↔ numsOk x := by
  unfold rightF Rc.okTo numsOk
  have hr : List.range 6 = [0, 1, 2, 3, 4, 5] := rfl
  rw [hr]
  simp only [List.all_cons, List.all_nil, Bool.and_true, Bool.and_eq_true, decide_eq_true_eq, Rc.fld, fMost]
  constructor
  · rintro ⟨⟨h0, h1, h2, h3, h4, h5⟩, h⟩
    exact ⟨⟨h, h0.2⟩, h1, h2, h3, h4, h5⟩
  · rintro ⟨h0, h1, h2, h3, h4, h5⟩
    exact ⟨⟨⟨by omega, h0.2⟩, h1, h2, h3, h4, h5⟩, h0.1⟩
theorem nb_be_int (w : Nat) (x : Int) (m : Int) (h0 : 0 ≤ x) (h : x ≤ m) (hm : m.toNat < 256 ^ w) : ((nb (be w x.toNat) : Nat) : Int) = x := by
  rw [nb_be w x.toNat (by omega)]; omega

/-- What is read from a head that was written. -/
theorem fv_head (x : Rc) (q : List UInt8) (h : numsOk x) : fv (headTo x 6 ++ q) 0 = x.kind ∧ fv (headTo x 6 ++ q) 1 = x.seq ∧ fv (headTo x 6 ++ q) 2 = x.a ∧ fv (headTo x 6 ++ q) 3 = x.b ∧ fv (headTo x 6 ++ q) 4 = x.c ∧ fv (headTo x 6 ++ q) 5 = x.d := by
  obtain ⟨⟨h0, h0'⟩, ⟨h1, h1'⟩, ⟨h2, h2'⟩, ⟨h3, h3'⟩, ⟨h4, h4'⟩, ⟨h5, h5'⟩⟩ := h
  have e : headTo x 6 ++ q = [67, 66] ++ (be 1 x.kind.toNat ++ (be 6 x.seq.toNat ++ (be 2 x.a.toNat ++ (be 2 x.b.toNat ++ (be 6 x.c.toNat ++ (be 2 x.d.toNat ++ q)))))) := by
    rw [head_eq]; unfold fieldsTxt; simp only [List.append_assoc]
  rw [e]
  refine ⟨?_, ?_, ?_, ?_, ?_, ?_⟩
  · show ((nb ((List.drop 2 _).take 1) : Nat) : Int) = _
    rw [mid [67, 66] (be 1 x.kind.toNat) _ 2 1 rfl (be_length _ _)]
    exact nb_be_int 1 _ 6 (by omega) h0' (by decide)
  · show ((nb ((List.drop 3 _).take 6) : Nat) : Int) = _
    rw [← List.append_assoc, mid ([67, 66] ++ be 1 x.kind.toNat) (be 6 x.seq.toNat) _ 3 6 (by simp [be_length]) (be_length _ _)]
    exact nb_be_int 6 _ 1099511627776 h1 h1' (by decide)
  · show ((nb ((List.drop 9 _).take 2) : Nat) : Int) = _
    rw [← List.append_assoc, ← List.append_assoc, mid ([67, 66] ++ be 1 x.kind.toNat ++ be 6 x.seq.toNat) (be 2 x.a.toNat) _ 9 2 (by simp [be_length]) (be_length _ _)]
    exact nb_be_int 2 _ 65535 h2 h2' (by decide)
  · show ((nb ((List.drop 11 _).take 2) : Nat) : Int) = _
    rw [← List.append_assoc, ← List.append_assoc, ← List.append_assoc, mid ([67, 66] ++ be 1 x.kind.toNat ++ be 6 x.seq.toNat ++ be 2 x.a.toNat) (be 2 x.b.toNat) _ 11 2 (by simp [be_length]) (be_length _ _)]
    exact nb_be_int 2 _ 65535 h3 h3' (by decide)
  · show ((nb ((List.drop 13 _).take 6) : Nat) : Int) = _
    rw [← List.append_assoc, ← List.append_assoc, ← List.append_assoc, ← List.append_assoc, mid ([67, 66] ++ be 1 x.kind.toNat ++ be 6 x.seq.toNat ++ be 2 x.a.toNat ++ be 2 x.b.toNat) (be 6 x.c.toNat) _ 13 6 (by simp [be_length]) (be_length _ _)]
    exact nb_be_int 6 _ 1099511627776 h4 h4' (by decide)
  · show ((nb ((List.drop 19 _).take 2) : Nat) : Int) = _
    rw [← List.append_assoc, ← List.append_assoc, ← List.append_assoc, ← List.append_assoc, ← List.append_assoc, mid ([67, 66] ++ be 1 x.kind.toNat ++ be 6 x.seq.toNat ++ be 2 x.a.toNat ++ be 2 x.b.toNat ++ be 6 x.c.toNat) (be 2 x.d.toNat) _ 19 2 (by simp [be_length]) (be_length _ _)]
    exact nb_be_int 2 _ 65535 h5 h5' (by decide)

/-- A head is written again as it was read. -/
theorem be_take (l : List UInt8) (i w : Nat) (h : i + w ≤ l.length) : be w (nb ((l.drop i).take w)) = (l.drop i).take w := by
  have hl : ((l.drop i).take w).length = w := by simp; omega
  have := be_nb ((l.drop i).take w)
  rwa [hl] at this
theorem split_at (l : List UInt8) (i w : Nat) : (l.drop i).take w ++ l.drop (i + w) = l.drop i := by
  rw [← List.drop_drop, List.take_append_drop]
theorem fv_nat (l : List UInt8) (k : Nat) : (fv l k).toNat = nb ((l.drop (fAt k)).take (fWide k)) := by unfold fv; exact Int.toNat_natCast _
/-- The record that a block's fields tell. -/
def rcOf (l : List UInt8) (b : ByteArray) : Rc := ⟨fv l 0, fv l 1, fv l 2, fv l 3, fv l 4, fv l 5, b⟩
theorem head_of (l : List UInt8) (b : ByteArray) (h : 64 ≤ l.length) (hm : l.take 2 = [67, 66]) : headTo (rcOf l b) 6 = l.take 21 := by
  rw [head_eq]
  unfold fieldsTxt
  show [67, 66] ++ (be 1 (fv l 0).toNat ++ (be 6 (fv l 1).toNat ++ (be 2 (fv l 2).toNat ++ (be 2 (fv l 3).toNat ++ (be 6 (fv l 4).toNat ++ be 2 (fv l 5).toNat))))) = _
  simp only [fv_nat]
  show [67, 66] ++ (be 1 (nb ((l.drop 2).take 1)) ++ (be 6 (nb ((l.drop 3).take 6)) ++ (be 2 (nb ((l.drop 9).take 2)) ++ (be 2 (nb ((l.drop 11).take 2)) ++ (be 6 (nb ((l.drop 13).take 6)) ++ be 2 (nb ((l.drop 19).take 2))))))) = _
  rw [be_take l 2 1 (by omega), be_take l 3 6 (by omega), be_take l 9 2 (by omega), be_take l 11 2 (by omega), be_take l 13 6 (by omega), be_take l 19 2 (by omega), ← hm]
  have key : ∀ (p : List UInt8) (i j : Nat), l.take i ++ (l.drop i).take j = l.take (i + j) := fun _ i j => by rw [List.take_add]
  rw [← List.append_assoc, ← List.append_assoc, ← List.append_assoc, ← List.append_assoc, ← List.append_assoc]
  rw [key l 2 1, key l 3 6, key l 9 2, key l 11 2, key l 13 6, key l 19 2]

/-- A body of noughts. -/
theorem allz_iff (l : List UInt8) : l.all (· == 0) = true ↔ l = List.replicate l.length 0 := by
  induction l with
  | nil => simp
  | cons b l ih =>
    simp only [List.all_cons, Bool.and_eq_true, beq_iff_eq, List.length_cons, List.replicate_succ, List.cons.injEq, ih]

/-- Decode, over lists of bytes. -/
def decL (l : List UInt8) : Rc × Int × Int :=
  if l.length = 0 then (rc0, 0, 13)
  else if l.length < 64 ∨ ¬l.take 2 = [67, 66] ∨ ¬(l.drop 25).take 39 = List.replicate 39 0 then (rc0, 0, 10)
  else if rightF (rcOf l ⟨#[]⟩) = true ∧ 64 + bodyLen (fv l 0) ≤ (l.length : Int) then
    (if nb ((l.drop 21).take 4) = (crcL (l.take 21 ++ (l.drop 64).take (bodyLen (fv l 0)).toNat)).toNat then (rcOf l (str ((l.drop 64).take (bodyLen (fv l 0)).toNat)), bodyLen (fv l 0) / 64 + 1, 0) else (rc0, 0, 11))
  else (rc0, 0, 10)
theorem rcUp_of (s : ByteArray) : rcUp s 6 = rcOf (bl s) ⟨#[]⟩ := by
  unfold rcUp rcOf
  simp only [rd_fv]
  rfl
theorem decRc_of (s : ByteArray) : decRc s = rcOf (bl s) (str (((bl s).drop 64).take (bodyLen (fv (bl s) 0)).toNat)) := by
  unfold decRc rcOf
  simp only [rd_fv]
  rw [show s.extract 64 (64 + (bodyLen (fv (bl s) 0)).toNat) = str (((bl s).drop 64).take (bodyLen (fv (bl s) 0)).toNat) from by
    apply bl_inj; rw [bl_ext, bl_str, Nat.add_sub_cancel_left]]
theorem dec_list (s : ByteArray) : decF s = decL (bl s) := by
  unfold decF decL
  rw [bl_size, toL, bl_ext, rcUp_of, rd_fv, decRc_of]
  have hz : (V.allz (s.extract 25 64) = false ↔ ¬((bl s).drop 25).take 39 = List.replicate 39 0) ∨ s.size < 64 := by
    by_cases h : s.size < 64
    · exact .inr h
    · refine .inl ?_
      have hl : ((bl s).drop 25).take 39 = bl (s.extract 25 64) := by rw [bl_ext]
      have hn : (bl (s.extract 25 64)).length = 39 := by rw [bl_size, ByteArray.size_extract]; omega
      unfold V.allz
      rw [hl]
      have := allz_iff (bl (s.extract 25 64))
      rw [hn] at this
      rw [← this]
      show (bl (s.extract 25 64)).all (· == 0) = false ↔ ¬(bl (s.extract 25 64)).all (· == 0) = true
      cases (bl (s.extract 25 64)).all (· == 0) <;> decide
  have e1 : (s.size < 64 ∨ ¬((bl s).drop 0).take (2 - 0) = [67, 66] ∨ V.allz (s.extract 25 64) = false) ↔ (s.size < 64 ∨ ¬(bl s).take 2 = [67, 66] ∨ ¬((bl s).drop 25).take 39 = List.replicate 39 0) := by
    rw [List.drop_zero]
    rcases hz with hz | hz
    · rw [hz]
    · simp [hz]
  have e2 : nb (s.extract 21 25).data.toList = nb (((bl s).drop 21).take 4) := by
    show nb (bl (s.extract 21 25)) = _
    rw [bl_ext]
  have e3 : (s.extract 0 21).data.toList = (bl s).take 21 := by
    show bl (s.extract 0 21) = _
    rw [bl_ext, List.drop_zero]
  have e4 : (rcOf (bl s) (str (((bl s).drop 64).take (bodyLen (fv (bl s) 0)).toNat))).body.data.toList = ((bl s).drop 64).take (bodyLen (fv (bl s) 0)).toNat := bl_str _
  simp only [e1, e2, e3, e4]

theorem bodyLen_cases (k : Int) : bodyLen k = 0 ∨ bodyLen k = 64 := by unfold bodyLen; split <;> simp
theorem good_iff (x : Rc) : goodR x = true ↔ numsOk x ∧ (x.body.size : Int) = bodyLen x.kind := by
  unfold goodR
  rw [Bool.and_eq_true, decide_eq_true_iff, right_iff]

/-- What was written is read again, whatever stands behind it. -/
theorem dec_enc (x : Rc) (q : List UInt8) (h : goodR x = true) : decL (encTxt x ++ q) = (x, bodyLen x.kind / 64 + 1, 0) := by
  obtain ⟨hn, hb⟩ := (good_iff x).1 h
  have e : encTxt x ++ q = headTo x 6 ++ (be 4 (crcL (headTo x 6 ++ bl x.body)).toNat ++ (List.replicate 39 0 ++ (bl x.body ++ q))) := by
    unfold encTxt; simp only [List.append_assoc]
  obtain ⟨f0, f1, f2, f3, f4, f5⟩ := fv_head x (be 4 (crcL (headTo x 6 ++ bl x.body)).toNat ++ (List.replicate 39 0 ++ (bl x.body ++ q))) hn
  have hl : (encTxt x ++ q).length = 64 + x.body.size + q.length := by rw [List.length_append, encTxt_len]
  rw [← e] at f0 f1 f2 f3 f4 f5
  have hrc : ∀ b, rcOf (encTxt x ++ q) b = { x with body := b } := fun b => by unfold rcOf; rw [f0, f1, f2, f3, f4, f5]
  have t2 : (encTxt x ++ q).take 2 = [67, 66] := by rw [e, head_eq, List.append_assoc]; rfl
  have t39 : ((encTxt x ++ q).drop 25).take 39 = List.replicate 39 0 := by
    rw [e, ← List.append_assoc]
    exact mid _ _ _ 25 39 (by rw [List.length_append, head_len, be_length]) (by simp)
  have t21 : (encTxt x ++ q).take 21 = headTo x 6 := by
    rw [e, List.take_left' (head_len x)]
  have t4 : ((encTxt x ++ q).drop 21).take 4 = be 4 (crcL (headTo x 6 ++ bl x.body)).toNat := by
    rw [e]; exact mid _ _ _ 21 4 (head_len x) (be_length _ _)
  have t64 : ((encTxt x ++ q).drop 64).take (bodyLen x.kind).toNat = bl x.body := by
    rw [e, ← List.append_assoc, ← List.append_assoc]
    refine mid _ _ _ 64 _ ?_ ?_
    · rw [List.length_append, List.length_append, head_len, be_length, List.length_replicate]
    · rw [bl_size]; omega
  have hcrc : nb (be 4 (crcL (headTo x 6 ++ bl x.body)).toNat) = (crcL (headTo x 6 ++ bl x.body)).toNat := nb_be 4 _ (by have := (crcL (headTo x 6 ++ bl x.body)).isLt; omega)
  unfold decL
  rw [f0, hrc, hrc, t2, t39, t21, t4, t64, hl, if_neg (by omega), if_neg (by rintro (h | h | h); omega; exact h rfl; exact h rfl)]
  rw [if_pos ⟨(right_iff _).2 hn, by omega⟩, if_pos hcrc, str_bl]

theorem enc_cut (x : Rc) (h : goodR x = true) (n : Nat) (hn : n < (encTxt x).length) : ∃ e, e ≠ 0 ∧ decL ((encTxt x).take n) = (rc0, 0, e) := by
  obtain ⟨hx, hb⟩ := (good_iff x).1 h
  have hl : ((encTxt x).take n).length = n := by rw [List.length_take]; omega
  rw [encTxt_len] at hn
  by_cases h0 : n = 0
  · exact ⟨13, by omega, by unfold decL; rw [hl, if_pos h0]⟩
  · by_cases h1 : n < 64
    · exact ⟨10, by omega, by unfold decL; rw [hl, if_neg h0, if_pos (.inl h1)]⟩
    · refine ⟨10, by omega, ?_⟩
      have e : (encTxt x).take n = headTo x 6 ++ ((be 4 (crcL (headTo x 6 ++ bl x.body)).toNat ++ (List.replicate 39 0 ++ bl x.body)).take (n - 21)) := by
        unfold encTxt
        rw [List.append_assoc, List.append_assoc, List.take_append, head_len, List.take_of_length_le (by rw [head_len]; omega)]
      have f0 := (fv_head x ((be 4 (crcL (headTo x 6 ++ bl x.body)).toNat ++ (List.replicate 39 0 ++ bl x.body)).take (n - 21)) hx).1
      rw [← e] at f0
      unfold decL
      rw [hl, f0, if_neg h0]
      split
      · rfl
      · rw [if_neg (by rintro ⟨_, h⟩; omega)]

theorem rc_ext {x y : Rc} (h0 : x.kind = y.kind) (h1 : x.seq = y.seq) (h2 : x.a = y.a) (h3 : x.b = y.b) (h4 : x.c = y.c) (h5 : x.d = y.d) (h6 : x.body = y.body) : x = y := by
  cases x; cases y; simp only at *; simp_all
theorem enc_inj {x y : Rc} (hx : goodR x = true) (hy : goodR y = true) (h : encTxt x = encTxt y) : x = y := by
  have h1 := dec_enc x [] hx
  have h2 := dec_enc y [] hy
  rw [h, h2] at h1
  exact (congrArg (·.1) h1).symm

/-- What is read is what was written. -/
theorem dec_good {l : List UInt8} {x : Rc} {n : Int} (h : decL l = (x, n, 0)) : goodR x = true ∧ n = bodyLen x.kind / 64 + 1 ∧ ∃ q, l = encTxt x ++ q := by
  unfold decL at h
  split at h
  · cases h
  · split at h
    · cases h
    · rename_i h0 h1
      split at h
      · rename_i h2
        split at h
        · rename_i h3
          have h4 := congrArg (·.1) h
          have h5 := congrArg (·.2.1) h
          simp only at h4 h5
          have hl : 64 ≤ l.length := by
            apply Classical.byContradiction; intro hh; exact h1 (.inl (by omega))
          have hm : l.take 2 = [67, 66] := by
            apply Classical.byContradiction; intro hh; exact h1 (.inr (.inl hh))
          have hz : (l.drop 25).take 39 = List.replicate 39 0 := by
            apply Classical.byContradiction; intro hh; exact h1 (.inr (.inr hh))
          have hbs : ((l.drop 64).take (bodyLen (fv l 0)).toNat).length = (bodyLen (fv l 0)).toNat := by
            rw [List.length_take, List.length_drop]; have := bodyLen_cases (fv l 0); omega
          have hk : x.kind = fv l 0 := by rw [← h4]; rfl
          have hbody : x.body = str ((l.drop 64).take (bodyLen (fv l 0)).toNat) := by rw [← h4]; rfl
          have hhead : headTo x 6 = l.take 21 := by rw [← h4]; exact head_of l _ hl hm
          refine ⟨(good_iff x).2 ⟨?_, ?_⟩, ?_, ?_⟩
          · have := (right_iff _).1 h2.1
            rw [← h4]; exact this
          · rw [hk, hbody, ← bl_size, bl_str, hbs]
            have := bodyLen_cases (fv l 0); omega
          · rw [hk]; exact h5.symm
          · refine ⟨l.drop (64 + (bodyLen (fv l 0)).toNat), ?_⟩
            unfold encTxt
            have hb2 : x.body.data.toList = (l.drop 64).take (bodyLen (fv l 0)).toNat := by rw [hbody]; exact bl_str _
            rw [hhead, hb2, ← h3]
            have : be 4 (nb ((l.drop 21).take 4)) = (l.drop 21).take 4 := be_take l 21 4 (by omega)
            rw [this, ← hz]
            have key : ∀ (i j : Nat), l.take i ++ (l.drop i).take j = l.take (i + j) := fun i j => by rw [List.take_add]
            rw [key 21 4, key 25 39, key 64, List.take_append_drop]
        · have := congrArg (·.2.2) h; simp at this
      · have := congrArg (·.2.2) h; simp at this
theorem dec_bad (l : List UInt8) (h : (decL l).2.2 ≠ 0) : (decL l).1 = rc0 ∧ (decL l).2.1 = 0 := by
  revert h
  unfold decL
  split
  · simp
  · split
    · simp
    · split
      · split
        · simp
        · simp
      · simp

end Go.Proofs.YtadpeopbfoppjaaDoor
