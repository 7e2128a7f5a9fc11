/-
  Plain law of RecordBack over the printed functions: speaks, Scan.
-/
import Derived.Test.YtadpeopbfoppjaaDoorYx4
import Derived.Test.YtadpeopbfoppjaaDoorRP1
namespace Go.Proofs.YtadpeopbfoppjaaDoor.Y
open Go.RowKit Go.Proofs.YtadpeopbfoppjaaDoorW.PrintWords Go.Proofs.YtadpeopbfoppjaaDoorW.PrintLast Go.Proofs.YtadpeopbfoppjaaDoorW.PrintMore
set_option linter.unusedVariables false
set_option linter.unusedSimpArgs false

def toS (x : Rc) : S29 := ⟨x.kind, x.seq, x.a, x.b, x.c, x.d, x.body⟩
/-- Records one behind the other. -/
def encs (xs : List Rc) : List UInt8 := xs.flatMap encTxt
/-- The blocks of a record, of many. -/
def blkN (x : Rc) : Nat := (bodyLen x.kind).toNat / 64 + 1
def blksN (xs : List Rc) : Nat := (xs.map blkN).sum
theorem blkN_eq (x : Rc) : bodyLen x.kind / 64 + 1 = (blkN x : Int) := by
  unfold blkN; rcases bodyLen_cases x.kind with h | h <;> rw [h] <;> rfl
theorem blkN_len {x : Rc} (h : goodR x = true) : (encTxt x).length = 64 * blkN x := by
  rw [encTxt_len]
  have := ((good_iff x).1 h).2
  unfold blkN
  rcases bodyLen_cases x.kind with e | e <;> rw [e] at this ⊢ <;> omega
theorem encs_cons (x : Rc) (xs : List Rc) : encs (x :: xs) = encTxt x ++ encs xs := rfl
theorem encs_append (xs ys : List Rc) : encs (xs ++ ys) = encs xs ++ encs ys := by simp [encs]
theorem encs_len (xs : List Rc) (h : ∀ x ∈ xs, goodR x = true) : (encs xs).length = 64 * blksN xs := by
  induction xs with
  | nil => rfl
  | cons x xs ih =>
    rw [encs_cons, List.length_append, blkN_len (h x (by simp)), ih (fun y hy => h y (by simp [hy]))]
    simp only [blksN, List.map_cons, List.sum_cons]; omega

theorem w64 (x : Int) (h : -9223372036854775808 ≤ x ∧ x ≤ 9223372036854775807) : wrap64 x = x := by unfold wrap64; omega

theorem dec_f (s : ByteArray) : record_Decode.f s = some ((decL (bl s)).1.kind, (decL (bl s)).1.seq, (decL (bl s)).1.a, (decL (bl s)).1.b, (decL (bl s)).1.c, (decL (bl s)).1.d, (decL (bl s)).1.body, (decL (bl s)).2.1, (decL (bl s)).2.2) := by
  unfold record_Decode.f; rw [dec_list]

theorem scan_ev (s : ByteArray) (hs : s.size ≤ 140737488355328) (rest : List UInt8) (hrest : (decL rest).2.2 ≠ 0) :
    ∀ (xs : List Rc) (acc : List S29) (p k : Nat) (pre : List UInt8), (∀ x ∈ xs, goodR x = true) → pre.length = 64 * p → bl s = pre ++ (encs xs ++ rest) → xs.length < k → acc.length + xs.length < 2199023255552 →
      record_Scan.l0 k s acc (p : Int) = some (acc ++ xs.map toS, ((p + blksN xs : Nat) : Int)) := by
  intro xs
  induction xs with
  | nil =>
    intro acc p k pre _ hp hb hk hacc
    obtain ⟨k, rfl⟩ : ∃ m, k = m + 1 := ⟨k - 1, by omega⟩
    have hl : s.size = pre.length + rest.length := by rw [← bl_size, hb]; simp [encs]
    have e1 : wrap64 ((p : Int) * 64) = ((p * 64 : Nat) : Int) := by rw [w64 _ (by omega)]; omega
    simp only [record_Scan.l0]
    rw [e1, if_pos (by omega), if_pos (by omega), dec_f]
    have e2 : bl (s.extract ((p * 64 : Nat) : Int).toNat s.size) = rest := by
      rw [bl_ext, hb, Int.toNat_natCast, List.drop_append_of_le_length (by omega), List.drop_of_length_le (by omega)]
      show (([] : List UInt8) ++ ([] ++ rest)).take _ = _
      rw [List.nil_append, List.nil_append, List.take_of_length_le (by omega)]
    simp only [Option.bind_some]
    rw [e2, if_neg hrest]
    simp [blksN]
  | cons x xs ih =>
    intro acc p k pre hg hp hb hk hacc
    obtain ⟨k, rfl⟩ : ∃ m, k = m + 1 := ⟨k - 1, by omega⟩
    have hx : goodR x = true := hg x (by simp)
    have hlx := blkN_len hx
    have hl : s.size = pre.length + ((encTxt x).length + ((encs xs).length + rest.length)) := by
      rw [← bl_size, hb, encs_cons]; simp [List.length_append, Nat.add_assoc]
    have e1 : wrap64 ((p : Int) * 64) = ((p * 64 : Nat) : Int) := by rw [w64 _ (by omega)]; omega
    simp only [record_Scan.l0]
    rw [e1, if_pos (by omega), if_pos (by omega), dec_f]
    have e2 : bl (s.extract ((p * 64 : Nat) : Int).toNat s.size) = encTxt x ++ (encs xs ++ rest) := by
      rw [bl_ext, hb, Int.toNat_natCast, List.drop_append_of_le_length (by omega), List.drop_of_length_le (by omega), encs_cons, List.nil_append, List.append_assoc]
      rw [List.take_of_length_le (by simp only [List.length_append]; omega)]
    simp only [Option.bind_some]
    rw [e2, dec_enc x _ hx]
    simp only [List.length_cons] at hk hacc
    rw [if_pos rfl, if_pos (by omega), blkN_eq]
    have e3 : wrap64 ((p : Int) + (blkN x : Int)) = ((p + blkN x : Nat) : Int) := by rw [w64 _ (by omega)]; omega
    rw [e3]
    have := ih (acc ++ [toS x]) (p + blkN x) k (pre ++ encTxt x) (fun y hy => hg y (by simp [hy])) (by rw [List.length_append]; omega) (by rw [hb, encs_cons]; simp only [List.append_assoc]) (by omega) (by simp; omega)
    rw [show ([⟨x.kind, x.seq, x.a, x.b, x.c, x.d, x.body⟩] : List S29) = [toS x] from rfl, this]
    simp [blksN, Nat.add_assoc]

theorem enc_f (x : Rc) (h : x.body.size ≤ 140737488355328) : record_Encode.f x.kind x.seq x.a x.b x.c x.d x.body = some (encF x) := by
  unfold record_Encode.f; rw [if_pos h]
theorem encF_good {x : Rc} (h : goodR x = true) : encF x = (str (encTxt x), 0) := by unfold encF; rw [if_pos h]
theorem encF_bad {x : Rc} (h : goodR x = false) : encF x = (⟨#[]⟩, 1) := by unfold encF; rw [h]; rfl
theorem str_size (l : List UInt8) : (str l).size = l.length := rfl

def x0 : Rc := ⟨3, 7, 1, 0, 9, 0, ⟨#[]⟩⟩
theorem good0 : goodR x0 = true := by decide
theorem speaks_ev : corbellaw06_speaks.f = some true := by
  unfold corbellaw06_speaks.f
  have h1 : record_Encode.f 3 7 1 0 9 0 (⟨#[]⟩ : ByteArray) = some (str (encTxt x0), 0) := by rw [← encF_good good0]; exact enc_f x0 (by decide)
  have hd : decL (bl (str (encTxt x0))) = (x0, 1, 0) := by
    rw [bl_str, ← List.append_nil (encTxt x0), dec_enc x0 [] good0]; rfl
  have hsz : (str (encTxt x0)).size = 64 := by rw [str_size, encTxt_len]; rfl
  have h3 : ((str (encTxt x0)).extract 0 3).toList = ([67, 66, 3] : List UInt8) := by
    rw [toL, bl_ext, bl_str]
    show (encTxt x0).take 3 = _
    unfold encTxt
    rw [head_eq]
    rfl
  rw [h1]
  simp only [Option.bind_some]
  rw [dec_f, hd]
  simp only [Option.bind_some]
  have hb : x0.body.toList = [] := by rw [toL]; rfl
  rw [h3, hsz, hb]
  simp only [if_true]
  rw [if_pos (by decide), if_pos (by decide), if_pos (by decide)]
  rfl


/-- The record that is meant by plain data. -/
def whl (x : S23) : Rc := ⟨x.f0, x.f1, x.f2, x.f3, x.f4, x.f5, wholeB x.f0 x.f6⟩
/-- Those of a list that may be. -/
def goods (l : List S23) : List Rc := (l.map whl).filter fun x => goodR x
/-- Where they end. -/
def endsOf : Nat → List Rc → List Int
  | _, [] => []
  | p, x :: xs => (((p + (encTxt x).length : Nat)) : Int) :: endsOf (p + (encTxt x).length) xs
theorem endsOf_len (xs : List Rc) : ∀ p, (endsOf p xs).length = xs.length := by
  induction xs with
  | nil => intro p; rfl
  | cons x xs ih => intro p; simp [endsOf, ih]
theorem endsOf_append (xs ys : List Rc) : ∀ p, endsOf p (xs ++ ys) = endsOf p xs ++ endsOf (p + (encs xs).length) ys := by
  induction xs with
  | nil => intro p; rfl
  | cons x xs ih =>
    intro p
    simp only [List.cons_append, endsOf, ih, encs_cons, List.length_append, List.cons.injEq, true_and]
    rw [Nat.add_assoc]
theorem endsOf_get (xs : List Rc) : ∀ (p j : Nat), j < xs.length → (endsOf p xs)[j]? = some (((p + (encs (xs.take (j + 1))).length : Nat)) : Int) := by
  induction xs with
  | nil => intro p j h; simp at h
  | cons x xs ih =>
    intro p j h
    cases j with
    | zero => simp [endsOf, encs]
    | succ j =>
      simp only [endsOf, List.getElem?_cons_succ, List.take_succ_cons, encs_cons, List.length_append]
      rw [ih _ j (by simpa using h), Nat.add_assoc]

theorem goods_good (l : List S23) : ∀ x ∈ goods l, goodR x = true := by
  intro x hx; unfold goods at hx; exact (List.mem_filter.1 hx).2
theorem rd_get (xs : List Int) (i : Nat) (v : Int) (h : xs[i]? = some v) : rd xs (i : Int) = v := by
  unfold rd; rw [Int.toNat_natCast, List.getD_eq_getElem?_getD, h]; rfl
theorem rdS_get {α : Type} (xs : List α) (i : Nat) (d v : α) (h : xs[i]? = some v) : xs.getD i d = v := by
  rw [List.getD_eq_getElem?_getD, h]; rfl
theorem whole_size (k : Int) (b : ByteArray) (h : b.size ≤ 140737488351232) : (wholeB k b).size ≤ 140737488351232 := by
  unfold wholeB
  split
  · rw [ByteArray.size_extract]; omega
  · exact h
theorem good_len {x : Rc} (h : goodR x = true) : (encTxt x).length ≤ 128 := by
  rw [blkN_len h]; unfold blkN; rcases bodyLen_cases x.kind with e | e <;> rw [e] <;> decide
theorem encs_le (xs : List Rc) (h : ∀ x ∈ xs, goodR x = true) : (encs xs).length ≤ 128 * xs.length := by
  induction xs with
  | nil => simp [encs]
  | cons x xs ih =>
    rw [encs_cons, List.length_append, List.length_cons]
    have := good_len (h x (by simp)); have := ih (fun y hy => h y (by simp [hy])); omega
theorem goods_snoc (l : List S23) (i : Nat) (h : i < l.length) : goods (l.take (i + 1)) = goods (l.take i) ++ (if goodR (whl l[i]) = true then [whl l[i]] else []) := by
  unfold goods
  rw [List.take_succ_eq_append_getElem h, List.map_append, List.filter_append]
  congr 1
  simp only [List.map_cons, List.map_nil, List.filter_cons, List.filter_nil]
theorem goods_le (l : List S23) : (goods l).length ≤ l.length := by
  unfold goods
  exact Nat.le_trans (List.length_filter_le _ _) (by simp)

end Go.Proofs.YtadpeopbfoppjaaDoor.Y
