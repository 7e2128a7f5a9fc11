/-
  Walk of the document's records: Good, Encode (corbelref06).
-/
import Derived.Test.YtadpeopbfoppjaaDoorRP1
import Derived.Test.YtadpeopbfoppjaaDoorRG0
import Derived.Test.YtadpeopbfoppjaaDoorRG1
namespace Go.Proofs.YtadpeopbfoppjaaDoor
open Go.RowKit
set_option linter.unusedVariables false
set_option linter.unusedSimpArgs false

theorem good_no (k s a b c d : Int) (y : ByteArray) (h : k < 1 ∨ 6 < k ∨ s < 0 ∨ 1099511627776 < s ∨ a < 0 ∨ 65535 < a ∨ b < 0 ∨ 65535 < b ∨ c < 0 ∨ 1099511627776 < c ∨ d < 0 ∨ 65535 < d) : goodR ⟨k, s, a, b, c, d, y⟩ = false := by
  cases hg : goodR ⟨k, s, a, b, c, d, y⟩ with
  | false => rfl
  | true =>
    have := ((good_iff _).1 hg).1
    unfold numsOk at this
    simp only at this
    omega
theorem good_yes (k s a b c d : Int) (y : ByteArray) (h : (1 ≤ k ∧ k ≤ 6) ∧ (0 ≤ s ∧ s ≤ 1099511627776) ∧ (0 ≤ a ∧ a ≤ 65535) ∧ (0 ≤ b ∧ b ≤ 65535) ∧ (0 ≤ c ∧ c ≤ 1099511627776) ∧ (0 ≤ d ∧ d ≤ 65535)) : goodR ⟨k, s, a, b, c, d, y⟩ = decide ((y.size : Int) = bodyLen k) := by
  have h1 : rightF ⟨k, s, a, b, c, d, y⟩ = true := (right_iff _).2 h
  unfold goodR
  rw [h1]; rfl
theorem empty_dec (y : ByteArray) : decide (y = ByteArray.empty) = decide (y.size = 0) := by
  rw [decide_eq_decide]
  constructor
  · rintro rfl; rfl
  · intro h
    cases y with
    | mk d => have : d.size = 0 := h
              rw [Array.size_eq_zero_iff] at this; subst this; rfl
theorem bne_ok {k : Int} (h : k ≠ 4) : (k != 4) = true := by simpa using h
theorem ret_bool {a b : Bool} (h : a = b) : Ending.returned (.bool a) = .returned (.bool b) := by rw [h]

set_option maxHeartbeats 8000000 in
set_option maxRecDepth 100000 in
theorem refGood_any (x : Rc) (w : World) (hb : x.body.size ≤ 140737488355328) :
    Calls Tryd.prog 22 #[.agg #[.int .i64 x.kind, .int .i64 x.seq, .int .i64 x.a, .int .i64 x.b, .int .i64 x.c, .int .i64 x.d, .string x.body]] w fun e w' => e = .returned (.bool (goodR x)) ∧ Below w.heap.size w w' := by
  obtain ⟨k, s, a, b, c, d, y⟩ := x
  have he : y.toList.isEmpty = decide (y.size = 0) := V.toList_empty y
  simp only at hb ⊢
  go_enter Tryd.func22, Tryd.ntmps22
  go_wp2
  all_goals
    go_ret
    refine ⟨ret_bool ?_, (Below.refl _ _).alloc (Nat.le_refl _) _⟩
    first
      | exact (good_no k s a b c d y (by omega)).symm
      | (rw [good_yes k s a b c d y (by omega)]; unfold bodyLen; split <;> first | (rw [he, eq_comm, decide_eq_decide]; omega) | (symm; apply decide_eq_true; omega) | (symm; apply decide_eq_false; omega) | (exfalso; omega) | (rw [Bool.eq_iff_iff, beq_iff_eq, decide_eq_true_iff]) | (rw [he, Bool.eq_iff_iff, decide_eq_true_iff, decide_eq_true_iff]; omega) | (rw [empty_dec, bne_ok (by omega), Bool.true_and, decide_eq_decide]; omega))

set_option maxHeartbeats 2000000 in
set_option maxRecDepth 100000 in
theorem refEncode_no (x : Rc) (w : World) (hb : x.body.size ≤ 140737488355328) (hg : goodR x = false) :
    Calls Tryd.prog 11 #[.agg #[.int .i64 x.kind, .int .i64 x.seq, .int .i64 x.a, .int .i64 x.b, .int .i64 x.c, .int .i64 x.d, .string x.body]] w fun e w' => e = .returned (.string ⟨#[]⟩) ∧ Below w.heap.size w w' := by
  have HG := Lib.hid hg
  clear hg
  go_enter Tryd.func11, Tryd.ntmps11
  go_wp2_with fail
  refine (refGood_any x _ hb).mono ?_
  rw [HG.out]
  rintro e w1 ⟨rfl, hb1⟩
  go_wp2_with fail
  go_ret
  exact ⟨rfl, ((Below.refl _ _).alloc (Nat.le_refl _) _).trans (hb1.mono (by show w.heap.size ≤ (w.heap.push _).size; simp))⟩

theorem put_lit (n w : Nat) (z : Int) (p : ByteArray) (hz : z = (w : Int)) (hp : str (be w n) = p) (hw1 : 1 ≤ w) (hw : w ≤ 7) (hn : n < 256 ^ w) (hn2 : n ≤ 9223372036854775807) (W : World) :
    Calls Tryd.prog 23 #[.int .i64 (n : Int), .int .i64 z] W fun e w' => e = .returned (.string p) ∧ Below W.heap.size W w' := by
  subst hz; subst hp; exact refPut_any n w W hw1 hw hn hn2
theorem zerosB_size (n : Nat) : (zerosB n).size = n := by show ((List.replicate n (0 : UInt8)).toArray).size = n; simp
theorem app_z0 (R : ByteArray) : R ++ zerosB 0 = R := by apply bl_inj; rw [bl_append]; simp [zerosB, bl]
theorem app_z (R : ByteArray) (i : Nat) : (R ++ zerosB i) ++ ⟨#[0]⟩ = R ++ zerosB (i + 1) := by
  apply bl_inj
  rw [bl_append, bl_append, bl_append, List.append_assoc]
  congr 1
  simp [zerosB, bl, List.replicate_succ']
/-- The cells of a record, and what was there ahead, behind calls that make memory. -/
structure K7 (w : World) (x : Rc) (w1 : World) : Prop where
  below : Below w.heap.size w w1
  blk : Blk w1 w.heap.size (rcCells x) 31
theorem K7.next {w w1 w2 : World} {x : Rc} (h : K7 w x w1) (hb : Below w1.heap.size w1 w2) : K7 w x w2 :=
  ⟨h.below.trans (hb.mono h.below.size), (Mod.of_below hb []).blk h.blk (by simp)⟩
theorem K7.drew {w w1 : World} {x : Rc} (h : K7 w x w1) : K7 w x w1.drew := ⟨h.below.drew, h.blk.drew⟩

theorem cell0 {w w1 : World} {x : Rc} {n0 n1 n2 n3 n4 n5 : Nat} (e : x.kind = (n0 : Int) ∧ x.seq = (n1 : Int) ∧ x.a = (n2 : Int) ∧ x.b = (n3 : Int) ∧ x.c = (n4 : Int) ∧ x.d = (n5 : Int)) (h : K7 w x w1) : w1.cell? ⟨w.heap.size, 0, none⟩ = some (.int .i64 (n0 : Int)) := by
  rw [show w1.cell? ⟨w.heap.size, 0, none⟩ = some (.int .i64 x.kind) from h.blk.cell rfl, e.1]
theorem cell1 {w w1 : World} {x : Rc} {n0 n1 n2 n3 n4 n5 : Nat} (e : x.kind = (n0 : Int) ∧ x.seq = (n1 : Int) ∧ x.a = (n2 : Int) ∧ x.b = (n3 : Int) ∧ x.c = (n4 : Int) ∧ x.d = (n5 : Int)) (h : K7 w x w1) : w1.cell? ⟨w.heap.size, 1, none⟩ = some (.int .i64 (n1 : Int)) := by
  rw [show w1.cell? ⟨w.heap.size, 1, none⟩ = some (.int .i64 x.seq) from h.blk.cell rfl, e.2.1]
theorem cell2 {w w1 : World} {x : Rc} {n0 n1 n2 n3 n4 n5 : Nat} (e : x.kind = (n0 : Int) ∧ x.seq = (n1 : Int) ∧ x.a = (n2 : Int) ∧ x.b = (n3 : Int) ∧ x.c = (n4 : Int) ∧ x.d = (n5 : Int)) (h : K7 w x w1) : w1.cell? ⟨w.heap.size, 2, none⟩ = some (.int .i64 (n2 : Int)) := by
  rw [show w1.cell? ⟨w.heap.size, 2, none⟩ = some (.int .i64 x.a) from h.blk.cell rfl, e.2.2.1]
theorem cell3 {w w1 : World} {x : Rc} {n0 n1 n2 n3 n4 n5 : Nat} (e : x.kind = (n0 : Int) ∧ x.seq = (n1 : Int) ∧ x.a = (n2 : Int) ∧ x.b = (n3 : Int) ∧ x.c = (n4 : Int) ∧ x.d = (n5 : Int)) (h : K7 w x w1) : w1.cell? ⟨w.heap.size, 3, none⟩ = some (.int .i64 (n3 : Int)) := by
  rw [show w1.cell? ⟨w.heap.size, 3, none⟩ = some (.int .i64 x.b) from h.blk.cell rfl, e.2.2.2.1]
theorem cell4 {w w1 : World} {x : Rc} {n0 n1 n2 n3 n4 n5 : Nat} (e : x.kind = (n0 : Int) ∧ x.seq = (n1 : Int) ∧ x.a = (n2 : Int) ∧ x.b = (n3 : Int) ∧ x.c = (n4 : Int) ∧ x.d = (n5 : Int)) (h : K7 w x w1) : w1.cell? ⟨w.heap.size, 4, none⟩ = some (.int .i64 (n4 : Int)) := by
  rw [show w1.cell? ⟨w.heap.size, 4, none⟩ = some (.int .i64 x.c) from h.blk.cell rfl, e.2.2.2.2.1]
theorem cell5 {w w1 : World} {x : Rc} {n0 n1 n2 n3 n4 n5 : Nat} (e : x.kind = (n0 : Int) ∧ x.seq = (n1 : Int) ∧ x.a = (n2 : Int) ∧ x.b = (n3 : Int) ∧ x.c = (n4 : Int) ∧ x.d = (n5 : Int)) (h : K7 w x w1) : w1.cell? ⟨w.heap.size, 5, none⟩ = some (.int .i64 (n5 : Int)) := by
  rw [show w1.cell? ⟨w.heap.size, 5, none⟩ = some (.int .i64 x.d) from h.blk.cell rfl, e.2.2.2.2.2]
theorem out_at (w : World) (C : Array Value) (E : TypeId) : Blk (w.alloc (.cells C E)) w.heap.size C E := Blk.new w C E

set_option maxHeartbeats 8000000 in
set_option maxRecDepth 100000 in
theorem refEncode_ok (x : Rc) (w : World) (hg : goodR x = true) :
    Calls Tryd.prog 11 #[.agg #[.int .i64 x.kind, .int .i64 x.seq, .int .i64 x.a, .int .i64 x.b, .int .i64 x.c, .int .i64 x.d, .string x.body]] w fun e w' => e = .returned (.string (str (encTxt x))) ∧ Below w.heap.size w w' := by
  obtain ⟨hn, hbl⟩ := (good_iff x).1 hg
  obtain ⟨⟨h0, h0'⟩, ⟨h1, h1'⟩, ⟨h2, h2'⟩, ⟨h3, h3'⟩, ⟨h4, h4'⟩, ⟨h5, h5'⟩⟩ := hn
  have hb : x.body.size ≤ 64 := by have := bodyLen_le x.kind; omega
  have HG := Lib.hid hg
  obtain ⟨n0, e0⟩ := Int.eq_ofNat_of_zero_le (show 0 ≤ x.kind by omega)
  obtain ⟨n1, e1⟩ := Int.eq_ofNat_of_zero_le h1
  obtain ⟨n2, e2⟩ := Int.eq_ofNat_of_zero_le h2
  obtain ⟨n3, e3⟩ := Int.eq_ofNat_of_zero_le h3
  obtain ⟨n4, e4⟩ := Int.eq_ofNat_of_zero_le h4
  obtain ⟨n5, e5⟩ := Int.eq_ofNat_of_zero_le h5
  obtain ⟨p0, f0⟩ : ∃ p, str (be 1 n0) = p := ⟨_, rfl⟩
  obtain ⟨p1, f1⟩ : ∃ p, str (be 6 n1) = p := ⟨_, rfl⟩
  obtain ⟨p2, f2⟩ : ∃ p, str (be 2 n2) = p := ⟨_, rfl⟩
  obtain ⟨p3, f3⟩ : ∃ p, str (be 2 n3) = p := ⟨_, rfl⟩
  obtain ⟨p4, f4⟩ : ∃ p, str (be 6 n4) = p := ⟨_, rfl⟩
  obtain ⟨p5, f5⟩ : ∃ p, str (be 2 n5) = p := ⟨_, rfl⟩
  have s0 : p0.size ≤ 8 := by rw [← f0]; show (be 1 n0).length ≤ 8; rw [be_length]; omega
  have s1 : p1.size ≤ 8 := by rw [← f1]; show (be 6 n1).length ≤ 8; rw [be_length]; omega
  have s2 : p2.size ≤ 8 := by rw [← f2]; show (be 2 n2).length ≤ 8; rw [be_length]; omega
  have s3 : p3.size ≤ 8 := by rw [← f3]; show (be 2 n3).length ≤ 8; rw [be_length]; omega
  have s4 : p4.size ≤ 8 := by rw [← f4]; show (be 6 n4).length ≤ 8; rw [be_length]; omega
  have s5 : p5.size ≤ 8 := by rw [← f5]; show (be 2 n5).length ≤ 8; rw [be_length]; omega
  have HC0 := Lib.hid (put_lit n0 1 1 p0 rfl f0 (by omega) (by omega) (by omega) (by omega))
  have HC1 := Lib.hid (put_lit n1 6 6 p1 rfl f1 (by omega) (by omega) (by omega) (by omega))
  have HC2 := Lib.hid (put_lit n2 2 2 p2 rfl f2 (by omega) (by omega) (by omega) (by omega))
  have HC3 := Lib.hid (put_lit n3 2 2 p3 rfl f3 (by omega) (by omega) (by omega) (by omega))
  have HC4 := Lib.hid (put_lit n4 6 6 p4 rfl f4 (by omega) (by omega) (by omega) (by omega))
  have HC5 := Lib.hid (put_lit n5 2 2 p5 rfl f5 (by omega) (by omega) (by omega) (by omega))
  clear hg hbl h0 h0' h1 h1' h2 h2' h3 h3' h4 h4' h5 h5'
  have HX : Hid (fieldsTxt x = be 1 n0 ++ (be 6 n1 ++ (be 2 n2 ++ (be 2 n3 ++ (be 6 n4 ++ be 2 n5))))) := by unfold fieldsTxt; rw [e0, e1, e2, e3, e4, e5]; rfl
  obtain ⟨q0, hq0⟩ : ∃ q, (⟨#[67, 66]⟩ : ByteArray) ++ p0 = q := ⟨_, rfl⟩
  have t0 : q0.size ≤ 10 := by rw [← hq0, ByteArray.size_append]; show 2 + p0.size ≤ _; omega
  have u0 : 2 + p0.size ≤ 9223372036854775807 := by omega
  have u0' : (⟨#[67, 66]⟩ : ByteArray).size + p0.size ≤ 9223372036854775807 := by show 2 + p0.size ≤ _; omega
  obtain ⟨q1, hq1⟩ : ∃ q, q0 ++ p1 = q := ⟨_, rfl⟩
  have t1 : q1.size ≤ 18 := by rw [← hq1, ByteArray.size_append]; omega
  have u1 : q0.size + p1.size ≤ 9223372036854775807 := by omega
  obtain ⟨q2, hq2⟩ : ∃ q, q1 ++ p2 = q := ⟨_, rfl⟩
  have t2 : q2.size ≤ 26 := by rw [← hq2, ByteArray.size_append]; omega
  have u2 : q1.size + p2.size ≤ 9223372036854775807 := by omega
  obtain ⟨q3, hq3⟩ : ∃ q, q2 ++ p3 = q := ⟨_, rfl⟩
  have t3 : q3.size ≤ 34 := by rw [← hq3, ByteArray.size_append]; omega
  have u3 : q2.size + p3.size ≤ 9223372036854775807 := by omega
  obtain ⟨q4, hq4⟩ : ∃ q, q3 ++ p4 = q := ⟨_, rfl⟩
  have t4 : q4.size ≤ 42 := by rw [← hq4, ByteArray.size_append]; omega
  have u4 : q3.size + p4.size ≤ 9223372036854775807 := by omega
  obtain ⟨q5, hq5⟩ : ∃ q, q4 ++ p5 = q := ⟨_, rfl⟩
  have t5 : q5.size ≤ 50 := by rw [← hq5, ByteArray.size_append]; omega
  have u5 : q4.size + p5.size ≤ 9223372036854775807 := by omega
  have v0 : (9223372036854775807 < 2 + p0.size) = False := eq_false (by omega)
  have w_0 : (2 + p0.size ≤ 9223372036854775807) = True := eq_true (by omega)
  have x_0 : decide (2 + p0.size ≤ 9223372036854775807) = true := decide_eq_true (by omega)
  have v1 : (9223372036854775807 < q0.size + p1.size) = False := eq_false (by omega)
  have w_1 : (q0.size + p1.size ≤ 9223372036854775807) = True := eq_true (by omega)
  have x_1 : decide (q0.size + p1.size ≤ 9223372036854775807) = true := decide_eq_true (by omega)
  have v2 : (9223372036854775807 < q1.size + p2.size) = False := eq_false (by omega)
  have w_2 : (q1.size + p2.size ≤ 9223372036854775807) = True := eq_true (by omega)
  have x_2 : decide (q1.size + p2.size ≤ 9223372036854775807) = true := decide_eq_true (by omega)
  have v3 : (9223372036854775807 < q2.size + p3.size) = False := eq_false (by omega)
  have w_3 : (q2.size + p3.size ≤ 9223372036854775807) = True := eq_true (by omega)
  have x_3 : decide (q2.size + p3.size ≤ 9223372036854775807) = true := decide_eq_true (by omega)
  have v4 : (9223372036854775807 < q3.size + p4.size) = False := eq_false (by omega)
  have w_4 : (q3.size + p4.size ≤ 9223372036854775807) = True := eq_true (by omega)
  have x_4 : decide (q3.size + p4.size ≤ 9223372036854775807) = true := decide_eq_true (by omega)
  have v5 : (9223372036854775807 < q4.size + p5.size) = False := eq_false (by omega)
  have w_5 : (q4.size + p5.size ≤ 9223372036854775807) = True := eq_true (by omega)
  have x_5 : decide (q4.size + p5.size ≤ 9223372036854775807) = true := decide_eq_true (by omega)
  have v0' : (9223372036854775807 < (⟨#[67, 66]⟩ : ByteArray).size + p0.size) = False := eq_false (by show ¬ 9223372036854775807 < 2 + p0.size; omega)
  have w0' : ((⟨#[67, 66]⟩ : ByteArray).size + p0.size ≤ 9223372036854775807) = True := eq_true u0'
  have HQ : Hid (bl q5 = [67, 66] ++ (be 1 n0 ++ (be 6 n1 ++ (be 2 n2 ++ (be 2 n3 ++ (be 6 n4 ++ be 2 n5)))))) := by
    show bl q5 = _
    rw [← hq5, ← hq4, ← hq3, ← hq2, ← hq1, ← hq0]
    simp only [bl_append, ← f0, ← f1, ← f2, ← f3, ← f4, ← f5, bl_str, List.append_assoc]
  have HE : Hid (x.kind = (n0 : Int) ∧ x.seq = (n1 : Int) ∧ x.a = (n2 : Int) ∧ x.b = (n3 : Int) ∧ x.c = (n4 : Int) ∧ x.d = (n5 : Int)) := ⟨e0, e1, e2, e3, e4, e5⟩
  have F0 := Lib.hid f0; have F1 := Lib.hid f1; have F2 := Lib.hid f2; have F3 := Lib.hid f3; have F4 := Lib.hid f4; have F5 := Lib.hid f5
  clear e0 e1 e2 e3 e4 e5 f0 f1 f2 f3 f4 f5
  go_enter Tryd.func11, Tryd.ntmps11
  go_wp2_with fail
  refine (refGood_any x _ (by omega)).mono ?_
  rw [HG.out]
  rintro e w1 ⟨rfl, hb1⟩
  have hK : K7 w x w1 := K7.next ⟨(Below.refl _ _).alloc (Nat.le_refl _) _, Blk.new w _ _⟩ hb1
  have HK := Lib.hid hK
  clear hb1 hK
  have a0 : w1.cell? ⟨w.heap.size, 0, none⟩ = some (.int .i64 (n0 : Int)) := by rw [show w1.cell? ⟨w.heap.size, 0, none⟩ = some (.int .i64 x.kind) from HK.out.blk.cell rfl, HE.out.1]
  have a1 : w1.cell? ⟨w.heap.size, 1, none⟩ = some (.int .i64 (n1 : Int)) := by rw [show w1.cell? ⟨w.heap.size, 1, none⟩ = some (.int .i64 x.seq) from HK.out.blk.cell rfl, HE.out.2.1]
  have a2 : w1.cell? ⟨w.heap.size, 2, none⟩ = some (.int .i64 (n2 : Int)) := by rw [show w1.cell? ⟨w.heap.size, 2, none⟩ = some (.int .i64 x.a) from HK.out.blk.cell rfl, HE.out.2.2.1]
  have a3 : w1.cell? ⟨w.heap.size, 3, none⟩ = some (.int .i64 (n3 : Int)) := by rw [show w1.cell? ⟨w.heap.size, 3, none⟩ = some (.int .i64 x.b) from HK.out.blk.cell rfl, HE.out.2.2.2.1]
  have a4 : w1.cell? ⟨w.heap.size, 4, none⟩ = some (.int .i64 (n4 : Int)) := by rw [show w1.cell? ⟨w.heap.size, 4, none⟩ = some (.int .i64 x.c) from HK.out.blk.cell rfl, HE.out.2.2.2.2.1]
  have a5 : w1.cell? ⟨w.heap.size, 5, none⟩ = some (.int .i64 (n5 : Int)) := by rw [show w1.cell? ⟨w.heap.size, 5, none⟩ = some (.int .i64 x.d) from HK.out.blk.cell rfl, HE.out.2.2.2.2.2]
  go_upto_region 3 with fail
  go_region_held3 (fun w' => w'.cell? ⟨w.heap.size, 0, none⟩ = some (.int .i64 (n0 : Int)) ∧ w'.cell? ⟨w.heap.size, 1, none⟩ = some (.int .i64 (n1 : Int)) ∧ w'.cell? ⟨w.heap.size, 2, none⟩ = some (.int .i64 (n2 : Int)) ∧ w'.cell? ⟨w.heap.size, 3, none⟩ = some (.int .i64 (n3 : Int)) ∧ w'.cell? ⟨w.heap.size, 4, none⟩ = some (.int .i64 (n4 : Int)) ∧ w'.cell? ⟨w.heap.size, 5, none⟩ = some (.int .i64 (n5 : Int))) (first | (refine ⟨?_, ?_, ?_, ?_, ?_, ?_⟩ <;> with_reducible assumption) | go_keep) (first
    | (go_at_call 23; (with_reducible refine (HC0.out _).mono ?_); rintro e wa ⟨rfl, hb_⟩; have hk2 : K7 w x wa := (by first | exact HK.out.next hb_ | exact HK.out.drew.next hb_); have HK2 := Lib.hid hk2; clear hk2; clear hb_ HK a0 a1 a2 a3 a4 a5; have HK := HK2; clear HK2; have a0 := cell0 HE.out HK.out; have a1 := cell1 HE.out HK.out; have a2 := cell2 HE.out HK.out; have a3 := cell3 HE.out HK.out; have a4 := cell4 HE.out HK.out; have a5 := cell5 HE.out HK.out)
    | (go_at_call 23; (with_reducible refine (HC1.out _).mono ?_); rintro e wb ⟨rfl, hb_⟩; have hk2 : K7 w x wb := (by first | exact HK.out.next hb_ | exact HK.out.drew.next hb_); have HK2 := Lib.hid hk2; clear hk2; clear hb_ HK a0 a1 a2 a3 a4 a5; have HK := HK2; clear HK2; have a0 := cell0 HE.out HK.out; have a1 := cell1 HE.out HK.out; have a2 := cell2 HE.out HK.out; have a3 := cell3 HE.out HK.out; have a4 := cell4 HE.out HK.out; have a5 := cell5 HE.out HK.out)
    | (go_at_call 23; (with_reducible refine (HC2.out _).mono ?_); rintro e wc ⟨rfl, hb_⟩; have hk2 : K7 w x wc := (by first | exact HK.out.next hb_ | exact HK.out.drew.next hb_); have HK2 := Lib.hid hk2; clear hk2; clear hb_ HK a0 a1 a2 a3 a4 a5; have HK := HK2; clear HK2; have a0 := cell0 HE.out HK.out; have a1 := cell1 HE.out HK.out; have a2 := cell2 HE.out HK.out; have a3 := cell3 HE.out HK.out; have a4 := cell4 HE.out HK.out; have a5 := cell5 HE.out HK.out)
    | (go_at_call 23; (with_reducible refine (HC3.out _).mono ?_); rintro e wd ⟨rfl, hb_⟩; have hk2 : K7 w x wd := (by first | exact HK.out.next hb_ | exact HK.out.drew.next hb_); have HK2 := Lib.hid hk2; clear hk2; clear hb_ HK a0 a1 a2 a3 a4 a5; have HK := HK2; clear HK2; have a0 := cell0 HE.out HK.out; have a1 := cell1 HE.out HK.out; have a2 := cell2 HE.out HK.out; have a3 := cell3 HE.out HK.out; have a4 := cell4 HE.out HK.out; have a5 := cell5 HE.out HK.out)
    | (go_at_call 23; (with_reducible refine (HC4.out _).mono ?_); rintro e we ⟨rfl, hb_⟩; have hk2 : K7 w x we := (by first | exact HK.out.next hb_ | exact HK.out.drew.next hb_); have HK2 := Lib.hid hk2; clear hk2; clear hb_ HK a0 a1 a2 a3 a4 a5; have HK := HK2; clear HK2; have a0 := cell0 HE.out HK.out; have a1 := cell1 HE.out HK.out; have a2 := cell2 HE.out HK.out; have a3 := cell3 HE.out HK.out; have a4 := cell4 HE.out HK.out; have a5 := cell5 HE.out HK.out)
    | (go_at_call 23; (with_reducible refine (HC5.out _).mono ?_); rintro e wf ⟨rfl, hb_⟩; have hk2 : K7 w x wf := (by first | exact HK.out.next hb_ | exact HK.out.drew.next hb_); have HK2 := Lib.hid hk2; clear hk2; clear hb_ HK a0 a1 a2 a3 a4 a5; have HK := HK2; clear HK2; have a0 := cell0 HE.out HK.out; have a1 := cell1 HE.out HK.out; have a2 := cell2 HE.out HK.out; have a3 := cell3 HE.out HK.out; have a4 := cell4 HE.out HK.out; have a5 := cell5 HE.out HK.out))
  all_goals
    have hb6 : (K7 w x _) := HK.out
    have a6 := HK.out.blk.cell (i := 6) (v := .string x.body) rfl
    have z0 := x.body.size
    obtain ⟨H, hH⟩ : ∃ H, q5 ++ x.body = H := ⟨_, rfl⟩
    have hHs : q5.size + x.body.size ≤ 9223372036854775807 := by omega
    have hH2 : H.size ≤ 200 := by rw [← hH, ByteArray.size_append]; omega
    go_wp2_with fail
    refine (refSum_any _ _ (by omega)).mono ?_
    rintro e w5 ⟨rfl, rfl⟩
    obtain ⟨C, hC⟩ : ∃ C, (crcL H.data.toList).toNat = C := ⟨_, rfl⟩
    have hCl : C < 4294967296 := by rw [← hC]; exact u32_lt' _
    have HC := Lib.hid hC
    rw [hC]
    clear hC
    have CC := Lib.hid (put_lit C 4 4 (str (be 4 C)) rfl rfl (by omega) (by omega) (by omega) (by omega))
    go_wp2_with fail
    (with_reducible refine (CC.out _).mono ?_)
    rintro e w6 ⟨rfl, hb6'⟩
    have HK3 := Lib.hid (HK.out.next hb6')
    clear hb6'
    obtain ⟨V, hV⟩ : ∃ V, str (be 4 C) = V := ⟨_, rfl⟩
    have hVs : V.size = 4 := by rw [← hV]; show (be 4 C).length = 4; exact be_length _ _
    rw [hV]
    have HV := Lib.hid hV
    obtain ⟨R, hR⟩ : ∃ R, q5 ++ V = R := ⟨_, rfl⟩
    have hRs : q5.size + V.size ≤ 9223372036854775807 := by omega
    have hR2 : R.size ≤ 60 := by rw [← hR, ByteArray.size_append]; omega
    clear hV
    go_wp2_with fail
    have a6' : w6.cell? ⟨w.heap.size, 6, none⟩ = some (.string x.body) := HK3.out.blk.cell rfl
    obtain ⟨B, hB⟩ : ∃ B, x.body = B := ⟨_, rfl⟩
    have hBs : B.size ≤ 64 := by rw [← hB]; exact hb
    rw [hB] at a6'
    have HBB := Lib.hid hB
    clear hB
    go_loop [3] (fun s3 => ∃ i : Nat, R.size + i ≤ 64 ∧ s3 = .string (R ++ zerosB i)) (fun s3 => 64 - (match s3 with | .string t => t.size | _ => 0))
    case atStart => exact ⟨0, by omega, by rw [app_z0]⟩
    case round =>
      obtain ⟨i, hi, rfl⟩ := hrel
      obtain ⟨Q, hQ⟩ : ∃ Q, R ++ zerosB i = Q := ⟨_, rfl⟩
      have hQs : Q.size = R.size + i := by rw [← hQ, ByteArray.size_append, zerosB_size]
      by_cases hlt : R.size + i < 64
      · have HS : Hid (Q ++ ⟨#[0]⟩ = R ++ zerosB (i + 1)) := by rw [← hQ]; exact app_z R i
        have hd : (Q.size : Int) < 64 := by omega
        have hQ2 : Q.size + 1 ≤ 9223372036854775807 := by omega
        have hQ3 : Q.size + (⟨#[0]⟩ : ByteArray).size ≤ 9223372036854775807 := by show Q.size + 1 ≤ _; omega
        rw [hQ]
        have HQ2 := Lib.hid hQ; have HQs := Lib.hid hQs
        clear hQ hQs
        go_wp2
        go_round
        case rel => exact ⟨i + 1, by omega, by rw [HS.out]⟩
        case measure => have h1 := HQs.out; show 64 - (Q ++ ⟨#[0]⟩).size < 64 - Q.size; rw [ByteArray.size_append]; show 64 - (Q.size + 1) < _; omega
      · have hd : decide ((Q.size : Int) < 64) = false := decide_eq_false (by omega)
        have hQ2 : Q.size + B.size ≤ 9223372036854775807 := by omega
        have HF : Hid (Q ++ B = str (encTxt x)) := by
          rw [← hQ, ← HBB.out]
          have hi39 : i = 39 := by
            have e1 : R.size = 25 := by
              rw [← hR, ByteArray.size_append, hVs, ← bl_size q5, HQ.out]; simp [be_length]
            omega
          apply bl_inj
          rw [bl_append, bl_append, bl_str, ← hR, bl_append, ← HV.out, bl_str, ← HC.out, hi39]
          unfold encTxt
          have e2 : bl q5 = headTo x 6 := by rw [HQ.out, head_eq, HX.out]
          have e3 : H.data.toList = headTo x 6 ++ x.body.data.toList := by
            show bl H = _; rw [← hH, bl_append, e2]
          rw [e2, e3]
          simp [zerosB, bl]
        rw [hQ]
        clear hQ hQs
        go_wp2
        go_ret
        exact ⟨congrArg (fun z => Ending.returned (.string z)) HF.out, HK3.out.below⟩

theorem refEncode_any (x : Rc) (w : World) (hb : x.body.size ≤ 140737488355328) :
    Calls Tryd.prog 11 #[.agg #[.int .i64 x.kind, .int .i64 x.seq, .int .i64 x.a, .int .i64 x.b, .int .i64 x.c, .int .i64 x.d, .string x.body]] w fun e w' => e = .returned (.string (if goodR x = true then str (encTxt x) else ⟨#[]⟩)) ∧ Below w.heap.size w w' := by
  cases hg : goodR x with
  | true => rw [if_pos rfl]; exact refEncode_ok x w hg
  | false => rw [if_neg (by simp)]; exact refEncode_no x w hb hg

end Go.Proofs.YtadpeopbfoppjaaDoor
