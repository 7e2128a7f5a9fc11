/-
  Walk of record.Encode: the head of a record.
-/
import Derived.Test.YtadpeopbfoppjaaDoorRE2
namespace Go.Proofs.YtadpeopbfoppjaaDoor
open Go.RowKit
set_option linter.unusedVariables false
set_option linter.unusedSimpArgs false

/-- The head, up to the k-th field. -/
def headTo (x : Rc) (k : Nat) : List UInt8 := [67, 66] ++ (List.range k).flatMap fun j => be (fWide j) (x.fld j).toNat
theorem headTo_succ (x : Rc) (k : Nat) : headTo x (k + 1) = headTo x k ++ be (fWide k) (x.fld k).toNat := by
  unfold headTo
  rw [List.range_succ, List.flatMap_append]
  simp
theorem str_append (a b : List UInt8) : str a ++ str b = str (a ++ b) := by
  apply ByteArray.ext
  simp [str, ByteArray.data_append]
theorem headTo_len (x : Rc) (k : Nat) (hk : k ≤ 6) : (headTo x k).length ≤ 100 := by
  have : k = 0 ∨ k = 1 ∨ k = 2 ∨ k = 3 ∨ k = 4 ∨ k = 5 ∨ k = 6 := by omega
  rcases this with rfl | rfl | rfl | rfl | rfl | rfl | rfl <;> simp [headTo, List.range_succ, be_length, fWide]
theorem right_fld {x : Rc} (hr : rightF x = true) (k : Nat) (hk : k < 6) : 0 ≤ x.fld k ∧ x.fld k ≤ fMost k := by
  unfold rightF Rc.okTo at hr
  simp only [Bool.and_eq_true, decide_eq_true_eq, List.all_eq_true, List.mem_range] at hr
  exact hr.1 k hk
theorem str_size (l : List UInt8) : (str l).size = l.length := rfl

/-- What stands behind k rounds. -/
def HeadRel (x : Rc) (w : World) (fb : Nat) (k : Nat) (wr : World) : Prop :=
  Blk wr fb fieldCells 58 ∧ Blk wr w.heap.size (rcCells x) 29 ∧ Below w.heap.size w wr

set_option maxHeartbeats 8000000 in
set_option maxRecDepth 100000 in
theorem encode_ok (x : Rc) (w : World) (hT : TabIn w) (hw0 : 0 < w.heap.size) (hb : x.body.size ≤ 100) (hr : rightF x = true) (hl : (x.body.size : Int) = bodyLen x.kind) :
    Calls Tryd.prog 10 #[.agg #[.int .i64 x.kind, .int .i64 x.seq, .int .i64 x.a, .int .i64 x.b, .int .i64 x.c, .int .i64 x.d, .string x.body]] w fun e w' => e = .returned (.tuple #[.string (str (headTo x 6 ++ be 4 (crcL (headTo x 6 ++ x.body.data.toList)).toNat ++ List.replicate 39 0 ++ x.body.data.toList)), .int .i64 0]) ∧ Below w.heap.size w w' := by
  have Hr := Lib.hid hr
  have HT := Lib.hid hT
  have hk : 1 ≤ x.kind ∧ x.kind ≤ 6 := by
    have := right_fld hr 0 (by omega)
    unfold rightF at hr
    simp only [Bool.and_eq_true, decide_eq_true_eq] at hr
    exact ⟨hr.2, this.2⟩
  have hbl : (if x.kind < 1 ∨ 6 < x.kind then (0 : Int) else if x.kind = 4 then 2 else 1) = bodyLen x.kind / 64 + 1 := by
    rw [if_neg (by omega)]
    unfold bodyLen
    split <;> rfl
  have hbc : bodyLen x.kind = 0 ∨ bodyLen x.kind = 64 := by unfold bodyLen; split <;> simp
  have Hbl := Lib.hid hbl
  clear hT hbl hk
  have hR : ∀ n, Blk ((w.alloc (.cells (rcCells x) 29)).drewN n) w.heap.size (rcCells x) 29 := fun n => (Blk.new w _ _).drewN n
  have HR := Lib.hid hR
  clear hR
  go_enter Tryd.func10, Tryd.ntmps10
  go_upto_region 1 with fail
  go_cut [19] (fun s19 wx => s19 = .bool false ∧ Blk wx w.heap.size (rcCells x) 29 ∧ Below w.heap.size w wx)
  case first =>
    generalize bodyLen x.kind = L at *
    rcases hbc with rfl | rfl
    all_goals
      have hz : ((x.body.size : Int) != bodyLen 0) = false ∨ True := .inr trivial
      clear hz
      first
        | (have hz3 : ((x.body.size : Int) != IntKind.i64.wrap (IntKind.i64.wrap 0 * 64)) = false := by rw [show IntKind.i64.wrap (IntKind.i64.wrap 0 * 64) = 0 by decide, hl]; rfl)
        | (have hz3 : ((x.body.size : Int) != IntKind.i64.wrap (IntKind.i64.wrap 1 * 64)) = false := by rw [show IntKind.i64.wrap (IntKind.i64.wrap 1 * 64) = 64 by decide, hl]; rfl)
      clear hl
      first | (go_region_with (first | (go_at_call 17; refine (right_any w.heap.size x _ (by first | exact HR.out 0 | exact HR.out 1 | exact HR.out _)).mono ?_; rintro e w1 ⟨rfl, hb1⟩; rw [Hr.out]; have hB1 := rc_block1 hb1; have q0 : w1.cell? ⟨w.heap.size, 0, none⟩ = some (.int .i64 x.kind) := hB1.cell rfl; have q6 : w1.cell? ⟨w.heap.size, 6, none⟩ = some (.string x.body) := hB1.cell rfl; have HB1 := Lib.hid hb1; clear hb1 hB1) | (go_at_call 12; refine (blocks_any x.kind _).mono ?_; rintro e w2 ⟨rfl, rfl⟩; rw [Hbl.out]))) | (exfalso; fail)
      all_goals
        go_wp2_with fail
        go_meet
        exact ⟨rfl, rc_block1 HB1.out, rc_below1 HB1.out⟩
  case rest =>
    obtain ⟨rfl, hB, hW⟩ := hcut
    have HB := Lib.hid hB; have HW := Lib.hid hW
    have hsz := hW.size
    clear hB hW
    go_wp2_with fail
    refine (fields_any _).mono ?_
    rintro e w1 ⟨rfl, rfl⟩
    go_wp2_with fail
    go_loopw [4, 22] (fun s4 s22 wr => ∃ k : Nat, s22 = .int .i64 k ∧ k ≤ 6 ∧ s4 = .string (str (headTo x k)) ∧ HeadRel x w wc.heap.size k wr) (fun _ s22 _ => 6 - (intOf s22).toNat)
    case atStart => exact ⟨0, rfl, by omega, rfl, Blk.new wc _ _, HB.out.alloc _, HW.out.alloc hsz _⟩
    case round =>
      obtain ⟨k, rfl, hk, rfl, hF, hR, hW⟩ := hrel
      have HF := Lib.hid hF; have HR2 := Lib.hid hR; have HW2 := Lib.hid hW
      have hlf := hF.lt
      have hlr := hR.lt
      have hsz2 := hW.size
      clear hF hR hW
      have hcase : k = 0 ∨ k = 1 ∨ k = 2 ∨ k = 3 ∨ k = 4 ∨ k = 5 ∨ k = 6 := by omega
      rcases hcase with rfl | rfl | rfl | rfl | rfl | rfl | rfl
      · have q0 : wr.cell? ⟨wc.heap.size, 0, none⟩ = some (.int .i64 2) := HF.out.cell rfl
        have q1 : wr.cell? ⟨wc.heap.size, 1, none⟩ = some (.int .i64 1) := HF.out.cell rfl
        have q2 : wr.cell? ⟨wc.heap.size, 2, none⟩ = some (.int .i64 6) := HF.out.cell rfl
        have q3 : wr.cell? ⟨wc.heap.size, 3, none⟩ = some (.func (.func 28) #[] #[]) := HF.out.cell rfl
        obtain ⟨h0, h1⟩ := right_fld Hr.out 0 (by omega)
        obtain ⟨n, hn⟩ := Int.eq_ofNat_of_zero_le (show 0 ≤ x.kind from h0)
        have hn2 : (n : Int) ≤ 6 := by rw [← hn]; exact h1
        have r0 : wr.cell? ⟨w.heap.size, 0, none⟩ = some (.int .i64 (n : Int)) := by rw [← hn]; exact HR2.out.cell rfl
        have hs : headTo x 1 = headTo x 0 ++ be 1 n := by
          rw [headTo_succ]
          have e : (x.fld 0).toNat = n := by show (x.kind).toNat = n; rw [hn]; simp
          rw [e]; rfl
        have hhl := headTo_len x 0 (by omega)
        have hZl := be_length 1 n
        obtain ⟨A, hA⟩ : ∃ A, str (headTo x 0) = A := ⟨_, rfl⟩
        obtain ⟨Z, hZ⟩ : ∃ Z, str (be 1 n) = Z := ⟨_, rfl⟩
        have hcat : A.size + Z.size ≤ 200 := by rw [← hA, ← hZ, str_size, str_size]; omega
        have hAZ : A ++ Z = str (headTo x 1) := by rw [← hA, ← hZ, str_append, hs]
        have HZ := Lib.hid hZ; have HAZ := Lib.hid hAZ
        rw [hA]
        clear hs h0 h1 hn hhl hZl hA hZ hAZ
        have hnb : Blk (wr.alloc (.cells #[.int .i64 2, .int .i64 1, .int .i64 6, .func (.func 28) #[] #[]] 58)) wr.heap.size #[.int .i64 2, .int .i64 1, .int .i64 6, .func (.func 28) #[] #[]] 58 := Blk.new wr _ _
        have hz1 : w.heap.size < (wr.alloc (.cells #[.int .i64 2, .int .i64 1, .int .i64 6, .func (.func 28) #[] #[]] 58)).drew.heap.size := by show _ < (wr.heap.push _).size; simp; omega
        have hz2 : wr.heap.size < (wr.alloc (.cells #[.int .i64 2, .int .i64 1, .int .i64 6, .func (.func 28) #[] #[]] 58)).drew.heap.size := by show _ < (wr.heap.push _).size; simp
        go_upto_region 7 with fail
        first | (go_region_with (first
          | (go_at_call 28; refine (field1_any w.heap.size _).mono ?_; rintro e w2 ⟨rfl, rfl⟩)
          | (go_at_call 19; refine (put_any n 1 _ (by omega) (by omega) (by omega) (by omega)).mono ?_; rintro e w3 ⟨rfl, hb3⟩; rw [HZ.out]; obtain ⟨hc3, hf3, hs3⟩ := bcell hb3))) | (exfalso; fail)
        all_goals
          have hF3 : Blk w3 wc.heap.size fieldCells 58 := (Mod.of_below hb3 []).blk (by repeat (first | exact HF.out | apply Blk.drewN | apply Blk.drew | apply Blk.alloc)) (by simp)
          have hR3 : Blk w3 w.heap.size (rcCells x) 29 := (Mod.of_below hb3 []).blk (by repeat (first | exact HR2.out | apply Blk.drewN | apply Blk.drew | apply Blk.alloc)) (by simp)
          have hW3 : Below w.heap.size w w3 := Below.trans (((HW2.out).alloc hsz2 _).drew) (hb3.mono (Nat.le_of_lt hz1))
          go_wp2_with fail
          exact ⟨⟨1, rfl, by omega, by rw [HAZ.out], hF3, hR3, hW3⟩, by simp [intOf]⟩

      · have q0 : wr.cell? ⟨wc.heap.size, 4, none⟩ = some (.int .i64 3) := HF.out.cell rfl
        have q1 : wr.cell? ⟨wc.heap.size, 5, none⟩ = some (.int .i64 6) := HF.out.cell rfl
        have q2 : wr.cell? ⟨wc.heap.size, 6, none⟩ = some (.int .i64 1099511627776) := HF.out.cell rfl
        have q3 : wr.cell? ⟨wc.heap.size, 7, none⟩ = some (.func (.func 29) #[] #[]) := HF.out.cell rfl
        obtain ⟨h0, h1⟩ := right_fld Hr.out 1 (by omega)
        obtain ⟨n, hn⟩ := Int.eq_ofNat_of_zero_le (show 0 ≤ x.seq from h0)
        have hn2 : (n : Int) ≤ 1099511627776 := by rw [← hn]; exact h1
        have r0 : wr.cell? ⟨w.heap.size, 1, none⟩ = some (.int .i64 (n : Int)) := by rw [← hn]; exact HR2.out.cell rfl
        have hs : headTo x 2 = headTo x 1 ++ be 6 n := by
          rw [headTo_succ]
          have e : (x.fld 1).toNat = n := by show (x.seq).toNat = n; rw [hn]; simp
          rw [e]; rfl
        have hhl := headTo_len x 1 (by omega)
        have hZl := be_length 6 n
        obtain ⟨A, hA⟩ : ∃ A, str (headTo x 1) = A := ⟨_, rfl⟩
        obtain ⟨Z, hZ⟩ : ∃ Z, str (be 6 n) = Z := ⟨_, rfl⟩
        have hcat : A.size + Z.size ≤ 200 := by rw [← hA, ← hZ, str_size, str_size]; omega
        have hAZ : A ++ Z = str (headTo x 2) := by rw [← hA, ← hZ, str_append, hs]
        have HZ := Lib.hid hZ; have HAZ := Lib.hid hAZ
        rw [hA]
        clear hs h0 h1 hn hhl hZl hA hZ hAZ
        have hnb : Blk (wr.alloc (.cells #[.int .i64 3, .int .i64 6, .int .i64 1099511627776, .func (.func 29) #[] #[]] 58)) wr.heap.size #[.int .i64 3, .int .i64 6, .int .i64 1099511627776, .func (.func 29) #[] #[]] 58 := Blk.new wr _ _
        have hz1 : w.heap.size < (wr.alloc (.cells #[.int .i64 3, .int .i64 6, .int .i64 1099511627776, .func (.func 29) #[] #[]] 58)).drew.heap.size := by show _ < (wr.heap.push _).size; simp; omega
        have hz2 : wr.heap.size < (wr.alloc (.cells #[.int .i64 3, .int .i64 6, .int .i64 1099511627776, .func (.func 29) #[] #[]] 58)).drew.heap.size := by show _ < (wr.heap.push _).size; simp
        go_upto_region 7 with fail
        first | (go_region_with (first
          | (go_at_call 29; refine (field2_any w.heap.size _).mono ?_; rintro e w2 ⟨rfl, rfl⟩)
          | (go_at_call 19; refine (put_any n 6 _ (by omega) (by omega) (by omega) (by omega)).mono ?_; rintro e w3 ⟨rfl, hb3⟩; rw [HZ.out]; obtain ⟨hc3, hf3, hs3⟩ := bcell hb3))) | (exfalso; fail)
        all_goals
          have hF3 : Blk w3 wc.heap.size fieldCells 58 := (Mod.of_below hb3 []).blk (by repeat (first | exact HF.out | apply Blk.drewN | apply Blk.drew | apply Blk.alloc)) (by simp)
          have hR3 : Blk w3 w.heap.size (rcCells x) 29 := (Mod.of_below hb3 []).blk (by repeat (first | exact HR2.out | apply Blk.drewN | apply Blk.drew | apply Blk.alloc)) (by simp)
          have hW3 : Below w.heap.size w w3 := Below.trans (((HW2.out).alloc hsz2 _).drew) (hb3.mono (Nat.le_of_lt hz1))
          go_wp2_with fail
          exact ⟨⟨2, rfl, by omega, by rw [HAZ.out], hF3, hR3, hW3⟩, by simp [intOf]⟩

      · have q0 : wr.cell? ⟨wc.heap.size, 8, none⟩ = some (.int .i64 9) := HF.out.cell rfl
        have q1 : wr.cell? ⟨wc.heap.size, 9, none⟩ = some (.int .i64 2) := HF.out.cell rfl
        have q2 : wr.cell? ⟨wc.heap.size, 10, none⟩ = some (.int .i64 65535) := HF.out.cell rfl
        have q3 : wr.cell? ⟨wc.heap.size, 11, none⟩ = some (.func (.func 30) #[] #[]) := HF.out.cell rfl
        obtain ⟨h0, h1⟩ := right_fld Hr.out 2 (by omega)
        obtain ⟨n, hn⟩ := Int.eq_ofNat_of_zero_le (show 0 ≤ x.a from h0)
        have hn2 : (n : Int) ≤ 65535 := by rw [← hn]; exact h1
        have r0 : wr.cell? ⟨w.heap.size, 2, none⟩ = some (.int .i64 (n : Int)) := by rw [← hn]; exact HR2.out.cell rfl
        have hs : headTo x 3 = headTo x 2 ++ be 2 n := by
          rw [headTo_succ]
          have e : (x.fld 2).toNat = n := by show (x.a).toNat = n; rw [hn]; simp
          rw [e]; rfl
        have hhl := headTo_len x 2 (by omega)
        have hZl := be_length 2 n
        obtain ⟨A, hA⟩ : ∃ A, str (headTo x 2) = A := ⟨_, rfl⟩
        obtain ⟨Z, hZ⟩ : ∃ Z, str (be 2 n) = Z := ⟨_, rfl⟩
        have hcat : A.size + Z.size ≤ 200 := by rw [← hA, ← hZ, str_size, str_size]; omega
        have hAZ : A ++ Z = str (headTo x 3) := by rw [← hA, ← hZ, str_append, hs]
        have HZ := Lib.hid hZ; have HAZ := Lib.hid hAZ
        rw [hA]
        clear hs h0 h1 hn hhl hZl hA hZ hAZ
        have hnb : Blk (wr.alloc (.cells #[.int .i64 9, .int .i64 2, .int .i64 65535, .func (.func 30) #[] #[]] 58)) wr.heap.size #[.int .i64 9, .int .i64 2, .int .i64 65535, .func (.func 30) #[] #[]] 58 := Blk.new wr _ _
        have hz1 : w.heap.size < (wr.alloc (.cells #[.int .i64 9, .int .i64 2, .int .i64 65535, .func (.func 30) #[] #[]] 58)).drew.heap.size := by show _ < (wr.heap.push _).size; simp; omega
        have hz2 : wr.heap.size < (wr.alloc (.cells #[.int .i64 9, .int .i64 2, .int .i64 65535, .func (.func 30) #[] #[]] 58)).drew.heap.size := by show _ < (wr.heap.push _).size; simp
        go_upto_region 7 with fail
        first | (go_region_with (first
          | (go_at_call 30; refine (field3_any w.heap.size _).mono ?_; rintro e w2 ⟨rfl, rfl⟩)
          | (go_at_call 19; refine (put_any n 2 _ (by omega) (by omega) (by omega) (by omega)).mono ?_; rintro e w3 ⟨rfl, hb3⟩; rw [HZ.out]; obtain ⟨hc3, hf3, hs3⟩ := bcell hb3))) | (exfalso; fail)
        all_goals
          have hF3 : Blk w3 wc.heap.size fieldCells 58 := (Mod.of_below hb3 []).blk (by repeat (first | exact HF.out | apply Blk.drewN | apply Blk.drew | apply Blk.alloc)) (by simp)
          have hR3 : Blk w3 w.heap.size (rcCells x) 29 := (Mod.of_below hb3 []).blk (by repeat (first | exact HR2.out | apply Blk.drewN | apply Blk.drew | apply Blk.alloc)) (by simp)
          have hW3 : Below w.heap.size w w3 := Below.trans (((HW2.out).alloc hsz2 _).drew) (hb3.mono (Nat.le_of_lt hz1))
          go_wp2_with fail
          exact ⟨⟨3, rfl, by omega, by rw [HAZ.out], hF3, hR3, hW3⟩, by simp [intOf]⟩

      · have q0 : wr.cell? ⟨wc.heap.size, 12, none⟩ = some (.int .i64 11) := HF.out.cell rfl
        have q1 : wr.cell? ⟨wc.heap.size, 13, none⟩ = some (.int .i64 2) := HF.out.cell rfl
        have q2 : wr.cell? ⟨wc.heap.size, 14, none⟩ = some (.int .i64 65535) := HF.out.cell rfl
        have q3 : wr.cell? ⟨wc.heap.size, 15, none⟩ = some (.func (.func 31) #[] #[]) := HF.out.cell rfl
        obtain ⟨h0, h1⟩ := right_fld Hr.out 3 (by omega)
        obtain ⟨n, hn⟩ := Int.eq_ofNat_of_zero_le (show 0 ≤ x.b from h0)
        have hn2 : (n : Int) ≤ 65535 := by rw [← hn]; exact h1
        have r0 : wr.cell? ⟨w.heap.size, 3, none⟩ = some (.int .i64 (n : Int)) := by rw [← hn]; exact HR2.out.cell rfl
        have hs : headTo x 4 = headTo x 3 ++ be 2 n := by
          rw [headTo_succ]
          have e : (x.fld 3).toNat = n := by show (x.b).toNat = n; rw [hn]; simp
          rw [e]; rfl
        have hhl := headTo_len x 3 (by omega)
        have hZl := be_length 2 n
        obtain ⟨A, hA⟩ : ∃ A, str (headTo x 3) = A := ⟨_, rfl⟩
        obtain ⟨Z, hZ⟩ : ∃ Z, str (be 2 n) = Z := ⟨_, rfl⟩
        have hcat : A.size + Z.size ≤ 200 := by rw [← hA, ← hZ, str_size, str_size]; omega
        have hAZ : A ++ Z = str (headTo x 4) := by rw [← hA, ← hZ, str_append, hs]
        have HZ := Lib.hid hZ; have HAZ := Lib.hid hAZ
        rw [hA]
        clear hs h0 h1 hn hhl hZl hA hZ hAZ
        have hnb : Blk (wr.alloc (.cells #[.int .i64 11, .int .i64 2, .int .i64 65535, .func (.func 31) #[] #[]] 58)) wr.heap.size #[.int .i64 11, .int .i64 2, .int .i64 65535, .func (.func 31) #[] #[]] 58 := Blk.new wr _ _
        have hz1 : w.heap.size < (wr.alloc (.cells #[.int .i64 11, .int .i64 2, .int .i64 65535, .func (.func 31) #[] #[]] 58)).drew.heap.size := by show _ < (wr.heap.push _).size; simp; omega
        have hz2 : wr.heap.size < (wr.alloc (.cells #[.int .i64 11, .int .i64 2, .int .i64 65535, .func (.func 31) #[] #[]] 58)).drew.heap.size := by show _ < (wr.heap.push _).size; simp
        go_upto_region 7 with fail
        first | (go_region_with (first
          | (go_at_call 31; refine (field4_any w.heap.size _).mono ?_; rintro e w2 ⟨rfl, rfl⟩)
          | (go_at_call 19; refine (put_any n 2 _ (by omega) (by omega) (by omega) (by omega)).mono ?_; rintro e w3 ⟨rfl, hb3⟩; rw [HZ.out]; obtain ⟨hc3, hf3, hs3⟩ := bcell hb3))) | (exfalso; fail)
        all_goals
          have hF3 : Blk w3 wc.heap.size fieldCells 58 := (Mod.of_below hb3 []).blk (by repeat (first | exact HF.out | apply Blk.drewN | apply Blk.drew | apply Blk.alloc)) (by simp)
          have hR3 : Blk w3 w.heap.size (rcCells x) 29 := (Mod.of_below hb3 []).blk (by repeat (first | exact HR2.out | apply Blk.drewN | apply Blk.drew | apply Blk.alloc)) (by simp)
          have hW3 : Below w.heap.size w w3 := Below.trans (((HW2.out).alloc hsz2 _).drew) (hb3.mono (Nat.le_of_lt hz1))
          go_wp2_with fail
          exact ⟨⟨4, rfl, by omega, by rw [HAZ.out], hF3, hR3, hW3⟩, by simp [intOf]⟩

      · have q0 : wr.cell? ⟨wc.heap.size, 16, none⟩ = some (.int .i64 13) := HF.out.cell rfl
        have q1 : wr.cell? ⟨wc.heap.size, 17, none⟩ = some (.int .i64 6) := HF.out.cell rfl
        have q2 : wr.cell? ⟨wc.heap.size, 18, none⟩ = some (.int .i64 1099511627776) := HF.out.cell rfl
        have q3 : wr.cell? ⟨wc.heap.size, 19, none⟩ = some (.func (.func 32) #[] #[]) := HF.out.cell rfl
        obtain ⟨h0, h1⟩ := right_fld Hr.out 4 (by omega)
        obtain ⟨n, hn⟩ := Int.eq_ofNat_of_zero_le (show 0 ≤ x.c from h0)
        have hn2 : (n : Int) ≤ 1099511627776 := by rw [← hn]; exact h1
        have r0 : wr.cell? ⟨w.heap.size, 4, none⟩ = some (.int .i64 (n : Int)) := by rw [← hn]; exact HR2.out.cell rfl
        have hs : headTo x 5 = headTo x 4 ++ be 6 n := by
          rw [headTo_succ]
          have e : (x.fld 4).toNat = n := by show (x.c).toNat = n; rw [hn]; simp
          rw [e]; rfl
        have hhl := headTo_len x 4 (by omega)
        have hZl := be_length 6 n
        obtain ⟨A, hA⟩ : ∃ A, str (headTo x 4) = A := ⟨_, rfl⟩
        obtain ⟨Z, hZ⟩ : ∃ Z, str (be 6 n) = Z := ⟨_, rfl⟩
        have hcat : A.size + Z.size ≤ 200 := by rw [← hA, ← hZ, str_size, str_size]; omega
        have hAZ : A ++ Z = str (headTo x 5) := by rw [← hA, ← hZ, str_append, hs]
        have HZ := Lib.hid hZ; have HAZ := Lib.hid hAZ
        rw [hA]
        clear hs h0 h1 hn hhl hZl hA hZ hAZ
        have hnb : Blk (wr.alloc (.cells #[.int .i64 13, .int .i64 6, .int .i64 1099511627776, .func (.func 32) #[] #[]] 58)) wr.heap.size #[.int .i64 13, .int .i64 6, .int .i64 1099511627776, .func (.func 32) #[] #[]] 58 := Blk.new wr _ _
        have hz1 : w.heap.size < (wr.alloc (.cells #[.int .i64 13, .int .i64 6, .int .i64 1099511627776, .func (.func 32) #[] #[]] 58)).drew.heap.size := by show _ < (wr.heap.push _).size; simp; omega
        have hz2 : wr.heap.size < (wr.alloc (.cells #[.int .i64 13, .int .i64 6, .int .i64 1099511627776, .func (.func 32) #[] #[]] 58)).drew.heap.size := by show _ < (wr.heap.push _).size; simp
        go_upto_region 7 with fail
        first | (go_region_with (first
          | (go_at_call 32; refine (field5_any w.heap.size _).mono ?_; rintro e w2 ⟨rfl, rfl⟩)
          | (go_at_call 19; refine (put_any n 6 _ (by omega) (by omega) (by omega) (by omega)).mono ?_; rintro e w3 ⟨rfl, hb3⟩; rw [HZ.out]; obtain ⟨hc3, hf3, hs3⟩ := bcell hb3))) | (exfalso; fail)
        all_goals
          have hF3 : Blk w3 wc.heap.size fieldCells 58 := (Mod.of_below hb3 []).blk (by repeat (first | exact HF.out | apply Blk.drewN | apply Blk.drew | apply Blk.alloc)) (by simp)
          have hR3 : Blk w3 w.heap.size (rcCells x) 29 := (Mod.of_below hb3 []).blk (by repeat (first | exact HR2.out | apply Blk.drewN | apply Blk.drew | apply Blk.alloc)) (by simp)
          have hW3 : Below w.heap.size w w3 := Below.trans (((HW2.out).alloc hsz2 _).drew) (hb3.mono (Nat.le_of_lt hz1))
          go_wp2_with fail
          exact ⟨⟨5, rfl, by omega, by rw [HAZ.out], hF3, hR3, hW3⟩, by simp [intOf]⟩

      · have q0 : wr.cell? ⟨wc.heap.size, 20, none⟩ = some (.int .i64 19) := HF.out.cell rfl
        have q1 : wr.cell? ⟨wc.heap.size, 21, none⟩ = some (.int .i64 2) := HF.out.cell rfl
        have q2 : wr.cell? ⟨wc.heap.size, 22, none⟩ = some (.int .i64 65535) := HF.out.cell rfl
        have q3 : wr.cell? ⟨wc.heap.size, 23, none⟩ = some (.func (.func 33) #[] #[]) := HF.out.cell rfl
        obtain ⟨h0, h1⟩ := right_fld Hr.out 5 (by omega)
        obtain ⟨n, hn⟩ := Int.eq_ofNat_of_zero_le (show 0 ≤ x.d from h0)
        have hn2 : (n : Int) ≤ 65535 := by rw [← hn]; exact h1
        have r0 : wr.cell? ⟨w.heap.size, 5, none⟩ = some (.int .i64 (n : Int)) := by rw [← hn]; exact HR2.out.cell rfl
        have hs : headTo x 6 = headTo x 5 ++ be 2 n := by
          rw [headTo_succ]
          have e : (x.fld 5).toNat = n := by show (x.d).toNat = n; rw [hn]; simp
          rw [e]; rfl
        have hhl := headTo_len x 5 (by omega)
        have hZl := be_length 2 n
        obtain ⟨A, hA⟩ : ∃ A, str (headTo x 5) = A := ⟨_, rfl⟩
        obtain ⟨Z, hZ⟩ : ∃ Z, str (be 2 n) = Z := ⟨_, rfl⟩
        have hcat : A.size + Z.size ≤ 200 := by rw [← hA, ← hZ, str_size, str_size]; omega
        have hAZ : A ++ Z = str (headTo x 6) := by rw [← hA, ← hZ, str_append, hs]
        have HZ := Lib.hid hZ; have HAZ := Lib.hid hAZ
        rw [hA]
        clear hs h0 h1 hn hhl hZl hA hZ hAZ
        have hnb : Blk (wr.alloc (.cells #[.int .i64 19, .int .i64 2, .int .i64 65535, .func (.func 33) #[] #[]] 58)) wr.heap.size #[.int .i64 19, .int .i64 2, .int .i64 65535, .func (.func 33) #[] #[]] 58 := Blk.new wr _ _
        have hz1 : w.heap.size < (wr.alloc (.cells #[.int .i64 19, .int .i64 2, .int .i64 65535, .func (.func 33) #[] #[]] 58)).drew.heap.size := by show _ < (wr.heap.push _).size; simp; omega
        have hz2 : wr.heap.size < (wr.alloc (.cells #[.int .i64 19, .int .i64 2, .int .i64 65535, .func (.func 33) #[] #[]] 58)).drew.heap.size := by show _ < (wr.heap.push _).size; simp
        go_upto_region 7 with fail
        first | (go_region_with (first
          | (go_at_call 33; refine (field6_any w.heap.size _).mono ?_; rintro e w2 ⟨rfl, rfl⟩)
          | (go_at_call 19; refine (put_any n 2 _ (by omega) (by omega) (by omega) (by omega)).mono ?_; rintro e w3 ⟨rfl, hb3⟩; rw [HZ.out]; obtain ⟨hc3, hf3, hs3⟩ := bcell hb3))) | (exfalso; fail)
        all_goals
          have hF3 : Blk w3 wc.heap.size fieldCells 58 := (Mod.of_below hb3 []).blk (by repeat (first | exact HF.out | apply Blk.drewN | apply Blk.drew | apply Blk.alloc)) (by simp)
          have hR3 : Blk w3 w.heap.size (rcCells x) 29 := (Mod.of_below hb3 []).blk (by repeat (first | exact HR2.out | apply Blk.drewN | apply Blk.drew | apply Blk.alloc)) (by simp)
          have hW3 : Below w.heap.size w w3 := Below.trans (((HW2.out).alloc hsz2 _).drew) (hb3.mono (Nat.le_of_lt hz1))
          go_wp2_with fail
          exact ⟨⟨6, rfl, by omega, by rw [HAZ.out], hF3, hR3, hW3⟩, by simp [intOf]⟩

      · have r6 : wr.cell? ⟨w.heap.size, 6, none⟩ = some (.string x.body) := HR2.out.cell rfl
        have hsl : (str (headTo x 6)).size = 21 := by rw [str_size]; simp [headTo, List.range_succ, be_length, fWide]
        obtain ⟨A, hA⟩ : ∃ A, str (headTo x 6) = A := ⟨_, rfl⟩
        have hAs : A.size = 21 := by rw [← hA]; exact hsl
        have hcat : cat [A, x.body] = headTo x 6 ++ x.body.data.toList := by rw [← hA]; simp [cat, str]
        obtain ⟨C, hC⟩ : ∃ C, (crcL (headTo x 6 ++ x.body.data.toList)).toNat = C := ⟨_, rfl⟩
        have hC2 : C < 4294967296 := by rw [← hC]; exact BitVec.isLt _
        have hCw : IntKind.i64.wrap (C : Int) = (C : Int) := by
          have h0 : (0 : Int) ≤ (C : Int) := by omega
          have h1 : (C : Int) < 4294967296 := by omega
          unfold IntKind.wrap
          simp [IntKind.signed, IntKind.bits]
          omega
        obtain ⟨Z, hZ⟩ : ∃ Z, str (be 4 C) = Z := ⟨_, rfl⟩
        have hZs : Z.size = 4 := by rw [← hZ, str_size, be_length]
        have hAZ : A.size + Z.size ≤ 200 := by omega
        obtain ⟨O, hO⟩ : ∃ O, zerosB 39 = O := ⟨_, rfl⟩
        have hOs : O.size = 39 := by rw [← hO]; rfl
        have hAZO : (A ++ Z).size + O.size ≤ 200 := by rw [ByteArray.size_append]; omega
        have hAZOB : (A ++ Z ++ O).size + x.body.size ≤ 200 := by rw [ByteArray.size_append, ByteArray.size_append]; omega
        have hfin : A ++ Z ++ O ++ x.body = str (headTo x 6 ++ be 4 C ++ List.replicate 39 0 ++ x.body.data.toList) := by
          rw [← hA, ← hZ, ← hO]
          apply ByteArray.ext
          simp [str, zerosB, ByteArray.data_append]
        have HC := Lib.hid hC; have HZ := Lib.hid hZ; have HO := Lib.hid hO; have Hcat := Lib.hid hcat; have Hfin := Lib.hid hfin
        rw [hA]
        clear hsl hA hC hZ hO hcat hfin hAs hZs hOs
        go_wp2_with fail
        have hlts : w.heap.size < (wr.alloc (.cells #[.string A, .string x.body] 9)).heap.size := by show _ < (wr.heap.push _).size; simp; omega
        have hWA : Below w.heap.size w (wr.alloc (.cells #[.string A, .string x.body] 9)) := HW2.out.alloc hsz2 _
        have hRA : Blk (wr.alloc (.cells #[.string A, .string x.body] 9)) w.heap.size (rcCells x) 29 := HR2.out.alloc _
        have hST : StrsIn (wr.alloc (.cells #[.string A, .string x.body] 9)) (.slice (some ⟨wr.heap.size, 0, none⟩) 2 2) [A, x.body] := by
          refine ⟨_, 2, rfl, fun _ => ⟨wr.heap.size, 0, rfl, fun j hj => ?_⟩⟩
          have : j = 0 ∨ j = 1 := by simp at hj; omega
          rcases this with rfl | rfl
          · exact (Blk.new wr _ _).cell rfl
          · exact (Blk.new wr _ _).cell rfl
        refine (crcSum_any _ [A, x.body] _ (HT.out.below hWA hw0) hST (by simp) (fun j => ?_)).mono ?_
        · have : j = 0 ∨ j = 1 ∨ 2 ≤ j := by omega
          rcases this with rfl | rfl | h2
          · show A.size ≤ _; omega
          · show x.body.size ≤ _; omega
          · rw [List.getD_eq_getElem?_getD, List.getElem?_eq_none (by simpa using h2)]; simp [ByteArray.size]
        rintro e w5 ⟨rfl, rfl⟩
        rw [Hcat.out, HC.out]
        go_wp2_with fail
        refine (put_any C 4 _ (by omega) (by omega) (by omega) (by omega)).mono ?_
        rintro e w3 ⟨rfl, hb3⟩
        rw [HZ.out]
        have hR3 : Blk w3 w.heap.size (rcCells x) 29 := (Mod.of_below hb3 []).blk hRA (by simp)
        have r6' : w3.cell? ⟨w.heap.size, 6, none⟩ = some (.string x.body) := hR3.cell rfl
        have hlt3 := hR3.lt
        have hW3 : Below w.heap.size w w3 := hWA.trans (hb3.mono (Nat.le_of_lt hlts))
        have HW3 := Lib.hid hW3
        clear hR3 hW3 hb3 hST hRA hWA hlts r6
        go_upto_region 10 with fail
        first | (go_region_with (first
          | (go_at_call 21; refine (xor_Zero.calls 39 (zerosB 39) _ rfl).mono ?_; rintro e w4 ⟨rfl, hb4⟩; rw [HO.out]; have r7 : w4.cell? ⟨w.heap.size, 6, none⟩ = some (.string x.body) := (hb4.cell (by exact hlt3)).trans r6'; have HB4 := Lib.hid hb4; clear hb4))) | (exfalso; fail)
        all_goals
          have hlW := HW3.out.size
          go_wp2_with fail
          go_ret2
          refine ⟨?_, HW3.out.drew.trans (HB4.out.mono (by exact hlW))⟩
          exact congrArg (fun s => Ending.returned (.tuple #[.string s, .int .i64 0])) (by rw [Hfin.out, HC.out])

end Go.Proofs.YtadpeopbfoppjaaDoor
