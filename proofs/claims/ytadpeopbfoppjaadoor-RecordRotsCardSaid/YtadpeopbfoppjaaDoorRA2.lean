/-
  Walk of RecordEncodes.
-/
import Derived.Test.YtadpeopbfoppjaaDoorRA1
import Derived.Test.YtadpeopbfoppjaaDoorRG2
namespace Go.Proofs.YtadpeopbfoppjaaDoor
open Go.RowKit
set_option linter.unusedVariables false
set_option linter.unusedSimpArgs false


set_option maxHeartbeats 8000000 in
set_option maxRecDepth 100000 in
theorem encodes_walk (x : Rc) (w : World) (hN : TabIn w) (hx : x.body.size ≤ 140737488351232) :
    Calls Tryd.prog 3 #[.agg #[.int .i64 x.kind, .int .i64 x.seq, .int .i64 x.a, .int .i64 x.b, .int .i64 x.c, .int .i64 x.d, .string x.body]] w fun e w' => e = .returned (.bool true) ∧ Below w.heap.size w w' := by
  have HN := Lib.hid hN
  have hw0 := hN.lt
  clear hN
  have hS1 : Below w.heap.size w (w.alloc (.cells (rcCells x) 23)) := Below.alloc1 (Below.refl _ _) _
  go_enter Tryd.func3, Tryd.ntmps3
  go_wp2_with fail
  refine (Y.corbellaw06_speaks.calls true _ Y.speaks_ev (HN.out.below hS1 hw0)).mono ?_
  rintro e w1 ⟨rfl, hb1⟩
  have hB1 : Blk w1 w.heap.size (rcCells x) 23 := (Mod.of_below hb1 []).blk (Blk.new w _ _) (by simp)
  have hW1 : Below w.heap.size w w1 := hS1.trans (hb1.mono hS1.size)
  have HB1 := Lib.hid hB1; have HW1 := Lib.hid hW1
  have x0 : w1.cell? ⟨w.heap.size, 0, none⟩ = some (.int .i64 x.kind) := hB1.cell rfl
  have x1 : w1.cell? ⟨w.heap.size, 1, none⟩ = some (.int .i64 x.seq) := hB1.cell rfl
  have x2 : w1.cell? ⟨w.heap.size, 2, none⟩ = some (.int .i64 x.a) := hB1.cell rfl
  have x3 : w1.cell? ⟨w.heap.size, 3, none⟩ = some (.int .i64 x.b) := hB1.cell rfl
  have x4 : w1.cell? ⟨w.heap.size, 4, none⟩ = some (.int .i64 x.c) := hB1.cell rfl
  have x5 : w1.cell? ⟨w.heap.size, 5, none⟩ = some (.int .i64 x.d) := hB1.cell rfl
  have x6 : w1.cell? ⟨w.heap.size, 6, none⟩ = some (.string x.body) := hB1.cell rfl
  clear hb1 hB1 hW1 hS1
  go_wp2_with fail
  refine (whole_rc x _ (by omega)).mono ?_
  rintro e w2 ⟨rfl, hb2⟩
  have hB2 : Blk w2 w.heap.size (rcCells x) 23 := (Mod.of_below hb2 []).blk HB1.out (by simp)
  have hW2 : Below w.heap.size w w2 := HW1.out.trans (hb2.mono HW1.out.size)
  have hsz2 := hW2.size
  have hlt2 := hB2.lt
  obtain ⟨A, hA⟩ : ∃ A, whR x = A := ⟨_, rfl⟩
  have hAs : A.body.size ≤ 140737488351232 := by rw [← hA]; exact whole_le x hx
  rw [hA]
  have hB3 : Blk (((((((w2.setCell ⟨w.heap.size, 0, none⟩ (.int .i64 A.kind)).setCell ⟨w.heap.size, 1, none⟩ (.int .i64 A.seq)).setCell ⟨w.heap.size, 2, none⟩ (.int .i64 A.a)).setCell ⟨w.heap.size, 3, none⟩ (.int .i64 A.b)).setCell ⟨w.heap.size, 4, none⟩ (.int .i64 A.c)).setCell ⟨w.heap.size, 5, none⟩ (.int .i64 A.d)).setCell ⟨w.heap.size, 6, none⟩ (.string A.body)) w.heap.size (rcCells A) 23 :=
    ((((((hB2.set 0 _).set 1 _).set 2 _).set 3 _).set 4 _).set 5 _).set 6 _
  have hW3 : Below w.heap.size w (((((((w2.setCell ⟨w.heap.size, 0, none⟩ (.int .i64 A.kind)).setCell ⟨w.heap.size, 1, none⟩ (.int .i64 A.seq)).setCell ⟨w.heap.size, 2, none⟩ (.int .i64 A.a)).setCell ⟨w.heap.size, 3, none⟩ (.int .i64 A.b)).setCell ⟨w.heap.size, 4, none⟩ (.int .i64 A.c)).setCell ⟨w.heap.size, 5, none⟩ (.int .i64 A.d)).setCell ⟨w.heap.size, 6, none⟩ (.string A.body)) :=
    ((((((hW2.setCell (Nat.le_refl _) _).setCell (Nat.le_refl _) _).setCell (Nat.le_refl _) _).setCell (Nat.le_refl _) _).setCell (Nat.le_refl _) _).setCell (Nat.le_refl _) _).setCell (Nat.le_refl _) _
  have y0 : w2.cell? ⟨w.heap.size, 0, none⟩ = some (.int .i64 x.kind) := hB2.cell rfl
  have y1 : w2.cell? ⟨w.heap.size, 1, none⟩ = some (.int .i64 x.seq) := hB2.cell rfl
  have y2 : w2.cell? ⟨w.heap.size, 2, none⟩ = some (.int .i64 x.a) := hB2.cell rfl
  have y3 : w2.cell? ⟨w.heap.size, 3, none⟩ = some (.int .i64 x.b) := hB2.cell rfl
  have y4 : w2.cell? ⟨w.heap.size, 4, none⟩ = some (.int .i64 x.c) := hB2.cell rfl
  have y5 : w2.cell? ⟨w.heap.size, 5, none⟩ = some (.int .i64 x.d) := hB2.cell rfl
  have y6 : w2.cell? ⟨w.heap.size, 6, none⟩ = some (.string x.body) := hB2.cell rfl
  have f0 := hB2.frozen 0
  have f1 := hB2.frozen 1
  have f2 := hB2.frozen 2
  have f3 := hB2.frozen 3
  have f4 := hB2.frozen 4
  have f5 := hB2.frozen 5
  have f6 := hB2.frozen 6
  have HB3 := Lib.hid hB3; have HW3 := Lib.hid hW3
  have HA := Lib.hid hA
  clear hA hB3 hW3 hb2 hB2 hW2 x0 x1 x2 x3 x4 x5 x6
  by_cases hbig : A.body.size ≤ 1000
  · have hd : decide ((1000 : Int) < (A.body.size : Int)) = false := decide_eq_false (by omega)
    go_wp2_with fail
    refine (encode_any A _ (HN.out.below HW3.out hw0) (Nat.lt_of_lt_of_le hw0 HW3.out.size) (by omega)).mono ?_
    rintro e w4 ⟨rfl, hb4⟩
    have hB4 : Blk w4 w.heap.size (rcCells A) 23 := (Mod.of_below hb4 []).blk HB3.out (by simp)
    have hW4 : Below w.heap.size w w4 := HW3.out.trans (hb4.mono HW3.out.size)
    have HB4 := Lib.hid hB4; have HW4 := Lib.hid hW4
    have z0 : w4.cell? ⟨w.heap.size, 0, none⟩ = some (.int .i64 A.kind) := hB4.cell rfl
    have z1 : w4.cell? ⟨w.heap.size, 1, none⟩ = some (.int .i64 A.seq) := hB4.cell rfl
    have z2 : w4.cell? ⟨w.heap.size, 2, none⟩ = some (.int .i64 A.a) := hB4.cell rfl
    have z3 : w4.cell? ⟨w.heap.size, 3, none⟩ = some (.int .i64 A.b) := hB4.cell rfl
    have z4 : w4.cell? ⟨w.heap.size, 4, none⟩ = some (.int .i64 A.c) := hB4.cell rfl
    have z5 : w4.cell? ⟨w.heap.size, 5, none⟩ = some (.int .i64 A.d) := hB4.cell rfl
    have z6 : w4.cell? ⟨w.heap.size, 6, none⟩ = some (.string A.body) := hB4.cell rfl
    clear hb4 hB4 hW4 y0 y1 y2 y3 y4 y5 y6 f0 f1 f2 f3 f4 f5 f6
    cases hg : goodR A with
    | true =>
      have g1 : (encF A).2 = 0 := by rw [Y.encF_good hg]
      obtain ⟨S, hS⟩ : ∃ S, str (encTxt A) = S := ⟨_, rfl⟩
      have g2 : (encF A).1 = S := by rw [Y.encF_good hg]; exact hS
      have hSz : S.size ≠ 0 := by rw [← hS]; show (encTxt A).length ≠ 0; rw [encTxt_len]; omega
      have hSe := empty_false S hSz
      have hnk := ((good_iff A).1 hg).1.1
      have HR := Lib.hid (fun W => refEncode_ok A W hg)
      rw [hS] at HR
      clear hg hS hSz
      go_wp2_with fail
      refine (HR.out _).mono ?_
      rintro e w6 ⟨rfl, hb6⟩
      have hB6 : Blk w6 w.heap.size (rcCells A) 23 := (Mod.of_below hb6 []).blk HB4.out (by simp)
      have HW6 := Lib.hid (HW4.out.trans (hb6.mono HW4.out.size))
      have v0 : w6.cell? ⟨w.heap.size, 0, none⟩ = some (.int .i64 A.kind) := hB6.cell rfl
      clear hb6 hB6 z0 z1 z2 z3 z4 z5 z6
      have h1 : (1 : Int) ≤ A.kind := hnk.1
      have h6 : A.kind ≤ 6 := hnk.2
      clear hnk
      by_cases h4 : A.kind = 4
      · have HNN : Hid ((if A.kind < 1 ∨ 6 < A.kind then (0 : Int) else if A.kind = 4 then 2 else 1) = 2) := by show _ = _; rw [if_neg (by omega), if_pos h4]
        have hk4 : (A.kind == 4) = true := by rw [h4]; rfl
        clear h4
        go_wp2_with fail
        refine (blocks_any _ _).mono ?_
        rw [HNN.out]
        rintro e w9 ⟨rfl, rfl⟩
        go_wp2_with fail
        go_ret
        exact ⟨rfl, HW6.out⟩
      · have HNN : Hid ((if A.kind < 1 ∨ 6 < A.kind then (0 : Int) else if A.kind = 4 then 2 else 1) = 1) := by show _ = _; rw [if_neg (by omega), if_neg h4]
        have hk4 : (A.kind == 4) = false := by simpa using h4
        clear h4
        go_wp2_with fail
        refine (blocks_any _ _).mono ?_
        rw [HNN.out]
        rintro e w9 ⟨rfl, rfl⟩
        go_wp2_with fail
        go_ret
        exact ⟨rfl, HW6.out⟩
    | false =>
      have g1 : (encF A).2 = 1 := by rw [Y.encF_bad hg]
      have g2 : (encF A).1 = ⟨#[]⟩ := by rw [Y.encF_bad hg]
      have hSe : (⟨#[]⟩ : ByteArray).toList.isEmpty = true := by rw [toL]; rfl
      have HR := Lib.hid (fun W => refEncode_no A W (by omega) hg)
      clear hg
      go_wp2_with fail
      refine (HR.out _).mono ?_
      rintro e w6 ⟨rfl, hb6⟩
      have hB6 : Blk w6 w.heap.size (rcCells A) 23 := (Mod.of_below hb6 []).blk HB4.out (by simp)
      have HW6 := Lib.hid (HW4.out.trans (hb6.mono HW4.out.size))
      have v0 : w6.cell? ⟨w.heap.size, 0, none⟩ = some (.int .i64 A.kind) := hB6.cell rfl
      clear hb6 hB6 z0 z1 z2 z3 z4 z5 z6
      by_cases h1 : A.kind < 1
      · have hd1 : decide (1 ≤ A.kind) = false := decide_eq_false (by omega)
        have HNN : Hid ((if A.kind < 1 ∨ 6 < A.kind then (0 : Int) else if A.kind = 4 then 2 else 1) = 0) := by show _ = _; rw [if_pos (by omega)]
        have hk4 : (A.kind == 4) = false := by simp; omega
        go_wp2_with fail
        refine (blocks_any _ _).mono ?_
        rw [HNN.out]
        rintro e w9 ⟨rfl, rfl⟩
        go_wp2_with fail
        go_ret
        exact ⟨rfl, HW6.out⟩
      · by_cases h6 : 6 < A.kind
        · have hd1 : (1 : Int) ≤ A.kind := by omega
          have hd6 : decide (A.kind ≤ 6) = false := decide_eq_false (by omega)
          have HNN : Hid ((if A.kind < 1 ∨ 6 < A.kind then (0 : Int) else if A.kind = 4 then 2 else 1) = 0) := by show _ = _; rw [if_pos (by omega)]
          have hk4 : (A.kind == 4) = false := by simp; omega
          go_wp2_with fail
          refine (blocks_any _ _).mono ?_
          rw [HNN.out]
          rintro e w9 ⟨rfl, rfl⟩
          go_wp2_with fail
          go_ret
          exact ⟨rfl, HW6.out⟩
        · have hd1 : (1 : Int) ≤ A.kind := by omega
          have hd6 : A.kind ≤ 6 := by omega
          by_cases h4 : A.kind = 4
          · have HNN : Hid ((if A.kind < 1 ∨ 6 < A.kind then (0 : Int) else if A.kind = 4 then 2 else 1) = 2) := by show _ = _; rw [if_neg (by omega), if_pos h4]
            have hk4 : (A.kind == 4) = true := by rw [h4]; rfl
            clear h4 h1 h6
            go_wp2_with fail
            refine (blocks_any _ _).mono ?_
            rw [HNN.out]
            rintro e w9 ⟨rfl, rfl⟩
            go_wp2_with fail
            go_ret
            exact ⟨rfl, HW6.out⟩
          · have HNN : Hid ((if A.kind < 1 ∨ 6 < A.kind then (0 : Int) else if A.kind = 4 then 2 else 1) = 1) := by show _ = _; rw [if_neg (by omega), if_neg h4]
            have hk4 : (A.kind == 4) = false := by simpa using h4
            clear h4 h1 h6
            go_wp2_with fail
            refine (blocks_any _ _).mono ?_
            rw [HNN.out]
            rintro e w9 ⟨rfl, rfl⟩
            go_wp2_with fail
            go_ret
            exact ⟨rfl, HW6.out⟩
  · have hd : decide ((1000 : Int) < (A.body.size : Int)) = true := decide_eq_true (by omega)
    go_wp2_with fail
    go_ret
    exact ⟨rfl, HW3.out⟩

end Go.Proofs.YtadpeopbfoppjaaDoor
