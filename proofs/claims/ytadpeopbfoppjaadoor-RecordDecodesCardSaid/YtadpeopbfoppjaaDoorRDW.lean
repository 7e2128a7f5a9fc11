/-
  Walk of RecordDecodes.
-/
import Derived.Test.YtadpeopbfoppjaaDoorRDI
namespace Go.Proofs.YtadpeopbfoppjaaDoor.E
open Go.RowKit Go.Proofs.YtadpeopbfoppjaaDoorW.PrintWords Go.Proofs.YtadpeopbfoppjaaDoorW.PrintLast Go.Proofs.YtadpeopbfoppjaaDoorW.PrintMore
set_option linter.unusedVariables false
set_option linter.unusedSimpArgs false

theorem rdS_at (rs : List Rc) (x : Int) (h0 : 0 ≤ x) (h1 : x < (rs.length : Int)) : ∃ R : Rc, rd_T29 (rs.map toS) x = toS R ∧ rd_T31 (rs.map toR) x = toR R := by
  obtain ⟨i, rfl⟩ := Int.eq_ofNat_of_zero_le h0
  have hi : i < rs.length := by omega
  refine ⟨rs[i], ?_, ?_⟩
  · unfold rd_T29; rw [Int.toNat_natCast]; exact rdS_get _ _ _ _ (by rw [List.getElem?_map, List.getElem?_eq_getElem hi]; rfl)
  · unfold rd_T31; rw [Int.toNat_natCast]; exact rdS_get _ _ _ _ (by rw [List.getElem?_map, List.getElem?_eq_getElem hi]; rfl)

theorem decode_tup (s : ByteArray) (w : World) (hT : TabIn w) (D : Rc × Int × Int) (hD : decL (bl s) = D) :
    Calls Tryd.prog 13 #[.string s] w fun e w' => e = .returned (.tuple #[.agg #[.int .i64 D.1.kind, .int .i64 D.1.seq, .int .i64 D.1.a, .int .i64 D.1.b, .int .i64 D.1.c, .int .i64 D.1.d, .string D.1.body], .int .i64 D.2.1, .int .i64 D.2.2]) ∧ Below w.heap.size w w' := by
  have h := decode_any s w hT hT.lt
  rw [dec_list, hD] at h
  exact h
theorem refdecode_tup (s : ByteArray) (w : World) (hs : s.size ≤ 1000000) (D : Rc × Int × Int) (hD : decL (bl s) = D) :
    Calls Tryd.prog 14 #[.string s] w fun e w' => e = .returned (.tuple #[.agg #[.int .i64 D.1.kind, .int .i64 D.1.seq, .int .i64 D.1.a, .int .i64 D.1.b, .int .i64 D.1.c, .int .i64 D.1.d, .string D.1.body], .int .i64 D.2.1, .int .i64 D.2.2]) ∧ Below w.heap.size w w' := by
  have h := refdec_ev s hs 100 (by omega)
  rw [hD] at h
  exact corbelref06_Decode.calls 100 s _ _ _ _ _ _ _ _ _ w h
theorem scan_tup (s : ByteArray) (w : World) (hT : TabIn w) (hs : s.size ≤ 3000) (X : List Rc × Nat) (hX : scanL 48 (bl s) = X) :
    Calls Tryd.prog 15 #[.string s] w fun e w' => ∃ (A : Option Addr) (c : Nat), e = .returned (.tuple #[.slice A X.1.length c, .int .i64 (X.2 : Int)]) ∧ Kd.C k29 w' A X.1.length (X.1.map toS) ∧ Below w.heap.size w w' := by
  have h1 : record_Scan.f 100 s = some (X.1.map toS, ((X.2 : Nat) : Int)) := by
    unfold record_Scan.f
    have := scan_ev s (by omega) 47 100 0 [] (by omega) (by omega) (by omega) (by simp)
    rw [show ((0 : Nat) : Int) = 0 from rfl, Nat.mul_zero, List.drop_zero, Nat.zero_add, List.nil_append, hX] at this
    exact this
  refine (record_Scan.calls 100 s _ _ w h1 hT).mono ?_
  rintro e w' ⟨v, rfl, hR, hb⟩
  obtain ⟨A, c, rfl, hl, hC⟩ := Kd.R_reads hR
  rw [List.length_map] at hC
  exact ⟨A, c, by rw [List.length_map], hC, hb⟩
theorem refscan_tup (s : ByteArray) (w : World) (hs : s.size ≤ 3000) (X : List Rc × Nat) (hX : scanL 48 (bl s) = X) :
    Calls Tryd.prog 16 #[.string s] w fun e w' => ∃ (A : Option Addr) (c : Nat), e = .returned (.tuple #[.slice A X.1.length c, .int .i64 (X.2 : Int)]) ∧ Kd.C k31 w' A X.1.length (X.1.map toR) ∧ Below w.heap.size w w' := by
  have h1 : corbelref06_Scan.f 100 s = some (X.1.map toR, ((X.2 : Nat) : Int)) := by
    unfold corbelref06_Scan.f
    have := refscan_ev 47 100 0 s [] (by omega) (by omega) (by omega) (by omega) (by simp)
    rw [show ((0 : Nat) : Int) = 0 from rfl, Nat.zero_add, List.nil_append, hX] at this
    exact this
  refine (corbelref06_Scan.calls 100 s _ _ w h1).mono ?_
  rintro e w' ⟨v, rfl, hR, hb⟩
  obtain ⟨A, c, rfl, hl, hC⟩ := Kd.R_reads hR
  rw [List.length_map] at hC
  exact ⟨A, c, by rw [List.length_map], hC, hb⟩

set_option maxHeartbeats 8000000 in
set_option maxRecDepth 100000 in
theorem decodes_walk (s : ByteArray) (w : World) (hN : TabIn w) (hs : s.size ≤ 140737488351232) :
    Calls Tryd.prog 6 #[.string s] w fun e w' => e = .returned (.bool true) ∧ Below w.heap.size w w' := by
  have HN := Lib.hid hN
  have hw0 := hN.lt
  clear hN
  by_cases hbig : s.size ≤ 3000
  · have hd : decide ((3000 : Int) < (s.size : Int)) = false := decide_eq_false (by omega)
    obtain ⟨D, hD⟩ : ∃ D, decL (bl s) = D := ⟨_, rfl⟩
    obtain ⟨X, hX⟩ : ∃ X, scanL 48 (bl s) = X := ⟨_, rfl⟩
    have hXl : X.1.length ≤ 48 := by rw [← hX]; exact scanL_len 48 (bl s) (by rw [bl_size]; omega)
    have HD := Lib.hid hD; have HX := Lib.hid hX
    clear hD hX
    go_enter Tryd.func6, Tryd.ntmps6
    go_wp2_with fail
    refine (corbellaw06_speaks.calls true _ speaks_ev HN.out).mono ?_
    rintro e w1 ⟨rfl, hb1⟩
    have HW1 := Lib.hid hb1
    clear hb1
    go_wp2_with fail
    refine (decode_tup s _ (HN.out.below HW1.out hw0) D HD.out).mono ?_
    rintro e w2 ⟨rfl, hb2⟩
    have HW2 := Lib.hid (HW1.out.trans (hb2.mono HW1.out.size))
    clear hb2
    go_wp2_with fail
    refine (refdecode_tup s _ (by omega) D HD.out).mono ?_
    rintro e w3 ⟨rfl, hb3⟩
    have hB3 : Blk w3 w2.heap.size (rcCells D.1) 29 := (Mod.of_below hb3 []).blk (Blk.new w2 _ _) (by simp)
    have hW3 : Below w.heap.size w w3 := (Below.alloc1 HW2.out _).trans (hb3.mono (Below.alloc1 HW2.out _).size)
    have HW3 := Lib.hid hW3
    have p0 : w3.cell? ⟨w2.heap.size, 0, none⟩ = some (.int .i64 D.1.kind) := hB3.cell rfl
    have p1 : w3.cell? ⟨w2.heap.size, 1, none⟩ = some (.int .i64 D.1.seq) := hB3.cell rfl
    have p2 : w3.cell? ⟨w2.heap.size, 2, none⟩ = some (.int .i64 D.1.a) := hB3.cell rfl
    have p3 : w3.cell? ⟨w2.heap.size, 3, none⟩ = some (.int .i64 D.1.b) := hB3.cell rfl
    have p4 : w3.cell? ⟨w2.heap.size, 4, none⟩ = some (.int .i64 D.1.c) := hB3.cell rfl
    have p5 : w3.cell? ⟨w2.heap.size, 5, none⟩ = some (.int .i64 D.1.d) := hB3.cell rfl
    have p6 : w3.cell? ⟨w2.heap.size, 6, none⟩ = some (.string D.1.body) := hB3.cell rfl
    have hl3 := hB3.lt
    clear hb3 hB3 hW3
    go_wp2_with fail
    have hW4 : Below w.heap.size w (w3.alloc (.cells (rcCells D.1) 31)) := Below.alloc1 HW3.out _
    have HW4 := Lib.hid hW4
    clear hW4 p0 p1 p2 p3 p4 p5 p6
    refine (scan_tup s _ (HN.out.below HW4.out hw0) hbig X HX.out).mono ?_
    rintro e w5 ⟨A1, c1, rfl, hC5, hb5⟩
    have HW5 := Lib.hid (HW4.out.trans (hb5.mono HW4.out.size))
    have HC5 := Lib.hid hC5
    clear hb5 hC5
    go_wp2_with fail
    refine (refscan_tup s _ hbig X HX.out).mono ?_
    rintro e w6 ⟨A2, c2, rfl, hC6, hb6⟩
    have HC7 := Lib.hid (Kd.C_below HC5.out hb6)
    have HC6 := Lib.hid hC6
    have HW6 := Lib.hid (HW5.out.trans (hb6.mono HW5.out.size))
    clear hb6 hC6
    obtain ⟨n, hn⟩ : ∃ n, X.1.length = n := ⟨_, rfl⟩
    have HLn := Lib.hid hn
    rw [hn]
    clear hn
    have hn48 : n ≤ 48 := by rw [← HLn.out]; exact hXl
    clear hXl
    go_wp2_with fail
    go_loopw [13] (fun s13 wr => ∃ x : Int, s13 = .int .i64 x ∧ 0 ≤ x ∧ x ≤ (n : Int) ∧ ∃ m, wr = w6.drewN m) (fun s13 _ => n - (intOf s13).toNat)
    case atStart => exact ⟨0, rfl, by omega, by omega, 0, rfl⟩
    case round =>
      obtain ⟨x, rfl, hx0, hxn, m, rfl⟩ := hrel
      by_cases hlt : x < (n : Int)
      · obtain ⟨R, hR1, hR2⟩ := rdS_at X.1 x hx0 (by rw [HLn.out]; exact hlt)
        have h7 := HC7.out
        have h6 := HC6.out
        rw [HLn.out] at h7 h6
        obtain ⟨ad1, e1, a0, a1, a2, a3, a4, a5, a6⟩ := at_T29 h7 x hx0 hlt
        obtain ⟨ad2, e2, b0, b1, b2, b3, b4, b5, b6⟩ := at_T31 h6 x hx0 hlt
        rw [hR1] at a0 a1 a2 a3 a4 a5 a6
        rw [hR2] at b0 b1 b2 b3 b4 b5 b6
        simp only [toS, toR] at a0 a1 a2 a3 a4 a5 a6 b0 b1 b2 b3 b4 b5 b6
        cases e1
        cases e2
        clear h6 h7 hR1 hR2
        have p := eq_true hx0
        have q := eq_true hlt
        go_wp2
        repeat (go_quiet (fail); try go_wp2)
        go_roundw
        case rel => exact ⟨x + 1, by go_num, by omega, by omega, ⟨_, rfl⟩⟩
        case measure => simp [intOf]; omega
      · obtain rfl : x = (n : Int) := by omega
        have hlt2 : decide ((n : Int) < (n : Int)) = false := by simp
        clear hlt
        go_wp2
        go_ret
        refine ⟨rfl, ?_⟩
        exact Below.drewN' HW6.out m
  · have hd : decide ((3000 : Int) < (s.size : Int)) = true := decide_eq_true (by omega)
    go_enter Tryd.func6, Tryd.ntmps6
    go_wp2_with fail
    refine (corbellaw06_speaks.calls true _ speaks_ev HN.out).mono ?_
    rintro e w1 ⟨rfl, hb1⟩
    have HW1 := Lib.hid hb1
    clear hb1
    go_wp2_with fail
    go_ret
    exact ⟨rfl, HW1.out⟩

end Go.Proofs.YtadpeopbfoppjaaDoor.E
