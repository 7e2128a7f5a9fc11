/-
  Walks of record.fields, right.
-/
import Derived.Test.YtadpeopbfoppjaaDoorRC1
import Derived.Laws.EntriesVeiled
namespace Go.Proofs.YtadpeopbfoppjaaDoor
open Go.RowKit

theorem field1_any (b : Nat) (w : World) : Calls Tryd.prog 28 #[.pointer (some ⟨b, 0, none⟩)] w fun e w' => e = .returned (.pointer (some ⟨b, 0, none⟩)) ∧ w = w' := by
  go_enter Tryd.func28, Tryd.ntmps28
  go_wp2
  go_ret
  exact ⟨rfl, rfl⟩
theorem field2_any (b : Nat) (w : World) : Calls Tryd.prog 29 #[.pointer (some ⟨b, 0, none⟩)] w fun e w' => e = .returned (.pointer (some ⟨b, 1, none⟩)) ∧ w = w' := by
  go_enter Tryd.func29, Tryd.ntmps29
  go_wp2
  go_ret
  exact ⟨rfl, rfl⟩
theorem field3_any (b : Nat) (w : World) : Calls Tryd.prog 30 #[.pointer (some ⟨b, 0, none⟩)] w fun e w' => e = .returned (.pointer (some ⟨b, 2, none⟩)) ∧ w = w' := by
  go_enter Tryd.func30, Tryd.ntmps30
  go_wp2
  go_ret
  exact ⟨rfl, rfl⟩
theorem field4_any (b : Nat) (w : World) : Calls Tryd.prog 31 #[.pointer (some ⟨b, 0, none⟩)] w fun e w' => e = .returned (.pointer (some ⟨b, 3, none⟩)) ∧ w = w' := by
  go_enter Tryd.func31, Tryd.ntmps31
  go_wp2
  go_ret
  exact ⟨rfl, rfl⟩
theorem field5_any (b : Nat) (w : World) : Calls Tryd.prog 32 #[.pointer (some ⟨b, 0, none⟩)] w fun e w' => e = .returned (.pointer (some ⟨b, 4, none⟩)) ∧ w = w' := by
  go_enter Tryd.func32, Tryd.ntmps32
  go_wp2
  go_ret
  exact ⟨rfl, rfl⟩
theorem field6_any (b : Nat) (w : World) : Calls Tryd.prog 33 #[.pointer (some ⟨b, 0, none⟩)] w fun e w' => e = .returned (.pointer (some ⟨b, 5, none⟩)) ∧ w = w' := by
  go_enter Tryd.func33, Tryd.ntmps33
  go_wp2
  go_ret
  exact ⟨rfl, rfl⟩

/-- The cells of the table of fields. -/
def fieldCells : Array Value := #[.int .i64 2, .int .i64 1, .int .i64 6, .func (.func 28) #[] #[], .int .i64 3, .int .i64 6, .int .i64 1099511627776, .func (.func 29) #[] #[],
  .int .i64 9, .int .i64 2, .int .i64 65535, .func (.func 30) #[] #[], .int .i64 11, .int .i64 2, .int .i64 65535, .func (.func 31) #[] #[],
  .int .i64 13, .int .i64 6, .int .i64 1099511627776, .func (.func 32) #[] #[], .int .i64 19, .int .i64 2, .int .i64 65535, .func (.func 33) #[] #[]]

theorem fields_any (w : World) : Calls Tryd.prog 18 #[] w fun e w' => e = .returned (.slice (some ⟨w.heap.size, 0, none⟩) 6 6) ∧ w.alloc (.cells fieldCells 58) = w' := by
  go_enter Tryd.func18, Tryd.ntmps18
  go_wp2
  go_ret
  exact ⟨rfl, rfl⟩

/-- A record. -/
structure Rc where
  kind : Int
  seq : Int
  a : Int
  b : Int
  c : Int
  d : Int
  body : ByteArray

def Rc.fld (x : Rc) (k : Nat) : Int := match k with | 0 => x.kind | 1 => x.seq | 2 => x.a | 3 => x.b | 4 => x.c | _ => x.d
def fMost (k : Nat) : Int := match k with | 0 => 6 | 1 => 1099511627776 | 2 => 65535 | 3 => 65535 | 4 => 1099511627776 | _ => 65535
def fWide (k : Nat) : Nat := match k with | 0 => 1 | 1 => 6 | 2 => 2 | 3 => 2 | 4 => 6 | _ => 2
def fAt (k : Nat) : Nat := match k with | 0 => 2 | 1 => 3 | 2 => 9 | 3 => 11 | 4 => 13 | _ => 19
def Rc.okTo (x : Rc) (k : Nat) : Bool := (List.range k).all fun j => decide (0 ≤ x.fld j) && decide (x.fld j ≤ fMost j)
def rightF (x : Rc) : Bool := x.okTo 6 && decide (1 ≤ x.kind)

theorem okTo_succ (x : Rc) (k : Nat) : x.okTo (k + 1) = (x.okTo k && (decide (0 ≤ x.fld k) && decide (x.fld k ≤ fMost k))) := by
  unfold Rc.okTo
  rw [List.range_succ, List.all_append]
  simp
theorem okTo_no {x : Rc} {k : Nat} (hk : k < 6) (h : x.fld k < 0 ∨ fMost k < x.fld k) : rightF x = false := by
  unfold rightF Rc.okTo
  have : ((List.range 6).all fun j => decide (0 ≤ x.fld j) && decide (x.fld j ≤ fMost j)) = false := by
    rw [List.all_eq_false]
    refine ⟨k, List.mem_range.2 hk, ?_⟩
    simp only [Bool.and_eq_true, decide_eq_true_eq]
    omega
  rw [this]; rfl

def rcCells (x : Rc) : Array Value := #[.int .i64 x.kind, .int .i64 x.seq, .int .i64 x.a, .int .i64 x.b, .int .i64 x.c, .int .i64 x.d, .string x.body]

set_option maxHeartbeats 4000000 in
set_option maxRecDepth 100000 in
theorem right_any (b : Nat) (x : Rc) (w : World) (hb : Blk w b (rcCells x) 29) :
    Calls Tryd.prog 17 #[.pointer (some ⟨b, 0, none⟩)] w fun e w' => e = .returned (.bool (rightF x)) ∧ Below w.heap.size w w' := by
  have Hb := Lib.hid hb
  have hbl := hb.lt
  clear hb
  go_enter Tryd.func17, Tryd.ntmps17
  go_wp2_with fail
  refine (fields_any _).mono ?_
  rintro e w1 ⟨rfl, rfl⟩
  go_wp2_with fail
  go_loopw [8] (fun s8 wr => ∃ k : Nat, s8 = .int .i64 k ∧ k ≤ 6 ∧ x.okTo k = true ∧ Blk wr w.heap.size fieldCells 58 ∧ Blk wr b (rcCells x) 29 ∧ Below w.heap.size w wr) (fun s8 _ => 6 - (intOf s8).toNat)
  case atStart => exact ⟨0, rfl, by omega, rfl, Blk.new w _ _, Hb.out.alloc _, (Below.refl _ _).alloc (Nat.le_refl _) _⟩
  case round =>
    obtain ⟨k, rfl, hk, hok, hF, hR, hW⟩ := hrel
    have Hok := Lib.hid hok; have HF := Lib.hid hF; have HR := Lib.hid hR; have HW := Lib.hid hW
    have hlf := hF.lt
    have hlr := hR.lt
    have hsz := hW.size
    clear hok hF hR hW
    have hcase : k = 0 ∨ k = 1 ∨ k = 2 ∨ k = 3 ∨ k = 4 ∨ k = 5 ∨ k = 6 := by omega
    rcases hcase with rfl | rfl | rfl | rfl | rfl | rfl | rfl
    · have q0 : wr.cell? ⟨w.heap.size, 0, none⟩ = some (.int .i64 2) := HF.out.cell rfl
      have q1 : wr.cell? ⟨w.heap.size, 1, none⟩ = some (.int .i64 1) := HF.out.cell rfl
      have q2 : wr.cell? ⟨w.heap.size, 2, none⟩ = some (.int .i64 6) := HF.out.cell rfl
      have q3 : wr.cell? ⟨w.heap.size, 3, none⟩ = some (.func (.func 28) #[] #[]) := HF.out.cell rfl
      have r0 : wr.cell? ⟨b, 0, none⟩ = some (.int .i64 x.kind) := HR.out.cell rfl
      by_cases h1 : x.kind < 0
      · have Hf := Lib.hid (okTo_no (x := x) (k := 0) (by omega) (.inl h1))
        go_wp2_with fail
        refine (field1_any b _).mono ?_
        rintro e w2 ⟨rfl, rfl⟩
        go_wp2_with fail
        go_ret
        exact ⟨by rw [Hf.out]; rfl, HW.out.alloc hsz _⟩
      · by_cases h2 : 6 < x.kind
        · have Hf := Lib.hid (okTo_no (x := x) (k := 0) (by omega) (.inr h2))
          have d1 : decide (x.kind < 0) = false := by simpa using h1
          go_wp2_with fail
          refine (field1_any b _).mono ?_
          rintro e w2 ⟨rfl, rfl⟩
          go_wp2_with fail
          go_ret
          exact ⟨by rw [Hf.out]; rfl, HW.out.alloc hsz _⟩
        · have Hf : Hid (x.okTo 1 = true) := by
            show _ = _
            rw [okTo_succ, Hok.out]
            simp only [Bool.and_eq_true, decide_eq_true_eq, true_and]
            exact ⟨by show 0 ≤ x.kind; omega, by show x.kind ≤ 6; omega⟩
          have d1 : decide (x.kind < 0) = false := by simpa using h1
          have d2 : decide (6 < x.kind) = false := by simpa using h2
          go_wp2_with fail
          refine (field1_any b _).mono ?_
          rintro e w2 ⟨rfl, rfl⟩
          go_wp2_with fail
          go_roundw
          case rel => exact ⟨1, rfl, by omega, Hf.out, HF.out.alloc _, HR.out.alloc _, HW.out.alloc hsz _⟩
          case measure => simp [intOf]
    · have q0 : wr.cell? ⟨w.heap.size, 4, none⟩ = some (.int .i64 3) := HF.out.cell rfl
      have q1 : wr.cell? ⟨w.heap.size, 5, none⟩ = some (.int .i64 6) := HF.out.cell rfl
      have q2 : wr.cell? ⟨w.heap.size, 6, none⟩ = some (.int .i64 1099511627776) := HF.out.cell rfl
      have q3 : wr.cell? ⟨w.heap.size, 7, none⟩ = some (.func (.func 29) #[] #[]) := HF.out.cell rfl
      have r0 : wr.cell? ⟨b, 1, none⟩ = some (.int .i64 x.seq) := HR.out.cell rfl
      by_cases h1 : x.seq < 0
      · have Hf := Lib.hid (okTo_no (x := x) (k := 1) (by omega) (.inl h1))
        go_wp2_with fail
        refine (field2_any b _).mono ?_
        rintro e w2 ⟨rfl, rfl⟩
        go_wp2_with fail
        go_ret
        exact ⟨by rw [Hf.out]; rfl, HW.out.alloc hsz _⟩
      · by_cases h2 : 1099511627776 < x.seq
        · have Hf := Lib.hid (okTo_no (x := x) (k := 1) (by omega) (.inr h2))
          have d1 : decide (x.seq < 0) = false := by simpa using h1
          go_wp2_with fail
          refine (field2_any b _).mono ?_
          rintro e w2 ⟨rfl, rfl⟩
          go_wp2_with fail
          go_ret
          exact ⟨by rw [Hf.out]; rfl, HW.out.alloc hsz _⟩
        · have Hf : Hid (x.okTo 2 = true) := by
            show _ = _
            rw [okTo_succ, Hok.out]
            simp only [Bool.and_eq_true, decide_eq_true_eq, true_and]
            exact ⟨by show 0 ≤ x.seq; omega, by show x.seq ≤ 1099511627776; omega⟩
          have d1 : decide (x.seq < 0) = false := by simpa using h1
          have d2 : decide (1099511627776 < x.seq) = false := by simpa using h2
          go_wp2_with fail
          refine (field2_any b _).mono ?_
          rintro e w2 ⟨rfl, rfl⟩
          go_wp2_with fail
          go_roundw
          case rel => exact ⟨2, rfl, by omega, Hf.out, HF.out.alloc _, HR.out.alloc _, HW.out.alloc hsz _⟩
          case measure => simp [intOf]
    · have q0 : wr.cell? ⟨w.heap.size, 8, none⟩ = some (.int .i64 9) := HF.out.cell rfl
      have q1 : wr.cell? ⟨w.heap.size, 9, none⟩ = some (.int .i64 2) := HF.out.cell rfl
      have q2 : wr.cell? ⟨w.heap.size, 10, none⟩ = some (.int .i64 65535) := HF.out.cell rfl
      have q3 : wr.cell? ⟨w.heap.size, 11, none⟩ = some (.func (.func 30) #[] #[]) := HF.out.cell rfl
      have r0 : wr.cell? ⟨b, 2, none⟩ = some (.int .i64 x.a) := HR.out.cell rfl
      by_cases h1 : x.a < 0
      · have Hf := Lib.hid (okTo_no (x := x) (k := 2) (by omega) (.inl h1))
        go_wp2_with fail
        refine (field3_any b _).mono ?_
        rintro e w2 ⟨rfl, rfl⟩
        go_wp2_with fail
        go_ret
        exact ⟨by rw [Hf.out]; rfl, HW.out.alloc hsz _⟩
      · by_cases h2 : 65535 < x.a
        · have Hf := Lib.hid (okTo_no (x := x) (k := 2) (by omega) (.inr h2))
          have d1 : decide (x.a < 0) = false := by simpa using h1
          go_wp2_with fail
          refine (field3_any b _).mono ?_
          rintro e w2 ⟨rfl, rfl⟩
          go_wp2_with fail
          go_ret
          exact ⟨by rw [Hf.out]; rfl, HW.out.alloc hsz _⟩
        · have Hf : Hid (x.okTo 3 = true) := by
            show _ = _
            rw [okTo_succ, Hok.out]
            simp only [Bool.and_eq_true, decide_eq_true_eq, true_and]
            exact ⟨by show 0 ≤ x.a; omega, by show x.a ≤ 65535; omega⟩
          have d1 : decide (x.a < 0) = false := by simpa using h1
          have d2 : decide (65535 < x.a) = false := by simpa using h2
          go_wp2_with fail
          refine (field3_any b _).mono ?_
          rintro e w2 ⟨rfl, rfl⟩
          go_wp2_with fail
          go_roundw
          case rel => exact ⟨3, rfl, by omega, Hf.out, HF.out.alloc _, HR.out.alloc _, HW.out.alloc hsz _⟩
          case measure => simp [intOf]
    · have q0 : wr.cell? ⟨w.heap.size, 12, none⟩ = some (.int .i64 11) := HF.out.cell rfl
      have q1 : wr.cell? ⟨w.heap.size, 13, none⟩ = some (.int .i64 2) := HF.out.cell rfl
      have q2 : wr.cell? ⟨w.heap.size, 14, none⟩ = some (.int .i64 65535) := HF.out.cell rfl
      have q3 : wr.cell? ⟨w.heap.size, 15, none⟩ = some (.func (.func 31) #[] #[]) := HF.out.cell rfl
      have r0 : wr.cell? ⟨b, 3, none⟩ = some (.int .i64 x.b) := HR.out.cell rfl
      by_cases h1 : x.b < 0
      · have Hf := Lib.hid (okTo_no (x := x) (k := 3) (by omega) (.inl h1))
        go_wp2_with fail
        refine (field4_any b _).mono ?_
        rintro e w2 ⟨rfl, rfl⟩
        go_wp2_with fail
        go_ret
        exact ⟨by rw [Hf.out]; rfl, HW.out.alloc hsz _⟩
      · by_cases h2 : 65535 < x.b
        · have Hf := Lib.hid (okTo_no (x := x) (k := 3) (by omega) (.inr h2))
          have d1 : decide (x.b < 0) = false := by simpa using h1
          go_wp2_with fail
          refine (field4_any b _).mono ?_
          rintro e w2 ⟨rfl, rfl⟩
          go_wp2_with fail
          go_ret
          exact ⟨by rw [Hf.out]; rfl, HW.out.alloc hsz _⟩
        · have Hf : Hid (x.okTo 4 = true) := by
            show _ = _
            rw [okTo_succ, Hok.out]
            simp only [Bool.and_eq_true, decide_eq_true_eq, true_and]
            exact ⟨by show 0 ≤ x.b; omega, by show x.b ≤ 65535; omega⟩
          have d1 : decide (x.b < 0) = false := by simpa using h1
          have d2 : decide (65535 < x.b) = false := by simpa using h2
          go_wp2_with fail
          refine (field4_any b _).mono ?_
          rintro e w2 ⟨rfl, rfl⟩
          go_wp2_with fail
          go_roundw
          case rel => exact ⟨4, rfl, by omega, Hf.out, HF.out.alloc _, HR.out.alloc _, HW.out.alloc hsz _⟩
          case measure => simp [intOf]
    · have q0 : wr.cell? ⟨w.heap.size, 16, none⟩ = some (.int .i64 13) := HF.out.cell rfl
      have q1 : wr.cell? ⟨w.heap.size, 17, none⟩ = some (.int .i64 6) := HF.out.cell rfl
      have q2 : wr.cell? ⟨w.heap.size, 18, none⟩ = some (.int .i64 1099511627776) := HF.out.cell rfl
      have q3 : wr.cell? ⟨w.heap.size, 19, none⟩ = some (.func (.func 32) #[] #[]) := HF.out.cell rfl
      have r0 : wr.cell? ⟨b, 4, none⟩ = some (.int .i64 x.c) := HR.out.cell rfl
      by_cases h1 : x.c < 0
      · have Hf := Lib.hid (okTo_no (x := x) (k := 4) (by omega) (.inl h1))
        go_wp2_with fail
        refine (field5_any b _).mono ?_
        rintro e w2 ⟨rfl, rfl⟩
        go_wp2_with fail
        go_ret
        exact ⟨by rw [Hf.out]; rfl, HW.out.alloc hsz _⟩
      · by_cases h2 : 1099511627776 < x.c
        · have Hf := Lib.hid (okTo_no (x := x) (k := 4) (by omega) (.inr h2))
          have d1 : decide (x.c < 0) = false := by simpa using h1
          go_wp2_with fail
          refine (field5_any b _).mono ?_
          rintro e w2 ⟨rfl, rfl⟩
          go_wp2_with fail
          go_ret
          exact ⟨by rw [Hf.out]; rfl, HW.out.alloc hsz _⟩
        · have Hf : Hid (x.okTo 5 = true) := by
            show _ = _
            rw [okTo_succ, Hok.out]
            simp only [Bool.and_eq_true, decide_eq_true_eq, true_and]
            exact ⟨by show 0 ≤ x.c; omega, by show x.c ≤ 1099511627776; omega⟩
          have d1 : decide (x.c < 0) = false := by simpa using h1
          have d2 : decide (1099511627776 < x.c) = false := by simpa using h2
          go_wp2_with fail
          refine (field5_any b _).mono ?_
          rintro e w2 ⟨rfl, rfl⟩
          go_wp2_with fail
          go_roundw
          case rel => exact ⟨5, rfl, by omega, Hf.out, HF.out.alloc _, HR.out.alloc _, HW.out.alloc hsz _⟩
          case measure => simp [intOf]
    · have q0 : wr.cell? ⟨w.heap.size, 20, none⟩ = some (.int .i64 19) := HF.out.cell rfl
      have q1 : wr.cell? ⟨w.heap.size, 21, none⟩ = some (.int .i64 2) := HF.out.cell rfl
      have q2 : wr.cell? ⟨w.heap.size, 22, none⟩ = some (.int .i64 65535) := HF.out.cell rfl
      have q3 : wr.cell? ⟨w.heap.size, 23, none⟩ = some (.func (.func 33) #[] #[]) := HF.out.cell rfl
      have r0 : wr.cell? ⟨b, 5, none⟩ = some (.int .i64 x.d) := HR.out.cell rfl
      by_cases h1 : x.d < 0
      · have Hf := Lib.hid (okTo_no (x := x) (k := 5) (by omega) (.inl h1))
        go_wp2_with fail
        refine (field6_any b _).mono ?_
        rintro e w2 ⟨rfl, rfl⟩
        go_wp2_with fail
        go_ret
        exact ⟨by rw [Hf.out]; rfl, HW.out.alloc hsz _⟩
      · by_cases h2 : 65535 < x.d
        · have Hf := Lib.hid (okTo_no (x := x) (k := 5) (by omega) (.inr h2))
          have d1 : decide (x.d < 0) = false := by simpa using h1
          go_wp2_with fail
          refine (field6_any b _).mono ?_
          rintro e w2 ⟨rfl, rfl⟩
          go_wp2_with fail
          go_ret
          exact ⟨by rw [Hf.out]; rfl, HW.out.alloc hsz _⟩
        · have Hf : Hid (x.okTo 6 = true) := by
            show _ = _
            rw [okTo_succ, Hok.out]
            simp only [Bool.and_eq_true, decide_eq_true_eq, true_and]
            exact ⟨by show 0 ≤ x.d; omega, by show x.d ≤ 65535; omega⟩
          have d1 : decide (x.d < 0) = false := by simpa using h1
          have d2 : decide (65535 < x.d) = false := by simpa using h2
          go_wp2_with fail
          refine (field6_any b _).mono ?_
          rintro e w2 ⟨rfl, rfl⟩
          go_wp2_with fail
          go_roundw
          case rel => exact ⟨6, rfl, by omega, Hf.out, HF.out.alloc _, HR.out.alloc _, HW.out.alloc hsz _⟩
          case measure => simp [intOf]
    · have r0 : wr.cell? ⟨b, 0, none⟩ = some (.int .i64 x.kind) := HR.out.cell rfl
      have Hf : Hid (rightF x = decide (1 ≤ x.kind)) := by
        show _ = _
        unfold rightF; rw [Hok.out]; rfl
      go_wp2_with fail
      go_ret
      exact ⟨by rw [Hf.out]; first | rfl | simp, HW.out⟩

end Go.Proofs.YtadpeopbfoppjaaDoor
