/-
  Walk of the law's text: so many bytes, whatever they are.
  Walk of the drive laws' speaks: two blocks that last.
-/
import Derived.Test.YtojceddgmmapdaaD8L
import Derived.Test.YtojceddgmmapdaaDA
namespace Go.Proofs.Ytojceddgmmapdaa
open Go.RowKit

theorem make_u8 (n : Nat) (hn : n ≤ 1000000) (x : Int) (hx : x = (n : Int)) (W : World) : (Instr.makeSlice 97 (.int .i64 x) (.int .i64 x)).run Try.prog W = .ok (.slice (some ⟨W.heap.size, 0, none⟩) n n) (W.alloc (.cells (Array.replicate n (.int .u8 0)) 5)) := by
  subst hx
  obtain ⟨i0, hi, hz0, hz1, hz2⟩ := info_parts Try.infoU8
  have h := run_make W 97 5 i0 _ Try.underlying97 hi hz0 .i64 .i64 (n : Int) (n : Int) (by omega) (by omega) (by rw [hz2]; omega) (by omega)
  rw [h, hz1, Int.toNat_natCast, madeCells_const _ (.int .u8 0) _ (by decide) (by intro j hj; match j, hj with | 0, _ => rfl)]
  simp

def textB (a0 a3 : Int) : Bool := (a0 == 1 || a0 == 2) && decide (0 < a3) && decide (a3 < 40)
def textN (a0 a3 a4 : Int) : Nat := (if textB a0 a3 = true then a3.toNat * 64 else 0) + (a4 % 4).toNat

theorem u8_of (x : Int) (h : 0 ≤ x ∧ x < 256) : ((UInt8.ofNat x.toNat).toNat : Int) = x := by
  simp only [UInt8.toNat_ofNat']
  omega

theorem bc_set (l : List UInt8) (k : Nat) (x : Int) (h : 0 ≤ x ∧ x < 256) : (bc l).set k (.int .u8 x) = bc (l.set k (UInt8.ofNat x.toNat)) := by
  simp only [bc, List.map_set]
  rw [u8_of x h]

theorem blk_put {w : World} {b : Nat} {l : List UInt8} {E : TypeId} (h : Blk w b (bc l).toArray E) (k : Nat) {x : Int} (hx : 0 ≤ x ∧ x < 256) :
    ∃ l' : List UInt8, l'.length = l.length ∧ Blk (w.setCell ⟨b, k, none⟩ (.int .u8 x)) b (bc l').toArray E := by
  have h1 := h.set k (.int .u8 x)
  rw [List.setIfInBounds_toArray, bc_set _ _ _ hx] at h1
  exact ⟨_, by simp, h1⟩

theorem u8_wrap_in (x : Int) : 0 ≤ IntKind.u8.wrap x ∧ IntKind.u8.wrap x < 256 := by
  have : IntKind.u8.wrap x = x % 256 := rfl
  omega

set_option maxHeartbeats 4000000 in
set_option maxRecDepth 100000 in
theorem text_any (a0 a1 a2 a3 a4 a5 : Int) (kv : Value) (i : Int) (w : World) :
    Calls Try.prog 27 #[.agg #[.int .i64 a0, .int .i64 a1, .int .i64 a2, .int .i64 a3, .int .i64 a4, .int .u8 a5, kv], .int .i64 i] w fun e w' => ∃ s : ByteArray, e = .returned (.string s) ∧ s.size = textN a0 a3 a4 ∧ Below w.heap.size w w' := by
  have h43 := i64_and3 a4
  obtain ⟨q, hq⟩ := Int.eq_ofNat_of_zero_le (show 0 ≤ a4 % 4 by omega)
  have hq4 : q < 4 := by omega
  rw [hq] at h43
  go_enter Try.func27, Try.ntmps27
  go_upto_region 2 with fail
  go_cut [25] (fun s25 wx => s25 = .bool (textB a0 a3) ∧ wx = w.alloc (.cells #[.int .i64 a0, .int .i64 a1, .int .i64 a2, .int .i64 a3, .int .i64 a4, .int .u8 a5, kv] 61))
  case first =>
    by_cases h1 : a0 = 1 ∨ a0 = 2
    · by_cases h2 : 0 < a3
      · by_cases h3 : a3 < 40
        · have hf : textB a0 a3 = true := by rcases h1 with rfl | rfl <;> simp [textB, h2, h3]
          have Hf := Lib.hid hf; clear hf
          rcases h1 with rfl | rfl <;> (go_wp2_with fail; go_meet; exact ⟨by rw [Hf.out], rfl⟩)
        · have hf : textB a0 a3 = false := by simp [textB, h3]
          have Hf := Lib.hid hf; clear hf
          rcases h1 with rfl | rfl <;> (go_wp2_with fail; go_meet; exact ⟨by rw [Hf.out], rfl⟩)
      · have hf : textB a0 a3 = false := by simp [textB, h2]
        have Hf := Lib.hid hf; clear hf
        rcases h1 with rfl | rfl <;> (go_wp2_with fail; go_meet; exact ⟨by rw [Hf.out], rfl⟩)
    · have g1 : (a0 == 1) = false := by simpa using (by omega : a0 ≠ 1)
      have g2 : (a0 == 2) = false := by simpa using (by omega : a0 ≠ 2)
      have hf : textB a0 a3 = false := by simp [textB, g1, g2]
      have Hf := Lib.hid hf; clear hf
      go_wp2_with fail
      go_meet
      exact ⟨by rw [Hf.out], rfl⟩
  case rest =>
    obtain ⟨rfl, rfl⟩ := hcut
    have hn : ∃ N : Nat, textN a0 a3 a4 = N ∧ N ≤ 4000 := ⟨_, rfl, by
      unfold textN
      split
      · rename_i h
        simp only [textB, Bool.and_eq_true, decide_eq_true_eq] at h
        omega
      · omega⟩
    obtain ⟨N, hN, hN2⟩ := hn
    have hb : ∃ B : Bool, textB a0 a3 = B := ⟨_, rfl⟩
    obtain ⟨B, hB⟩ := hb
    have hx : Hid (if B = true then (a3 * 64 + (q : Int) = N ∧ 0 < a3 ∧ a3 < 40) else (q : Int) = N) := by
      show if B = true then _ else _
      have hN' := hN
      unfold textN at hN'
      rw [hB] at hN'
      cases B
      · simp at hN' ⊢; omega
      · simp only [textB, Bool.and_eq_true, decide_eq_true_eq] at hB
        simp at hN' ⊢; omega
    rw [hB]
    have HN := Lib.hid hN
    clear hN hB
    have hmk := make_u8 N (by omega)
    have hA := Blk.new w #[.int .i64 a0, .int .i64 a1, .int .i64 a2, .int .i64 a3, .int .i64 a4, .int .u8 a5, kv] 61
    cases B with
    | false =>
      have hx1 := hx.out
      rw [if_neg (by decide)] at hx1
      obtain rfl : q = N := by omega
      have hmk1 := hmk (q : Int) rfl
      clear hmk hx1
      go_wp2_with fail
      go_loopw [7] (fun s7 wr => ∃ (k : Nat) (l : List UInt8), s7 = .int .i64 k ∧ k ≤ q ∧ l.length = q ∧ Blk wr (w.heap.size + 1) (bc l).toArray 5 ∧ Blk wr w.heap.size #[.int .i64 a0, .int .i64 a1, .int .i64 a2, .int .i64 a3, .int .i64 a4, .int .u8 a5, kv] 61 ∧ Below w.heap.size w wr) (fun s7 _ => q - (intOf s7).toNat)
      case atStart =>
        refine ⟨0, List.replicate q 0, rfl, Nat.zero_le _, by simp, ?_, hA.alloc _, ((Below.refl _ _).alloc (Nat.le_refl _) _).alloc (by simp) _⟩
        have h1 := Blk.new1 w (.cells #[.int .i64 a0, .int .i64 a1, .int .i64 a2, .int .i64 a3, .int .i64 a4, .int .u8 a5, kv] 61) (Array.replicate q (.int .u8 0)) 5
        have e : (bc (List.replicate q 0)).toArray = Array.replicate q (.int .u8 0) := by simp [bc]
        rw [e]; exact h1
      case round =>
        obtain ⟨k, l, rfl, hk, hl, hB1, hA1, hW⟩ := hrel
        have Hl := Lib.hid hl
        have HB1 := Lib.hid hB1
        have HA1 := Lib.hid hA1
        have HW := Lib.hid hW
        have g5 := hA1.cell (i := 5) rfl
        clear hA1 hW
        by_cases hlt : k < q
        · obtain ⟨b0, gk⟩ : ∃ b0 : Int, wr.cell? ⟨w.heap.size + 1, k, none⟩ = some (.int .u8 b0) := ⟨_, hB1.cell (by simpa using bc_get l k (by omega))⟩
          have fk := hB1.frozen k
          clear hB1 hl
          go_wp2_with fail
          go_roundw
          case rel => exact (blk_put HB1.out k (by omega)).elim fun l' h => ⟨k + 1, l', by go_num, by omega, h.1.trans Hl.out, h.2, HA1.out.set_other (by simp) _, HW.out.setCell (by simp) _⟩
          case measure => simp [intOf]; omega
        · have hd : decide (k < q) = false := by simpa using hlt
          have hcv := run_convert_bytes_back (P := Try.prog) wr 97 9 5 ⟨w.heap.size + 1, 0, none⟩ q l Try.underlying97 Try.underlying5 Try.underlying9 (fun j hj => by
            rw [Addr.add_lit, Nat.zero_add]
            exact hB1.cell (by simpa using bc_get l j hj))
          rw [hl] at hcv
          clear hB1 hl
          go_wp2_with fail
          go_ret
          exact ⟨_, rfl, by rw [HN.out]; exact Hl.out, HW.out⟩
    | true =>
      have hx1 := hx.out
      rw [if_pos rfl] at hx1
      have hmk1 := hmk _ hx1.1
      have h3 := hx1.2
      clear hmk hx1
      go_wp2_with fail
      go_loopw [7] (fun s7 wr => ∃ (k : Nat) (l : List UInt8), s7 = .int .i64 k ∧ k ≤ N ∧ l.length = N ∧ Blk wr (w.heap.size + 1) (bc l).toArray 5 ∧ Blk wr w.heap.size #[.int .i64 a0, .int .i64 a1, .int .i64 a2, .int .i64 a3, .int .i64 a4, .int .u8 a5, kv] 61 ∧ Below w.heap.size w wr) (fun s7 _ => N - (intOf s7).toNat)
      case atStart =>
        refine ⟨0, List.replicate N 0, rfl, Nat.zero_le _, by simp, ?_, hA.alloc _, ((Below.refl _ _).alloc (Nat.le_refl _) _).alloc (by simp) _⟩
        have h1 := Blk.new1 w (.cells #[.int .i64 a0, .int .i64 a1, .int .i64 a2, .int .i64 a3, .int .i64 a4, .int .u8 a5, kv] 61) (Array.replicate N (.int .u8 0)) 5
        have e : (bc (List.replicate N 0)).toArray = Array.replicate N (.int .u8 0) := by simp [bc]
        rw [e]; exact h1
      case round =>
        obtain ⟨k, l, rfl, hk, hl, hB1, hA1, hW⟩ := hrel
        have Hl := Lib.hid hl
        have HB1 := Lib.hid hB1
        have HA1 := Lib.hid hA1
        have HW := Lib.hid hW
        have g5 := hA1.cell (i := 5) rfl
        clear hA1 hW
        by_cases hlt : k < N
        · obtain ⟨b0, gk⟩ : ∃ b0 : Int, wr.cell? ⟨w.heap.size + 1, k, none⟩ = some (.int .u8 b0) := ⟨_, hB1.cell (by simpa using bc_get l k (by omega))⟩
          have fk := hB1.frozen k
          clear hB1 hl
          go_wp2_with fail
          go_roundw
          case rel => exact (blk_put HB1.out k (by omega)).elim fun l' h => ⟨k + 1, l', by go_num, by omega, h.1.trans Hl.out, h.2, HA1.out.set_other (by simp) _, HW.out.setCell (by simp) _⟩
          case measure => simp [intOf]; omega
        · have hd : decide (k < N) = false := by simpa using hlt
          have hcv := run_convert_bytes_back (P := Try.prog) wr 97 9 5 ⟨w.heap.size + 1, 0, none⟩ N l Try.underlying97 Try.underlying5 Try.underlying9 (fun j hj => by
            rw [Addr.add_lit, Nat.zero_add]
            exact hB1.cell (by simpa using bc_get l j hj))
          rw [hl] at hcv
          clear hB1 hl
          go_wp2_with fail
          go_ret
          exact ⟨_, rfl, by rw [HN.out]; exact Hl.out, HW.out⟩

end Go.Proofs.Ytojceddgmmapdaa

namespace Go.Proofs.Ytojceddgmmapdaa
open Go.RowKit

def zs (n : Nat) : ByteArray := str (List.replicate n 0)
def sd0 : Dv := dnewF 1 4 1 1
def sd1 : Dv := (ddoF sd0 2 0 0 2 (zs 128)).2
def sd2 : Dv := (dflushF sd1).2
def sd3 : Dv := (ddoF sd2 2 0 0 1 ((zs 128).extract 0 64)).2
def sd4 : Dv := dloseF sd3 [0]
theorem dsp1 : (ddoF sd0 2 0 0 2 (zs 128)).1 = (ByteArray.empty, 0, 0) := by kernel_rfl
theorem dsp2 : (dflushF sd1).1 = 0 := by kernel_rfl
theorem dsp3 : (ddoF sd2 2 0 0 1 ((zs 128).extract 0 64)).1 = (ByteArray.empty, 2, 0) := by kernel_rfl
theorem dsp5 : ddoF sd4 7 0 0 2 ByteArray.empty = ((zs 128, 0, 0), sd4) := by kernel_rfl
theorem dsp6 : getF sd4.m 0 = ((3, 2), true) := by kernel_rfl
theorem zs128 : (zs 128).size = 128 := by kernel_rfl

theorem zs_conv (w : World) (g n : Nat) (hb : Blk w g (Array.replicate n (.int .u8 0)) 5) : (convert 97 9 (.slice (some ⟨g, 0, none⟩) n n)).run Try.prog w = .ok (.string (zs n)) w := by
  have h := run_convert_bytes_back (P := Try.prog) w 97 9 5 ⟨g, 0, none⟩ n (List.replicate n 0) Try.underlying97 Try.underlying5 Try.underlying9 (fun j hj => by
    rw [Addr.add_lit, Nat.zero_add]
    refine hb.cell ?_
    have : j < n := by simpa using hj
    simp [this])
  rwa [List.length_replicate] at h

set_option maxHeartbeats 4000000 in
set_option maxRecDepth 100000 in
theorem speaks07_any (w : World) : Calls Try.prog 25 #[] w fun e w' => e = .returned (.bool true) ∧ Mod [] w w' := by
  have hmk := make_u8 128 (by omega) 128 rfl
  go_enter Try.func25, Try.ntmps25
  go_wp2_with fail
  refine (dnewA 1 4 1 1 w rfl).mono ?_
  rintro e w1 ⟨bd, bm, bz, bb, bl, vs, rfl, h1⟩
  have H1 := Lib.hid h1; clear h1
  have hcv := zs_conv (w1.alloc (.cells (Array.replicate 128 (.int .u8 0)) 5)) w1.heap.size 128 (Blk.new w1 _ _)
  go_wp2_with fail
  refine (ddoA 2 0 0 2 (zs 128) (H1.out.alloc _) (by rw [zs128]; omega)).mono ?_
  rintro e w2 ⟨rfl, vs2, h2, -, -⟩
  rw [show dnewF 1 4 1 1 = sd0 from rfl, dsp1]
  have H2 : Hid (DAt w w2 bd bm bz bb bl sd1 vs2) := h2
  clear h2 hcv H1
  go_wp2_with fail
  refine (dflushA H2.out).mono ?_
  rintro e w3 ⟨rfl, vs3, h3, -, -⟩
  rw [dsp2]
  have H3 : Hid (DAt w w3 bd bm bz bb bl sd2 vs3) := h3
  clear h3 H2
  have hz := zs128
  go_wp2_with fail
  refine (ddoA 2 0 0 1 ((zs 128).extract 0 64) H3.out (by decide)).mono ?_
  rintro e w4 ⟨rfl, vs4, h4, -, -⟩
  rw [dsp3]
  have H4 : Hid (DAt w w4 bd bm bz bb bl sd3 vs4) := h4
  clear h4 H3
  go_wp2_with fail
  refine (dloseA w4.heap.size [0] _ (H4.out.alloc _) (ints_one (Blk.new w4 _ _)) (fun _ => ⟨fun hx => by have := H4.out.lt _ hx; omega, by simp⟩) (by simp) (fun j => by cases j <;> simp)).mono ?_
  rintro e w5 ⟨rfl, vs5, h5, -, -⟩
  have H5 : Hid (DAt w w5 bd bm bz bb bl sd4 vs5) := h5
  clear h5 H4
  go_wp2_with fail
  refine (ddoA 7 0 0 2 ByteArray.empty H5.out (by decide)).mono ?_
  rintro e w6 ⟨rfl, vs6, h6, -, -⟩
  rw [dsp5] at h6 ⊢
  have H6 : Hid (DAt w w6 bd bm bz bb bl sd4 vs6) := h6
  clear h6 H5
  go_wp2_with fail
  refine (dzone_any bd bm bz bb bl sd4 vs6 0 _ H6.out.I).mono ?_
  rintro e w7 ⟨rfl, hb⟩
  rw [dsp6]
  have hz : zoneV (3, 2) = .agg #[.int .i64 3, .int .i64 2] := rfl
  rw [hz]
  have H7 : Hid (DAt w w7 bd bm bz bb bl sd4 vs6) := H6.out.below hb
  clear hb H6 hz
  go_wp2_with fail
  go_ret
  exact ⟨rfl, H7.out.M.alloc _⟩

end Go.Proofs.Ytojceddgmmapdaa
