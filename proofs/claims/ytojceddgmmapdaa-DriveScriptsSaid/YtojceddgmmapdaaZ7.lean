/-
  Walks: New, Get, Clone, Lost of the zones' machine.
-/
import Derived.Test.YtojceddgmmapdaaZ6
import Derived.BigGuardPart
namespace Go.Proofs.Ytojceddgmmapdaa
open Go.RowKit

theorem madeCells_const (z : Array Value) (v : Value) (n : Nat) (h0 : 0 < z.size) (h : ∀ i, i < z.size → z[i]! = v) : madeCells z n = Array.replicate n v := by
  apply Array.ext
  · simp [madeCells]
  · intro i h1 h2
    have e : (madeCells z n)[i] = z[i % z.size]! := by simp [madeCells]
    rw [e, Array.getElem_replicate]; exact h _ (Nat.mod_lt _ h0)

theorem Try.infoZ : (Try.prog.info? 30).map (fun i => (i.zero, i.size, i.bytes)) = some (some (.agg #[.int .i64 0, .int .i64 0]), 2, 16) := by kernel_rfl

def zeroZ (n : Nat) : Array Value := (zc (List.replicate n (0, 0)) ++ []).toArray

theorem make_zones (n : Nat) (hn : n ≤ 64) (W : World) : (Instr.makeSlice 82 (.int .i64 (n : Int)) (.int .i64 (n : Int))).run Try.prog W = .ok (.slice (some ⟨W.heap.size, 0, none⟩) n n) (W.alloc (.cells (zeroZ n) 30)) := by
  obtain ⟨i0, hi, hz0, hz1, hz2⟩ := info_parts Try.infoZ
  have h := run_make W 82 30 i0 _ Try.underlying82 hi hz0 .i64 .i64 (n : Int) (n : Int) (by omega) (by omega) (by rw [hz2]; omega) (by omega)
  rw [h, hz1, Int.toNat_natCast, madeCells_const _ (.int .i64 0) _ (by decide) (by intro j hj; match j, hj with | 0, _ => rfl | 1, _ => rfl)]
  unfold zeroZ
  rw [zc_replicate]
  simp

def NewPost (w : World) (m : Mc) (e : Ending) (w' : World) : Prop :=
  ∃ bm bz, e = .returned (.tuple #[.pointer (some ⟨bm, 0, none⟩), .int .i64 0]) ∧ IsM TM TZ w' bm bz m ∧ Mod [] w w' ∧ w.heap.size ≤ bm ∧ w.heap.size ≤ bz

set_option maxHeartbeats 1000000 in
theorem znew_ok (z b o a : Int) (w : World) (h : newOk z b o a = true) :
    Calls Try.prog 15 #[.int .i64 z, .int .i64 b, .int .i64 o, .int .i64 a] w (NewPost w (newF z b o a)) := by
  simp only [newOk, Bool.and_eq_true, decide_eq_true_eq] at h
  obtain ⟨⟨⟨⟨⟨⟨h1, h2⟩, h3⟩, h4⟩, h5⟩, h6⟩, h7⟩ := h
  obtain ⟨n, rfl⟩ := Int.eq_ofNat_of_zero_le (show 0 ≤ z by omega)
  have hmk := make_zones n (by omega)
  go_enter Try.func15, Try.ntmps15
  go_wp2
  go_ret2
  refine ⟨w.heap.size + 1, w.heap.size, rfl, ⟨⟨n, ?_⟩, ⟨[], ?_⟩, by omega⟩, ((Mod.refl _ _).alloc _).alloc _, by omega, Nat.le_refl _⟩
  · have := Blk.new (w.alloc (.cells (zeroZ n) 30)) #[.slice (some ⟨w.heap.size, 0, none⟩) n n, .int .i64 b, .int .i64 o, .int .i64 a] TM
    simpa [newF] using this
  · exact (Blk.new w (zeroZ n) TZ).alloc _

set_option maxHeartbeats 1000000 in
set_option maxRecDepth 100000 in
theorem znew_no (z b o a : Int) (w : World) (h : newOk z b o a = false) :
    Calls Try.prog 15 #[.int .i64 z, .int .i64 b, .int .i64 o, .int .i64 a] w fun e w' => e = .returned (.tuple #[.pointer none, .int .i64 1]) ∧ w = w' := by
  have h : ¬ (1 ≤ z ∧ z ≤ 64 ∧ 1 ≤ b ∧ b ≤ 4096 ∧ 1 ≤ o ∧ o ≤ a ∧ a ≤ z) := by
    simp only [newOk, Bool.and_eq_false_iff, decide_eq_false_iff_not] at h; omega
  have H := Lib.hid h; clear h
  go_enter Try.func15, Try.ntmps15
  go_wp2
  all_goals first
    | (exfalso; have := H.out; omega)
    | (go_ret2; exact ⟨rfl, rfl⟩)

end Go.Proofs.Ytojceddgmmapdaa
