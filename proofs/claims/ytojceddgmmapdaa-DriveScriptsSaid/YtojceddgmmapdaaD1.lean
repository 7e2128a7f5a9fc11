/-
  Walks of the drive's small functions.
-/
import Derived.Test.YtojceddgmmapdaaD0
import Derived.BigGuardPart
namespace Go.Proofs.Ytojceddgmmapdaa
open Go.RowKit

structure DCells (w : World) (bd bm bz bb bl : Nat) (d : Dv) (vs : List Value) : Prop where
  c0 : w.cell? ⟨bd, 0, none⟩ = some (.pointer (some ⟨bm, 0, none⟩))
  c1 : w.cell? ⟨bd, 1, none⟩ = some (.slice (some ⟨bb, 0, none⟩) d.m.zs.length d.m.zs.length)
  c2 : w.cell? ⟨bd, 2, none⟩ = some (.slice (some ⟨bl, 0, none⟩) d.m.zs.length d.m.zs.length)
  c3 : w.cell? ⟨bd, 3, none⟩ = some (.bool d.dead)
  lt : bd < w.heap.size ∧ bm < w.heap.size ∧ bz < w.heap.size ∧ bb < w.heap.size ∧ bl < w.heap.size

theorem IsD.cells {w : World} {bd bm bz bb bl : Nat} {d : Dv} {vs : List Value} (h : IsD w bd bm bz bb bl d vs) : DCells w bd bm bz bb bl d vs :=
  ⟨h.drv.cell rfl, h.drv.cell rfl, h.drv.cell rfl, h.drv.cell rfl, h.drv.lt, h.m.lt.1, h.m.lt.2, h.byt.lt, h.las.lt⟩

theorem IsD.cellB {w : World} {bd bm bz bb bl : Nat} {d : Dv} {vs : List Value} (h : IsD w bd bm bz bb bl d vs) {i : Nat} (hi : i < d.m.zs.length) : w.cell? ⟨bb, i, none⟩ = some (vs.getD i (.bool false)) := by
  refine h.byt.cell ?_
  have : i < vs.length := by rw [h.nv]; exact hi
  simp [List.getD_eq_getElem?_getD, this]
theorem IsD.cellL {w : World} {bd bm bz bb bl : Nat} {d : Dv} {vs : List Value} (h : IsD w bd bm bz bb bl d vs) {i : Nat} (hi : i < d.m.zs.length) : w.cell? ⟨bl, i, none⟩ = some (.int .i64 ((d.la.getD i 0 : Nat) : Int)) := by
  refine h.las.cell ?_
  have : i < d.la.length := by rw [h.nl]; exact hi
  simp [List.getD_eq_getElem?_getD, this]
/-- The slice of a zone's bytes. -/
theorem IsD.slice {w : World} {bd bm bz bb bl : Nat} {d : Dv} {vs : List Value} (h : IsD w bd bm bz bb bl d vs) {i : Nat} (hi : i < d.m.zs.length) : ∃ (a : Option Addr) (c : Nat), vs.getD i (.bool false) = .slice a (d.bs.getD i []).length c := by
  obtain ⟨hl, ⟨h1, h2⟩ | ⟨g, cap, cur, h1, _⟩⟩ := h.row i hi
  · exact ⟨none, 0, by rw [h1, h2]⟩
  · exact ⟨_, _, h1⟩

theorem alive_none (w : World) : Calls Try.prog 46 #[.pointer none] w fun e w' => e = .returned (.int .i64 1) ∧ w = w' := by
  go_enter Try.func46, Try.ntmps46
  go_wp2
  go_ret
  exact ⟨rfl, rfl⟩

theorem alive_any (bd bm bz bb bl : Nat) (d : Dv) (vs : List Value) (w : World) (hI : IsD w bd bm bz bb bl d vs) :
    Calls Try.prog 46 #[.pointer (some ⟨bd, 0, none⟩)] w fun e w' => e = .returned (.int .i64 (if d.dead then 7 else 0)) ∧ w = w' := by
  have c3 := hI.cells.c3
  clear hI
  cases hd : d.dead <;> rw [hd] at c3
  · go_enter Try.func46, Try.ntmps46
    go_wp2
    go_ret
    exact ⟨rfl, rfl⟩
  · go_enter Try.func46, Try.ntmps46
    go_wp2
    go_ret
    exact ⟨rfl, rfl⟩

theorem dead_none (w : World) : Calls Try.prog 39 #[.pointer none] w fun e w' => e = .returned (.bool false) ∧ w = w' := by
  go_enter Try.func39, Try.ntmps39
  go_wp2
  go_ret
  exact ⟨rfl, rfl⟩

theorem dead_any (bd bm bz bb bl : Nat) (d : Dv) (vs : List Value) (w : World) (hI : IsD w bd bm bz bb bl d vs) :
    Calls Try.prog 39 #[.pointer (some ⟨bd, 0, none⟩)] w fun e w' => e = .returned (.bool d.dead) ∧ w = w' := by
  have c3 := hI.cells.c3
  clear hI
  go_enter Try.func39, Try.ntmps39
  go_wp2
  go_ret
  exact ⟨rfl, rfl⟩

theorem die_none (w : World) : Calls Try.prog 36 #[.pointer none] w fun e w' => e = .returned (.tuple #[]) ∧ w = w' := by
  go_enter Try.func36, Try.ntmps36
  go_wp2
  exact bodyPost_end (results_none rfl _ _ _) rfl ⟨rfl, rfl⟩

theorem die_any (bd bm bz bb bl : Nat) (d : Dv) (vs : List Value) (w : World) (hI : IsD w bd bm bz bb bl d vs) :
    Calls Try.prog 36 #[.pointer (some ⟨bd, 0, none⟩)] w fun e w' => e = .returned (.tuple #[]) ∧ IsD w' bd bm bz bb bl { d with dead := true } vs ∧ Mod [bd] w w' := by
  have HI := Lib.hid hI
  have c3 := hI.cells.c3
  have hlt := hI.cells.lt.1
  have hfz := hI.drv.frozen 3
  clear hI
  go_enter Try.func36, Try.ntmps36
  go_wp2
  refine bodyPost_end (results_none rfl _ _ _) rfl ?_
  have hm : Mod [bd] w (w.setCell ⟨bd, 3, none⟩ (.bool true)) := (Mod.refl [bd] w).set (by simp) _
  have hne := HI.out.ne
  simp only [List.nodup_cons, List.mem_cons, List.not_mem_nil, or_false, not_or] at hne
  refine ⟨rfl, ⟨HI.out.m.mod hm (by simp; omega) (by simp; omega), HI.out.drv.set 3 _, hm.blk HI.out.byt (by simp; omega), hm.blk HI.out.las (by simp; omega), HI.out.nv, HI.out.nb, HI.out.nl, fun i hi => ?_, HI.out.apart, HI.out.off, HI.out.ne⟩, hm⟩
  exact ownsRow_block (HI.out.row i hi) fun g hg => hm.block g (ownsRow_lt (HI.out.row i hi) hg) (by have := HI.out.off i g hi hg; simp at this ⊢; omega)

theorem lasts_none (z : Int) (w : World) : Calls Try.prog 32 #[.pointer none, .int .i64 z] w fun e w' => e = .returned (.int .i64 0) ∧ w = w' := by
  go_enter Try.func32, Try.ntmps32
  go_wp2
  go_ret
  exact ⟨rfl, rfl⟩

def lastsF (d : Dv) (z : Int) : Int := if z < 0 ∨ (d.m.zs.length : Int) ≤ z then 0 else ((d.la.getD z.toNat 0 : Nat) : Int)

theorem lasts_any (bd bm bz bb bl : Nat) (d : Dv) (vs : List Value) (z : Int) (w : World) (hI : IsD w bd bm bz bb bl d vs) :
    Calls Try.prog 32 #[.pointer (some ⟨bd, 0, none⟩), .int .i64 z] w fun e w' => e = .returned (.int .i64 (lastsF d z)) ∧ w = w' := by
  have c2 := hI.cells.c2
  by_cases h1 : z < 0
  · have hf : lastsF d z = 0 := if_pos (.inl h1)
    clear hI
    go_enter Try.func32, Try.ntmps32
    go_wp2
    go_ret
    exact ⟨ret_int hf.symm, rfl⟩
  · obtain ⟨i, rfl⟩ := Int.eq_ofNat_of_zero_le (show 0 ≤ z by omega)
    by_cases h2 : i < d.m.zs.length
    · have hf : lastsF d i = ((d.la.getD i 0 : Nat) : Int) := by rw [lastsF, if_neg (by omega), Int.toNat_natCast]
      have cl := hI.cellL h2
      have hd : decide (d.m.zs.length ≤ i) = false := by simpa using h2
      clear hI
      go_enter Try.func32, Try.ntmps32
      go_wp2
      go_ret
      exact ⟨rfl, rfl⟩
    · have hf : lastsF d i = 0 := if_pos (.inr (by omega))
      have hd : decide (d.m.zs.length ≤ i) = true := by simpa using h2
      clear hI
      go_enter Try.func32, Try.ntmps32
      go_wp2
      go_ret
      exact ⟨rfl, rfl⟩

theorem length_any (bd bm bz bb bl : Nat) (d : Dv) (vs : List Value) (i : Nat) (hi : i < d.m.zs.length) (w : World) (hI : IsD w bd bm bz bb bl d vs) :
    Calls Try.prog 48 #[.pointer (some ⟨bd, 0, none⟩), .int .i64 i] w fun e w' => e = .returned (.int .i64 (((d.bs.getD i []).length / 64 : Nat) : Int)) ∧ w = w' := by
  have c1 := hI.cells.c1
  have cb := hI.cellB hi
  obtain ⟨a, c, hv⟩ := hI.slice hi
  rw [hv] at cb
  have hml : (d.bs.getD i []).length ≤ 9223372036854775807 := by
    obtain ⟨_, ⟨_, h2⟩ | ⟨g, cap, cur, _, _, _, h3, h4, _⟩⟩ := hI.row i hi
    · omega
    · unfold maxLen at h4; omega
  clear hI hv
  go_enter Try.func48, Try.ntmps48
  go_wp2
  go_ret
  refine ⟨ret_int ?_, rfl⟩
  have e : (((d.bs.getD i []).length / 64 : Nat) : Int) = ((d.bs.getD i []).length : Int) / 64 := by omega
  rw [e]
  simp only [List.getD_eq_getElem?_getD] at *
  unfold wrap64; omega

theorem drest_any (n b : Int) (hb : 1 ≤ b) (hn : -9223372036854775808 ≤ n) (hn2 : n ≤ 9223372036854775807) (hb2 : b ≤ 9223372036854775807) (w : World) : Calls Try.prog 49 #[.int .i64 n, .int .i64 b] w fun e w' => e = .returned (.int .i64 (drestF n b)) ∧ w = w' := by
  have hz : (b == 0) = false := by simpa using (by omega : b ≠ 0)
  by_cases h : n < 0
  · have hf : drestF n b = -(n + 1).tmod b := by
      rw [drestF, if_pos h, ← Int.tmod_eq_emod_of_nonneg (show 0 ≤ -(n + 1) by omega), Int.neg_tmod]
    go_enter Try.func49, Try.ntmps49
    go_wp2
    go_ret
    exact ⟨ret_int hf.symm, rfl⟩
  · have hf : drestF n b = n % b := by rw [drestF, if_neg h]
    go_enter Try.func49, Try.ntmps49
    go_wp2
    go_ret
    exact ⟨rfl, rfl⟩

theorem writes_any (k z a n : Int) (w : World) : Calls Try.prog 57 #[.agg #[.int .i64 k, .int .i64 z, .int .i64 a, .int .i64 n]] w fun e w' => e = .returned (.bool (writesF k)) ∧ Below w.heap.size w w' := by
  by_cases h1 : k = 1
  · subst h1
    go_enter Try.func57, Try.ntmps57
    go_wp2
    go_ret
    exact ⟨rfl, (Below.refl _ _).alloc (Nat.le_refl _) _⟩
  · have hk : (k == 1) = false := by simpa using h1
    go_enter Try.func57, Try.ntmps57
    go_wp2
    go_ret
    exact ⟨by simp [writesF, hk], (Below.refl _ _).alloc (Nat.le_refl _) _⟩

end Go.Proofs.Ytojceddgmmapdaa
