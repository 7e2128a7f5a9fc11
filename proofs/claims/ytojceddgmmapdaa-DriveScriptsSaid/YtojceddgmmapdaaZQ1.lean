/-
  The document's zones (corbelref05): New, Count and open come to the same plain functions.
-/
import Derived.Test.YtojceddgmmapdaaZO
import Derived.Test.YtojceddgmmapdaaZL2
import Derived.StillTailTactics
namespace Go.Proofs.Ytojceddgmmapdaa
open Go.RowKit

abbrev RM : TypeId := 94
abbrev RZ : TypeId := 95

def cntR (f t : Int) (zs : List (Int × Int)) : Int := (zs.filter fun z => decide (f ≤ z.1) && decide (z.1 ≤ t)).length
theorem cntR_O (zs : List (Int × Int)) : cntR 1 2 zs = cntO zs := by
  unfold cntR cntO; congr 3; funext z
  rw [Bool.eq_iff_iff]; simp [isOp]; omega
theorem cntR_A (zs : List (Int × Int)) : cntR 1 3 zs = cntA zs := by
  unfold cntR cntA; congr 3; funext z
  rw [Bool.eq_iff_iff]; simp [isAc]; omega
theorem cntR_snoc (f t : Int) (zs : List (Int × Int)) (k : Nat) (h : k < zs.length) : cntR f t (zs.take (k + 1)) = cntR f t (zs.take k) + if f ≤ stOf zs k ∧ stOf zs k ≤ t then 1 else 0 := by
  rw [take_snoc' zs k h]; unfold cntR; rw [List.filter_append]; simp only [List.length_append, Int.natCast_add]; congr 1
  by_cases e : f ≤ stOf zs k ∧ stOf zs k ≤ t
  · simp [e]
  · rw [if_neg e, List.filter_cons, if_neg (by simpa using e)]; rfl
theorem cntR_le (f t : Int) (zs : List (Int × Int)) : 0 ≤ cntR f t zs ∧ cntR f t zs ≤ zs.length := by
  unfold cntR; have := List.length_filter_le (fun z : Int × Int => decide (f ≤ z.1) && decide (z.1 ≤ t)) zs; omega

set_option maxHeartbeats 1000000 in
theorem rcount_any (bm bz : Nat) (m : Mc) (f t : Int) (w : World) (hI : IsM RM RZ w bm bz m) (hn : m.zs.length ≤ 64) :
    Calls Try.prog 44 #[.pointer (some ⟨bm, 0, none⟩), .int .i64 f, .int .i64 t] w fun e w' => e = .returned (.int .i64 (cntR f t m.zs)) ∧ w = w' := by
  have HI := Lib.hid hI; clear hI
  obtain ⟨cap, hcz⟩ := HI.out.cellZ
  have hS : ∀ k, k < m.zs.length → w.cell? ⟨bz, k * 2, none⟩ = some (.int .i64 (stOf m.zs k)) := fun k hk => HI.out.cellSt hk
  have HS := Lib.hid hS; clear hS HI
  generalize m.zs = zs at *
  go_enter Try.func44, Try.ntmps44
  go_wp2_with fail
  go_loop [7, 8] (fun n i => ∃ k : Nat, k ≤ zs.length ∧ i = .int .i64 k ∧ n = .int .i64 (cntR f t (zs.take k))) (fun _ i => zs.length - (intOf i).toNat)
  case atStart => exact ⟨0, Nat.zero_le _, rfl, rfl⟩
  case round =>
    obtain ⟨k, hk, rfl, rfl⟩ := hrel
    by_cases hlt : k < zs.length
    · have hc := HS.out k hlt
      have hbd := cntR_le f t (zs.take k)
      have hlk : (zs.take k).length ≤ k := List.length_take_le _ _
      have Hsn := Lib.hid (cntR_snoc f t zs k hlt)
      generalize stOf zs k = s at *
      generalize hc' : cntR f t (zs.take k) = co at *
      have Hc' := Lib.hid hc'; clear hc'
      by_cases h1 : f ≤ s
      · by_cases h2 : s ≤ t
        · have Hin : Hid (f ≤ s ∧ s ≤ t) := ⟨h1, h2⟩
          go_wp2_with fail
          go_round
          case rel => exact ⟨k + 1, by omega, by go_num, by rw [Hsn.out, if_pos Hin.out]⟩
          case measure => simp [intOf]; omega
        · have Hin : Hid (¬ (f ≤ s ∧ s ≤ t)) := fun h => h2 h.2
          have hd : decide (s ≤ t) = false := by simpa using h2
          go_wp2_with fail
          go_round
          case rel => exact ⟨k + 1, by omega, by go_num, by rw [Hsn.out, if_neg Hin.out]; go_num⟩
          case measure => simp [intOf]; omega
      · have Hin : Hid (¬ (f ≤ s ∧ s ≤ t)) := fun h => h1 h.1
        have hd : decide (f ≤ s) = false := by simpa using h1
        go_wp2_with fail
        go_round
        case rel => exact ⟨k + 1, by omega, by go_num, by rw [Hsn.out, if_neg Hin.out]; go_num⟩
        case measure => simp [intOf]; omega
    · have hd : decide (k < zs.length) = false := by simpa using hlt
      have hke : Hid (k = zs.length) := by show k = zs.length; omega
      go_wp2_with fail
      go_ret
      exact ⟨by rw [hke.out, List.take_length]; rfl, rfl⟩

theorem Try.infoRZ : (Try.prog.info? 95).map (fun i => (i.zero, i.size, i.bytes)) = some (some (.agg #[.int .i64 0, .int .i64 0]), 2, 16) := by kernel_rfl

theorem make_rzones (n : Nat) (hn : n ≤ 64) (W : World) : (Instr.makeSlice 92 (.int .i64 (n : Int)) (.int .i64 (n : Int))).run Try.prog W = .ok (.slice (some ⟨W.heap.size, 0, none⟩) n n) (W.alloc (.cells (zeroZ n) RZ)) := by
  obtain ⟨i0, hi, hz0, hz1, hz2⟩ := info_parts Try.infoRZ
  have h := run_make W 92 RZ i0 _ Try.underlying92 hi hz0 .i64 .i64 (n : Int) (n : Int) (by omega) (by omega) (by rw [hz2]; omega) (by omega)
  rw [h, hz1, Int.toNat_natCast, madeCells_const _ (.int .i64 0) _ (by decide) (by intro j hj; match j, hj with | 0, _ => rfl | 1, _ => rfl)]
  unfold zeroZ
  rw [zc_replicate]
  simp

def RNewPost (w : World) (m : Mc) (e : Ending) (w' : World) : Prop :=
  ∃ bm bz, e = .returned (.pointer (some ⟨bm, 0, none⟩)) ∧ IsM RM RZ w' bm bz m ∧ Mod [] w w' ∧ w.heap.size ≤ bm ∧ w.heap.size ≤ bz

set_option maxHeartbeats 1000000 in
theorem rnew_ok (z b o a : Int) (w : World) (h : newOk z b o a = true) :
    Calls Try.prog 20 #[.int .i64 z, .int .i64 b, .int .i64 o, .int .i64 a] w (RNewPost w (newF z b o a)) := by
  simp only [newOk, Bool.and_eq_true, decide_eq_true_eq] at h
  obtain ⟨⟨⟨⟨⟨⟨h1, h2⟩, h3⟩, h4⟩, h5⟩, h6⟩, h7⟩ := h
  obtain ⟨n, rfl⟩ := Int.eq_ofNat_of_zero_le (show 0 ≤ z by omega)
  have hmk := make_rzones n (by omega)
  go_enter Try.func20, Try.ntmps20
  go_wp2
  go_ret
  refine ⟨w.heap.size + 1, w.heap.size, rfl, ⟨⟨n, ?_⟩, ⟨[], ?_⟩, by omega⟩, ((Mod.refl _ _).alloc _).alloc _, by omega, Nat.le_refl _⟩
  · have := Blk.new (w.alloc (.cells (zeroZ n) RZ)) #[.slice (some ⟨w.heap.size, 0, none⟩) n n, .int .i64 b, .int .i64 o, .int .i64 a] RM
    simpa [newF] using this
  · exact (Blk.new w (zeroZ n) RZ).alloc _

set_option maxHeartbeats 1000000 in
set_option maxRecDepth 100000 in
theorem rnew_no (z b o a : Int) (w : World) (h : newOk z b o a = false) :
    Calls Try.prog 20 #[.int .i64 z, .int .i64 b, .int .i64 o, .int .i64 a] w fun e w' => e = .returned (.pointer none) ∧ w = w' := by
  have h : ¬ (1 ≤ z ∧ z ≤ 64 ∧ 1 ≤ b ∧ b ≤ 4096 ∧ 1 ≤ o ∧ o ≤ a ∧ a ≤ z) := by
    simp only [newOk, Bool.and_eq_false_iff, decide_eq_false_iff_not] at h; omega
  have H := Lib.hid h; clear h
  go_enter Try.func20, Try.ntmps20
  go_wp2
  all_goals first
    | (exfalso; have := H.out; omega)
    | (go_ret; exact ⟨rfl, rfl⟩)

theorem setSt_self (m : Mc) (i : Nat) (hi : i < m.zs.length) : m.setSt i (m.st i) = m := by
  unfold Mc.setSt
  have : m.zs.set i (m.st i, m.ln i) = m.zs := by
    apply List.ext_getElem?
    intro j
    rw [List.getElem?_set]
    split
    · rename_i h; subst h; rw [List.getElem?_eq_getElem hi]
      exact congrArg some (Prod.ext (stOf_eq _ _ hi) (lnOf_eq _ _ hi))
    · rfl
  rw [this]

/-- What the search from the end has found, behind index i. -/
def Least (zs : List (Int × Int)) (i : Int) (l : Int) : Prop :=
  (l = -1 ∧ ∀ j : Nat, i < j → j < zs.length → stOf zs j ≠ 1) ∨ (∃ k : Nat, l = k ∧ i < k ∧ k < zs.length ∧ stOf zs k = 1 ∧ ∀ j : Nat, i < j → j < k → stOf zs j ≠ 1)

theorem least_end {zs : List (Int × Int)} {l : Int} (h : Least zs (-1) l) : l = fidx zs := by
  rcases h with ⟨rfl, h⟩ | ⟨k, rfl, _, hk, h1, h⟩
  · rw [fidx_none _ (fun j hj => h j (by omega) hj)]
  · rw [fidx_some _ k hk h1 (fun j hj => h j (by omega) hj)]

theorem least_hit {zs : List (Int × Int)} {i : Nat} (hi : i < zs.length) (h1 : stOf zs i = 1) : Least zs ((i : Int) - 1) i :=
  .inr ⟨i, rfl, by omega, hi, h1, fun j a b => by omega⟩

theorem least_miss {zs : List (Int × Int)} {i : Nat} {l : Int} (h1 : stOf zs i ≠ 1) (h : Least zs i l) : Least zs ((i : Int) - 1) l := by
  rcases h with ⟨rfl, h⟩ | ⟨k, rfl, hik, hk, hk1, h⟩
  · refine .inl ⟨rfl, fun j a b => ?_⟩
    by_cases e : j = i
    · subst e; exact h1
    · exact h j (by omega) b
  · refine .inr ⟨k, rfl, by omega, hk, hk1, fun j a b => ?_⟩
    by_cases e : j = i
    · subst e; exact h1
    · exact h j (by omega) b

end Go.Proofs.Ytojceddgmmapdaa
