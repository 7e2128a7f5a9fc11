/-
  Plain: a loss of power, zone by zone.
-/
import Derived.Test.YtadpeopbfoppjaaD7
namespace Go.Proofs.Ytadpeopbfoppjaa
open Go.RowKit

theorem drestF_lt (n b : Int) (hb : 1 ≤ b) : 0 ≤ drestF n b ∧ drestF n b < b := by
  unfold drestF
  exact ⟨Int.emod_nonneg _ (by omega), Int.emod_lt_of_pos _ (by omega)⟩

theorem left_le {d : Dv} (h : d.ok) (keep : List Int) {i : Nat} (hi : i < d.m.zs.length) : d.la.getD i 0 ≤ leftF d keep i ∧ leftF d keep i ≤ (d.bs.getD i []).length / 64 := by
  have h1 := (h.each i hi).2
  unfold leftF
  split
  · omega
  · have h2 := drestF_lt (keep.getD (i % keep.length) 0) (((d.bs.getD i []).length / 64 : Nat) - (d.la.getD i 0 : Int) + 1) (by omega)
    omega

def loseK (d : Dv) (keep : List Int) (k : Nat) : Dv :=
  { d with
    bs := (List.range d.m.zs.length).map fun i => if i < k then (d.bs.getD i []).take (leftF d keep i * 64) else d.bs.getD i []
    la := (List.range d.m.zs.length).map fun i => if i < k then leftF d keep i else d.la.getD i 0 }

def leftC (d : Dv) (keep : List Int) (k : Nat) : List Value := (List.range d.m.zs.length).map fun i => Value.int .i64 (if i < k then (leftF d keep i : Int) else 0)

theorem range_get {α : Type} (n k : Nat) (f : Nat → α) (x : α) (hk : k < n) : ((List.range n).map f).getD k x = f k := by
  simp [List.getD_eq_getElem?_getD, hk]

theorem range_id {α : Type} (l : List α) (x : α) : (List.range l.length).map (fun i => l.getD i x) = l := by
  apply List.ext_getElem?
  intro j
  simp only [List.getElem?_map]
  by_cases hj : j < l.length
  · simp [hj, List.getD_eq_getElem?_getD]
  · rw [List.getElem?_eq_none (by simp; omega), List.getElem?_eq_none (by omega)]; rfl

theorem range_set {α : Type} (n k : Nat) (f g : Nat → α) (x : α) (hk : k < n) (h0 : g k = x) (h : ∀ j, j ≠ k → g j = f j) : ((List.range n).map f).set k x = (List.range n).map g := by
  apply List.ext_getElem?
  intro j
  by_cases hjk : j = k
  · subst hjk
    rw [List.getElem?_set_self (by simp; omega)]
    simp [hk, h0]
  · rw [List.getElem?_set_ne (Ne.symm hjk)]
    simp only [List.getElem?_map]
    by_cases hj : j < n
    · simp [hj, h j hjk]
    · rw [List.getElem?_eq_none (by simp; omega)]; rfl

theorem loseK_zero {d : Dv} (h1 : d.bs.length = d.m.zs.length) (h2 : d.la.length = d.m.zs.length) (keep : List Int) : loseK d keep 0 = d := by
  obtain ⟨m, bs, la, dead⟩ := d
  simp only [loseK, Nat.not_lt_zero, if_false]
  simp only at h1 h2
  congr 1
  · rw [← h1]; exact range_id bs []
  · rw [← h2]; exact range_id la 0

theorem loseK_succ (d : Dv) (keep : List Int) (k : Nat) (hk : k < d.m.zs.length) :
    ({ loseK d keep k with bs := (loseK d keep k).bs.set k ((d.bs.getD k []).take (leftF d keep k * 64)), la := (loseK d keep k).la.set k (leftF d keep k) } : Dv) = loseK d keep (k + 1) := by
  simp only [loseK]
  congr 1
  · exact range_set _ _ _ _ _ hk (by simp) (fun j hj => by
      by_cases h : j < k
      · rw [if_pos h, if_pos (by omega)]
      · rw [if_neg h, if_neg (by omega)])
  · exact range_set _ _ _ _ _ hk (by simp) (fun j hj => by
      by_cases h : j < k
      · rw [if_pos h, if_pos (by omega)]
      · rw [if_neg h, if_neg (by omega)])

theorem leftC_zero (d : Dv) (keep : List Int) : leftC d keep 0 = List.replicate d.m.zs.length (.int .i64 0) := by
  simp only [leftC, Nat.not_lt_zero, if_false]
  rw [List.map_const']; simp

theorem leftC_succ (d : Dv) (keep : List Int) (k : Nat) (hk : k < d.m.zs.length) : (leftC d keep k).set k (.int .i64 (leftF d keep k : Int)) = leftC d keep (k + 1) :=
  range_set _ _ _ _ _ hk (by simp) (fun j hj => by
      by_cases h : j < k
      · rw [if_pos h, if_pos (by omega)]
      · rw [if_neg h, if_neg (by omega)])

theorem loseK_at (d : Dv) (keep : List Int) (k : Nat) (hk : k < d.m.zs.length) : (loseK d keep k).bs.getD k [] = d.bs.getD k [] ∧ (loseK d keep k).la.getD k 0 = d.la.getD k 0 := by
  simp only [loseK]
  rw [range_get _ _ _ _ hk, range_get _ _ _ _ hk]
  simp

theorem loseK_end (d : Dv) (keep : List Int) : ({ loseK d keep d.m.zs.length with m := { d.m with zs := lostL ((leftsF d keep).map fun n : Nat => (n : Int)) d.m.zs } } : Dv) = dloseF d keep := by
  simp only [loseK, dloseF, leftsF]
  congr 1
  · apply List.map_congr_left
    intro i hi
    rw [if_pos (List.mem_range.1 hi)]
  · apply List.map_congr_left
    intro i hi
    rw [if_pos (List.mem_range.1 hi)]

theorem leftC_end (d : Dv) (keep : List Int) : leftC d keep d.m.zs.length = (leftsF d keep).map fun n : Nat => Value.int .i64 (n : Int) := by
  simp only [leftC, leftsF, List.map_map]
  apply List.map_congr_left
  intro i hi
  simp [List.mem_range.1 hi]

theorem ownsRow_take {w : World} {e n m : Nat} {a : Option Addr} {c : Nat} {xs : List Value} (h : w.ownsRow 0 e 1 (.slice a n c) n xs) (hm : m ≤ n) : w.ownsRow 0 e 1 (.slice a m c) m (xs.take m) := by
  obtain ⟨hl, ⟨h1, h2⟩ | ⟨g, cap, cur, h1, hg, hc, h2, h3, h4, h5⟩⟩ := h
  · cases h1
    have : m = 0 := by omega
    subst this
    exact ⟨rfl, .inl ⟨rfl, rfl⟩⟩
  · cases h1
    refine ⟨by simp; omega, .inr ⟨g, c, cur, rfl, hg, hc, by omega, h3, h4, ?_⟩⟩
    rw [← h5, List.take_take]
    congr 1
    omega

end Go.Proofs.Ytadpeopbfoppjaa
