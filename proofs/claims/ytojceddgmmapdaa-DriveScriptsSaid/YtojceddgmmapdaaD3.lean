/-
  Steps of the drive's state in the heap; walk of Flush.
-/
import Derived.Test.YtojceddgmmapdaaD2
namespace Go.Proofs.Ytojceddgmmapdaa
open Go.RowKit

theorem feet_head {bd bm bz bb bl : Nat} {vs : List Value} {x : Nat} (h : x ∈ [bd, bm, bz, bb, bl]) : x ∈ feet bd bm bz bb bl vs := List.mem_append_left _ h

theorem IsD.nes {w : World} {bd bm bz bb bl : Nat} {d : Dv} {vs : List Value} (h : IsD w bd bm bz bb bl d vs) : bd ≠ bm ∧ bd ≠ bz ∧ bd ≠ bb ∧ bd ≠ bl ∧ bm ≠ bz ∧ bm ≠ bb ∧ bm ≠ bl ∧ bz ≠ bb ∧ bz ≠ bl ∧ bb ≠ bl := by
  have := h.ne
  simp only [List.nodup_cons, List.mem_cons, List.not_mem_nil, or_false, not_or, not_false_eq_true, List.nodup_nil, and_true] at this
  omega

theorem IsD.rowOff {w : World} {bd bm bz bb bl : Nat} {d : Dv} {vs : List Value} (h : IsD w bd bm bz bb bl d vs) {i g : Nat} (hi : i < d.m.zs.length) (hg : (vs.getD i (.bool false)).ownBlock = some g) : g ≠ bd ∧ g ≠ bm ∧ g ≠ bz ∧ g ≠ bb ∧ g ≠ bl := by
  have := h.off i g hi hg
  simp only [List.mem_cons, List.not_mem_nil, or_false, not_or] at this
  exact this

/-- The machine has made a step. -/
theorem IsD.mach {w w' : World} {bd bm bz bb bl : Nat} {d : Dv} {vs : List Value} {m2 : Mc} (h : IsD w bd bm bz bb bl d vs) (hM : IsM TM TZ w' bm bz m2) (hl : m2.zs.length = d.m.zs.length) (hm : Mod [bz] w w') : IsD w' bd bm bz bb bl { d with m := m2 } vs := by
  have hn := h.nes
  refine ⟨hM, by simpa only [hl] using hm.blk h.drv (by simp; omega), hm.blk h.byt (by simp; omega), hm.blk h.las (by simp; omega), h.nv.trans hl.symm, h.nb.trans hl.symm, h.nl.trans hl.symm, fun i hi => ?_, fun i j g hi hj => h.apart i j g (hl ▸ hi) (hl ▸ hj), fun i g hi => h.off i g (hl ▸ hi), h.ne⟩
  have hi' : i < d.m.zs.length := hl ▸ hi
  exact ownsRow_block (h.row i hi') fun g hg => hm.block g (ownsRow_lt (h.row i hi') hg) (by have := h.rowOff hi' hg; simp; omega)

/-- What lasts of zone i is put. -/
theorem IsD.setL {w : World} {bd bm bz bb bl : Nat} {d : Dv} {vs : List Value} (h : IsD w bd bm bz bb bl d vs) (i n : Nat) : IsD (w.setCell ⟨bl, i, none⟩ (.int .i64 (n : Int))) bd bm bz bb bl { d with la := d.la.set i n } vs := by
  have hn := h.nes
  have hm : Mod [bl] w (w.setCell ⟨bl, i, none⟩ (.int .i64 (n : Int))) := (Mod.refl [bl] w).set (by simp) _
  refine ⟨h.m.mod hm (by simp; omega) (by simp; omega), hm.blk h.drv (by simp; omega), hm.blk h.byt (by simp; omega), ?_, h.nv, h.nb, by simpa using h.nl, fun j hj => ?_, h.apart, h.off, h.ne⟩
  · have := h.las.set i (.int .i64 (n : Int))
    rw [List.setIfInBounds_toArray] at this
    simpa only [List.map_set] using this
  · exact ownsRow_block (h.row j hj) fun g hg => hm.block g (ownsRow_lt (h.row j hj) hg) (by have := h.rowOff hj hg; simp; omega)

/-- The bytes of zone i are put: a row of its own, in its old block or in a new one. -/
theorem IsD.setB {w w1 : World} {bd bm bz bb bl : Nat} {d : Dv} {vs : List Value} (h : IsD w bd bm bz bb bl d vs) (i : Nat) (hi : i < d.m.zs.length) (S : List Nat) (hm : Mod S w w1)
    (hS : ∀ x ∈ S, (vs.getD i (.bool false)).ownBlock = some x) (v : Value) (l : List UInt8) (hv : w1.ownsRow 0 5 1 v l.length (bc l)) (hv2 : ∀ g, v.ownBlock = some g → (vs.getD i (.bool false)).ownBlock = some g ∨ w.heap.size ≤ g) :
    IsD (w1.setCell ⟨bb, i, none⟩ v) bd bm bz bb bl { d with bs := d.bs.set i l } (vs.set i v) := by
  have hn := h.nes
  have hS' : ∀ x ∈ [bd, bm, bz, bb, bl], x ∉ S := fun x hx hs => h.off i x hi (hS x hs) hx
  have hm2 : Mod (bb :: S) w (w1.setCell ⟨bb, i, none⟩ v) := (hm.mono (fun x _ hx => List.mem_cons_of_mem _ hx)).set (by simp) _
  have hc := h.cells.lt
  have hiv : i < vs.length := by rw [h.nv]; exact hi
  have hib : i < d.bs.length := by rw [h.nb]; exact hi
  have hne : ∀ x ∈ [bd, bm, bz, bl], x ∉ bb :: S := by
    intro x hx
    simp only [List.mem_cons, List.not_mem_nil, or_false] at hx
    simp only [List.mem_cons, not_or]
    exact ⟨by omega, hS' x (by simp; omega)⟩
  have hgi : (vs.set i v).getD i (.bool false) = v := by simp [List.getD_eq_getElem?_getD, hiv]
  have hgj : ∀ j, j ≠ i → (vs.set i v).getD j (.bool false) = vs.getD j (.bool false) := fun j hj => by simp [List.getD_eq_getElem?_getD, Ne.symm hj]
  have hbi : (d.bs.set i l).getD i [] = l := by simp [List.getD_eq_getElem?_getD, hib]
  have hbj : ∀ j, j ≠ i → (d.bs.set i l).getD j [] = d.bs.getD j [] := fun j hj => by simp [List.getD_eq_getElem?_getD, Ne.symm hj]
  have hvb : ∀ g, v.ownBlock = some g → g ≠ bb := by
    intro g hg e
    subst e
    rcases hv2 g hg with h1 | h1
    · exact h.off i g hi h1 (by simp)
    · omega
  refine ⟨h.m.mod hm2 (hne _ (by simp)) (hne _ (by simp)), hm2.blk h.drv (hne _ (by simp)), ?_, hm2.blk h.las (hne _ (by simp)), by simpa using h.nv, by simpa using h.nb, h.nl, fun j hj => ?_, fun j k g hj hk hjk hg hg' => ?_, fun j g hj hg hx => ?_, h.ne⟩
  · have := (hm.blk h.byt (hS' _ (by simp))).set i v
    rwa [List.setIfInBounds_toArray] at this
  · show World.ownsRow _ 0 _ 1 ((vs.set i v).getD j _) ((d.bs.set i l).getD j []).length (bc ((d.bs.set i l).getD j []))
    by_cases hji : j = i
    · subst hji
      rw [hgi, hbi]
      exact ownsRow_block hv fun g hg => Below.heap_setCell _ _ _ _ (hvb g hg)
    · rw [hgj j hji, hbj j hji]
      refine ownsRow_block (h.row j hj) fun g hg => hm2.block g (ownsRow_lt (h.row j hj) hg) ?_
      have := h.rowOff hj hg
      simp only [List.mem_cons, not_or]
      exact ⟨by omega, fun hs => h.apart j i g hj hi hji hg (hS g hs)⟩
  · have hlt : ∀ t, t < d.m.zs.length → (vs.getD t (.bool false)).ownBlock = some g → g < w.heap.size := fun t ht e => ownsRow_lt (h.row t ht) e
    by_cases hji : j = i
    · subst hji
      rw [hgi] at hg
      rw [hgj k (Ne.symm hjk)] at hg'
      rcases hv2 g hg with h1 | h1
      · exact h.apart j k g hj hk hjk h1 hg'
      · have := hlt k hk hg'; omega
    · rw [hgj j hji] at hg
      by_cases hki : k = i
      · subst hki
        rw [hgi] at hg'
        rcases hv2 g hg' with h1 | h1
        · exact h.apart j k g hj hk hjk hg h1
        · have := hlt j hj hg; omega
      · rw [hgj k hki] at hg'
        exact h.apart j k g hj hk hjk hg hg'
  · by_cases hji : j = i
    · subst hji
      rw [hgi] at hg
      rcases hv2 g hg with h1 | h1
      · exact h.off j g hj h1 hx
      · simp only [List.mem_cons, List.not_mem_nil, or_false] at hx
        omega
    · rw [hgj j hji] at hg
      exact h.off j g hj hg hx

end Go.Proofs.Ytojceddgmmapdaa
