/-
  Lose joined; the drive holds to its order under each of its functions.
-/
import Derived.Test.YtadpeopbfoppjaaD9
import Derived.Test.YtadpeopbfoppjaaD9Z
namespace Go.Proofs.Ytadpeopbfoppjaa
open Go.RowKit

theorem dlose_any (bd bm bz bb bl b : Nat) (d : Dv) (vs : List Value) (keep : List Int) (kv : Value) (w : World) (hI : IsD w bd bm bz bb bl d vs) (hok : d.ok) (hK : IntsAt w kv keep b) (hb : 0 < keep.length → b ∉ feet bd bm bz bb bl vs ∧ b < w.heap.size)
    (hkl : keep.length ≤ 9223372036854775807) (hr : ∀ j, -9223372036854775808 ≤ keep.getD j 0 ∧ keep.getD j 0 ≤ 9223372036854775807) (hw : ∀ x ∈ feet bd bm bz bb bl vs, x < w.heap.size) :
    Calls Try.prog 40 #[.pointer (some ⟨bd, 0, none⟩), kv] w (LosePost bd bm bz bb bl vs (dloseF d keep) w) := by
  by_cases h0 : 0 < keep.length
  · exact dlose_some bd bm bz bb bl b d vs keep kv w hI hok hK (hb h0).1 (hb h0).2 hkl h0 hr hw
  · have hke : keep = [] := List.eq_nil_of_length_eq_zero (by omega)
    subst hke
    obtain ⟨a, c, hv, -⟩ := hK
    exact dlose_zero bd bm bz bb bl (w.heap.size + 1) d vs kv w hI hok ⟨a, c, hv, fun h => absurd h (by simp)⟩ (fun hx => by have := hw _ hx; omega) (by omega) hw

theorem fits_size {k n : Int} {s : ByteArray} (hk : k = 1 ∨ k = 2) (hn : 0 ≤ n) (h : fitsF k n s = true) : s.size = 64 * n.toNat := by
  have h2 : writesF k = true := by rcases hk with rfl | rfl <;> rfl
  unfold fitsF at h
  rw [if_neg (by rw [h2]; intro h; rcases h with h | h; cases h; omega)] at h
  simp only [Bool.and_eq_true, decide_eq_true_eq, beq_iff_eq] at h
  omega

theorem getD_set {α : Type} (l : List α) (i j : Nat) (x y : α) (hi : i < l.length) : (l.set i x).getD j y = if i = j then x else l.getD j y := by
  simp only [List.getD_eq_getElem?_getD, List.getElem?_set]
  split
  · subst_vars; simp
  · rfl

theorem ok_ddo {d : Dv} (h : d.ok) (k z a n : Int) (s : ByteArray) : (ddoF d k z a n s).2.ok := by
  unfold ddoF
  split
  · exact h
  · split
    · exact h
    · rename_i hft
      have hft : fitsF k n s = true := by simpa using hft
      have hl := (like_do d.m k z a n).len
      have hm := ok_do h.m k z a n
      simp only
      split
      · rename_i he
        have := do_refused d.m k z a n he
        rw [this]
        exact ⟨h.m, h.nb, h.nl, h.each⟩
      · rename_i he
        obtain ⟨hz, hD⟩ := do_done d.m k z a n (by simpa using he)
        split
        · rename_i hk
          obtain ⟨-, hn1, -, hln⟩ := hD.w hk
          have hss := fits_size hk (by omega) hft
          refine ⟨hm, by simp [h.nb, hl], by simp [h.nl, hl], fun i hi => ?_⟩
          have hi' : i < d.m.zs.length := by simpa [hl] using hi
          have he' := h.each i hi'
          have hln' : lnOf (doF d.m k z a n).2.zs i = _ := hln i
          show ((((d.bs.set z.toNat (d.bs.getD z.toNat [] ++ s.data.toList)).getD i []).length : Nat) : Int) = 64 * lnOf (doF d.m k z a n).2.zs i ∧ _
          rw [hln', getD_set _ _ _ _ _ (by rw [h.nb]; exact hD.hi)]
          have hdl : s.data.toList.length = s.size := rfl
          have e2 : d.m.ln = fun i => lnOf d.m.zs i := rfl
          by_cases hzi : z.toNat = i
          · rw [if_pos hzi, if_pos hzi, List.length_append, hdl, e2, hzi]
            simp only
            omega
          · rw [if_neg hzi, if_neg hzi]
            exact he'
        · rename_i hk
          have hkeep : ¬ (k = 3) → ∀ i, i < (doF d.m k z a n).2.zs.length → (((d.bs.getD i []).length : Nat) : Int) = 64 * lnOf (doF d.m k z a n).2.zs i := fun h3 i hi => by
            have : lnOf (doF d.m k z a n).2.zs i = d.m.ln i := hD.o (by omega) i
            rw [this]
            exact (h.each i (by omega)).1
          split
          · exact ⟨hm, by simp [h.nb, hl], by simp [h.nl, hl], fun i hi => ⟨hkeep (by omega) i hi, (h.each i (by simpa [hl] using hi)).2⟩⟩
          · split
            · rename_i h3
              refine ⟨hm, by simp [h.nb, hl], by simp [h.nl, hl], fun i hi => ?_⟩
              have hi' : i < d.m.zs.length := by simpa [hl] using hi
              have hln' : lnOf (doF d.m k z a n).2.zs i = _ := hD.e h3 i
              show ((((d.bs.set z.toNat []).getD i []).length : Nat) : Int) = 64 * lnOf (doF d.m k z a n).2.zs i ∧ (d.la.set z.toNat 0).getD i 0 * 64 ≤ ((d.bs.set z.toNat []).getD i []).length
              rw [hln', getD_set _ _ _ _ _ (by rw [h.nb]; exact hD.hi), getD_set _ _ _ _ _ (by rw [h.nl]; exact hD.hi)]
              by_cases hzi : z.toNat = i
              · rw [if_pos hzi, if_pos hzi, if_pos hzi]; exact ⟨rfl, by simp⟩
              · rw [if_neg hzi, if_neg hzi, if_neg hzi]; exact h.each i hi'
            · rename_i h3
              split
              · refine ⟨hm, by simp [h.nb, hl], by simp [h.nl, hl], fun i hi => ⟨hkeep h3 i hi, ?_⟩⟩
                have hi' : i < d.m.zs.length := by simpa [hl] using hi
                show (d.la.set z.toNat ((d.bs.getD z.toNat []).length / 64)).getD i 0 * 64 ≤ (d.bs.getD i []).length
                rw [getD_set _ _ _ _ _ (by rw [h.nl]; exact hD.hi)]
                by_cases hzi : z.toNat = i
                · rw [if_pos hzi, hzi]; omega
                · rw [if_neg hzi]; exact (h.each i hi').2
              · exact ⟨hm, by simp [h.nb, hl], by simp [h.nl, hl], fun i hi => ⟨hkeep h3 i hi, (h.each i (by simpa [hl] using hi)).2⟩⟩

theorem ok_dflush {d : Dv} (h : d.ok) : (dflushF d).2.ok := by
  unfold dflushF
  split
  · exact h
  · refine ⟨h.m, h.nb, by simp [h.nb], fun i hi => ⟨(h.each i hi).1, ?_⟩⟩
    have hi' : i < d.bs.length := by rw [h.nb]; exact hi
    simp only [List.getD_eq_getElem?_getD, List.getElem?_map, List.getElem?_eq_getElem hi', Option.map_some, Option.getD_some]
    omega

theorem lnOf_lostL (ls : List Int) (zs : List (Int × Int)) (i : Nat) (hi : i < zs.length) (hls : ls.length = zs.length) (h : 0 ≤ ls.getD i 0 ∧ ls.getD i 0 ≤ lnOf zs i) :
    lnOf (lostL ls zs) i = ls.getD i 0 := by
  have e : ls[i]? = some (ls.getD i 0) := by simp [List.getD_eq_getElem?_getD, show i < ls.length by omega]
  have e2 : lnOf (lostL ls zs) i = (lostZ ls[i]? (stOf zs i, lnOf zs i)).2 := by
    simp [lnOf, lostL, stOf, List.getD_eq_getElem?_getD, hi]
  rw [e2, e]
  unfold lostZ
  simp only
  split
  · rfl
  · split <;> (simp only; omega)

theorem stOf_lostL (ls : List Int) (zs : List (Int × Int)) (i : Nat) (hi : i < zs.length) (h : 0 ≤ stOf zs i ∧ stOf zs i ≤ 4) : 0 ≤ stOf (lostL ls zs) i ∧ stOf (lostL ls zs) i ≤ 4 := by
  have e2 : stOf (lostL ls zs) i = (lostZ ls[i]? (stOf zs i, lnOf zs i)).1 := by
    simp [lnOf, lostL, stOf, List.getD_eq_getElem?_getD, hi]
  rw [e2]
  have hr : ∀ x, 0 ≤ restF x ∧ restF x ≤ 4 := fun x => by unfold restF; split <;> omega
  unfold lostZ
  split
  · split
    · exact hr _
    · split
      · exact h
      · exact hr _
  · split
    · exact h
    · exact hr _

theorem lefts_len (d : Dv) (keep : List Int) : (leftsF d keep).length = d.m.zs.length := by simp [leftsF]
theorem lefts_get (d : Dv) (keep : List Int) {i : Nat} (hi : i < d.m.zs.length) : ((leftsF d keep).map fun n : Nat => (n : Int)).getD i 0 = (leftF d keep i : Int) := by
  simp [leftsF, List.getD_eq_getElem?_getD, hi]

theorem ok_dlose {d : Dv} (h : d.ok) (keep : List Int) : (dloseF d keep).ok := by
  have hln : ∀ i, i < d.m.zs.length → lnOf (lostL ((leftsF d keep).map fun n : Nat => (n : Int)) d.m.zs) i = (leftF d keep i : Int) := fun i hi => by
    have h1 := left_le h keep hi
    have h2 := (h.each i hi).1
    rw [lnOf_lostL _ _ i hi (by simp [lefts_len]) (by rw [lefts_get d keep hi]; omega), lefts_get d keep hi]
  have hlen : ∀ i, i < d.m.zs.length → ((d.bs.getD i []).take (leftF d keep i * 64)).length = leftF d keep i * 64 := fun i hi => by
    have h1 := left_le h keep hi
    rw [List.length_take]; omega
  refine ⟨⟨?_, ?_, h.m.b1, h.m.b2, h.m.o1, h.m.o2, ?_, fun i hi => ?_⟩, ?_, ?_, fun i hi => ?_⟩
  · show 1 ≤ (lostL _ _).length; rw [lostL_len]; exact h.m.n1
  · show (lostL _ _).length ≤ 64; rw [lostL_len]; exact h.m.n2
  · show d.m.ac ≤ ((lostL _ _).length : Int); rw [lostL_len]; exact h.m.a2
  · have hi' : i < d.m.zs.length := by
      have : (dloseF d keep).m.zs.length = d.m.zs.length := lostL_len _ _
      omega
    have h1 := stOf_lostL ((leftsF d keep).map fun n : Nat => (n : Int)) d.m.zs i hi' ⟨(h.m.each i hi').1, (h.m.each i hi').2.1⟩
    have h2 := hln i hi'
    have h3 := left_le h keep hi'
    have h4 := (h.each i hi').1
    have h5 := h.m.each i hi'
    show 0 ≤ stOf (lostL _ _) i ∧ stOf (lostL _ _) i ≤ 4 ∧ 0 ≤ lnOf (lostL _ _) i ∧ lnOf (lostL _ _) i ≤ d.m.bl
    rw [h2]
    omega
  · show _ = (lostL _ _).length; rw [lostL_len]; simp [dloseF]
  · show (leftsF d keep).length = (lostL _ _).length; rw [lostL_len, lefts_len]
  · have hi' : i < d.m.zs.length := by
      have : (dloseF d keep).m.zs.length = d.m.zs.length := lostL_len _ _
      omega
    have e1 : (dloseF d keep).bs.getD i [] = (d.bs.getD i []).take (leftF d keep i * 64) := range_get _ _ _ _ hi'
    have e2 : (dloseF d keep).la.getD i 0 = leftF d keep i := range_get _ _ _ _ hi'
    have e3 : lnOf (dloseF d keep).m.zs i = _ := hln i hi'
    rw [e1, e2, e3, hlen i hi']
    omega

theorem newF_okD {z b o a : Int} (h : newOk z b o a = true) : (newF z b o a).ok := by
  simp only [newOk, Bool.and_eq_true, decide_eq_true_eq] at h
  refine ⟨?_, ?_, ?_, ?_, ?_, ?_, ?_, fun i hi => ?_⟩ <;> simp only [newF, List.length_replicate] at * <;> try omega
  simp [stOf, lnOf, List.getD_eq_getElem?_getD, hi]
  omega

theorem ok_dnew {z b o a : Int} (h : newOk z b o a = true) : (dnewF z b o a).ok := by
  have h' := h
  simp only [newOk, Bool.and_eq_true, decide_eq_true_eq] at h'
  refine ⟨newF_okD h, by simp [dnewF, newF], by simp [dnewF, newF], fun i hi => ?_⟩
  have hi' : i < z.toNat := by simpa [dnewF, newF] using hi
  simp [dnewF, newF, List.getD_eq_getElem?_getD, lnOf, hi']

end Go.Proofs.Ytadpeopbfoppjaa
