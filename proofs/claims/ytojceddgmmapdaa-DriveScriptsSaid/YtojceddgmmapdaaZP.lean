/-
  Plain laws of the zones' machine: what doF keeps.
-/
import Derived.Test.YtojceddgmmapdaaZ4
namespace Go.Proofs.Ytojceddgmmapdaa
open Go.RowKit

/-- Two machines of the same make. -/
structure Mc.like (m m' : Mc) : Prop where
  len : m'.zs.length = m.zs.length
  bl : m'.bl = m.bl
  op : m'.op = m.op
  ac : m'.ac = m.ac

theorem Mc.like.refl (m : Mc) : m.like m := ⟨rfl, rfl, rfl, rfl⟩
theorem Mc.like.trans {a b c : Mc} (h : a.like b) (k : b.like c) : a.like c := ⟨k.len.trans h.len, k.bl.trans h.bl, k.op.trans h.op, k.ac.trans h.ac⟩

theorem like_setSt (m : Mc) (i : Nat) (s : Int) : m.like (m.setSt i s) := ⟨by simp, rfl, rfl, rfl⟩
theorem like_setLn (m : Mc) (i : Nat) (s : Int) : m.like (m.setLn i s) := ⟨by simp, rfl, rfl, rfl⟩
theorem like_enter (m : Mc) (i : Nat) (s : Int) (hi : i < m.zs.length) : m.like (enterF m i s).2 :=
  have h := enterF_keeps m i s hi
  ⟨h.1, h.2.1, h.2.2.1, h.2.2.2.1⟩

theorem like_grow (m : Mc) (i : Nat) (n : Int) (hi : i < m.zs.length) : m.like (growF m i n).2 := by
  unfold growF
  simp only
  split
  · exact like_enter m i 1 hi
  · split
    · exact ((like_enter m i 1 hi).trans (like_setLn _ _ _)).trans (like_setSt _ _ _)
    · exact (like_enter m i 1 hi).trans (like_setLn _ _ _)

theorem like_verb (m : Mc) (k : Int) (i : Nat) (a n : Int) (hi : i < m.zs.length) : m.like (verbF m k i a n).2 := by
  have hg := like_grow m i n hi
  have he := like_enter m i 2 hi
  have hr := Mc.like.refl m
  have hs := fun s => like_setSt m i s
  have hz : m.like { m with zs := m.zs.set i (0, 0) } := ⟨by simp, rfl, rfl, rfl⟩
  unfold verbF
  repeat' split
  all_goals first | exact hr | exact hg | exact he | exact hz | exact hs _

theorem like_do (m : Mc) (k z a n : Int) : m.like (doF m k z a n).2 := by
  unfold doF
  split
  · exact Mc.like.refl m
  · split
    · exact Mc.like.refl m
    · exact like_verb m k _ a n (by omega)

/-! ### The states and lengths stay within their bounds; the limits hold. -/

/-- All that holds of a machine between two commands. -/
structure Mc.good (m : Mc) : Prop extends toOk : Mc.ok m where
  limO : cntO m.zs ≤ m.op
  limA : cntA m.zs ≤ m.ac

theorem cntO_le_cntA (zs : List (Int × Int)) : cntO zs ≤ cntA zs := by
  unfold cntO cntA
  induction zs with
  | nil => simp
  | cons z zs ih =>
    simp only [List.filter_cons]
    by_cases h1 : isOp z.1 = true
    · have h2 : isAc z.1 = true := by simp only [isOp, isAc, Bool.or_eq_true] at *; exact .inl h1
      simp only [h1, h2, if_true, List.length_cons]; omega
    · rw [if_neg h1]
      split
      · simp only [List.length_cons]; omega
      · exact ih

theorem cnt_set (p : Int → Bool) (zs : List (Int × Int)) (i : Nat) (hi : i < zs.length) (z : Int × Int) :
    (((zs.set i z).filter fun z => p z.1).length : Int) = ((zs.filter fun z => p z.1).length : Int) - (if p (stOf zs i) then 1 else 0) + (if p z.1 then 1 else 0) := by
  induction zs generalizing i with
  | nil => simp at hi
  | cons y ys ih =>
    cases i with
    | zero =>
      simp only [List.set_cons_zero, List.filter_cons, stOf, List.getD_eq_getElem?_getD, List.getElem?_cons_zero, Option.getD_some]
      by_cases h1 : p z.1 = true <;> by_cases h2 : p y.1 = true <;> simp [h1, h2] <;> omega
    | succ i =>
      have := ih i (by simpa using hi)
      have e : stOf (y :: ys) (i + 1) = stOf ys i := by simp [stOf]
      rw [e]
      simp only [List.set_cons_succ, List.filter_cons]
      by_cases h2 : p y.1 = true
      · simp only [h2, if_true, List.length_cons]; omega
      · simp only [h2]; exact this

theorem cntO_set (zs : List (Int × Int)) (i : Nat) (hi : i < zs.length) (z : Int × Int) : cntO (zs.set i z) = cntO zs - (if isOp (stOf zs i) then 1 else 0) + (if isOp z.1 then 1 else 0) := cnt_set isOp zs i hi z
theorem cntA_set (zs : List (Int × Int)) (i : Nat) (hi : i < zs.length) (z : Int × Int) : cntA (zs.set i z) = cntA zs - (if isAc (stOf zs i) then 1 else 0) + (if isAc z.1 then 1 else 0) := cnt_set isAc zs i hi z

theorem ok_set {m : Mc} (h : m.ok) {i : Nat} (hi : i < m.zs.length) {s l : Int} (h1 : 0 ≤ s) (h2 : s ≤ 4) (h3 : 0 ≤ l) (h4 : l ≤ m.bl) : ({ m with zs := m.zs.set i (s, l) } : Mc).ok := by
  refine ⟨by simpa using h.n1, by simpa using h.n2, h.b1, h.b2, h.o1, h.o2, by simpa using h.a2, ?_⟩
  intro j hj
  have hj' : j < m.zs.length := by simpa using hj
  have := h.each j hj'
  show 0 ≤ stOf (m.zs.set i (s, l)) j ∧ _ ∧ 0 ≤ lnOf (m.zs.set i (s, l)) j ∧ lnOf (m.zs.set i (s, l)) j ≤ m.bl
  rw [stOf_set _ _ hi, lnOf_set _ _ hi]
  split
  · exact ⟨h1, h2, h3, h4⟩
  · exact this

theorem isOp_iff (s : Int) : isOp s = true ↔ s = 1 ∨ s = 2 := by simp [isOp]
theorem isAc_iff (s : Int) : isAc s = true ↔ s = 1 ∨ s = 2 ∨ s = 3 := by simp [isAc, or_assoc]

/-- A zone is set within the limits: the counts do not pass them. -/
theorem good_set {m : Mc} (h : m.good) {i : Nat} (hi : i < m.zs.length) {s l : Int} (h1 : 0 ≤ s) (h2 : s ≤ 4) (h3 : 0 ≤ l) (h4 : l ≤ m.bl)
    (hO : isOp s = true → isOp (m.st i) = true ∨ cntO m.zs < m.op) (hA : isAc s = true → isAc (m.st i) = true ∨ cntA m.zs < m.ac) : ({ m with zs := m.zs.set i (s, l) } : Mc).good := by
  refine ⟨ok_set h.toOk hi h1 h2 h3 h4, ?_, ?_⟩
  · show cntO (m.zs.set i (s, l)) ≤ m.op
    rw [cntO_set _ _ hi]
    have := h.limO
    have e : stOf m.zs i = m.st i := rfl
    rw [e]
    by_cases a : isOp s = true
    · rcases hO a with b | b
      · simp only [a, b, if_true]; omega
      · simp only [a, if_true]; split <;> omega
    · simp only [a]; split <;> simp <;> omega
  · show cntA (m.zs.set i (s, l)) ≤ m.ac
    rw [cntA_set _ _ hi]
    have := h.limA
    have e : stOf m.zs i = m.st i := rfl
    rw [e]
    by_cases a : isAc s = true
    · rcases hA a with b | b
      · simp only [a, b, if_true]; omega
      · simp only [a, if_true]; split <;> omega
    · simp only [a]; split <;> simp <;> omega

theorem good_enter {m : Mc} (h : m.good) {i : Nat} (hi : i < m.zs.length) {s : Int} (hs : s = 1 ∨ s = 2) (hn4 : m.st i ≠ 4) : (enterF m i s).2.good := by
  have hb := h.each i hi
  have hb : 0 ≤ m.st i ∧ m.st i ≤ 4 ∧ 0 ≤ m.ln i ∧ m.ln i ≤ m.bl := hb
  unfold enterF
  split
  · rename_i ho
    exact good_set h hi (by split <;> omega) (by split <;> omega) hb.2.2.1 hb.2.2.2 (fun _ => .inl ho) (fun _ => .inl (by rw [isOp_iff] at ho; rw [isAc_iff]; omega))
  · rename_i ho
    split
    · exact h
    · rename_i hA
      split
      · rename_i hO
        split
        · exact h
        · rename_i hf
          rcases fidx_cases m.zs with ⟨e, _⟩ | ⟨j, hj, e, hj1, _⟩
          · rw [e] at hf; exact absurd hf (by decide)
          · rw [e, Int.toNat_natCast]
            have hji : j ≠ i := by rintro rfl; exact ho (by rw [isOp_iff]; exact .inl hj1)
            have hbj : 0 ≤ m.st j ∧ m.st j ≤ 4 ∧ 0 ≤ m.ln j ∧ m.ln j ≤ m.bl := h.each j hj
            have g1 : (m.setSt j 3).good := good_set h hj (by decide) (by decide) hbj.2.2.1 hbj.2.2.2 (fun x => absurd x (by decide)) (fun _ => .inl (by rw [isAc_iff]; exact .inl hj1))
            have c1 : cntO (m.setSt j 3).zs = cntO m.zs - 1 := by
              show cntO (m.zs.set j (3, m.ln j)) = _
              rw [cntO_set _ _ hj]
              have e1 : isOp (stOf m.zs j) = true := by rw [isOp_iff]; exact .inl hj1
              have e2 : isOp 3 = false := by decide
              simp [e1, e2]
            have c2 : cntA (m.setSt j 3).zs = cntA m.zs := by
              show cntA (m.zs.set j (3, m.ln j)) = _
              rw [cntA_set _ _ hj]
              have e1 : isAc (stOf m.zs j) = true := by rw [isAc_iff]; exact .inl hj1
              have e2 : isAc 3 = true := by decide
              simp [e1, e2]
            have hi' : i < (m.setSt j 3).zs.length := by simpa using hi
            have s1 : (m.setSt j 3).st i = m.st i := by rw [Mc.st_setSt _ _ hj, if_neg hji]
            have l1 : (m.setSt j 3).ln i = m.ln i := Mc.ln_setSt _ _ hj _ _
            have hLO := h.limO
            refine good_set g1 hi' (by omega) (by omega) (by rw [l1]; exact hb.2.2.1) (by rw [l1]; exact hb.2.2.2) (fun _ => .inr (by rw [c1]; show _ < m.op; omega)) (fun _ => ?_)
            rw [s1, c2]
            by_cases h3 : m.st i = 3
            · exact .inl (by rw [h3]; decide)
            · right
              show _ < m.ac
              by_cases h0 : m.st i = 0
              · have := h.limA; omega
              · exfalso
                rw [isOp_iff] at ho
                omega
      · rename_i hO
        refine good_set h hi (by omega) (by omega) hb.2.2.1 hb.2.2.2 (fun _ => .inr (by omega)) (fun _ => ?_)
        by_cases h3 : m.st i = 3
        · exact .inl (by rw [h3]; decide)
        · right
          by_cases h0 : m.st i = 0
          · omega
          · exfalso
            rw [isOp_iff] at ho
            omega

theorem enterF_st {m : Mc} {i : Nat} (hi : i < m.zs.length) {s : Int} (hs : s = 1 ∨ s = 2) (he : (enterF m i s).1 = 0) : isOp ((enterF m i s).2.st i) = true := by
  unfold enterF at he ⊢
  split
  · rename_i ho
    show isOp ((m.setSt i _).st i) = true
    rw [Mc.st_setSt _ _ hi, if_pos rfl]
    split
    · rw [isOp_iff]; exact hs
    · exact ho
  · rename_i ho
    rw [if_neg ho] at he
    split
    · rename_i hA; rw [if_pos hA] at he; exact absurd he (by show ¬ (5 : Int) = 0; decide)
    · rename_i hA
      rw [if_neg hA] at he
      split
      · rename_i hO
        rw [if_pos hO] at he
        split
        · rename_i hf; rw [if_pos hf] at he; exact absurd he (by show ¬ (5 : Int) = 0; decide)
        · show isOp (((m.setSt _ 3).setSt i s).st i) = true
          rw [Mc.st_setSt _ _ (by simpa using hi), if_pos rfl, isOp_iff]; exact hs
      · show isOp ((m.setSt i s).st i) = true
        rw [Mc.st_setSt _ _ hi, if_pos rfl, isOp_iff]; exact hs

theorem good_grow {m : Mc} (h : m.good) {i : Nat} (hi : i < m.zs.length) {n : Int} (h1 : 1 ≤ n) (h2 : m.ln i + n ≤ m.bl) (hn4 : m.st i ≠ 4) : (growF m i n).2.good := by
  unfold growF
  simp only
  have hg := good_enter h hi (.inl rfl) hn4
  have hk := enterF_keeps m i 1 hi
  have hb : 0 ≤ m.st i ∧ m.st i ≤ 4 ∧ 0 ≤ m.ln i ∧ m.ln i ≤ m.bl := h.each i hi
  split
  · exact hg
  · rename_i he
    have he : (enterF m i 1).1 = 0 := by simpa using he
    have ho := enterF_st hi (.inl rfl) he
    generalize (enterF m i 1).2 = m1 at *
    obtain ⟨q1, q2, q3, q4, q5⟩ := hk
    have hi1 : i < m1.zs.length := by omega
    have ha : isAc (m1.st i) = true := by rw [isAc_iff]; rw [isOp_iff] at ho; omega
    have hs1 : 0 ≤ m1.st i ∧ m1.st i ≤ 4 := ⟨(hg.each i hi1).1, (hg.each i hi1).2.1⟩
    have g2 : (m1.setLn i (m.ln i + n)).good := good_set hg hi1 hs1.1 hs1.2 (by omega) (by omega) (fun _ => .inl ho) (fun _ => .inl ha)
    split
    · have hi2 : i < (m1.setLn i (m.ln i + n)).zs.length := by simpa using hi1
      have l2 : (m1.setLn i (m.ln i + n)).ln i = m.ln i + n := by rw [Mc.ln_setLn _ _ hi1, if_pos rfl]
      exact good_set g2 hi2 (by decide) (by decide) (by rw [l2]; omega) (by rw [l2]; show _ ≤ m1.bl; omega) (fun x => absurd x (by decide)) (fun x => absurd x (by decide))
    · exact g2

theorem good_verb {m : Mc} (h : m.good) {i : Nat} (hi : i < m.zs.length) (k a n : Int) : (verbF m k i a n).2.good := by
  have hb : 0 ≤ m.st i ∧ m.st i ≤ 4 ∧ 0 ≤ m.ln i ∧ m.ln i ≤ m.bl := h.each i hi
  have hbl := h.b1
  unfold verbF
  split
  · split
    · exact h
    · rename_i hs
      split
      · exact h
      · rename_i h4
        split
        · exact h
        · rename_i ha
          have hs := spanF_true (by simpa using hs)
          exact good_grow h hi hs.2.1 (by omega) h4
  · split
    · split
      · exact h
      · rename_i hs
        split
        · exact h
        · rename_i h4
          split
          · exact h
          · rename_i ha
            have hs := spanF_true (by simpa using hs)
            have ha := spanF_true (by simpa using ha)
            exact good_grow h hi hs.2.1 (by omega) h4
    · split
      · exact good_set h hi (by decide) (by decide) (by decide) (by omega) (fun x => absurd x (by decide)) (fun x => absurd x (by decide))
      · split
        · exact good_set h hi (by decide) (by decide) hb.2.2.1 hb.2.2.2 (fun x => absurd x (by decide)) (fun x => absurd x (by decide))
        · split
          · split
            · exact h
            · rename_i h4
              exact good_enter h hi (.inr rfl) h4
          · split
            · split
              · rename_i ho
                refine good_set h hi ?_ ?_ hb.2.2.1 hb.2.2.2 ?_ ?_
                · unfold restF; split <;> decide
                · unfold restF; split <;> decide
                · intro x; exfalso; revert x; unfold restF; split <;> decide
                · intro _; left; rw [isAc_iff]; rw [isOp_iff] at ho; omega
              · split <;> exact h
            · split <;> exact h

theorem good_do {m : Mc} (h : m.good) (k z a n : Int) : (doF m k z a n).2.good := by
  unfold doF
  split
  · exact h
  · split
    · exact h
    · exact good_verb h (by omega) k a n

theorem good_new {z b o a : Int} (hok : (newF z b o a).ok) : (newF z b o a).good := by
  have h0 : ∀ (p : Int → Bool), p 0 = false → ∀ n : Nat, ((List.replicate n ((0 : Int), (0 : Int))).filter fun z => p z.1) = [] := by
    intro p hp n
    rw [List.filter_eq_nil_iff]
    intro x hx
    rw [(List.mem_replicate.1 hx).2]; simp [hp]
  have := hok.o1
  have := hok.o2
  refine ⟨hok, ?_, ?_⟩
  · show cntO (List.replicate z.toNat (0, 0)) ≤ o
    unfold cntO; rw [h0 isOp (by decide)]
    have : (newF z b o a).op = o := rfl
    simp only [List.length_nil]; omega
  · show cntA (List.replicate z.toNat (0, 0)) ≤ a
    unfold cntA; rw [h0 isAc (by decide)]
    have : (newF z b o a).op = o := rfl
    have : (newF z b o a).ac = a := rfl
    simp only [List.length_nil]; omega

/-! ### What a refused command, and any command, does to a zone's length. -/
theorem enter_refuses (m : Mc) (i : Nat) (s : Int) (he : (enterF m i s).1 ≠ 0) : (enterF m i s).2 = m := by
  unfold enterF at he ⊢
  split
  · rename_i ho; rw [if_pos ho] at he; exact absurd rfl he
  · rename_i ho
    rw [if_neg ho] at he
    split
    · rfl
    · rename_i hA
      rw [if_neg hA] at he
      split
      · rename_i hO
        rw [if_pos hO] at he
        split
        · rfl
        · rename_i hf; rw [if_neg hf] at he; exact absurd rfl he
      · rename_i hO; rw [if_neg hO] at he; exact absurd rfl he

theorem grow_refuses (m : Mc) (i : Nat) (n : Int) (he : (growF m i n).1.2 ≠ 0) : (growF m i n).2 = m := by
  unfold growF at he ⊢
  simp only at he ⊢
  split
  · rename_i h; exact enter_refuses m i 1 h
  · rename_i h; rw [if_neg h] at he; exact absurd rfl he

theorem verb_refuses (m : Mc) (k : Int) (i : Nat) (a n : Int) (he : (verbF m k i a n).1.2 ≠ 0) : (verbF m k i a n).2 = m := by
  have hg := grow_refuses m i n
  have h2 := enter_refuses m i 2
  revert he
  unfold verbF
  repeat' split
  all_goals first | exact fun _ => rfl | exact hg | exact h2 | exact fun he => absurd rfl he

theorem do_refused (m : Mc) (k z a n : Int) (he : (doF m k z a n).1.2 ≠ 0) : (doF m k z a n).2 = m := by
  revert he
  unfold doF
  split
  · exact fun _ => rfl
  · split
    · exact fun _ => rfl
    · exact verb_refuses m k _ a n

theorem grow_ln (m : Mc) (i : Nat) (hi : i < m.zs.length) (n : Int) (h1 : 1 ≤ n) : m.ln i ≤ (growF m i n).2.ln i := by
  have hk := enterF_keeps m i 1 hi
  unfold growF
  simp only
  split
  · rw [hk.2.2.2.2]; exact Int.le_refl _
  · have hi1 : i < (enterF m i 1).2.zs.length := by omega
    split
    · rw [Mc.ln_setSt _ _ (by simpa using hi1), Mc.ln_setLn _ _ hi1, if_pos rfl]; omega
    · rw [Mc.ln_setLn _ _ hi1, if_pos rfl]; omega

theorem verb_ln (m : Mc) (k : Int) (i : Nat) (a n : Int) (hi : i < m.zs.length) : m.ln i ≤ (verbF m k i a n).2.ln i ∨ (k = 3 ∧ (verbF m k i a n).2.ln i = 0) := by
  have hr : m.ln i ≤ m.ln i := Int.le_refl _
  have he : m.ln i ≤ (enterF m i 2).2.ln i := by rw [(enterF_keeps m i 2 hi).2.2.2.2]; exact Int.le_refl _
  have hs : ∀ s, m.ln i ≤ (m.setSt i s).ln i := fun s => by rw [Mc.ln_setSt _ _ hi]; exact Int.le_refl _
  unfold verbF
  split
  · left
    split
    · exact hr
    · rename_i hsp
      split
      · exact hr
      · split
        · exact hr
        · exact grow_ln m i hi n (spanF_true (by simpa using hsp)).2.1
  · split
    · left
      split
      · exact hr
      · rename_i hsp
        split
        · exact hr
        · split
          · exact hr
          · exact grow_ln m i hi n (spanF_true (by simpa using hsp)).2.1
    · split
      · rename_i h3
        right
        refine ⟨h3, ?_⟩
        show lnOf (m.zs.set i (0, 0)) i = 0
        rw [lnOf_set _ _ hi, if_pos rfl]
      · left
        repeat' split
        all_goals first | exact hr | exact he | exact hs _

/-- What ZoneLimits asks of a step. -/
theorem do_step (m : Mc) (k z a n : Int) :
    ((doF m k z a n).1.2 = 0 ∧ 0 ≤ z ∧ z < m.zs.length ∧ (m.ln z.toNat ≤ (doF m k z a n).2.ln z.toNat ∨ (k = 3 ∧ (doF m k z a n).2.ln z.toNat = 0))) ∨ ((doF m k z a n).1.2 ≠ 0 ∧ (doF m k z a n).2 = m) := by
  by_cases he : (doF m k z a n).1.2 = 0
  · left
    refine ⟨he, ?_⟩
    revert he
    unfold doF
    split
    · intro h; exact absurd h (by show ¬ (1 : Int) = 0; decide)
    · split
      · intro h; exact absurd h (by show ¬ (2 : Int) = 0; decide)
      · rename_i hz
        intro _
        exact ⟨by omega, by omega, verb_ln m k _ a n (by omega)⟩
  · exact .inr ⟨he, do_refused m k z a n he⟩

end Go.Proofs.Ytojceddgmmapdaa
