/-
  Plain: speaks, much; the law XorFolds.
-/
import Derived.Test.YticpjnpafmehaaaDoorXP2
namespace Go.Proofs.YticpjnpafmehaaaDoor.XPlain
open Go.RowKit Go.Proofs.YticpjnpafmehaaaDoor.X Go.Proofs.YticpjnpafmehaaaDoorW.PrintWords Go.Proofs.YticpjnpafmehaaaDoorW.PrintLast Go.Proofs.YticpjnpafmehaaaDoorW.PrintMore

theorem speaks_ev : Ev (fun k => corbellaw03_speaks.f k) true := by
  have h := add_ev (⟨#[97, 98]⟩ : ByteArray) (⟨#[3]⟩ : ByteArray) (by decide) (by decide)
  refine Ev.congr (f := fun k => (xor_Add.f k (⟨#[97, 98]⟩ : ByteArray) (⟨#[3]⟩ : ByteArray)).bind fun t121 => (if t121.toList = ([98, 98] : List UInt8) then ((xor_Empty.f (⟨#[0]⟩ : ByteArray)).bind fun t122 => (some t122)) else (some false))) (fun k => rfl) (Ev.bind h ?_)
  refine Ev.congr (fun k => if_pos (by rw [ByteArray.toList_eq]; decide)) ?_
  refine Ev.congr (f := fun _ => some true) (fun k => ?_) (Ev.now _)
  unfold xor_Empty.f
  rw [if_pos (by decide)]
  rfl

theorem much_from (l : List ByteArray) (hsz : ∀ p ∈ l, p.size ≤ 140737488355328) (_hl : l.length ≤ 140737488355328) (d : Nat) : ∀ (i n : Nat), i + d = l.length → i ≤ 201 → n ≤ 5000 → (∀ p ∈ l.take i, p.size ≤ 5000) →
    ∃ b, Ev (fun k => corbellaw03_much.l0 k l (n : Int) (i : Int)) b ∧ (b = false → l.length ≤ 201 ∧ ∀ p ∈ l, p.size ≤ 5000) := by
  induction d with
  | zero =>
    intro i n hi h1 h2 h3
    obtain rfl : i = l.length := by omega
    refine ⟨false, Ev.step (f := fun _ => some false) (fun k => ?_) (Ev.now _), fun _ => ⟨h1, by simpa using h3⟩⟩
    simp only [corbellaw03_much.l0]
    rw [if_neg (by omega)]
  | succ d ih =>
    intro i n hi h1 h2 h3
    have hil : i < l.length := by omega
    have hs := hsz l[i] (List.getElem_mem hil)
    have w1 : wrap64 ((n : Int) + (l[i].size : Int)) = ((n + l[i].size : Nat) : Int) := by unfold wrap64; omega
    have w3 : wrap64 ((i : Int) + 1) = ((i + 1 : Nat) : Int) := by unfold wrap64; omega
    by_cases c1 : n + l[i].size > 5000
    · refine ⟨true, Ev.step (f := fun _ => some true) (fun k => ?_) (Ev.now _), fun h => by cases h⟩
      simp only [corbellaw03_much.l0]
      rw [if_pos (by omega), if_pos (by omega), rdOf_at l i hil, w1, if_pos (by omega)]
    · by_cases c2 : i > 200
      · refine ⟨true, Ev.step (f := fun _ => some true) (fun k => ?_) (Ev.now _), fun h => by cases h⟩
        simp only [corbellaw03_much.l0]
        rw [if_pos (by omega), if_pos (by omega), rdOf_at l i hil, w1, if_neg (by omega), if_pos (by omega)]
      · obtain ⟨b, hb, h4⟩ := ih (i + 1) (n + l[i].size) (by omega) (by omega) (by omega) (fun p hp => by
          rw [take_succ' l i hil] at hp
          rcases List.mem_append.1 hp with hp | hp
          · exact h3 p hp
          · have : p = l[i] := by simpa using hp
            subst this
            omega)
        refine ⟨b, Ev.step (fun k => ?_) hb, h4⟩
        simp only [corbellaw03_much.l0]
        rw [if_pos (by omega), if_pos (by omega), rdOf_at l i hil, w1, if_neg (by omega), if_neg (by omega), w3]

theorem long_le {l : List ByteArray} {n : Nat} (h : ∀ p ∈ l, p.size ≤ n) : long l ≤ n := by
  have key : ∀ (m : List ByteArray) (a : Nat), a ≤ n → (∀ p ∈ m, p.size ≤ n) → m.foldl (fun a p => max a p.size) a ≤ n := by
    intro m
    induction m with
    | nil => intro a ha _; exact ha
    | cons q m ih =>
      intro a ha hm
      exact ih _ (by have := hm q (by simp); show max a q.size ≤ n; omega) (fun p hp => hm p (by simp [hp]))
  exact key l 0 (Nat.zero_le _) h

theorem much_ev (l : List ByteArray) (hsz : ∀ p ∈ l, p.size ≤ 140737488355328) (hl : l.length ≤ 140737488355328) :
    ∃ b, Ev (fun k => corbellaw03_much.f k l) b ∧ (b = false → l.length ≤ 201 ∧ ∀ p ∈ l, p.size ≤ 5000) :=
  much_from l hsz hl l.length 0 0 (by omega) (by omega) (by omega) (by simp)

theorem folds_ev (l : List ByteArray) (one : ByteArray) (hsz : ∀ p ∈ l, p.size ≤ 140737488355328) (hl : l.length ≤ 140737488355328) (hone : one.size ≤ 140737488355328) : Ev (fun k => corbellaw03_XorFolds.f k l one) true := by
  refine Ev.congr (f := fun k => (corbellaw03_speaks.f k).bind fun t170 => (if t170 = true then ((corbellaw03_much.f k l).bind fun t171 => (if t171 = true then (corbellaw03_XorFolds.j0 k l one true) else (corbellaw03_XorFolds.j0 k l one (decide ((one.size : Int) > 5000))))) else (some false))) (fun k => rfl) (Ev.bind speaks_ev ?_)
  refine Ev.congr (fun k => if_pos rfl) ?_
  obtain ⟨b, hb, hbf⟩ := much_ev l hsz hl
  refine Ev.bind hb ?_
  have hskip : Ev (fun k => corbellaw03_XorFolds.j0 k l one true) true := Ev.step (f := fun _ => some true) (fun k => by simp only [corbellaw03_XorFolds.j0]; rw [if_pos trivial]) (Ev.now _)
  cases b with
  | true => exact Ev.congr (fun k => if_pos rfl) hskip
  | false =>
    refine Ev.congr (fun k => if_neg (by decide)) ?_
    obtain ⟨hl2, hs2⟩ := hbf rfl
    by_cases h5 : (one.size : Int) > 5000
    · rw [decide_eq_true h5]; exact hskip
    · rw [decide_eq_false h5]
      have hlong := long_le hs2
      have hf := fold_ev l (by omega) (by omega)
      have hr := rfold_ev l (by omega) (by omega)
      have hm := missing_ev one l (by omega) (by omega) (by omega)
      have ha := radd_ev one (par l) (by omega) (by rw [par_size]; omega)
      refine Ev.step (f := fun k => (corbelref03_Fold.f k l).bind fun t172 => (if (l.length : Int) > 0 then (if 0 < (l.length : Int) then (corbellaw03_XorFolds.j1 k l one t172 (rdOf ByteArray.empty l 0)) else (none)) else (corbellaw03_XorFolds.j1 k l one t172 (⟨#[]⟩ : ByteArray)))) (fun k => by simp only [corbellaw03_XorFolds.j0]; rw [if_neg (by decide)]) (Ev.bind hr ?_)
      have key : ∀ first : ByteArray, first.size ≤ 5000 → Ev (fun k => corbellaw03_XorFolds.j1 k l one (par l) first) true := by
        intro first hfi
        have g1 := add_ev first one (by omega) (by omega)
        have g2 := radd_ev first one (by omega) (by omega)
        refine Ev.step (f := fun k => (some ([] : List ByteArray)).bind fun y174 => (if y174.length + l.length < 8796093022208 then ((xor_Fold.f k (y174 ++ l)).bind fun t180 => (if t180.toList = (par l).toList then ((some ([] : List ByteArray)).bind fun y181 => (if y181.length + l.length < 8796093022208 then ((xor_Missing.f k one (y181 ++ l)).bind fun t187 => ((corbelref03_Add.f k one (par l)).bind fun t188 => (if t187.toList = t188.toList then ((xor_Add.f k first one).bind fun t189 => ((corbelref03_Add.f k first one).bind fun t190 => (some (t189.toList == t190.toList)))) else (some false)))) else (none))) else (some false))) else (none)))
          (fun k => by simp only [corbellaw03_XorFolds.j1]) ?_
        refine Ev.bind (Ev.now _) ?_
        refine Ev.congr (fun k => if_pos (by simp; omega)) ?_
        refine Ev.bind (by rw [List.nil_append]; exact hf) ?_
        refine Ev.congr (fun k => if_pos rfl) ?_
        refine Ev.bind (Ev.now _) ?_
        refine Ev.congr (fun k => if_pos (by simp; omega)) ?_
        refine Ev.bind (by rw [List.nil_append]; exact hm) ?_
        refine Ev.bind ha ?_
        refine Ev.congr (fun k => if_pos rfl) ?_
        refine Ev.bind g1 (Ev.bind g2 ?_)
        exact Ev.congr (f := fun _ => some true) (fun k => by simp) (Ev.now _)
      by_cases h0 : (l.length : Int) > 0
      · refine Ev.congr (fun k => if_pos h0) (Ev.congr (fun k => if_pos h0) (key _ ?_))
        have e := rdOf_at l 0 (by omega)
        have e' : rdOf ByteArray.empty l 0 = l[0]'(by omega) := e
        rw [e']
        exact hs2 _ (List.getElem_mem _)
      · exact Ev.congr (fun k => if_neg h0) (key _ (by decide))

end Go.Proofs.YticpjnpafmehaaaDoor.XPlain
