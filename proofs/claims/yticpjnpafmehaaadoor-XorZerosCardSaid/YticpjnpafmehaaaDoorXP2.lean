/-
  Plain: lay, Fold, Add, Missing, and the document's Add, Fold: each place's byte is the sum of the parts' bytes there.
-/
import Derived.Test.YticpjnpafmehaaaDoorXP1
import Derived.Test.YticpjnpafmehaaaDoorXx5
namespace Go.Proofs.YticpjnpafmehaaaDoor.XPlain
open Go.RowKit Go.Proofs.YticpjnpafmehaaaDoor.X Go.Proofs.YticpjnpafmehaaaDoorW.PrintWords Go.Proofs.YticpjnpafmehaaaDoorW.PrintLast Go.Proofs.YticpjnpafmehaaaDoorW.PrintMore

theorem xor_zero' (a : UInt8) : a ^^^ 0 = a := by simp

theorem lay1_from (s : ByteArray) (n : Nat) (f : Nat → UInt8) (hs : s.size ≤ n) (hn : n ≤ 281474976710656) (d : Nat) : ∀ i, i + d = s.size →
    Ev (fun k => xor_lay.l1 k (NF n fun t => if t < i then f t ^^^ at_ s t else f t) s (i : Int)) (NF n fun t => if t < s.size then f t ^^^ at_ s t else f t) := by
  induction d with
  | zero =>
    intro i hi
    obtain rfl : i = s.size := by omega
    refine Ev.step (f := fun _ => some _) (fun k => ?_) (Ev.now _)
    simp only [xor_lay.l1]
    rw [if_neg (by omega)]
  | succ d ih =>
    intro i hi
    refine Ev.step (fun k => ?_) (ih (i + 1) (by omega))
    have w3 : wrap64 ((i : Int) + 1) = ((i + 1 : Nat) : Int) := by unfold wrap64; omega
    simp only [xor_lay.l1]
    rw [w3, if_pos (by omega), if_pos (by omega), if_pos (by rw [NF_length]; omega), NF_rd _ _ _ (by omega), if_neg (by omega), bt_at, xor8, Int.toNat_natCast, NF_set _ _ _ (by omega)]
    congr 1
    apply NF_congr
    intro t ht
    by_cases h1 : t = i
    · subst h1
      rw [if_pos rfl, if_pos (by omega)]
    · rw [if_neg h1]
      by_cases h2 : t < i
      · rw [if_pos h2, if_pos (by omega)]
      · rw [if_neg h2, if_neg (by omega)]

theorem part_zero (s : ByteArray) (i : Nat) (h : part s i 8 = 0) (j : Nat) (hj : j < 8) : at_ s (i + j) = 0 := by
  have := part_digit s i 8 j hj
  rw [h] at this
  simp at this
  exact UInt8.toNat_inj.1 this.symm

theorem lay0_from (s : ByteArray) (n : Nat) (f : Nat → UInt8) (hs : s.size ≤ n) (hn : n ≤ 140737488355328) (d : Nat) : ∀ i, i ≤ s.size → s.size ≤ i + d →
    Ev (fun k => xor_lay.l0 k (NF n fun t => if t < i then f t ^^^ at_ s t else f t) s (i : Int)) (NF n fun t => if t < s.size then f t ^^^ at_ s t else f t) := by
  induction d using Nat.strongRecOn with
  | ind d ih =>
    intro i hi hd
    have w3 : wrap64 ((i : Int) + 8) = ((i + 8 : Nat) : Int) := by unfold wrap64; omega
    by_cases h8 : i + 8 ≤ s.size
    · have hld := load_ev s i h8 (by omega)
      have hnx := ih (d - 8) (by omega) (i + 8) (by omega) (by omega)
      by_cases h0 : part s i 8 = 0
      · have e : (NF n fun t => if t < i + 8 then f t ^^^ at_ s t else f t) = NF n fun t => if t < i then f t ^^^ at_ s t else f t := by
          apply NF_congr
          intro t _
          by_cases h1 : t < i
          · rw [if_pos h1, if_pos (by omega)]
          · by_cases h2 : t < i + 8
            · rw [if_neg h1, if_pos h2]
              have := part_zero s i h0 (t - i) (by omega)
              rw [show i + (t - i) = t by omega] at this
              rw [this, xor_zero']
            · rw [if_neg h1, if_neg h2]
        rw [e] at hnx
        refine Ev.step (f := fun k => (xor_load.f k s (i : Int)).bind fun t103 => if t103 = 0 then xor_lay.l0 k (NF n fun t => if t < i then f t ^^^ at_ s t else f t) s (wrap64 ((i : Int) + 8)) else ((xor_load.f k s (i : Int)).bind fun t104 => ((xor_store.f k (NF n fun t => if t < i then f t ^^^ at_ s t else f t) (i : Int) t104).bind fun t105 => (xor_lay.l0 k t105 s (wrap64 ((i : Int) + 8)))))) (fun k => ?_) ?_
        · simp only [xor_lay.l0]
          rw [w3, if_pos (by omega)]
        · refine Ev.bind hld ?_
          refine Ev.congr (fun k => ?_) hnx
          rw [if_pos (by omega), w3]
      · have e : (NF n fun t => if i ≤ t ∧ t < i + 8 then (if t < i then f t ^^^ at_ s t else f t) ^^^ at_ s t else (if t < i then f t ^^^ at_ s t else f t)) = NF n fun t => if t < i + 8 then f t ^^^ at_ s t else f t := by
          apply NF_congr
          intro t _
          by_cases h1 : t < i
          · rw [if_pos h1, if_neg (by omega), if_pos (by omega)]
          · rw [if_neg h1]
            by_cases h2 : t < i + 8
            · rw [if_pos (by omega), if_pos h2]
            · rw [if_neg (by omega), if_neg h2]
        have hst := store_ev s n i (fun t => if t < i then f t ^^^ at_ s t else f t) (by omega) (by omega)
        rw [e] at hst
        refine Ev.step (f := fun k => (xor_load.f k s (i : Int)).bind fun t103 => if t103 = 0 then xor_lay.l0 k (NF n fun t => if t < i then f t ^^^ at_ s t else f t) s (wrap64 ((i : Int) + 8)) else ((xor_load.f k s (i : Int)).bind fun t104 => ((xor_store.f k (NF n fun t => if t < i then f t ^^^ at_ s t else f t) (i : Int) t104).bind fun t105 => (xor_lay.l0 k t105 s (wrap64 ((i : Int) + 8)))))) (fun k => ?_) ?_
        · simp only [xor_lay.l0]
          rw [w3, if_pos (by omega)]
        · refine Ev.bind hld ?_
          refine Ev.congr (f := fun k => (xor_load.f k s (i : Int)).bind fun t104 => ((xor_store.f k (NF n fun t => if t < i then f t ^^^ at_ s t else f t) (i : Int) t104).bind fun t105 => (xor_lay.l0 k t105 s (wrap64 ((i : Int) + 8))))) (fun k => ?_) ?_
          · rw [if_neg (by omega)]
          · refine Ev.bind hld (Ev.bind hst ?_)
            rw [w3]
            exact hnx
    · have hl := lay1_from s n f hs (by omega) (s.size - i) i (by omega)
      refine Ev.step (fun k => ?_) hl
      simp only [xor_lay.l0]
      rw [w3, if_neg (by omega)]

theorem lay_ev (s : ByteArray) (n : Nat) (f : Nat → UInt8) (hs : s.size ≤ n) (hn : n ≤ 140737488355328) : Ev (fun k => xor_lay.f k (NF n f) s) (NF n fun t => f t ^^^ at_ s t) := by
  have := lay0_from s n f hs hn s.size 0 (Nat.zero_le _) (by omega)
  rw [NF_congr (g := f) (fun t _ => if_neg (by omega)), NF_congr (f := fun t => if t < s.size then f t ^^^ at_ s t else f t) (g := fun t => f t ^^^ at_ s t) (fun t _ => ?_)] at this
  · exact this
  · by_cases h : t < s.size
    · rw [if_pos h]
    · rw [if_neg h]
      have : at_ s t = 0 := by
        unfold at_
        rw [List.getD_eq_getElem?_getD, List.getElem?_eq_none (by show s.data.toList.length ≤ t; have : s.data.toList.length = s.size := rfl; omega)]
        rfl
      rw [this, xor_zero']

/-! ### The sum of texts -/
/-- The sum of the texts' bytes at a place. -/
def xs (l : List ByteArray) (t : Nat) : UInt8 := l.foldl (fun a p => a ^^^ at_ p t) 0
def long (l : List ByteArray) : Nat := l.foldl (fun a p => max a p.size) 0
/-- The parity. -/
def par (l : List ByteArray) : ByteArray := ⟨((List.range (long l)).map (xs l)).toArray⟩

theorem long_snoc (l : List ByteArray) (p : ByteArray) : long (l ++ [p]) = max (long l) p.size := by simp [long]
theorem xs_snoc (l : List ByteArray) (p : ByteArray) (t : Nat) : xs (l ++ [p]) t = xs l t ^^^ at_ p t := by simp [xs]
theorem long_ge {l : List ByteArray} {p : ByteArray} (h : p ∈ l) : p.size ≤ long l := by
  have key : ∀ (l : List ByteArray) (a : Nat), a ≤ l.foldl (fun a p => max a p.size) a ∧ ∀ p ∈ l, p.size ≤ l.foldl (fun a p => max a p.size) a := by
    intro l
    induction l with
    | nil => intro a; exact ⟨Nat.le_refl _, by simp⟩
    | cons q l ih =>
      intro a
      obtain ⟨h1, h2⟩ := ih (max a q.size)
      refine ⟨by simp only [List.foldl_cons]; omega, fun p hp => ?_⟩
      rcases List.mem_cons.1 hp with rfl | hp
      · simp only [List.foldl_cons]; omega
      · exact h2 p hp
  exact (key l 0).2 p h

theorem par_size (l : List ByteArray) : (par l).size = long l := by show ((List.range (long l)).map (xs l)).toArray.size = _; simp
theorem par_at (l : List ByteArray) (t : Nat) (h : t < long l) : at_ (par l) t = xs l t := by
  unfold at_ par
  simp [List.getD_eq_getElem?_getD, h]

theorem strOf_NF (n : Nat) (f : Nat → UInt8) : strOfNums (NF n f) = ⟨((List.range n).map f).toArray⟩ := by
  unfold strOfNums NF
  rw [List.map_map]
  congr 2
  apply List.map_congr_left
  intro t _
  simp

theorem take_succ' {α : Type} (l : List α) (i : Nat) (h : i < l.length) : l.take (i + 1) = l.take i ++ [l[i]] := by rw [List.take_succ_eq_append_getElem h]

theorem rdOf_at (l : List ByteArray) (i : Nat) (h : i < l.length) : rdOf ByteArray.empty l (i : Int) = l[i] := by
  unfold rdOf
  rw [Int.toNat_natCast]
  simp [List.getD_eq_getElem?_getD, h]

theorem fold1_from (l : List ByteArray) (hl : l.length ≤ 140737488355328) (hn : long l ≤ 140737488355328) (d : Nat) : ∀ i, i + d = l.length →
    Ev (fun k => xor_Fold.l1 k (NF (long l) (xs (l.take i))) l (l.length : Int) (i : Int)) (par l) := by
  induction d with
  | zero =>
    intro i hi
    obtain rfl : i = l.length := by omega
    refine Ev.step (f := fun _ => some (par l)) (fun k => ?_) (Ev.now _)
    simp only [xor_Fold.l1]
    rw [if_neg (by omega), strOf_NF, List.take_length]
    rfl
  | succ d ih =>
    intro i hi
    have hil : i < l.length := by omega
    have w3 : wrap64 ((i : Int) + 1) = ((i + 1 : Nat) : Int) := by unfold wrap64; omega
    refine Ev.step (f := fun k => (xor_lay.f k (NF (long l) (xs (l.take i))) l[i]).bind fun t113 => (xor_Fold.l1 k t113 l (l.length : Int) (wrap64 ((i : Int) + 1)))) (fun k => ?_) ?_
    · simp only [xor_Fold.l1]
      rw [if_pos (by omega), if_pos (by omega), if_pos (by omega), rdOf_at l i hil]
    · refine Ev.bind (lay_ev l[i] (long l) (xs (l.take i)) (long_ge (List.getElem_mem hil)) hn) ?_
      have := ih (i + 1) (by omega)
      rw [w3]
      have e : NF (long l) (xs (l.take (i + 1))) = NF (long l) fun t => xs (l.take i) t ^^^ at_ l[i] t := NF_congr fun t _ => by rw [take_succ' l i hil, xs_snoc]
      rwa [e] at this

theorem fold0_from (l : List ByteArray) (hl : l.length ≤ 140737488355328) (hn : long l ≤ 140737488355328) (d : Nat) : ∀ i, i + d = l.length →
    Ev (fun k => xor_Fold.l0 k l ((long (l.take i) : Nat) : Int) l (l.length : Int) (i : Int)) (par l) := by
  induction d with
  | zero =>
    intro i hi
    obtain rfl : i = l.length := by omega
    refine Ev.step (fun k => ?_) (fold1_from l hl hn l.length 0 (by omega))
    simp only [xor_Fold.l0]
    rw [if_neg (by omega), List.take_length, if_pos (by omega), if_pos (by omega), Int.toNat_natCast]
    congr 1
    simp only [NF, xs, List.take_zero, List.foldl_nil]
    rw [List.map_const', List.length_range]
    rfl
  | succ d ih =>
    intro i hi
    have hil : i < l.length := by omega
    have w3 : wrap64 ((i : Int) + 1) = ((i + 1 : Nat) : Int) := by unfold wrap64; omega
    refine Ev.step (fun k => ?_) (ih (i + 1) (by omega))
    simp only [xor_Fold.l0]
    rw [if_pos (by omega), if_pos (by omega), if_pos (by omega), rdOf_at l i hil, w3, take_succ' l i hil, long_snoc]
    congr 1
    unfold mx
    split <;> omega

theorem fold_ev (l : List ByteArray) (hl : l.length ≤ 140737488355328) (hn : long l ≤ 140737488355328) : Ev (fun k => xor_Fold.f k l) (par l) := fold0_from l hl hn l.length 0 (by omega)

theorem add_ev (a b : ByteArray) (ha : a.size ≤ 140737488355328) (hb : b.size ≤ 140737488355328) : Ev (fun k => xor_Add.f k a b) (par [a, b]) := by
  have h := fold_ev [a, b] (by simp) (by simp [long]; omega)
  refine Ev.congr (f := fun k => (xor_Fold.f k [a, b]).bind fun t => some t) (fun k => rfl) (Ev.bind h (Ev.now _))

theorem missing_ev (p : ByteArray) (l : List ByteArray) (hp : p.size ≤ 140737488355328) (hl : l.length ≤ 140737488355328) (hn : long l ≤ 140737488355328) : Ev (fun k => xor_Missing.f k p l) (par [p, par l]) := by
  have h1 := fold_ev l hl hn
  have h2 := add_ev p (par l) hp (by rw [par_size]; omega)
  exact Ev.congr (f := fun k => (xor_Fold.f k l).bind fun t137 => ((xor_Add.f k p t137).bind fun t138 => (some t138))) (fun k => rfl) (Ev.bind h1 (Ev.bind h2 (Ev.now _)))

/-! ### The document's answer -/
theorem at_beyond (s : ByteArray) (t : Nat) (h : s.size ≤ t) : at_ s t = 0 := by
  unfold at_
  rw [List.getD_eq_getElem?_getD, List.getElem?_eq_none (by show s.data.toList.length ≤ t; have : s.data.toList.length = s.size := rfl; omega)]
  rfl
theorem xs_two (a b : ByteArray) (t : Nat) : xs [a, b] t = at_ a t ^^^ at_ b t := by simp [xs]
theorem long_two (a b : ByteArray) : long [a, b] = max a.size b.size := by simp [long]

theorem radd_from (a b : ByteArray) (ha : a.size < 140737488355328) (hb : b.size < 140737488355328) (d : Nat) : ∀ i, i + d = max a.size b.size →
    Ev (fun k => corbelref03_Add.l0 k a b (NF i (xs [a, b])) (i : Int)) (par [a, b]) := by
  induction d with
  | zero =>
    intro i hi
    refine Ev.step (f := fun k => corbelref03_Add.j1 k a b (NF i (xs [a, b])) (i : Int) false) (fun k => ?_) (Ev.step (f := fun _ => some (par [a, b])) (fun k => ?_) (Ev.now _))
    · simp only [corbelref03_Add.l0]
      rw [if_neg (by omega), decide_eq_false (by omega)]
    · simp only [corbelref03_Add.j1]
      rw [if_neg (by decide), strOf_NF]
      have : i = long [a, b] := by rw [long_two]; omega
      rw [this]
      rfl
  | succ d ih =>
    intro i hi
    have w3 : wrap64 ((i : Int) + 1) = ((i + 1 : Nat) : Int) := by unfold wrap64; omega
    have hL : (NF i (xs [a, b])).length < 140737488355328 := by rw [NF_length]; omega
    have hN : ∀ y : UInt8, y = xs [a, b] i → NF i (xs [a, b]) ++ [((y.toNat : Nat) : Int)] = NF (i + 1) (xs [a, b]) := by
      intro y hy
      subst hy
      simp [NF, List.range_succ]
    refine Ev.step (f := fun k => corbelref03_Add.j1 k a b (NF i (xs [a, b])) (i : Int) true) (fun k => ?_) (Ev.step (fun k => ?_) (ih (i + 1) (by omega)))
    · simp only [corbelref03_Add.l0]
      by_cases h1 : (i : Int) < (a.size : Int)
      · rw [if_pos h1]
      · rw [if_neg h1, decide_eq_true (by omega)]
    · simp only [corbelref03_Add.j1]
      rw [if_pos trivial, w3]
      by_cases h1 : (i : Int) < (a.size : Int)
      · rw [if_pos h1, if_pos (by omega)]
        by_cases h2 : (i : Int) < (b.size : Int)
        · rw [if_pos h2, if_pos hL, bt_at, bt_at, xor8, hN _ (xs_two a b i).symm]
        · rw [if_neg h2, if_pos hL, bt_at, hN _ (by rw [xs_two, at_beyond b i (by omega), xor_zero'])]
      · rw [if_neg h1]
        have h2 : (i : Int) < (b.size : Int) := by omega
        rw [if_pos h2, if_pos (by omega), if_pos hL, bt_at]
        have := xor8 0 (at_ b i)
        rw [show (((0 : UInt8).toNat : Nat) : Int) = 0 from rfl] at this
        rw [this, hN _ (by rw [xs_two, at_beyond a i (by omega)])]

theorem radd_ev (a b : ByteArray) (ha : a.size < 140737488355328) (hb : b.size < 140737488355328) : Ev (fun k => corbelref03_Add.f k a b) (par [a, b]) :=
  radd_from a b ha hb (max a.size b.size) 0 (by omega)

/-- Two texts of one length that agree at each place. -/
theorem bytes_ext {a b : ByteArray} (h1 : a.size = b.size) (h2 : ∀ t, t < a.size → at_ a t = at_ b t) : a = b := by
  apply ByteArray.ext
  apply Array.ext'
  apply List.ext_getElem
  · exact h1
  · intro t ht1 ht2
    have := h2 t ht1
    unfold at_ at this
    rw [List.getD_eq_getElem?_getD, List.getD_eq_getElem?_getD, List.getElem?_eq_getElem ht1, List.getElem?_eq_getElem ht2] at this
    exact this

theorem par_at' (l : List ByteArray) (t : Nat) : at_ (par l) t = xs l t := by
  by_cases h : t < long l
  · exact par_at l t h
  · rw [at_beyond _ _ (by rw [par_size]; omega)]
    have key : ∀ (l : List ByteArray) (a : UInt8), (∀ p ∈ l, at_ p t = 0) → l.foldl (fun a p => a ^^^ at_ p t) a = a := by
      intro l
      induction l with
      | nil => intro a _; rfl
      | cons q l ih =>
        intro a hq
        rw [List.foldl_cons, hq q (by simp), xor_zero']
        exact ih a (fun p hp => hq p (by simp [hp]))
    exact (key l 0 (fun p hp => at_beyond p t (by have := long_ge hp; omega))).symm

theorem par_snoc (l : List ByteArray) (p : ByteArray) : par [par l, p] = par (l ++ [p]) := by
  apply bytes_ext
  · rw [par_size, par_size, long_two, long_snoc, par_size]
  · intro t _
    rw [par_at', par_at', xs_two, xs_snoc, par_at']

theorem par_nil : par [] = (⟨#[]⟩ : ByteArray) := rfl

theorem rfold_from (l : List ByteArray) (hl : l.length ≤ 140737488355327) (hn : long l < 140737488355328) (d : Nat) : ∀ i, i + d = l.length →
    Ev (fun k => corbelref03_Fold.l0 k l (par (l.take i)) (i : Int)) (par l) := by
  induction d with
  | zero =>
    intro i hi
    obtain rfl : i = l.length := by omega
    refine Ev.step (f := fun _ => some (par l)) (fun k => ?_) (Ev.now _)
    simp only [corbelref03_Fold.l0]
    rw [if_neg (by omega), List.take_length]
  | succ d ih =>
    intro i hi
    have hil : i < l.length := by omega
    have w3 : wrap64 ((i : Int) + 1) = ((i + 1 : Nat) : Int) := by unfold wrap64; omega
    have hle : long (l.take i) ≤ long l := by
      have : ∀ (m : List ByteArray), (∀ p ∈ m, p ∈ l) → long m ≤ long l := by
        intro m hm
        have key : ∀ (m : List ByteArray) (a : Nat), a ≤ long l → (∀ p ∈ m, p ∈ l) → m.foldl (fun a p => max a p.size) a ≤ long l := by
          intro m
          induction m with
          | nil => intro a ha _; exact ha
          | cons q m ih =>
            intro a ha hm
            exact ih _ (by have := long_ge (hm q (by simp)); show max a q.size ≤ long l; omega) (fun p hp => hm p (by simp [hp]))
        exact key m 0 (Nat.zero_le _) hm
      exact this _ (fun p hp => List.mem_of_mem_take hp)
    refine Ev.step (f := fun k => (corbelref03_Add.f k (par (l.take i)) l[i]).bind fun t204 => (corbelref03_Fold.l0 k l t204 (wrap64 ((i : Int) + 1)))) (fun k => ?_) ?_
    · simp only [corbelref03_Fold.l0]
      rw [if_pos (by omega), if_pos (by omega), rdOf_at l i hil]
    · refine Ev.bind (radd_ev (par (l.take i)) l[i] (by rw [par_size]; omega) (by have := long_ge (List.getElem_mem hil); omega)) ?_
      rw [w3, par_snoc, ← take_succ' l i hil]
      exact ih (i + 1) (by omega)

theorem rfold_ev (l : List ByteArray) (hl : l.length ≤ 140737488355327) (hn : long l < 140737488355328) : Ev (fun k => corbelref03_Fold.f k l) (par l) := rfold_from l hl hn l.length 0 (by omega)

end Go.Proofs.YticpjnpafmehaaaDoor.XPlain
