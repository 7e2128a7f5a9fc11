/-
  Plain: the laws XorOrder, XorBack.
-/
import Derived.Test.YticpjnpafmehaaaDoorXP3
import Derived.Test.YticpjnpafmehaaaDoorXx4
import Derived.Test.YticpjnpafmehaaaDoorXx6
namespace Go.Proofs.YticpjnpafmehaaaDoor.XPlain
open Go.RowKit Go.Proofs.YticpjnpafmehaaaDoor.X Go.Proofs.YticpjnpafmehaaaDoorW.PrintWords Go.Proofs.YticpjnpafmehaaaDoorW.PrintLast Go.Proofs.YticpjnpafmehaaaDoorW.PrintMore

theorem xs_append (l m : List ByteArray) (t : Nat) : xs (l ++ m) t = xs l t ^^^ xs m t := by
  have key : ∀ (m : List ByteArray) (a : UInt8), m.foldl (fun a p => a ^^^ at_ p t) a = a ^^^ xs m t := by
    intro m
    induction m with
    | nil => intro a; simp [xs]
    | cons q m ih =>
      intro a
      have e : xs (q :: m) t = at_ q t ^^^ xs m t := by
        show m.foldl _ (0 ^^^ at_ q t) = _
        rw [ih]; simp
      rw [List.foldl_cons, ih, e, UInt8.xor_assoc]
  unfold xs
  rw [List.foldl_append, key]
  rfl

theorem long_append (l m : List ByteArray) : long (l ++ m) = max (long l) (long m) := by
  have key : ∀ (m : List ByteArray) (a : Nat), m.foldl (fun a p => max a p.size) a = max a (long m) := by
    intro m
    induction m with
    | nil => intro a; simp [long]
    | cons q m ih =>
      intro a
      have e : long (q :: m) = max q.size (long m) := by
        show m.foldl _ (max 0 q.size) = _
        rw [ih]; simp
      rw [List.foldl_cons, ih, e]
      omega
  unfold long
  rw [List.foldl_append, key]
  rfl

theorem par_ext {l m : List ByteArray} (h1 : long l = long m) (h2 : ∀ t, xs l t = xs m t) : par l = par m :=
  bytes_ext (by rw [par_size, par_size, h1]) (fun t _ => by rw [par_at', par_at', h2])

theorem par_turned (l : List ByteArray) (b : Nat) : par (l.drop b ++ l.take b) = par l := by
  apply par_ext
  · conv => rhs; rw [← List.take_append_drop b l]
    rw [long_append, long_append]; omega
  · intro t
    conv => rhs; rw [← List.take_append_drop b l]
    rw [xs_append, xs_append, UInt8.xor_comm]

theorem par_twice (l : List ByteArray) (p : ByteArray) (h : p.size ≤ long l) : par (l ++ [p, p]) = par l := by
  apply par_ext
  · rw [long_append, long_two]; omega
  · intro t
    rw [xs_append, xs_two]; simp

theorem by_in (x : Int) (n : Nat) (hn : 0 < n) (hn2 : n ≤ 8796093022208) : ∃ b : Nat, b < n ∧ Int.tmod (wrap64 ((Int.tmod x (n : Int)) + (n : Int))) (n : Int) = (b : Int) := by
  have h1 := Int.tmod_lt_of_pos x (show (0 : Int) < n by omega)
  have h2 : -(n : Int) < Int.tmod x (n : Int) := by
    have := Int.lt_tmod_of_pos x (show (0 : Int) < n by omega)
    omega
  have hw : wrap64 ((Int.tmod x (n : Int)) + (n : Int)) = (Int.tmod x (n : Int)) + (n : Int) := by unfold wrap64; omega
  rw [hw, Int.tmod_eq_emod_of_nonneg (by omega)]
  have h3 := Int.emod_lt_of_pos ((Int.tmod x (n : Int)) + (n : Int)) (show (0 : Int) < n by omega)
  have h4 := Int.emod_nonneg ((Int.tmod x (n : Int)) + (n : Int)) (show (n : Int) ≠ 0 by omega)
  exact ⟨(((Int.tmod x (n : Int)) + (n : Int)) % (n : Int)).toNat, by omega, by omega⟩

theorem long_sub {l m : List ByteArray} (h : ∀ p ∈ m, p.size ≤ long l) : long m ≤ long l := long_le h

theorem order_ev (l : List ByteArray) (x : Int) (hsz : ∀ p ∈ l, p.size ≤ 140737488355328) (hl : l.length ≤ 140737488355328) : Ev (fun k => corbellaw03_XorOrder.f k l x) true := by
  refine Ev.congr (f := fun k => (corbellaw03_speaks.f k).bind fun t124 => (if t124 = true then ((corbellaw03_much.f k l).bind fun t125 => (if t125 = true then (corbellaw03_XorOrder.j0 k l x true) else (corbellaw03_XorOrder.j0 k l x ((l.length : Int) == 0)))) else (some false))) (fun k => rfl) (Ev.bind speaks_ev ?_)
  refine Ev.congr (fun k => if_pos rfl) ?_
  obtain ⟨b, hb, hbf⟩ := much_ev l hsz hl
  refine Ev.bind hb ?_
  have hskip : Ev (fun k => corbellaw03_XorOrder.j0 k l x true) true := Ev.step (f := fun _ => some true) (fun k => by simp only [corbellaw03_XorOrder.j0]; rw [if_pos trivial]) (Ev.now _)
  cases b with
  | true => exact Ev.congr (fun k => if_pos rfl) hskip
  | false =>
    refine Ev.congr (fun k => if_neg (by decide)) ?_
    obtain ⟨hl2, hs2⟩ := hbf rfl
    by_cases h0 : l.length = 0
    · rw [show ((l.length : Int) == 0) = true by simp [h0]]; exact hskip
    · rw [show ((l.length : Int) == 0) = false by simp; intro e; rw [e] at h0; exact h0 rfl]
      obtain ⟨by', hby, hbe⟩ := by_in x l.length (by omega) (by omega)
      have hlong := long_le hs2
      have hf := fold_ev l (by omega) (by omega)
      have hp : l[by'] ∈ l := List.getElem_mem hby
      have e1 := par_turned l by'
      have hT : (l.drop by' ++ l.take by').length ≤ 140737488355328 := by simp; omega
      have hTl : long (l.drop by' ++ l.take by') = long l := by
        have := congrArg ByteArray.size e1
        rwa [par_size, par_size] at this
      have g1 := fold_ev (l.drop by' ++ l.take by') hT (by omega)
      rw [e1] at g1
      have e2 := par_twice (l.drop by' ++ l.take by') l[by'] (by rw [hTl]; exact long_ge hp)
      have hT2 : long (l.drop by' ++ l.take by' ++ [l[by'], l[by']]) = long l := by
        have := congrArg ByteArray.size e2
        rw [par_size, par_size] at this
        omega
      have g2 := fold_ev (l.drop by' ++ l.take by' ++ [l[by'], l[by']]) (by simp; omega) (by omega)
      rw [e2, e1] at g2
      refine Ev.step (fun k => by simp only [corbellaw03_XorOrder.j0]; rw [if_neg (by decide), if_neg (by omega), hbe]) ?_
      refine Ev.bind (Ev.now _) ?_
      refine Ev.congr (fun k => if_pos (by omega)) ?_
      refine Ev.congr (fun k => if_pos (by omega)) ?_
      refine Ev.congr (fun k => if_pos (by simp; omega)) ?_
      refine Ev.bind (Ev.now _) ?_
      refine Ev.congr (fun k => if_pos (by simp; omega)) ?_
      refine Ev.bind (Ev.now _) ?_
      refine Ev.bind hf ?_
      refine Ev.bind (Ev.now _) ?_
      refine Ev.congr (fun k => if_pos (by simp; omega)) ?_
      refine Ev.bind (Ev.now _) ?_
      refine Ev.congr (fun k => if_pos (by omega)) ?_
      refine Ev.bind (Ev.now _) ?_
      refine Ev.congr (fun k => if_pos (by simp; omega)) ?_
      refine Ev.bind (by simp only [List.nil_append, Int.toNat_natCast]; exact g1) ?_
      refine Ev.congr (fun k => if_pos rfl) ?_
      refine Ev.bind (by rw [rdOf_at l by' hby]; simp only [List.nil_append, Int.toNat_natCast]; exact g2) ?_
      exact Ev.congr (f := fun _ => some true) (fun k => by simp) (Ev.now _)

/-! ### XorBack -/
def pad (n : Nat) (p : ByteArray) : ByteArray := p ++ strOfNums (List.replicate (n - p.size) 0)

theorem pad_size (n : Nat) (p : ByteArray) (h : p.size ≤ n) : (pad n p).size = n := by
  unfold pad
  rw [ByteArray.size_append, strOfNums_size, List.length_replicate]; omega

theorem back1_from (l : List ByteArray) (n w : Nat) (hw : w < l.length) (hll : l.length ≤ 201) (hn : n ≤ 5000) (hs : ∀ p ∈ l, p.size ≤ n) (d : Nat) : ∀ i, i + d = l.length →
    Ev (fun k => corbellaw03_XorBack.l1 k l (w : Int) (n : Int) ((l.take i).map (pad n)) (((l.take i).map (pad n)).eraseIdx w) (i : Int)) true := by
  induction d with
  | zero =>
    intro i hi
    obtain rfl : i = l.length := by omega
    rw [List.take_length]
    have hal : ∀ p ∈ l.map (pad n), p.size ≤ n := by
      intro p hp
      obtain ⟨q, hq, rfl⟩ := List.mem_map.1 hp
      rw [pad_size n q (hs q hq)]; omega
    have hlen : (l.map (pad n)).length = l.length := by simp
    have hwl : w < (l.map (pad n)).length := by omega
    have hol : ∀ p ∈ (l.map (pad n)).eraseIdx w, p.size ≤ n := fun p hp => hal p (List.mem_of_mem_eraseIdx hp)
    have hpw : (l.map (pad n))[w].size = n := by
      rw [List.getElem_map]; exact pad_size n _ (hs _ (List.getElem_mem hw))
    have g1 := fold_ev (l.map (pad n)) (by omega) (by have := long_le hal; omega)
    have g2 := missing_ev (par (l.map (pad n))) ((l.map (pad n)).eraseIdx w) (by rw [par_size]; have := long_le hal; omega) (by have := List.length_eraseIdx_le (l.map (pad n)) w; omega) (by have := long_le hol; omega)
    have e : par [par (l.map (pad n)), par ((l.map (pad n)).eraseIdx w)] = (l.map (pad n))[w] := by
      apply bytes_ext
      · rw [par_size, long_two, par_size, par_size, hpw]
        have h1 := long_le hal
        have h2 := long_le hol
        have h3 := long_ge (List.getElem_mem hwl)
        omega
      · intro t _
        rw [par_at', xs_two, par_at', par_at']
        have e1 : l.map (pad n) = (l.map (pad n)).take w ++ (l.map (pad n))[w] :: (l.map (pad n)).drop (w + 1) := by
          conv => lhs; rw [← List.take_append_drop w (l.map (pad n)), List.drop_eq_getElem_cons hwl]
        have e2 : (l.map (pad n)).eraseIdx w = (l.map (pad n)).take w ++ (l.map (pad n)).drop (w + 1) := List.eraseIdx_eq_take_drop_succ _ _
        rw [e2]
        have e3 : xs (l.map (pad n)) t = xs ((l.map (pad n)).take w) t ^^^ (at_ (l.map (pad n))[w] t ^^^ xs ((l.map (pad n)).drop (w + 1)) t) := by
          conv => lhs; rw [e1]
          rw [xs_append]
          congr 1
          have := xs_append [(l.map (pad n))[w]] ((l.map (pad n)).drop (w + 1)) t
          rw [List.singleton_append] at this
          rw [this]
          congr 1
          simp [xs]
        rw [e3, xs_append]
        have key : ∀ a b c : UInt8, (a ^^^ (b ^^^ c)) ^^^ (a ^^^ c) = b := fun a b c => by
          apply UInt8.eq_of_toBitVec_eq
          simp only [UInt8.toBitVec_xor]
          ext i hi
          simp
          cases a.toBitVec[i] <;> cases b.toBitVec[i] <;> cases c.toBitVec[i] <;> rfl
        exact key _ _ _
    rw [e] at g2
    refine Ev.step (f := fun k => (xor_Fold.f k (l.map (pad n))).bind fun t205 => ((xor_Missing.f k t205 ((l.map (pad n)).eraseIdx w)).bind fun t206 => (if 0 ≤ (w : Int) then (if (w : Int) < ((l.map (pad n)).length : Int) then (some (t206.toList == (rdOf ByteArray.empty (l.map (pad n)) (w : Int)).toList)) else (none)) else (none)))) (fun k => ?_) (Ev.bind g1 (Ev.bind g2 ?_))
    · simp only [corbellaw03_XorBack.l1]
      rw [if_neg (by omega)]
    · refine Ev.congr (f := fun _ => some true) (fun k => ?_) (Ev.now _)
      rw [if_pos (by omega), if_pos (by omega), rdOf_at _ w hwl]
      simp
  | succ d ih =>
    intro i hi
    have hil : i < l.length := by omega
    have w3 : wrap64 ((i : Int) + 1) = ((i + 1 : Nat) : Int) := by unfold wrap64; omega
    have hsi := hs _ (List.getElem_mem hil)
    have w1 : wrap64 ((n : Int) - (l[i].size : Int)) = ((n - l[i].size : Nat) : Int) := by unfold wrap64; omega
    have hih := ih (i + 1) (by omega)
    have ea : (l.take (i + 1)).map (pad n) = (l.take i).map (pad n) ++ [pad n l[i]] := by rw [take_succ' l i hil, List.map_append]; rfl
    have hlen : ((l.take i).map (pad n)).length = i := by simp; omega
    have hle : (((l.take i).map (pad n)).eraseIdx w).length ≤ i := by have := List.length_eraseIdx_le ((l.take i).map (pad n)) w; omega
    rw [ea] at hih
    have hps : (strOfNums (List.replicate (n - l[i].size) 0)).size = n - l[i].size := by rw [strOfNums_size, List.length_replicate]
    by_cases hiw : i = w
    · subst hiw
      have eo : ((l.take i).map (pad n) ++ [pad n l[i]]).eraseIdx i = ((l.take i).map (pad n)).eraseIdx i := by
        rw [List.eraseIdx_of_length_le (by omega : ((l.take i).map (pad n)).length ≤ i), List.eraseIdx_append_of_length_le (by omega), hlen, Nat.sub_self]
        simp
      rw [eo] at hih
      refine Ev.step (fun k => ?_) hih
      simp only [corbellaw03_XorBack.l1]
      rw [if_pos (by omega), if_pos (by omega), rdOf_at l i hil, w1, if_pos (by omega), Int.toNat_natCast, if_pos (by omega)]
      simp only [Option.bind_some]
      rw [hps, if_pos (by omega), if_pos (by omega), if_pos trivial, w3]
      rfl
    · have eo : ((l.take i).map (pad n) ++ [pad n l[i]]).eraseIdx w = ((l.take i).map (pad n)).eraseIdx w ++ [pad n l[i]] := by
        by_cases h : w < i
        · rw [List.eraseIdx_append_of_lt_length (by omega)]
        · rw [List.eraseIdx_of_length_le (by simp; omega), List.eraseIdx_of_length_le (by omega)]
      rw [eo] at hih
      refine Ev.step (fun k => ?_) hih
      simp only [corbellaw03_XorBack.l1]
      rw [if_pos (by omega), if_pos (by omega), rdOf_at l i hil, w1, if_pos (by omega), Int.toNat_natCast, if_pos (by omega)]
      simp only [Option.bind_some]
      rw [hps, if_pos (by omega), if_pos (by omega), if_neg (by omega), if_pos (by omega), w3]
      rfl

theorem back0_from (l : List ByteArray) (x : Int) (h0 : 0 < l.length) (hll : l.length ≤ 201) (hs : ∀ p ∈ l, p.size ≤ 5000) (d : Nat) : ∀ i, i + d = l.length →
    Ev (fun k => corbellaw03_XorBack.l0 k l x ((long (l.take i) : Nat) : Int) (i : Int)) true := by
  induction d with
  | zero =>
    intro i hi
    obtain rfl : i = l.length := by omega
    obtain ⟨w, hw, hwe⟩ := by_in x l.length h0 (by omega)
    have h1 := back1_from l (long l) w hw hll (long_le hs) (fun p hp => long_ge hp) l.length 0 (by omega)
    refine Ev.step (fun k => ?_) h1
    simp only [corbellaw03_XorBack.l0]
    rw [if_neg (by omega), if_neg (by omega), hwe, List.take_length]
    rfl
  | succ d ih =>
    intro i hi
    have hil : i < l.length := by omega
    have w3 : wrap64 ((i : Int) + 1) = ((i + 1 : Nat) : Int) := by unfold wrap64; omega
    refine Ev.step (fun k => ?_) (ih (i + 1) (by omega))
    simp only [corbellaw03_XorBack.l0]
    rw [if_pos (by omega), if_pos (by omega), rdOf_at l i hil, w3, take_succ' l i hil, long_snoc]
    congr 1
    unfold mx
    split <;> omega

theorem back_ev (l : List ByteArray) (x : Int) (hsz : ∀ p ∈ l, p.size ≤ 140737488355328) (hl : l.length ≤ 140737488355328) : Ev (fun k => corbellaw03_XorBack.f k l x) true := by
  refine Ev.congr (f := fun k => (corbellaw03_speaks.f k).bind fun t191 => (if t191 = true then ((corbellaw03_much.f k l).bind fun t192 => (if t192 = true then (corbellaw03_XorBack.j0 k l x true) else (corbellaw03_XorBack.j0 k l x ((l.length : Int) == 0)))) else (some false))) (fun k => rfl) (Ev.bind speaks_ev ?_)
  refine Ev.congr (fun k => if_pos rfl) ?_
  obtain ⟨b, hb, hbf⟩ := much_ev l hsz hl
  refine Ev.bind hb ?_
  have hskip : Ev (fun k => corbellaw03_XorBack.j0 k l x true) true := Ev.step (f := fun _ => some true) (fun k => by simp only [corbellaw03_XorBack.j0]; rw [if_pos trivial]) (Ev.now _)
  cases b with
  | true => exact Ev.congr (fun k => if_pos rfl) hskip
  | false =>
    refine Ev.congr (fun k => if_neg (by decide)) ?_
    obtain ⟨hl2, hs2⟩ := hbf rfl
    by_cases h0 : l.length = 0
    · rw [show ((l.length : Int) == 0) = true by simp [h0]]; exact hskip
    · rw [show ((l.length : Int) == 0) = false by simp; intro e; rw [e] at h0; exact h0 rfl]
      refine Ev.step (fun k => by simp only [corbellaw03_XorBack.j0]; rw [if_neg (by decide)]) ?_
      exact back0_from l x (by omega) hl2 hs2 l.length 0 (by omega)

end Go.Proofs.YticpjnpafmehaaaDoor.XPlain
