/-
  Plain: the law XorPieces.
-/
import Derived.Test.YticpjnpafmehaaaDoorXP4
import Derived.Test.YticpjnpafmehaaaDoorXT1
import Derived.Test.YticpjnpafmehaaaDoorXx7
namespace Go.Proofs.YticpjnpafmehaaaDoor.XPlain
open Go.RowKit Go.Proofs.YticpjnpafmehaaaDoor.X Go.Proofs.YticpjnpafmehaaaDoorW.PrintWords Go.Proofs.YticpjnpafmehaaaDoorW.PrintLast Go.Proofs.YticpjnpafmehaaaDoorW.PrintMore

theorem xs_map (f : ByteArray → ByteArray) (t t' : Nat) (l : List ByteArray) (h : ∀ p ∈ l, at_ (f p) t = at_ p t') : xs (l.map f) t = xs l t' := by
  have key : ∀ (l : List ByteArray) (a : UInt8), (∀ p ∈ l, at_ (f p) t = at_ p t') → (l.map f).foldl (fun a p => a ^^^ at_ p t) a = l.foldl (fun a p => a ^^^ at_ p t') a := by
    intro l
    induction l with
    | nil => intro a _; rfl
    | cons q l ih =>
      intro a h
      rw [List.map_cons, List.foldl_cons, List.foldl_cons, h q (by simp)]
      exact ih _ (fun p hp => h p (by simp [hp]))
  exact key l 0 h

theorem long_const {l : List ByteArray} {m : Nat} (h0 : l ≠ []) (h : ∀ p ∈ l, p.size = m) : long l = m := by
  have h1 := long_le (l := l) (n := m) (fun p hp => by have := h p hp; omega)
  obtain ⟨q, hq⟩ := List.exists_mem_of_ne_nil l h0
  have h2 := long_ge hq
  have := h q hq
  omega

theorem at_append (a b : ByteArray) (t : Nat) : at_ (a ++ b) t = if t < a.size then at_ a t else at_ b (t - a.size) := by
  unfold at_
  rw [ByteArray.data_append, Array.toList_append, List.getD_eq_getElem?_getD, List.getElem?_append]
  have e : a.data.toList.length = a.size := rfl
  rw [e]
  split
  · rw [List.getD_eq_getElem?_getD]
  · rw [List.getD_eq_getElem?_getD]

theorem cut_in (x : Int) (n : Nat) (hn2 : n ≤ 5000) : ∃ b : Nat, b ≤ n ∧ Int.tmod (wrap64 ((wrap64 ((Int.tmod x (wrap64 ((n : Int) + 1))) + (n : Int))) + 1)) (wrap64 ((n : Int) + 1)) = (b : Int) := by
  have hw0 : wrap64 ((n : Int) + 1) = (n : Int) + 1 := by unfold wrap64; omega
  rw [hw0]
  have h1 := Int.tmod_lt_of_pos x (show (0 : Int) < (n : Int) + 1 by omega)
  have h2 := Int.lt_tmod_of_pos x (show (0 : Int) < (n : Int) + 1 by omega)
  have hw1 : wrap64 ((Int.tmod x ((n : Int) + 1)) + (n : Int)) = (Int.tmod x ((n : Int) + 1)) + (n : Int) := by unfold wrap64; omega
  have hw : wrap64 ((Int.tmod x ((n : Int) + 1)) + (n : Int) + 1) = (Int.tmod x ((n : Int) + 1)) + (n : Int) + 1 := by unfold wrap64; omega
  rw [hw1, hw, Int.tmod_eq_emod_of_nonneg (by omega)]
  have h3 := Int.emod_lt_of_pos ((Int.tmod x ((n : Int) + 1)) + (n : Int) + 1) (show (0 : Int) < (n : Int) + 1 by omega)
  have h4 := Int.emod_nonneg ((Int.tmod x ((n : Int) + 1)) + (n : Int) + 1) (show (n : Int) + 1 ≠ 0 by omega)
  exact ⟨(((Int.tmod x ((n : Int) + 1)) + (n : Int) + 1) % ((n : Int) + 1)).toNat, by omega, by omega⟩

def hd (c : Nat) (p : ByteArray) : ByteArray := p.extract 0 c
def tl (c : Nat) (p : ByteArray) : ByteArray := p.extract c p.size

theorem pieces_par (P : List ByteArray) (n c : Nat) (h0 : P ≠ []) (hP : ∀ p ∈ P, p.size = n) (hc : c ≤ n) : par P = par (P.map (hd c)) ++ par (P.map (tl c)) := by
  have hh : ∀ q ∈ P.map (hd c), q.size = c := by
    intro q hq
    obtain ⟨p, hp, rfl⟩ := List.mem_map.1 hq
    have := hP p hp
    show (p.extract 0 c).size = c
    rw [ByteArray.size_extract]; omega
  have ht : ∀ q ∈ P.map (tl c), q.size = n - c := by
    intro q hq
    obtain ⟨p, hp, rfl⟩ := List.mem_map.1 hq
    have := hP p hp
    show (p.extract c p.size).size = n - c
    rw [ByteArray.size_extract]; omega
  have l1 := long_const h0 hP
  have l2 := long_const (l := P.map (hd c)) (by simpa using h0) hh
  have l3 := long_const (l := P.map (tl c)) (by simpa using h0) ht
  apply bytes_ext
  · rw [ByteArray.size_append, par_size, par_size, par_size]; omega
  · intro t htt
    rw [par_size] at htt
    rw [at_append, par_size, l2, par_at']
    by_cases h : t < c
    · rw [if_pos h, par_at', xs_map (hd c) t t P (fun p hp => by
        have := hP p hp
        show at_ (p.extract 0 c) t = _
        rw [at_extract _ _ _ _ (by omega) (by omega), Nat.zero_add])]
    · rw [if_neg h, par_at', xs_map (tl c) (t - c) t P (fun p hp => by
        have := hP p hp
        show at_ (p.extract c p.size) (t - c) = _
        rw [at_extract _ _ _ _ (Nat.le_refl _) (by omega)]
        congr 1; omega)]

theorem pieces1_from (l : List ByteArray) (n c : Nat) (h0 : l ≠ []) (hll : l.length ≤ 201) (hn : n ≤ 5000) (hc : c ≤ n) (hs : ∀ p ∈ l, p.size ≤ n) (d : Nat) : ∀ i, i + d = l.length →
    Ev (fun k => corbellaw03_XorPieces.l1 k l (c : Int) (n : Int) ((l.take i).map (pad n)) (((l.take i).map (pad n)).map (hd c)) (((l.take i).map (pad n)).map (tl c)) (i : Int)) true := by
  induction d with
  | zero =>
    intro i hi
    obtain rfl : i = l.length := by omega
    rw [List.take_length]
    have hal : ∀ p ∈ l.map (pad n), p.size = n := by
      intro p hp
      obtain ⟨q, hq, rfl⟩ := List.mem_map.1 hp
      exact pad_size n q (hs q hq)
    have hne : l.map (pad n) ≠ [] := by simpa using h0
    have hh : ∀ q ∈ (l.map (pad n)).map (hd c), q.size ≤ n := by
      intro q hq
      obtain ⟨p, hp, rfl⟩ := List.mem_map.1 hq
      have := hal p hp
      show (p.extract 0 c).size ≤ n
      rw [ByteArray.size_extract]; omega
    have ht : ∀ q ∈ (l.map (pad n)).map (tl c), q.size ≤ n := by
      intro q hq
      obtain ⟨p, hp, rfl⟩ := List.mem_map.1 hq
      have := hal p hp
      show (p.extract c p.size).size ≤ n
      rw [ByteArray.size_extract]; omega
    have b1 := long_const hne hal
    have b2 := long_le hh
    have b3 := long_le ht
    have g1 := fold_ev (l.map (pad n)) (by simp; omega) (by omega)
    have g2 := fold_ev ((l.map (pad n)).map (hd c)) (by simp; omega) (by omega)
    have g3 := fold_ev ((l.map (pad n)).map (tl c)) (by simp; omega) (by omega)
    have e := pieces_par (l.map (pad n)) n c hne hal hc
    refine Ev.step (f := fun k => (xor_Fold.f k (l.map (pad n))).bind fun t234 => ((xor_Fold.f k ((l.map (pad n)).map (hd c))).bind fun t235 => ((xor_Fold.f k ((l.map (pad n)).map (tl c))).bind fun t236 => (if t235.size + t236.size ≤ 9223372036854775807 then (some (t234.toList == (t235 ++ t236).toList)) else (none))))) (fun k => ?_) (Ev.bind g1 (Ev.bind g2 (Ev.bind g3 ?_)))
    · simp only [corbellaw03_XorPieces.l1]
      rw [if_neg (by omega)]
    · refine Ev.congr (f := fun _ => some true) (fun k => ?_) (Ev.now _)
      rw [if_pos (by rw [par_size, par_size]; omega), ← e]
      simp
  | succ d ih =>
    intro i hi
    have hil : i < l.length := by omega
    have w3 : wrap64 ((i : Int) + 1) = ((i + 1 : Nat) : Int) := by unfold wrap64; omega
    have hsi := hs _ (List.getElem_mem hil)
    have w1 : wrap64 ((n : Int) - (l[i].size : Int)) = ((n - l[i].size : Nat) : Int) := by unfold wrap64; omega
    have hih := ih (i + 1) (by omega)
    have ea : (l.take (i + 1)).map (pad n) = (l.take i).map (pad n) ++ [pad n l[i]] := by rw [take_succ' l i hil, List.map_append]; rfl
    have hlen : ((l.take i).map (pad n)).length = i := by simp; omega
    rw [ea, List.map_append, List.map_append] at hih
    have hps : (strOfNums (List.replicate (n - l[i].size) 0)).size = n - l[i].size := by rw [strOfNums_size, List.length_replicate]
    have hpad : (l[i] ++ strOfNums (List.replicate (n - l[i].size) 0)).size = n := pad_size n l[i] hsi
    refine Ev.step (fun k => ?_) hih
    simp only [corbellaw03_XorPieces.l1]
    rw [if_pos (by omega), if_pos (by omega), rdOf_at l i hil, w1, if_pos (by omega), Int.toNat_natCast, if_pos (by omega)]
    simp only [Option.bind_some]
    rw [hps, if_pos (by omega), if_pos (by simp; omega), if_pos (by omega), hpad, if_pos (by omega), if_pos (by simp; omega), if_pos (by simp; omega), w3, Int.toNat_natCast]
    have e2 : tl c (pad n l[i]) = (l[i] ++ strOfNums (List.replicate (n - l[i].size) 0)).extract c n := by
      show (pad n l[i]).extract c (pad n l[i]).size = _
      rw [pad_size n l[i] hsi]; rfl
    have e3 : List.map (tl c) [pad n l[i]] = [(l[i] ++ strOfNums (List.replicate (n - l[i].size) 0)).extract c n] := by rw [List.map_singleton, e2]
    rw [e3]
    rfl

theorem pieces0_from (l : List ByteArray) (x : Int) (h0 : l ≠ []) (hll : l.length ≤ 201) (hs : ∀ p ∈ l, p.size ≤ 5000) (d : Nat) : ∀ i, i + d = l.length →
    Ev (fun k => corbellaw03_XorPieces.l0 k l x ((long (l.take i) : Nat) : Int) (i : Int)) true := by
  induction d with
  | zero =>
    intro i hi
    obtain rfl : i = l.length := by omega
    have hn := long_le hs
    obtain ⟨c, hc, hce⟩ := cut_in x (long l) hn
    have h1 := pieces1_from l (long l) c h0 hll hn hc (fun p hp => long_ge hp) l.length 0 (by omega)
    have hw0 : wrap64 (((long l : Nat) : Int) + 1) ≠ 0 := by unfold wrap64; omega
    refine Ev.step (fun k => ?_) h1
    simp only [corbellaw03_XorPieces.l0]
    rw [if_neg (by omega), List.take_length, if_neg hw0, hce]
    rfl
  | succ d ih =>
    intro i hi
    have hil : i < l.length := by omega
    have w3 : wrap64 ((i : Int) + 1) = ((i + 1 : Nat) : Int) := by unfold wrap64; omega
    refine Ev.step (fun k => ?_) (ih (i + 1) (by omega))
    simp only [corbellaw03_XorPieces.l0]
    rw [if_pos (by omega), if_pos (by omega), rdOf_at l i hil, w3, take_succ' l i hil, long_snoc]
    congr 1
    unfold mx
    split <;> omega

theorem pieces_ev (l : List ByteArray) (x : Int) (hsz : ∀ p ∈ l, p.size ≤ 140737488355328) (hl : l.length ≤ 140737488355328) : Ev (fun k => corbellaw03_XorPieces.f k l x) true := by
  refine Ev.congr (f := fun k => (corbellaw03_speaks.f k).bind fun t208 => (if t208 = true then ((corbellaw03_much.f k l).bind fun t209 => (if t209 = true then (corbellaw03_XorPieces.j0 k l x true) else (corbellaw03_XorPieces.j0 k l x ((l.length : Int) == 0)))) else (some false))) (fun k => rfl) (Ev.bind speaks_ev ?_)
  refine Ev.congr (fun k => if_pos rfl) ?_
  obtain ⟨b, hb, hbf⟩ := much_ev l hsz hl
  refine Ev.bind hb ?_
  have hskip : Ev (fun k => corbellaw03_XorPieces.j0 k l x true) true := Ev.step (f := fun _ => some true) (fun k => by simp only [corbellaw03_XorPieces.j0]; rw [if_pos trivial]) (Ev.now _)
  cases b with
  | true => exact Ev.congr (fun k => if_pos rfl) hskip
  | false =>
    refine Ev.congr (fun k => if_neg (by decide)) ?_
    obtain ⟨hl2, hs2⟩ := hbf rfl
    by_cases h0 : l = []
    · subst h0; exact hskip
    · have h1 : l.length ≠ 0 := fun e => h0 (List.eq_nil_of_length_eq_zero e)
      rw [show ((l.length : Int) == 0) = false by simp; exact h0]
      refine Ev.step (fun k => by simp only [corbellaw03_XorPieces.j0]; rw [if_neg (by decide)]) ?_
      exact pieces0_from l x h0 hl2 hs2 l.length 0 (by omega)

end Go.Proofs.YticpjnpafmehaaaDoor.XPlain
