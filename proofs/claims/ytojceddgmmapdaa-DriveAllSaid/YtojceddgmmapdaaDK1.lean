/-
  Plain: a drive of one zone of 200 blocks that is appended to, flushed, cut off.
-/
import Derived.Test.YtojceddgmmapdaaDW1
namespace Go.Proofs.Ytojceddgmmapdaa
open Go.ChangeShapes Go.WideShapes Go.ChangeAt Go.RowKit Go.Joins Go.Deep

def k1 (l : List UInt8) (T L : Nat) (st : Int) : Dv := ⟨⟨[(st, (T : Int))], 200, 1, 1⟩, [l], [L], false⟩

theorem k1_app {l : List UInt8} {T L q : Nat} {st : Int} {s : ByteArray} (hst : st = 0 ∨ st = 1 ∨ st = 3) (hq : 1 ≤ q) (hT : T + q < 200) (hs : s.size = 64 * q) :
    ddoF (k1 l T L st) 2 0 0 q s = ((ByteArray.empty, (T : Int), 0), k1 (l ++ s.data.toList) (T + q) L 1) := by
  have hs1 : spanF 0 (q : Int) 200 = true := by
    simp only [spanF, Bool.and_eq_true, decide_eq_true_eq]; omega
  have hs2 : spanF (T : Int) (q : Int) 200 = true := by
    simp only [spanF, Bool.and_eq_true, decide_eq_true_eq]; omega
  have hE : enterF (k1 l T L st).m 0 1 = (0, (k1 l T L st).m.setSt 0 1) := by
    unfold enterF
    rw [show (k1 l T L st).m.st 0 = st from rfl]
    rcases hst with rfl | rfl | rfl
    · rw [if_neg (by decide), if_neg (by rintro ⟨_, h⟩; exact absurd h (by show ¬ ((1 : Int) ≤ 0); decide)), if_neg (by show ¬ ((1 : Int) ≤ 0); decide)]
    · rw [if_pos (by decide)]; rfl
    · rw [if_neg (by decide), if_neg (by rintro ⟨h, _⟩; exact absurd h (by decide)), if_neg (by show ¬ ((1 : Int) ≤ 0); decide)]
  have hD : doF (k1 l T L st).m 2 0 0 q = (((T : Int), 0), (k1 l (T + q) L 1).m) := by
    unfold doF
    rw [if_neg (by omega), if_neg (by simp [k1])]
    unfold verbF
    rw [if_neg (by decide), if_pos rfl, show (k1 l T L st).m.bl = 200 from rfl, hs1]
    simp only [Bool.not_true, Bool.false_eq_true, if_false]
    have e1 : (0 : Int).toNat = 0 := rfl
    rw [e1, show (k1 l T L st).m.st 0 = st from rfl, show (k1 l T L st).m.ln 0 = (T : Int) from rfl, hs2, if_neg (by omega)]
    simp only [Bool.not_true, Bool.false_eq_true, if_false]
    unfold growF
    rw [hE, show (k1 l T L st).m.ln 0 = (T : Int) from rfl, show (k1 l T L st).m.bl = 200 from rfl]
    simp only [ne_eq, not_true_eq_false, if_false]
    rw [if_neg (show ¬ (T : Int) + (q : Int) = 200 by omega)]
    simp only [Mc.setSt, Mc.setLn, k1]
    simp [Mc.st, Mc.ln, stOf, lnOf]
  simp only [ddoF, show (k1 l T L st).dead = false from rfl, fits_of (.inr rfl) rfl hs, hD]
  rfl

theorem k1_flush {l : List UInt8} {T L : Nat} {st : Int} (hl : l.length = 64 * T) : dflushF (k1 l T L st) = (0, k1 l T T st) := by
  simp only [dflushF, k1, Bool.false_eq_true, if_false, List.map_cons, List.map_nil]
  rw [hl, Nat.mul_div_cancel_left _ (by decide)]

theorem k1_lose {l : List UInt8} {T L : Nat} {st : Int} (hst : st = 0 ∨ st = 1 ∨ st = 3) (hl : l.length = 64 * T) (hL : L ≤ T) (keep : List Int) :
    ∃ T' st', L ≤ T' ∧ T' ≤ T ∧ (st' = 0 ∨ st' = 1 ∨ st' = 3) ∧ dloseF (k1 l T L st) keep = k1 (l.take (T' * 64)) T' T' st' := by
  have h1 : leftF (k1 l T L st) keep 0 = leftF (k1 l T L st) keep 0 := rfl
  have hb : L ≤ leftF (k1 l T L st) keep 0 ∧ leftF (k1 l T L st) keep 0 ≤ T := by
    unfold leftF
    have e1 : (k1 l T L st).la.getD 0 0 = L := rfl
    have e2 : (k1 l T L st).bs.getD 0 [] = l := rfl
    rw [e1, e2, hl, Nat.mul_div_cancel_left _ (by decide)]
    split
    · omega
    · have := drestF_lt (keep.getD (0 % keep.length) 0) ((T : Int) - (L : Int) + 1) (by omega)
      omega
  refine ⟨leftF (k1 l T L st) keep 0, restF (leftF (k1 l T L st) keep 0 : Int), hb.1, hb.2, by unfold restF; split <;> simp, ?_⟩
  have e1 : leftsF (k1 l T L st) keep = [leftF (k1 l T L st) keep 0] := rfl
  have e2 : ((List.range (k1 l T L st).m.zs.length).map fun i => ((k1 l T L st).bs.getD i []).take (leftF (k1 l T L st) keep i * 64)) = [l.take (leftF (k1 l T L st) keep 0 * 64)] := rfl
  unfold dloseF
  rw [e1, e2]
  generalize leftF (k1 l T L st) keep 0 = X at *
  have e3 : lostL ([X].map fun n : Nat => (n : Int)) (k1 l T L st).m.zs = [(restF (X : Int), (X : Int))] := by
    show [lostZ (some (X : Int)) (st, (T : Int))] = _
    unfold lostZ
    simp only
    by_cases h : X < T
    · rw [if_pos (by omega)]
    · have : X = T := by omega
      subst this
      rw [if_neg (by omega), if_neg (by omega)]
  rw [e3]
  rfl

/-- What is left where all is kept. -/
theorem k1_lose_len {l : List UInt8} {T L : Nat} {st : Int} (keep : List Int) : leftF (k1 l T L st) keep 0 = if keep.length = 0 then L else L + (drestF (keep.getD (0 % keep.length) 0) (((l.length / 64 : Nat) : Int) - (L : Int) + 1)).toNat := rfl

def IntssB (w : World) (v : Value) (lss : List (List Int)) (b : Nat) : Prop := IntssAt w v lss b ∧ ∀ j y, y ∈ lss.getD j [] → -9223372036854775808 ≤ y ∧ y ≤ 9223372036854775807

section
variable {H : Type} {enc : TypeId × Value → H} {P : Program} {w : World} {base : Nat} {spare : Nat → Bool} {held : Bool}

set_option maxRecDepth 100000 in
theorem open_intssB {t t' e : TypeId} {v : Value} {d : DataW H} {p : List MemPlace} {r : Reach} {b0 : Nat} (ht : P.underlying t = some (.slice t')) (ht' : P.underlying t' = some (.slice e)) (he : P.underlying e = some (.int .i64)) (hc' : P.cellsOf t' = 1) (hc : P.cellsOf e = 1)
    (hby : P.bytesOf e = 8) (hsz : ∀ n ∈ d.weights P t, n ≤ 140737488355328) (hv : Value.okWide P w r b0 t v) (h : DataW.Trod enc P w base spare held t v d p) :
    ∃ (lss : List (List Int)) (b : Nat), IntssB w v lss b ∧ lss.length ≤ 9223372036854775807 := by
  obtain ⟨a, len, cap, rfl⟩ := okWide_slice ht hv
  obtain ⟨fuel, hf⟩ := h
  rcases open_slice1 ht hc' hf with ⟨hcs, _⟩ | ⟨x, l, c, m, n, V, D, Pl, hcs, _, hl, hm, hmm, hx, hi⟩
  · simp [Value.cells] at hcs
    obtain ⟨rfl, rfl, rfl⟩ := hcs
    exact ⟨[], 0, ⟨⟨none, 0, rfl, fun h => absurd h (by simp)⟩, by simp⟩, by simp⟩
  · simp [Value.cells] at hcs
    obtain ⟨rfl, rfl, rfl⟩ := hcs
    unfold maxLen at hm
    have hlm : len ≤ m := by rw [hmm]; split <;> omega
    by_cases h0 : len = 0
    · subst h0
      exact ⟨[], 0, ⟨⟨some x, cap, rfl, fun h => absurd h (by simp)⟩, by simp⟩, by simp⟩
    · obtain ⟨b, off, spot⟩ := x
      have h1 := (hi 0 (by omega)).1
      have hspot : spot = none := by simpa [Addr.add] using World.cell?_spot h1
      subst hspot
      have hadd : ∀ j, (⟨b, off, none⟩ : Addr).add j = ⟨b, off + j, none⟩ := by
        intro j; simp [Addr.add]
      obtain ⟨f, hf'⟩ := choose_lt (α := List Int) (n := len) (p := fun i ls => (∃ g, IntsS w (V i) ls g ∧ ls.length * 8 ≤ 140737488355328) ∧ ∀ y ∈ ls, -9223372036854775808 ≤ y ∧ y ≤ 9223372036854775807) (fun i hi' => by
        obtain ⟨ls, g, h2, h3, h4⟩ := intsS_of_trod ht' he hc hby (fun n hn => hsz n (by
          have hd : d = _ := (Prod.ext_iff.1 hx).1
          rw [hd]
          simp only [DataW.weights, ht]
          exact List.mem_cons_of_mem _ (List.mem_append_left _ (mem_weightsAll _ (List.mem_map.2 ⟨i, List.mem_range.2 hi', rfl⟩) hn)))) (hi i (by omega)).2
        exact ⟨ls, ⟨g, h2, h3⟩, fun y hy => int_bounds (h4 y hy)⟩)
      refine ⟨(List.range len).map f, b, ⟨⟨some ⟨b, off, none⟩, cap, by simp, fun _ => ⟨off, rfl, World.block_lt_of_cell? _ _ h1, fun j hj => ?_⟩⟩, fun j y hy => ?_⟩, by simp; omega⟩
      · have hj' : j < len := by simpa using hj
        have e : ((List.range len).map f).getD j [] = f j := by simp [List.getD_eq_getElem?_getD, hj']
        rw [e]
        obtain ⟨⟨g, h2, h3⟩, _⟩ := hf' j hj'
        have hc1 := (hi j (by omega)).1
        rw [hadd] at hc1
        exact ⟨V j, g, hc1, h2, h3⟩
      · by_cases hj' : j < len
        · have e : ((List.range len).map f).getD j [] = f j := by simp [List.getD_eq_getElem?_getD, hj']
          rw [e] at hy
          exact (hf' j hj').2 y hy
        · have e : ((List.range len).map f).getD j [] = [] := by simp [List.getD_eq_getElem?_getD, hj']
          rw [e] at hy
          simp at hy
end
end Go.Proofs.Ytojceddgmmapdaa
