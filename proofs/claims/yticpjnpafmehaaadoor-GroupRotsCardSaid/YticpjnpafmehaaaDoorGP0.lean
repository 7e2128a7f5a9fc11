/-
  Plain: groups as bytes and back (no program in sight).
-/
import Derived.Test.YticpjnpafmehaaaDoorGL0
namespace Go.Proofs.YticpjnpafmehaaaDoor
open Go.RowKit
set_option linter.unusedVariables false
set_option linter.unusedSimpArgs false

/-- A group: its number, its entries (a block, whether it was trimmed), its data. -/
structure Gp where
  seq : Int
  es : List (Int × Bool)
  ds : List ByteArray

def wantsE (e : Int × Bool) : Nat := if e.2 then 0 else 64
def pairOk : List (Int × Bool) → List ByteArray → Bool
  | [], [] => true
  | e :: es, d :: ds => decide (0 ≤ e.1) && (decide (e.1 < 2147483648) && (decide (d.size = wantsE e) && pairOk es ds))
  | _, _ => false
def goodG (g : Gp) : Bool := decide (0 ≤ g.seq) && (decide (g.seq ≤ 1099511627776) && (decide (1 ≤ g.es.length) && (decide (g.es.length ≤ 6) && pairOk g.es g.ds)))
def entV (e : Int × Bool) : Nat := if e.2 then e.1.toNat + 2147483648 else e.1.toNat
def entsTxt (es : List (Int × Bool)) : List UInt8 := es.flatMap fun e => be 4 (entV e)
def headG (g : Gp) : List UInt8 := [67, 71] ++ (be 6 g.seq.toNat ++ (be 1 g.es.length ++ entsTxt g.es))
def encG (g : Gp) : List UInt8 := headG g ++ (be 4 (crcL (headG g ++ cat g.ds)).toNat ++ (List.replicate (51 - 4 * g.es.length) 0 ++ cat g.ds))
def dataLen : List (Int × Bool) → Nat
  | [] => 0
  | e :: es => wantsE e + dataLen es
def blkN (es : List (Int × Bool)) : Nat := 1 + dataLen es / 64

theorem entsTxt_cons (e : Int × Bool) (es : List (Int × Bool)) : entsTxt (e :: es) = be 4 (entV e) ++ entsTxt es := rfl
theorem entsTxt_len (es : List (Int × Bool)) : (entsTxt es).length = 4 * es.length := by
  induction es with
  | nil => rfl
  | cons e es ih => rw [entsTxt_cons, List.length_append, be_length, ih, List.length_cons]; omega
theorem headG_len (g : Gp) : (headG g).length = 9 + 4 * g.es.length := by
  unfold headG
  simp only [List.length_append, be_length, entsTxt_len, List.length_cons, List.length_nil]; omega
theorem pairOk_len : ∀ {es : List (Int × Bool)} {ds : List ByteArray}, pairOk es ds = true → ds.length = es.length
  | [], [], _ => rfl
  | [], _ :: _, h => by simp [pairOk] at h
  | _ :: _, [], h => by simp [pairOk] at h
  | e :: es, d :: ds, h => by
    simp only [pairOk, Bool.and_eq_true] at h
    simp only [List.length_cons, pairOk_len h.2.2.2]
theorem pairOk_cat : ∀ {es : List (Int × Bool)} {ds : List ByteArray}, pairOk es ds = true → (cat ds).length = dataLen es
  | [], [], _ => rfl
  | [], _ :: _, h => by simp [pairOk] at h
  | _ :: _, [], h => by simp [pairOk] at h
  | e :: es, d :: ds, h => by
    simp only [pairOk, Bool.and_eq_true, decide_eq_true_eq] at h
    have e1 : cat (d :: ds) = bl d ++ cat ds := rfl
    rw [e1, List.length_append, pairOk_cat h.2.2.2, bl_size, h.2.2.1]; rfl
theorem dataLen_mod (es : List (Int × Bool)) : dataLen es % 64 = 0 ∧ dataLen es ≤ 64 * es.length := by
  induction es with
  | nil => exact ⟨rfl, Nat.zero_le _⟩
  | cons e es ih =>
    simp only [dataLen, wantsE, List.length_cons]
    cases e.2 <;> simp <;> omega
theorem good_iff (g : Gp) : goodG g = true ↔ (0 ≤ g.seq ∧ g.seq ≤ 1099511627776) ∧ (1 ≤ g.es.length ∧ g.es.length ≤ 6) ∧ pairOk g.es g.ds = true := by
  unfold goodG
  simp only [Bool.and_eq_true, decide_eq_true_eq]
  constructor
  · rintro ⟨h1, h2, h3, h4, h5⟩; exact ⟨⟨h1, h2⟩, ⟨h3, h4⟩, h5⟩
  · rintro ⟨⟨h1, h2⟩, ⟨h3, h4⟩, h5⟩; exact ⟨h1, h2, h3, h4, h5⟩
theorem encG_len (g : Gp) (h : goodG g = true) : (encG g).length = 64 + dataLen g.es := by
  obtain ⟨-, h1, h2⟩ := (good_iff g).1 h
  unfold encG
  simp only [List.length_append, headG_len, be_length, List.length_replicate, pairOk_cat h2]; omega
theorem encG_blk (g : Gp) (h : goodG g = true) : (encG g).length = 64 * blkN g.es := by
  rw [encG_len g h]; unfold blkN; have := (dataLen_mod g.es).1; omega
theorem blkN_le (g : Gp) (h : goodG g = true) : blkN g.es ≤ 7 := by
  obtain ⟨-, h1, -⟩ := (good_iff g).1 h
  unfold blkN; have := (dataLen_mod g.es).2; omega

/-! ### Reading -/
def entOf (n : Nat) : Int × Bool := if n < 2147483648 then ((n : Int), false) else ((n : Int) - 2147483648, true)
def entsOf (l : List UInt8) : Nat → List (Int × Bool)
  | 0 => []
  | k + 1 => entOf (nb (l.take 4)) :: entsOf (l.drop 4) k
def cutD (l : List UInt8) : List (Int × Bool) → List ByteArray
  | [] => []
  | e :: es => str (l.take (wantsE e)) :: cutD (l.drop (wantsE e)) es
def g0 : Gp := ⟨0, [], []⟩
def decG (l : List UInt8) : Gp × Int × Int :=
  if l = [] then (g0, 0, 13)
  else if l.length < 64 ∨ ¬l.take 2 = [67, 71] then (g0, 0, 10)
  else if (l.getD 8 0).toNat < 1 ∨ 6 < (l.getD 8 0).toNat ∨ ((l.drop (13 + 4 * (l.getD 8 0).toNat)).take (51 - 4 * (l.getD 8 0).toNat)).all (· == 0) = false then (g0, 0, 10)
  else if l.length < 64 + dataLen (entsOf (l.drop 9) (l.getD 8 0).toNat) then (g0, 0, 10)
  else if goodG ⟨(nb ((l.drop 2).take 6) : Int), entsOf (l.drop 9) (l.getD 8 0).toNat, cutD (l.drop 64) (entsOf (l.drop 9) (l.getD 8 0).toNat)⟩ = false then (g0, 0, 10)
  else if nb ((l.drop (9 + 4 * (l.getD 8 0).toNat)).take 4) = (crcL (l.take (9 + 4 * (l.getD 8 0).toNat) ++ (l.drop 64).take (dataLen (entsOf (l.drop 9) (l.getD 8 0).toNat)))).toNat then
    (⟨(nb ((l.drop 2).take 6) : Int), entsOf (l.drop 9) (l.getD 8 0).toNat, cutD (l.drop 64) (entsOf (l.drop 9) (l.getD 8 0).toNat)⟩, (blkN (entsOf (l.drop 9) (l.getD 8 0).toNat) : Int), 0)
  else (g0, 0, 11)

theorem entsOf_len (l : List UInt8) (k : Nat) : (entsOf l k).length = k := by
  induction k generalizing l with
  | zero => rfl
  | succ k ih => simp [entsOf, ih]
theorem entsOf_take (l : List UInt8) (k : Nat) : entsOf (l.take (4 * k)) k = entsOf l k := by
  induction k generalizing l with
  | zero => rfl
  | succ k ih =>
    simp only [entsOf]
    rw [List.take_take, Nat.min_eq_left (by omega), List.drop_take, show 4 * (k + 1) - 4 = 4 * k by omega, ih]
theorem entV_lt {e : Int × Bool} (h1 : e.1 < 2147483648) : entV e < 4294967296 := by
  unfold entV; split <;> omega
theorem entOf_V {e : Int × Bool} (h0 : 0 ≤ e.1) (h1 : e.1 < 2147483648) : entOf (entV e) = e := by
  obtain ⟨b, t⟩ := e
  unfold entOf entV
  cases t
  · simp only [Bool.false_eq_true, if_false]
    rw [if_pos (by simp only at h1 h0; omega)]
    simp only at h0; simp [Int.toNat_of_nonneg h0]
  · simp only [if_true]
    rw [if_neg (by omega)]
    simp only at h0
    simp only [Prod.mk.injEq, and_true]; omega
theorem entsOf_txt : ∀ {es : List (Int × Bool)} {ds : List ByteArray} (q : List UInt8), pairOk es ds = true → entsOf (entsTxt es ++ q) es.length = es
  | [], _, _, _ => rfl
  | _ :: _, [], _, h => by simp [pairOk] at h
  | e :: es, d :: ds, q, h => by
    simp only [pairOk, Bool.and_eq_true, decide_eq_true_eq] at h
    simp only [List.length_cons, entsOf, entsTxt_cons, List.append_assoc]
    rw [List.take_left' (be_length _ _), List.drop_left' (be_length _ _), nb_be 4 _ (entV_lt h.2.1), entOf_V h.1 h.2.1, entsOf_txt q h.2.2.2]
theorem cutD_cat : ∀ {es : List (Int × Bool)} {ds : List ByteArray} (q : List UInt8), pairOk es ds = true → cutD (cat ds ++ q) es = ds
  | [], [], _, _ => rfl
  | [], _ :: _, _, h => by simp [pairOk] at h
  | _ :: _, [], _, h => by simp [pairOk] at h
  | e :: es, d :: ds, q, h => by
    simp only [pairOk, Bool.and_eq_true, decide_eq_true_eq] at h
    have e1 : cat (d :: ds) = bl d ++ cat ds := rfl
    have hl : (bl d).length = wantsE e := by rw [bl_size, h.2.2.1]
    simp only [cutD, e1, List.append_assoc]
    rw [List.take_left' hl, List.drop_left' hl, str_bl, cutD_cat q h.2.2.2]

theorem be_one (n : Nat) (h : n < 256) : be 1 n = [UInt8.ofNat n] := by
  have h1 : nb (be 1 n) = nb [UInt8.ofNat n] := by
    rw [nb_be 1 n (by omega)]
    show n = _
    simp [nb]; omega
  exact nb_inj (by rw [be_length]; rfl) h1

theorem seq_lt {x : Int} (h : x ≤ 1099511627776) : x.toNat < 256 ^ 6 := by
  have : (256 : Nat) ^ 6 = 281474976710656 := by decide
  omega

/-- What stands where, of a text that begins with a group's head. -/
theorem head_parts (g : Gp) (h : goodG g = true) (q : List UInt8) :
    (headG g ++ q).take 2 = [67, 71] ∧ ((headG g ++ q).getD 8 0).toNat = g.es.length ∧ (nb (((headG g ++ q).drop 2).take 6) : Int) = g.seq ∧ entsOf ((headG g ++ q).drop 9) g.es.length = g.es := by
  obtain ⟨h1, h2, h3⟩ := (good_iff g).1 h
  have e : headG g ++ q = [67, 71] ++ (be 6 g.seq.toNat ++ (be 1 g.es.length ++ (entsTxt g.es ++ q))) := by
    unfold headG; simp only [List.append_assoc]
  refine ⟨by rw [e]; rfl, ?_, ?_, ?_⟩
  · rw [e, ← List.append_assoc, be_one _ (by omega)]
    have hl : ([67, 71] ++ be 6 g.seq.toNat : List UInt8).length = 8 := by rw [List.length_append, be_length]; rfl
    rw [List.getD_eq_getElem?_getD, List.getElem?_append_right (by omega), hl]
    simp; omega
  · rw [e, mid [67, 71] _ _ 2 6 rfl (be_length _ _), nb_be 6 _ (seq_lt h1.2)]; omega
  · rw [e, ← List.append_assoc, ← List.append_assoc]
    rw [List.drop_left' (by simp only [List.length_append, be_length]; rfl)]
    exact entsOf_txt q h3

/-- What was written is read again, whatever stands behind it. -/
theorem dec_enc (g : Gp) (q : List UInt8) (h : goodG g = true) : decG (encG g ++ q) = (g, (blkN g.es : Int), 0) := by
  obtain ⟨h1, h2, h3⟩ := (good_iff g).1 h
  obtain ⟨C, hC⟩ : ∃ C, (crcL (headG g ++ cat g.ds)).toNat = C := ⟨_, rfl⟩
  have hCl : C < 256 ^ 4 := by rw [← hC]; have := (crcL (headG g ++ cat g.ds)).isLt; omega
  have hcat := pairOk_cat h3
  have e : encG g ++ q = headG g ++ (be 4 C ++ (List.replicate (51 - 4 * g.es.length) 0 ++ (cat g.ds ++ q))) := by
    unfold encG; rw [hC]; simp only [List.append_assoc]
  obtain ⟨p1, p2, p3, p4⟩ := head_parts g h (be 4 C ++ (List.replicate (51 - 4 * g.es.length) 0 ++ (cat g.ds ++ q)))
  rw [← e] at p1 p2 p3 p4
  have hl : (encG g ++ q).length = 64 + dataLen g.es + q.length := by rw [List.length_append, encG_len g h]
  have hz : (((encG g ++ q).drop (13 + 4 * g.es.length)).take (51 - 4 * g.es.length)).all (· == 0) = true := by
    rw [e, ← List.append_assoc, mid _ _ _ (13 + 4 * g.es.length) _ (by rw [List.length_append, headG_len, be_length]; omega) List.length_replicate]
    simp
  have hd : (encG g ++ q).drop 64 = cat g.ds ++ q := by
    rw [e, ← List.append_assoc, ← List.append_assoc]
    exact List.drop_left' (by simp only [List.length_append, headG_len, be_length, List.length_replicate]; omega)
  have hcr : ((encG g ++ q).drop (9 + 4 * g.es.length)).take 4 = be 4 C := by
    rw [e]; exact mid _ _ _ _ 4 (headG_len g) (be_length _ _)
  have hth : (encG g ++ q).take (9 + 4 * g.es.length) = headG g := by rw [e, List.take_left' (headG_len g)]
  have hne : encG g ++ q ≠ [] := by intro h0; rw [h0] at hl; simp at hl; omega
  have hg : (⟨g.seq, g.es, cutD (cat g.ds ++ q) g.es⟩ : Gp) = g := by rw [cutD_cat q h3]
  have hdt : (cat g.ds ++ q).take (dataLen g.es) = cat g.ds := List.take_left' hcat
  unfold decG
  rw [p2, p4, p3, hd, hg, hcr, hth, hdt, hC, nb_be 4 C hCl, hl]
  rw [if_neg hne, if_neg (by rintro (h' | h'); omega; exact h' p1), if_neg (by rintro (h' | h' | h'); omega; omega; rw [hz] at h'; cases h'), if_neg (by omega), if_neg (by rw [h]; simp), if_pos rfl]

/-- Cut off within, it is none. -/
theorem enc_cut (g : Gp) (h : goodG g = true) (n : Nat) (hn : n < (encG g).length) : ∃ e, e ≠ 0 ∧ decG ((encG g).take n) = (g0, 0, e) := by
  obtain ⟨h1, h2, h3⟩ := (good_iff g).1 h
  have hl : ((encG g).take n).length = n := by rw [List.length_take]; omega
  rw [encG_len g h] at hn
  by_cases h0 : n = 0
  · subst h0
    exact ⟨13, by omega, by unfold decG; rw [if_pos (by simp)]⟩
  · have hne : (encG g).take n ≠ [] := by intro h'; rw [h'] at hl; simp at hl; omega
    by_cases h6 : n < 64
    · exact ⟨10, by omega, by unfold decG; rw [if_neg hne, if_pos (.inl (by omega))]⟩
    · refine ⟨10, by omega, ?_⟩
      have hhl := headG_len g
      have e : (encG g).take n = headG g ++ ((be 4 (crcL (headG g ++ cat g.ds)).toNat ++ (List.replicate (51 - 4 * g.es.length) 0 ++ cat g.ds)).take (n - (9 + 4 * g.es.length))) := by
        unfold encG
        rw [List.take_append, hhl, List.take_of_length_le (by omega)]
      obtain ⟨p1, p2, p3, p4⟩ := head_parts g h ((be 4 (crcL (headG g ++ cat g.ds)).toNat ++ (List.replicate (51 - 4 * g.es.length) 0 ++ cat g.ds)).take (n - (9 + 4 * g.es.length)))
      rw [← e] at p1 p2 p3 p4
      unfold decG
      rw [p2, p4, hl, if_neg hne]
      split
      · rfl
      · split
        · rfl
        · first | rfl | rw [if_pos (by omega)]

theorem dec_bad (l : List UInt8) (h : (decG l).2.2 ≠ 0) : (decG l).1 = g0 ∧ (decG l).2.1 = 0 := by
  unfold decG at h ⊢
  split
  · exact ⟨rfl, rfl⟩
  · rename_i a
    rw [if_neg a] at h
    split
    · exact ⟨rfl, rfl⟩
    · rename_i b
      rw [if_neg b] at h
      split
      · exact ⟨rfl, rfl⟩
      · rename_i c
        rw [if_neg c] at h
        split
        · exact ⟨rfl, rfl⟩
        · rename_i d
          rw [if_neg d] at h
          split
          · exact ⟨rfl, rfl⟩
          · rename_i e
            rw [if_neg e] at h
            split
            · rename_i f
              rw [if_pos f] at h
              exact absurd rfl h
            · exact ⟨rfl, rfl⟩

/-- Noughts are no group. -/
theorem dec_zeros (n : Nat) : (decG (List.replicate n 0)).2.2 ≠ 0 := by
  unfold decG
  by_cases h : n = 0
  · subst h; simp
  · rw [if_neg (by cases n <;> simp_all [List.replicate_succ]), if_pos]
    · simp
    · by_cases h6 : n < 64
      · left; simpa using h6
      · right
        obtain ⟨m, rfl⟩ : ∃ m, n = m + 2 := ⟨n - 2, by omega⟩
        simp [List.replicate_succ]

/-- A group of which up to four bytes in a row were turned, of its number or its data, is none. -/
theorem rots (g : Gp) (h : goodG g = true) (p : Nat) (ys : List UInt8) (h4 : ys.length ≤ 4) (hp : (2 ≤ p ∧ p + ys.length ≤ 8) ∨ (64 ≤ p ∧ p + ys.length ≤ (encG g).length)) (hy : ∃ y ∈ ys, y ≠ 0) :
    (decG (chg (encG g) p ys)).2.2 ≠ 0 := by
  intro hz
  obtain ⟨h1, h2, h3⟩ := (good_iff g).1 h
  have hTl := encG_len g h
  have hcat := pairOk_cat h3
  have hle : p + ys.length ≤ (encG g).length := by omega
  have hl := chg_len _ _ _ hle
  obtain ⟨p1, p2, p3, p4⟩ := head_parts g h (be 4 (crcL (headG g ++ cat g.ds)).toNat ++ (List.replicate (51 - 4 * g.es.length) 0 ++ cat g.ds))
  have e : headG g ++ (be 4 (crcL (headG g ++ cat g.ds)).toNat ++ (List.replicate (51 - 4 * g.es.length) 0 ++ cat g.ds)) = encG g := rfl
  rw [e] at p1 p2 p3 p4
  have hd : (encG g).drop 64 = cat g.ds := by
    unfold encG
    rw [← List.append_assoc, ← List.append_assoc]
    exact List.drop_left' (by simp only [List.length_append, headG_len, be_length, List.length_replicate]; omega)
  have hth : (encG g).take (9 + 4 * g.es.length) = headG g := by unfold encG; rw [List.take_left' (headG_len g)]
  have hcr : ((encG g).drop (9 + 4 * g.es.length)).take 4 = be 4 (crcL (headG g ++ cat g.ds)).toNat := by
    unfold encG; exact mid _ _ _ _ 4 (headG_len g) (be_length _ _)
  have part : ∀ i n, 8 ≤ i → i + n ≤ 64 → ((chg (encG g) p ys).drop i).take n = ((encG g).drop i).take n := fun i n hi hn => by
    rcases hp with hp | hp
    · rw [chg_behind _ _ _ _ hle (by omega)]
    · rw [chg_before _ _ _ _ _ hle (by omega)]
  have c8 : (chg (encG g) p ys).getD 8 0 = (encG g).getD 8 0 := by
    have := part 8 1 (by omega) (by omega)
    have g1 : ∀ l : List UInt8, l.getD 8 0 = ((l.drop 8).take 1).getD 0 0 := fun l => by
      simp [List.getD_eq_getElem?_getD]
    rw [g1, g1, this]
  have ents : entsOf ((chg (encG g) p ys).drop 9) g.es.length = g.es := by
    rw [← entsOf_take, part 9 _ (by omega) (by omega), entsOf_take, p4]
  unfold decG at hz
  rw [c8, p2, ents, hl] at hz
  split at hz
  · simp at hz
  · split at hz
    · simp at hz
    · split at hz
      · simp at hz
      · split at hz
        · simp at hz
        · split at hz
          · simp at hz
          · split at hz
            · rename_i hcrc
              have ht : ((chg (encG g) p ys).drop 64).take (dataLen g.es) = (chg (encG g) p ys).drop 64 := List.take_of_length_le (by rw [List.length_drop, hl]; omega)
              rw [part _ 4 (by omega) (by omega), hcr, ht, nb_be 4 _ (by have := (crcL (headG g ++ cat g.ds)).isLt; omega)] at hcrc
              have hc := BitVec.eq_of_toNat_eq hcrc
              rw [← hd, ← hth] at hc
              obtain ⟨y, hy1, hy2⟩ := hy
              exact hy2 (burst_turn (encG g) _ p ys (by omega) h4 (by omega) hle (by omega) hc y hy1)
            · simp at hz

/-- Nothing turned: read as it was. -/
theorem rots_not (g : Gp) (h : goodG g = true) (p : Nat) (ys : List UInt8) (hle : p + ys.length ≤ (encG g).length) (hy : ∀ y ∈ ys, y = 0) : (decG (chg (encG g) p ys)).2.2 = 0 := by
  rw [chg_zero _ _ _ hle hy]
  have := dec_enc g [] h
  rw [List.append_nil] at this
  rw [this]

end Go.Proofs.YticpjnpafmehaaaDoor
