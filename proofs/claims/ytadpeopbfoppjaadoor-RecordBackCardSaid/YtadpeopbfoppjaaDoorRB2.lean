/-
  Plain law of RecordBack: its rounds.
-/
import Derived.Test.YtadpeopbfoppjaaDoorRB1
namespace Go.Proofs.YtadpeopbfoppjaaDoor.Y
open Go.RowKit Go.Proofs.YtadpeopbfoppjaaDoorW.PrintWords Go.Proofs.YtadpeopbfoppjaaDoorW.PrintLast Go.Proofs.YtadpeopbfoppjaaDoorW.PrintMore

/-- What was read is what was written. -/
theorem back_l2 (gs : List Rc) (n : Nat) (hn : n ≤ gs.length) (hl : gs.length ≤ 40) :
    ∀ (d i k : Nat), n - i = d → i ≤ n → d < k → corbellaw06_RecordBack.l2 k (gs.map toS) (n : Int) ((gs.take n).map toS) (i : Int) = some true := by
  intro d
  induction d with
  | zero =>
    intro i k hd hi hk
    obtain ⟨k, rfl⟩ : ∃ m, k = m + 1 := ⟨k - 1, by omega⟩
    simp only [corbellaw06_RecordBack.l2]
    rw [if_neg (by omega)]
  | succ d ih =>
    intro i k hd hi hk
    obtain ⟨k, rfl⟩ : ∃ m, k = m + 1 := ⟨k - 1, by omega⟩
    simp only [corbellaw06_RecordBack.l2]
    have h1 : ((gs.take n).map toS)[i]? = some (toS (gs[i]'(by omega))) := by
      rw [List.getElem?_map, List.getElem?_take_of_lt (by omega), List.getElem?_eq_getElem (by omega)]; rfl
    have h2 : (gs.map toS)[i]? = some (toS (gs[i]'(by omega))) := by
      rw [List.getElem?_map, List.getElem?_eq_getElem (by omega)]; rfl
    have e1 : rd_T29 ((gs.take n).map toS) (i : Int) = toS (gs[i]'(by omega)) := by unfold rd_T29; rw [Int.toNat_natCast]; exact rdS_get _ _ _ _ h1
    have e2 : rd_T29 (gs.map toS) (i : Int) = toS (gs[i]'(by omega)) := by unfold rd_T29; rw [Int.toNat_natCast]; exact rdS_get _ _ _ _ h2
    rw [if_pos (by omega), if_pos (by omega), if_pos (by simp; omega), if_pos (by simp; omega), e1, e2]
    rw [if_neg (by simp), w64 _ (by omega)]
    exact ih (i + 1) k (by omega) (by omega) (by omega)

theorem take_len (gs : List Rc) (n : Nat) (hn : n ≤ gs.length) : (gs.take n).length = n := by rw [List.length_take]; omega

/-- Behind the cut: what is scanned. -/
theorem back_j3 (gs : List Rc) (hg : ∀ x ∈ gs, goodR x = true) (hl : gs.length ≤ 40) (n c : Nat) (hn : n ≤ gs.length) (hc : c ≤ (encs gs).length) (hlo : (encs (gs.take n)).length ≤ c)
    (hhi : n < gs.length → c < (encs (gs.take (n + 1))).length) (k : Nat) (hk : 200 < k) :
    corbellaw06_RecordBack.j3 k (c : Int) (str (encs gs)) (gs.map toS) (endsOf 0 gs) (n : Int) = some true := by
  obtain ⟨k, rfl⟩ : ∃ m, k = m + 1 := ⟨k - 1, by omega⟩
  have hle := encs_le gs hg
  have hgt : ∀ x ∈ gs.take n, goodR x = true := fun x hx => hg x (List.mem_of_mem_take hx)
  have hsz : (str (encs gs)).size = (encs gs).length := str_size _
  simp only [corbellaw06_RecordBack.j3]
  rw [if_pos (by omega), if_pos (by rw [hsz]; omega)]
  -- the rest behind the whole ones
  obtain ⟨rest, hrest, hbl⟩ : ∃ rest, (decL rest).2.2 ≠ 0 ∧ bl ((str (encs gs)).extract 0 c) = encs (gs.take n) ++ rest := by
    have e0 : bl ((str (encs gs)).extract 0 c) = (encs gs).take c := by rw [bl_ext, bl_str]; rfl
    rw [e0]
    by_cases h : n < gs.length
    · have hx := hg gs[n] (List.getElem_mem h)
      have e1 : gs = gs.take n ++ (gs[n] :: gs.drop (n + 1)) := by rw [List.getElem_cons_drop, List.take_append_drop]
      have e2 : encs (gs.take (n + 1)) = encs (gs.take n) ++ encTxt gs[n] := by rw [List.take_succ_eq_append_getElem h, encs_append]; simp [encs]
      have hh := hhi h
      rw [e2, List.length_append] at hh
      have hcut := enc_cut gs[n] hx (c - (encs (gs.take n)).length) (by omega)
      obtain ⟨e, he, hd⟩ := hcut
      refine ⟨(encTxt gs[n]).take (c - (encs (gs.take n)).length), by rw [hd]; exact he, ?_⟩
      conv => lhs; rw [e1]
      rw [encs_append, encs_cons, List.take_append, List.take_of_length_le hlo]
      congr 1
      rw [List.take_append_of_le_length (by omega)]
    · have hnl : n = gs.length := by omega
      subst hnl
      rw [List.take_length] at hlo ⊢
      refine ⟨[], by decide, ?_⟩
      rw [List.append_nil, List.take_of_length_le hlo]
  have hscan : record_Scan.f k ((str (encs gs)).extract 0 c) = some ((gs.take n).map toS, ((blksN (gs.take n) : Nat) : Int)) := by
    unfold record_Scan.f
    have := scan_ev ((str (encs gs)).extract 0 c) (by rw [ByteArray.size_extract, hsz]; omega) rest hrest (gs.take n) [] 0 k [] hgt rfl (by rw [hbl]; rfl) (by rw [take_len gs n hn]; omega) (by rw [take_len gs n hn]; simp; omega)
    rw [show ((0 : Nat) : Int) = 0 from rfl] at this
    rw [this]; simp
  rw [Int.toNat_natCast, hscan]
  simp only [Option.bind_some]
  have hj4 : ∀ b, b = false → corbellaw06_RecordBack.j4 k (gs.map toS) (n : Int) ((gs.take n).map toS) b = some true := by
    intro b hb
    obtain ⟨k, rfl⟩ : ∃ m, k = m + 1 := ⟨k - 1, by omega⟩
    simp only [corbellaw06_RecordBack.j4]
    rw [hb, if_neg (by simp)]
    exact back_l2 gs n hn hl (n - 0) 0 k (by omega) (by omega) (by omega)
  have hlen := encs_len (gs.take n) hgt
  rw [if_pos (by rw [List.length_map, take_len gs n hn])]
  by_cases h0 : 0 < n
  · have hend : (endsOf 0 gs)[n - 1]? = some (((encs (gs.take n)).length : Nat) : Int) := by
      rw [endsOf_get gs 0 (n - 1) (by omega), Nat.zero_add, Nat.sub_add_cancel h0]
    have hi : wrap64 ((n : Int) - 1) = ((n - 1 : Nat) : Int) := by rw [w64 _ (by omega)]; omega
    rw [if_pos (by omega), hi, if_pos (by omega), if_pos (by rw [endsOf_len]; omega), rd_get _ _ _ hend]
    have hw : wrap64 (((blksN (gs.take n) : Nat) : Int) * 64) = (((encs (gs.take n)).length : Nat) : Int) := by
      rw [w64 _ (by omega)]; omega
    rw [hw, if_pos rfl, if_neg (by omega)]
    exact hj4 _ rfl
  · obtain rfl : n = 0 := by omega
    rw [if_neg (by omega), if_pos (by omega)]
    exact hj4 _ (by simp [blksN])

/-- How many are whole. -/
theorem back_l1 (gs : List Rc) (hg : ∀ x ∈ gs, goodR x = true) (hl : gs.length ≤ 40) (c : Nat) (hc : c ≤ (encs gs).length) :
    ∀ (d n k : Nat), gs.length - n = d → n ≤ gs.length → (encs (gs.take n)).length ≤ c → 300 + d < k →
      corbellaw06_RecordBack.l1 k (c : Int) (str (encs gs)) (gs.map toS) (endsOf 0 gs) (n : Int) = some true := by
  intro d
  induction d with
  | zero =>
    intro n k hd hn hlo hk
    obtain ⟨k, rfl⟩ : ∃ m, k = m + 1 := ⟨k - 1, by omega⟩
    simp only [corbellaw06_RecordBack.l1]
    rw [if_neg (by rw [endsOf_len]; omega)]
    exact back_j3 gs hg hl n c hn hc hlo (fun h => by omega) k (by omega)
  | succ d ih =>
    intro n k hd hn hlo hk
    obtain ⟨k, rfl⟩ : ∃ m, k = m + 1 := ⟨k - 1, by omega⟩
    have hend : (endsOf 0 gs)[n]? = some (((encs (gs.take (n + 1))).length : Nat) : Int) := by rw [endsOf_get gs 0 n (by omega), Nat.zero_add]
    simp only [corbellaw06_RecordBack.l1]
    rw [if_pos (by rw [endsOf_len]; omega), if_pos (by omega), rd_get _ _ _ hend]
    by_cases h : (encs (gs.take (n + 1))).length ≤ c
    · rw [if_pos (by omega), w64 _ (by omega)]
      exact ih (n + 1) k (by omega) (by omega) h (by omega)
    · rw [if_neg (by omega)]
      exact back_j3 gs hg hl n c hn hc hlo (fun _ => by omega) k (by omega)

/-- The cut, by the remainder. -/
theorem cut_ok (a1 : Int) (n : Nat) (hn : n ≤ 100000) (ha : -9223372036854775808 ≤ a1 ∧ a1 ≤ 9223372036854775807) : ∃ c : Nat, c ≤ n ∧ Int.tmod (wrap64 ((wrap64 ((Int.tmod a1 (wrap64 ((n : Int) + 1))) + (n : Int))) + 1)) (wrap64 ((n : Int) + 1)) = (c : Int) := by
  rw [w64 ((n : Int) + 1) (by omega)]
  have h1 := Int.tmod_lt_of_pos a1 (show (0 : Int) < (n : Int) + 1 by omega)
  have h2 := Int.lt_tmod_of_pos a1 (show (0 : Int) < (n : Int) + 1 by omega)
  generalize Int.tmod a1 ((n : Int) + 1) = t at *
  rw [w64 (t + n) (by omega), w64 (t + n + 1) (by omega), Int.tmod_eq_emod_of_nonneg (by omega)]
  have h3 := Int.emod_lt_of_pos (t + n + 1) (show (0 : Int) < (n : Int) + 1 by omega)
  have h4 := Int.emod_nonneg (t + n + 1) (show (n : Int) + 1 ≠ 0 by omega)
  exact ⟨((t + n + 1) % (n + 1)).toNat, by omega, by omega⟩

theorem whole_ev (x : S23) (h : x.f6.size ≤ 140737488351232) : corbellaw06_whole.f x.f0 x.f1 x.f2 x.f3 x.f4 x.f5 x.f6 = some (x.f0, x.f1, x.f2, x.f3, x.f4, x.f5, wholeB x.f0 x.f6) := by
  unfold corbellaw06_whole.f; rw [if_pos (by omega)]

theorem back_l0 (l : List S23) (a1 : Int) (ha : -9223372036854775808 ≤ a1 ∧ a1 ≤ 9223372036854775807) (hb : ∀ x ∈ l, x.f6.size ≤ 140737488351232) (hl : l.length ≤ 9223372036854775807) :
    ∀ (d i k : Nat), (min l.length 40) - i = d → i ≤ min l.length 40 → 500 + 2 * d < k →
      corbellaw06_RecordBack.l0 k l a1 (str (encs (goods (l.take i)))) ((goods (l.take i)).map toS) (endsOf 0 (goods (l.take i))) (i : Int) = some true := by
  intro d
  have hlast : ∀ (i k : Nat), i ≤ min l.length 40 → 450 < k → corbellaw06_RecordBack.j1 k l a1 (str (encs (goods (l.take i)))) ((goods (l.take i)).map toS) (endsOf 0 (goods (l.take i))) (i : Int) false = some true := by
    intro i k hi hk
    obtain ⟨k, rfl⟩ : ∃ m, k = m + 1 := ⟨k - 1, by omega⟩
    have hg := goods_good (l.take i)
    have hgl : (goods (l.take i)).length ≤ 40 := Nat.le_trans (goods_le _) (by rw [List.length_take]; omega)
    have hle := encs_le _ hg
    simp only [corbellaw06_RecordBack.j1]
    rw [if_neg (by simp), str_size]
    obtain ⟨c, hc, he⟩ := cut_ok a1 (encs (goods (l.take i))).length (by omega) ha
    rw [if_neg (by rw [w64 _ (by omega)]; omega), he]
    exact back_l1 (goods (l.take i)) hg hgl c hc _ 0 k rfl (by omega) (by simp [encs]) (by omega)
  induction d with
  | zero =>
    intro i k hd hi hk
    obtain ⟨k, rfl⟩ : ∃ m, k = m + 1 := ⟨k - 1, by omega⟩
    simp only [corbellaw06_RecordBack.l0]
    by_cases h : i < l.length
    · rw [if_pos (by omega), decide_eq_false (by omega)]
      exact hlast i k hi (by omega)
    · rw [if_neg (by omega)]
      exact hlast i k hi (by omega)
  | succ d ih =>
    intro i k hd hi hk
    obtain ⟨k, rfl⟩ : ∃ m, k = m + 2 := ⟨k - 2, by omega⟩
    have hlt : i < l.length := by omega
    have hbx := hb l[i] (List.getElem_mem hlt)
    have hrd : rd_T23 l (i : Int) = l[i] := by unfold rd_T23; rw [Int.toNat_natCast]; exact rdS_get _ _ _ _ (List.getElem?_eq_getElem hlt)
    have hg := goods_good (l.take i)
    have hgl : (goods (l.take i)).length ≤ 40 := Nat.le_trans (goods_le _) (by rw [List.length_take]; omega)
    have hle := encs_le _ hg
    have hsn := goods_snoc l i hlt
    have hen : record_Encode.f l[i].f0 l[i].f1 l[i].f2 l[i].f3 l[i].f4 l[i].f5 (wholeB l[i].f0 l[i].f6) = some (encF (whl l[i])) := enc_f (whl l[i]) (by have := whole_size l[i].f0 l[i].f6 hbx; show (wholeB l[i].f0 l[i].f6).size ≤ _; omega)
    simp only [corbellaw06_RecordBack.l0]
    rw [if_pos (by omega), decide_eq_true (by omega)]
    simp only [corbellaw06_RecordBack.j1]
    rw [if_pos trivial, if_pos (by omega), if_pos (by omega), hrd, whole_ev _ hbx]
    simp only [Option.bind_some]
    rw [hen]
    simp only [Option.bind_some]
    have hnext := ih (i + 1) k (by omega) (by omega) (by omega)
    by_cases hgood : goodR (whl l[i]) = true
    · have hlx := good_len hgood
      rw [if_pos hgood] at hsn
      rw [encF_good hgood]
      simp only
      rw [if_pos trivial, str_size, str_size, if_pos (by omega), if_pos (by simp; omega), if_pos (by rw [endsOf_len]; omega)]
      rw [w64 _ (by omega)]
      have e1 : str (encs (goods (l.take i))) ++ str (encTxt (whl l[i])) = str (encs (goods (l.take (i + 1)))) := by
        rw [hsn, encs_append]; apply bl_inj; rw [bl_append, bl_str, bl_str, bl_str]; simp [encs]
      have e2 : (goods (l.take i)).map toS ++ [⟨l[i].f0, l[i].f1, l[i].f2, l[i].f3, l[i].f4, l[i].f5, wholeB l[i].f0 l[i].f6⟩] = (goods (l.take (i + 1))).map toS := by
        rw [hsn, List.map_append]; rfl
      have e3 : endsOf 0 (goods (l.take i)) ++ [((str (encs (goods (l.take (i + 1))))).size : Int)] = endsOf 0 (goods (l.take (i + 1))) := by
        rw [hsn, endsOf_append, str_size, encs_append, List.length_append]
        simp [endsOf, encs]
      rw [e1, e2, e3]
      exact hnext
    · have hgf : goodR (whl l[i]) = false := by simpa using hgood
      rw [if_neg hgood, List.append_nil] at hsn
      rw [encF_bad hgf]
      simp only
      rw [if_neg (by decide), w64 _ (by omega)]
      rw [hsn] at hnext
      exact hnext

theorem recordBack_ev (l : List S23) (a1 : Int) (ha : -9223372036854775808 ≤ a1 ∧ a1 ≤ 9223372036854775807) (hb : ∀ x ∈ l, x.f6.size ≤ 140737488351232) (hl : l.length ≤ 9223372036854775807) : ∃ k, corbellaw06_RecordBack.f k l a1 = some true := by
  refine ⟨1000, ?_⟩
  unfold corbellaw06_RecordBack.f
  rw [speaks_ev]
  simp only [Option.bind_some]
  rw [if_pos trivial]
  exact back_l0 l a1 ha hb hl _ 0 1000 rfl (by omega) (by omega)

end Go.Proofs.YtadpeopbfoppjaaDoor.Y
