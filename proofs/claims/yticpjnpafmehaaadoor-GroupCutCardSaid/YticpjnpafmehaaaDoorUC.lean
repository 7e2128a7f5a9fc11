/-
  Plain law of GroupCut over the printed functions.
-/
import Derived.Test.YticpjnpafmehaaaDoorUx10
import Derived.Test.YticpjnpafmehaaaDoorUGL
namespace Go.Proofs.YticpjnpafmehaaaDoor.U
open Go.RowKit Go.Proofs.YticpjnpafmehaaaDoorW.PrintWords Go.Proofs.YticpjnpafmehaaaDoorW.PrintLast Go.Proofs.YticpjnpafmehaaaDoorW.PrintMore
set_option linter.unusedVariables false
set_option linter.unusedSimpArgs false

/-- Where they end. -/
def endsOf (p : Nat) : List Gp → List Int
  | [] => []
  | g :: gs => ((p + (encG g).length : Nat) : Int) :: endsOf (p + (encG g).length) gs
theorem endsOf_len (gs : List Gp) : ∀ p, (endsOf p gs).length = gs.length := by
  induction gs with
  | nil => intro p; rfl
  | cons g gs ih => intro p; simp [endsOf, ih]
theorem endsOf_append (a b : List Gp) : ∀ p, endsOf p (a ++ b) = endsOf p a ++ endsOf (p + (encs a).length) b := by
  induction a with
  | nil => intro p; rfl
  | cons g a ih =>
    intro p
    simp only [List.cons_append, endsOf, ih, encs_cons, List.length_append, List.cons.injEq, true_and]
    rw [Nat.add_assoc]
theorem endsOf_get (gs : List Gp) : ∀ (p j : Nat), j < gs.length → (endsOf p gs)[j]? = some (((p + (encs (gs.take (j + 1))).length : Nat)) : Int) := by
  induction gs with
  | nil => intro p j h; simp at h
  | cons g gs ih =>
    intro p j h
    cases j with
    | zero => simp [endsOf, encs]
    | succ j =>
      simp only [endsOf, List.getElem?_cons_succ, List.take_succ_cons, encs_cons, List.length_append]
      rw [ih _ j (by simpa using h), Nat.add_assoc]
theorem take_len (gs : List Gp) (n : Nat) (hn : n ≤ gs.length) : (gs.take n).length = n := by rw [List.length_take]; omega
theorem zeros_bl (n : Nat) : bl (strOfNums (List.replicate n 0)) = List.replicate n 0 := by
  unfold strOfNums bl
  simp [List.map_replicate]
theorem zeros_size (n : Nat) : (strOfNums (List.replicate n 0)).size = n := by
  rw [← bl_size, zeros_bl, List.length_replicate]

/-- What is scanned of a beginning. -/
theorem cut_scan (gs : List Gp) (hg : ∀ g ∈ gs, goodG g = true) (hl : gs.length ≤ 20) (n c : Nat) (hn : n ≤ gs.length) (hlo : (encs (gs.take n)).length ≤ c)
    (hhi : n < gs.length → c < (encs (gs.take (n + 1))).length) (hc : c ≤ (encs gs).length) (k : Nat) (hk : 700 < k) : group_Scan.f k ((str (encs gs)).extract 0 c) = some ((gs.take n).map toG, places 0 (gs.take n)) := by
  have hle := encs_le gs hg
  have hsz : (str (encs gs)).size = (encs gs).length := str_size _
  have hgt : ∀ x ∈ gs.take n, goodG x = true := fun x hx => hg x (List.mem_of_mem_take hx)
  obtain ⟨rest, hrest, hbl⟩ : ∃ rest, (decG rest).2.2 ≠ 0 ∧ bl ((str (encs gs)).extract 0 c) = encs (gs.take n) ++ rest := by
    have e0 : bl ((str (encs gs)).extract 0 c) = (encs gs).take c := by rw [bl_ext, bl_str]; rfl
    rw [e0]
    by_cases h : n < gs.length
    · have hx := hg gs[n] (List.getElem_mem h)
      have e1 : gs = gs.take n ++ (gs[n] :: gs.drop (n + 1)) := by rw [List.getElem_cons_drop, List.take_append_drop]
      have e2 : encs (gs.take (n + 1)) = encs (gs.take n) ++ encG gs[n] := by rw [List.take_succ_eq_append_getElem h, encs_append]; simp [encs]
      have hh := hhi h
      rw [e2, List.length_append] at hh
      obtain ⟨e, he, hd⟩ := enc_cut gs[n] hx (c - (encs (gs.take n)).length) (by omega)
      refine ⟨(encG gs[n]).take (c - (encs (gs.take n)).length), by rw [hd]; exact he, ?_⟩
      conv => lhs; rw [e1]
      rw [encs_append, encs_cons, List.take_append, List.take_of_length_le hlo]
      congr 1
      rw [List.take_append_of_le_length (by omega)]
    · have hnl : n = gs.length := by omega
      subst hnl
      rw [List.take_length] at hlo ⊢
      refine ⟨[], by decide, ?_⟩
      rw [List.append_nil, List.take_of_length_le hlo]
  exact scan_f _ (by rw [ByteArray.size_extract, hsz]; omega) (gs.take n) rest hrest hgt hbl (by rw [take_len gs n hn]; omega) k hk
theorem zeros_scan (gs : List Gp) (hg : ∀ g ∈ gs, goodG g = true) (hl : gs.length ≤ 20) (m : Nat) (hm : m ≤ 1000) (k : Nat) (hk : 700 < k) : group_Scan.f k (str (encs gs) ++ strOfNums (List.replicate m 0)) = some (gs.map toG, places 0 gs) := by
  have hle := encs_le gs hg
  refine scan_f _ ?_ gs (List.replicate m 0) (dec_zeros m) hg ?_ (by omega) k hk
  · rw [ByteArray.size_append, str_size, zeros_size]; omega
  · rw [bl_append, bl_str, zeros_bl]

theorem cut_l1 (gs : List Gp) (hg : ∀ g ∈ gs, goodG g = true) (hl : gs.length ≤ 20) (c : Nat) (hc : c ≤ (encs gs).length) (a2 : Int) :
    ∀ (d n k : Nat), gs.length - n = d → n ≤ gs.length → (encs (gs.take n)).length ≤ c → 800 + d < k →
      corbellaw18_GroupCut.l1 k (c : Int) a2 (str (encs gs)) (endsOf 0 gs) (n : Int) = some true := by
  have hle := encs_le gs hg
  have hsz : (str (encs gs)).size = (encs gs).length := str_size _
  obtain ⟨m, hm, hm7⟩ : ∃ m : Nat, wrap64 (64 * Go.bits .and .i64 a2 7) = (m : Int) ∧ m ≤ 448 := by
    have h := i64_and7 a2
    rw [h]
    have h1 := Int.emod_lt_of_pos a2 (show (0 : Int) < 8 by omega)
    have h2 := Int.emod_nonneg a2 (show (8 : Int) ≠ 0 by omega)
    exact ⟨(64 * (a2 % 8)).toNat, by rw [w64 _ (by omega)]; omega, by omega⟩
  have hfin : ∀ (n k : Nat), 750 < k → n ≤ gs.length → (encs (gs.take n)).length ≤ c → (n < gs.length → c < (encs (gs.take (n + 1))).length) →
      (if 0 ≤ (c : Int) then (if (c : Int) ≤ ((str (encs gs)).size : Int) then ((group_Scan.f k ((str (encs gs)).extract 0 ((c : Int) : Int).toNat)).bind fun bt355 => (if 0 ≤ (wrap64 (64 * (Go.bits .and .i64 a2 7))) then (if (wrap64 (64 * (Go.bits .and .i64 a2 7)) : Int).toNat ≤ 281474976710656 then ((some (List.replicate (wrap64 (64 * (Go.bits .and .i64 a2 7)) : Int).toNat 0 : List Int)).bind fun y361 => (if (str (encs gs)).size + (strOfNums y361).size ≤ 9223372036854775807 then ((group_Scan.f k (str (encs gs) ++ (strOfNums y361))).bind fun bt364 => (if (bt355.1.length : Int) = (n : Int) then (some ((bt364.1.length : Int) == ((endsOf 0 gs).length : Int))) else (some false))) else (none))) else (none)) else (none))) else (none)) else (none)) = some true := by
    intro n k hk hn hlo hhi
    rw [if_pos (by omega), if_pos (by rw [hsz]; omega), Int.toNat_natCast, cut_scan gs hg hl n c hn hlo hhi hc k (by omega), Option.bind_some, hm, if_pos (by omega), Int.toNat_natCast, if_pos (by omega), Option.bind_some]
    rw [if_pos (by rw [hsz, zeros_size]; omega), zeros_scan gs hg hl m (by omega) k (by omega), Option.bind_some]
    simp only [List.length_map]
    rw [take_len gs n hn, if_pos rfl, endsOf_len]
    simp
  intro d
  induction d with
  | zero =>
    intro n k hd hn hlo hk
    obtain ⟨k, rfl⟩ : ∃ m, k = m + 1 := ⟨k - 1, by omega⟩
    have h1 := hfin n k (by omega) hn hlo (fun h => by omega)
    simp only [corbellaw18_GroupCut.l1]
    rw [if_neg (by rw [endsOf_len]; omega)]
    exact h1
  | succ d ih =>
    intro n k hd hn hlo hk
    obtain ⟨k, rfl⟩ : ∃ m, k = m + 1 := ⟨k - 1, by omega⟩
    have hend : (endsOf 0 gs)[n]? = some (((encs (gs.take (n + 1))).length : Nat) : Int) := by rw [endsOf_get gs 0 n (by omega), Nat.zero_add]
    by_cases h : (encs (gs.take (n + 1))).length ≤ c
    · have h1 := ih (n + 1) k (by omega) (by omega) h (by omega)
      simp only [corbellaw18_GroupCut.l1]
      rw [if_pos (by rw [endsOf_len]; omega), if_pos (by omega), rd_get _ _ _ hend, if_pos (by omega), w64 _ (by omega)]
      exact h1
    · have h1 := hfin n k (by omega) hn hlo (fun _ => by omega)
      simp only [corbellaw18_GroupCut.l1]
      rw [if_pos (by rw [endsOf_len]; omega), if_pos (by omega), rd_get _ _ _ hend, if_neg (by omega)]
      exact h1

/-- The cut, by the remainder. -/
theorem cut_ok (a1 : Int) (n : Nat) (hn : n ≤ 100000) (ha : -9223372036854775808 ≤ a1 ∧ a1 ≤ 9223372036854775807) : ∃ c : Nat, c ≤ n ∧ Int.tmod (wrap64 ((wrap64 ((Int.tmod a1 (wrap64 ((n : Int) + 1))) + (n : Int))) + 1)) (wrap64 ((n : Int) + 1)) = (c : Int) := by
  rw [w64 ((n : Int) + 1) (by omega)]
  have h1 := Int.tmod_lt_of_pos a1 (show (0 : Int) < (n : Int) + 1 by omega)
  have h2 := Int.lt_tmod_of_pos a1 (show (0 : Int) < (n : Int) + 1 by omega)
  generalize Int.tmod a1 ((n : Int) + 1) = t at *
  rw [w64 (t + n) (by omega), w64 (t + n + 1) (by omega), Int.tmod_eq_emod_of_nonneg (by omega)]
  have h3 := Int.emod_lt_of_pos (t + n + 1) (show (0 : Int) < (n : Int) + 1 by omega)
  have h4 := Int.emod_nonneg (t + n + 1) (show (n : Int) + 1 ≠ 0 by omega)
  exact ⟨((t + n + 1) % (n + 1)).toNat, by omega, by omega⟩

theorem cut_l0 (l : List S39) (a1 a2 : Int) (ha : -9223372036854775808 ≤ a1 ∧ a1 ≤ 9223372036854775807) (hb : ∀ x ∈ l, ∀ d ∈ x.f3, d.size ≤ 140737488355328) (hl : l.length ≤ 9223372036854775807) :
    ∀ (d i k : Nat), (min l.length 20) - i = d → i ≤ min l.length 20 → 1000 + 2 * d < k →
      corbellaw18_GroupCut.l0 k l a1 a2 (str (encs (goods (l.take i)))) (endsOf 0 (goods (l.take i))) (i : Int) = some true := by
  intro d
  have hlast : ∀ (i k : Nat), i ≤ min l.length 20 → 900 < k → corbellaw18_GroupCut.j1 k l a1 a2 (str (encs (goods (l.take i)))) (endsOf 0 (goods (l.take i))) (i : Int) false = some true := by
    intro i k hi hk
    obtain ⟨k, rfl⟩ : ∃ m, k = m + 1 := ⟨k - 1, by omega⟩
    have hg := goods_good (l.take i)
    have hgl : (goods (l.take i)).length ≤ 20 := Nat.le_trans (goods_le _) (by rw [List.length_take]; omega)
    have hle := encs_le _ hg
    have hz : ¬wrap64 (((str (encs (goods (l.take i)))).size : Int) + 1) = 0 := by rw [str_size, w64 _ (by omega)]; omega
    obtain ⟨c, hc, he⟩ := cut_ok a1 (encs (goods (l.take i))).length (by omega) ha
    have h1 := cut_l1 (goods (l.take i)) hg hgl c hc a2 _ 0 k rfl (by omega) (by simp [encs]) (by omega)
    simp only [corbellaw18_GroupCut.j1]
    rw [if_neg (by simp), if_neg hz, str_size, he]
    exact h1
  induction d with
  | zero =>
    intro i k hd hi hk
    obtain ⟨k, rfl⟩ : ∃ m, k = m + 1 := ⟨k - 1, by omega⟩
    have h1 := hlast i k hi (by omega)
    simp only [corbellaw18_GroupCut.l0]
    by_cases h : i < l.length
    · rw [if_pos (by omega), decide_eq_false (by omega)]
      exact h1
    · rw [if_neg (by omega)]
      exact h1
  | succ d ih =>
    intro i k hd hi hk
    obtain ⟨k, rfl⟩ : ∃ m, k = m + 2 := ⟨k - 2, by omega⟩
    have hlt : i < l.length := by omega
    have hbx := hb l[i] (List.getElem_mem hlt)
    have hg := goods_good (l.take i)
    have hgl : (goods (l.take i)).length ≤ 20 := Nat.le_trans (goods_le _) (by rw [List.length_take]; omega)
    have hle := encs_le _ hg
    have hsn := goods_snoc l i hlt
    have hgv := given_f l[i].f0 l[i].f1 l[i].f2 l[i].f3 hbx
    have hnext := ih (i + 1) k (by omega) (by omega) (by omega)
    have hen := fun (h : goodG (gof (l[i]'hlt)) = true) => enc_good (gof (l[i]'hlt)) k (by omega) h
    have heb := fun (h : goodG (gof (l[i]'hlt)) = false) => enc_bad (gof (l[i]'hlt)) k (by omega) h
    simp only [corbellaw18_GroupCut.l0]
    rw [if_pos (by omega), decide_eq_true (by omega)]
    simp only [corbellaw18_GroupCut.j1]
    rw [if_pos trivial, if_pos (by omega), if_pos (by omega), rdL l i hlt, hgv, Option.bind_some]
    by_cases hgood : goodG (gof l[i]) = true
    · have hlx := good_len hgood
      rw [if_pos hgood] at hsn
      have e0 : group_Encode.f k l[i].f0 ((gvG l[i].f0 l[i].f1 l[i].f2 l[i].f3).es.map toE) (gvG l[i].f0 l[i].f1 l[i].f2 l[i].f3).ds = some (str (encG (gof l[i])), 0) := hen hgood
      have s1 : (str (encs (goods (l.take i)))).size + (str (encG (gof l[i]))).size ≤ 9223372036854775807 := by rw [str_size, str_size]; omega
      have s2 : (endsOf 0 (goods (l.take i))).length < 17592186044416 := by rw [endsOf_len]; omega
      have e1 : str (encs (goods (l.take i))) ++ str (encG (gof l[i])) = str (encs (goods (l.take (i + 1)))) := by
        rw [hsn, encs_append, str_append]; simp [encs]
      have e3 : endsOf 0 (goods (l.take i)) ++ [((str (encs (goods (l.take (i + 1))))).size : Int)] = endsOf 0 (goods (l.take (i + 1))) := by
        rw [hsn, endsOf_append, str_size, encs_append, List.length_append]
        simp [endsOf, encs]
      rw [e0, Option.bind_some, if_pos rfl, if_pos s1, if_pos s2, e1, e3, w64 _ (by omega)]
      exact hnext
    · have hgf : goodG (gof l[i]) = false := by simpa using hgood
      rw [if_neg hgood, List.append_nil] at hsn
      have e0 : group_Encode.f k l[i].f0 ((gvG l[i].f0 l[i].f1 l[i].f2 l[i].f3).es.map toE) (gvG l[i].f0 l[i].f1 l[i].f2 l[i].f3).ds = some ((⟨#[]⟩ : ByteArray), 1) := heb hgf
      rw [hsn] at hnext
      rw [e0, Option.bind_some, if_neg (show ¬(1 : Int) = 0 by omega), w64 _ (by omega)]
      exact hnext

theorem groupCut_ev (l : List S39) (a1 a2 : Int) (ha : -9223372036854775808 ≤ a1 ∧ a1 ≤ 9223372036854775807) (hb : ∀ x ∈ l, ∀ d ∈ x.f3, d.size ≤ 140737488355328) (hl : l.length ≤ 9223372036854775807) : corbellaw18_GroupCut.f 2000 l a1 a2 = some true := by
  have h1 := cut_l0 l a1 a2 ha hb hl _ 0 2000 rfl (by omega) (by omega)
  unfold corbellaw18_GroupCut.f
  rw [speaks_ev 2000 (by omega), Option.bind_some, if_pos rfl]
  exact h1

end Go.Proofs.YticpjnpafmehaaaDoor.U
