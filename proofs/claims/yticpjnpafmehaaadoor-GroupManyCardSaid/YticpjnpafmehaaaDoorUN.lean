/-
  Plain law of GroupMany over the printed functions.
-/
import Derived.Test.YticpjnpafmehaaaDoorUx11
import Derived.Test.YticpjnpafmehaaaDoorUGL
namespace Go.Proofs.YticpjnpafmehaaaDoor.U
open Go.RowKit Go.Proofs.YticpjnpafmehaaaDoorW.PrintWords Go.Proofs.YticpjnpafmehaaaDoorW.PrintLast Go.Proofs.YticpjnpafmehaaaDoorW.PrintMore
set_option linter.unusedVariables false
set_option linter.unusedSimpArgs false

theorem places_len (gs : List Gp) : ∀ p, (places p gs).length = gs.length := by
  induction gs with
  | nil => intro p; rfl
  | cons g gs ih => intro p; simp [places, ih]
theorem places_append (a b : List Gp) : ∀ p, places p (a ++ b) = places p a ++ places (p + blksN a) b := by
  induction a with
  | nil => intro p; simp [places, blksN]
  | cons g a ih =>
    intro p
    simp only [List.cons_append, places, ih, blksN, List.map_cons, List.sum_cons, List.cons.injEq, true_and]
    rw [Nat.add_assoc]
theorem rdT (gs : List Gp) (i : Nat) (h : i < gs.length) : rd_T42 (gs.map toG) (i : Int) = toG gs[i] := by
  unfold rd_T42; rw [Int.toNat_natCast, List.getD_eq_getElem?_getD, List.getElem?_map, List.getElem?_eq_getElem h]; rfl

theorem many_l2 (gs : List Gp) (hl : gs.length ≤ 20) (i : Nat) (hi : i < gs.length) (hg : goodG gs[i] = true) (at_ : List Int) (K : Nat) (hn : ∀ k, K < k → corbellaw18_GroupMany.l1 k (gs.map toG) at_ (gs.map toG) at_ ((i + 1 : Nat) : Int) = some true) :
    ∀ (d j k : Nat), gs[i].es.length - j = d → j ≤ gs[i].es.length → K + 1 + d < k → corbellaw18_GroupMany.l2 k (gs.map toG) at_ (gs.map toG) at_ (i : Int) (j : Int) = some true := by
  obtain ⟨-, h6, hp⟩ := (good_iff _).1 hg
  have hdl := pairOk_len hp
  intro d
  induction d with
  | zero =>
    intro j k hd hj hk
    obtain ⟨k, rfl⟩ : ∃ m, k = m + 1 := ⟨k - 1, by omega⟩
    have h1 := hn k (by omega)
    obtain rfl : j = gs[i].es.length := by omega
    simp only [corbellaw18_GroupMany.l2]
    rw [if_pos (by omega), if_pos (by rw [List.length_map]; omega), rdT gs i hi]
    rw [if_neg (by simp only [toG, List.length_map]; omega), w64 _ (by omega)]
    exact h1
  | succ d ih =>
    intro j k hd hj hk
    obtain ⟨k, rfl⟩ : ∃ m, k = m + 1 := ⟨k - 1, by omega⟩
    have h1 := ih (j + 1) k (by omega) (by omega) (by omega)
    have hjl : j < gs[i].es.length := by omega
    have e1 : rd_T62 (toG gs[i]).f1 (j : Int) = toE (gs[i].es[j]) := rdE gs[i].es j hjl
    simp only [corbellaw18_GroupMany.l2]
    rw [if_pos (by omega), if_pos (by rw [List.length_map]; omega), rdT gs i hi]
    rw [if_pos (by simp only [toG, List.length_map]; omega), if_pos (by rw [List.length_map]; omega), if_pos (by omega), if_pos (by simp only [toG, List.length_map]; omega)]
    rw [if_neg (by simp), if_pos (by show (j : Int) < (gs[i].ds.length : Int); omega), if_pos (by show (j : Int) < (gs[i].ds.length : Int); omega), if_pos trivial, w64 _ (by omega)]
    exact h1

theorem many_l1 (gs : List Gp) (hl : gs.length ≤ 20) (hg : ∀ g ∈ gs, goodG g = true) :
    ∀ (d i k : Nat), gs.length - i = d → i ≤ gs.length → 20 * d + 20 < k → corbellaw18_GroupMany.l1 k (gs.map toG) (places 0 gs) (gs.map toG) (places 0 gs) (i : Int) = some true := by
  intro d
  induction d with
  | zero =>
    intro i k hd hi hk
    obtain ⟨k, rfl⟩ : ∃ m, k = m + 1 := ⟨k - 1, by omega⟩
    simp only [corbellaw18_GroupMany.l1]
    rw [if_neg (by rw [List.length_map]; omega)]
  | succ d ih =>
    intro i k hd hi hk
    obtain ⟨k, rfl⟩ : ∃ m, k = m + 2 := ⟨k - 2, by omega⟩
    have hlt : i < gs.length := by omega
    have hx := hg gs[i] (List.getElem_mem hlt)
    have h6 := ((good_iff _).1 hx).2.1
    have h2 := many_l2 gs hl i hlt hx (places 0 gs) (20 * d + 20) (fun k' hk' => ih (i + 1) k' (by omega) (by omega) (by omega)) (gs[i].es.length - 0) 0 k rfl (by omega) (by omega)
    have hb : (((gs[i].es.map toE).length : Int) != ((gs[i].es.map toE).length : Int)) = false := by simp
    simp only [corbellaw18_GroupMany.l1]
    rw [if_pos (by rw [List.length_map]; omega), if_pos (by omega), if_pos (by rw [List.length_map]; omega), rdT gs i hlt, if_pos trivial]
    rw [if_pos (by rw [places_len]; omega), if_pos (by rw [places_len]; omega), if_pos trivial]
    show corbellaw18_GroupMany.j4 (k + 1) _ _ _ _ _ (((gs[i].es.map toE).length : Int) != ((gs[i].es.map toE).length : Int)) = some true
    rw [hb]
    simp only [corbellaw18_GroupMany.j4]
    rw [if_neg (by simp)]
    exact h2

theorem many_l0 (l : List S39) (hb : ∀ x ∈ l, ∀ d ∈ x.f3, d.size ≤ 140737488355328) (hl : l.length ≤ 9223372036854775807) :
    ∀ (d i k : Nat), (min l.length 20) - i = d → i ≤ min l.length 20 → 1500 + 2 * d < k →
      corbellaw18_GroupMany.l0 k l (str (encs (goods (l.take i)))) ((goods (l.take i)).map toG) (places 0 (goods (l.take i))) (i : Int) = some true := by
  intro d
  have hlast : ∀ (i k : Nat), i ≤ min l.length 20 → 1400 < k → corbellaw18_GroupMany.j1 k l (str (encs (goods (l.take i)))) ((goods (l.take i)).map toG) (places 0 (goods (l.take i))) (i : Int) false = some true := by
    intro i k hi hk
    obtain ⟨k, rfl⟩ : ∃ m, k = m + 2 := ⟨k - 2, by omega⟩
    have hg := goods_good (l.take i)
    have hgl : (goods (l.take i)).length ≤ 20 := Nat.le_trans (goods_le _) (by rw [List.length_take]; omega)
    have hle := encs_le _ hg
    have hs := scan_f (str (encs (goods (l.take i)))) (by rw [str_size]; omega) (goods (l.take i)) [] (by decide) hg (by rw [bl_str, List.append_nil]) (by omega) (k + 1) (by omega)
    have h1 := many_l1 (goods (l.take i)) hgl hg ((goods (l.take i)).length - 0) 0 k rfl (by omega) (by omega)
    have hbb : (((places 0 (goods (l.take i))).length : Int) != ((places 0 (goods (l.take i))).length : Int)) = false := by simp
    simp only [corbellaw18_GroupMany.j1]
    rw [if_neg (by simp), hs, Option.bind_some, if_pos rfl, hbb]
    simp only [corbellaw18_GroupMany.j2]
    rw [if_neg (by simp)]
    exact h1
  induction d with
  | zero =>
    intro i k hd hi hk
    obtain ⟨k, rfl⟩ : ∃ m, k = m + 1 := ⟨k - 1, by omega⟩
    have h1 := hlast i k hi (by omega)
    simp only [corbellaw18_GroupMany.l0]
    by_cases h : i < l.length
    · rw [if_pos (by omega), decide_eq_false (by omega)]
      exact h1
    · rw [if_neg (by omega)]
      exact h1
  | succ d ih =>
    intro i k hd hi hk
    obtain ⟨k, rfl⟩ : ∃ m, k = m + 2 := ⟨k - 2, by omega⟩
    have hlt : i < l.length := by omega
    have hbx := hb l[i] (List.getElem_mem hlt)
    have hg := goods_good (l.take i)
    have hgl : (goods (l.take i)).length ≤ 20 := Nat.le_trans (goods_le _) (by rw [List.length_take]; omega)
    have hle := encs_le _ hg
    have hlen := encs_len _ hg
    have hsn := goods_snoc l i hlt
    have hgv := given_f l[i].f0 l[i].f1 l[i].f2 l[i].f3 hbx
    have hnext := ih (i + 1) k (by omega) (by omega) (by omega)
    have hen := fun (h : goodG (gof (l[i]'hlt)) = true) => enc_good (gof (l[i]'hlt)) k (by omega) h
    have heb := fun (h : goodG (gof (l[i]'hlt)) = false) => enc_bad (gof (l[i]'hlt)) k (by omega) h
    simp only [corbellaw18_GroupMany.l0]
    rw [if_pos (by omega), decide_eq_true (by omega)]
    simp only [corbellaw18_GroupMany.j1]
    rw [if_pos trivial, if_pos (by omega), if_pos (by omega), rdL l i hlt, hgv, Option.bind_some]
    by_cases hgood : goodG (gof l[i]) = true
    · have hlx := good_len hgood
      rw [if_pos hgood] at hsn
      have e0 : group_Encode.f k l[i].f0 ((gvG l[i].f0 l[i].f1 l[i].f2 l[i].f3).es.map toE) (gvG l[i].f0 l[i].f1 l[i].f2 l[i].f3).ds = some (str (encG (gof l[i])), 0) := hen hgood
      have s1 : (str (encs (goods (l.take i)))).size + (str (encG (gof l[i]))).size ≤ 9223372036854775807 := by rw [str_size, str_size]; omega
      have s2 : ((goods (l.take i)).map toG).length < 2513169434916 := by rw [List.length_map]; omega
      have s3 : (places 0 (goods (l.take i))).length < 17592186044416 := by rw [places_len]; omega
      have e1 : str (encs (goods (l.take i))) ++ str (encG (gof l[i])) = str (encs (goods (l.take (i + 1)))) := by
        rw [hsn, encs_append, str_append]; simp [encs]
      have e2 : (goods (l.take i)).map toG ++ [(⟨l[i].f0, (gvG l[i].f0 l[i].f1 l[i].f2 l[i].f3).es.map toE, (gvG l[i].f0 l[i].f1 l[i].f2 l[i].f3).ds⟩ : S42)] = (goods (l.take (i + 1))).map toG := by
        rw [hsn, List.map_append]; rfl
      have e4 : wrap64 (((str (encs (goods (l.take i)))).size : Int) / 64) = ((0 + blksN (goods (l.take i)) : Nat) : Int) := by
        rw [str_size, hlen, w64 _ (by omega)]; omega
      have e3 : places 0 (goods (l.take i)) ++ [((0 + blksN (goods (l.take i)) : Nat) : Int)] = places 0 (goods (l.take (i + 1))) := by
        rw [hsn, places_append]; rfl
      rw [e0, Option.bind_some, if_pos rfl, if_pos s2, if_pos s3, if_pos s1, e1, e4, e2, e3, w64 _ (by omega)]
      exact hnext
    · have hgf : goodG (gof l[i]) = false := by simpa using hgood
      rw [if_neg hgood, List.append_nil] at hsn
      have e0 : group_Encode.f k l[i].f0 ((gvG l[i].f0 l[i].f1 l[i].f2 l[i].f3).es.map toE) (gvG l[i].f0 l[i].f1 l[i].f2 l[i].f3).ds = some ((⟨#[]⟩ : ByteArray), 1) := heb hgf
      rw [hsn] at hnext
      rw [e0, Option.bind_some, if_neg (show ¬(1 : Int) = 0 by omega), w64 _ (by omega)]
      exact hnext

theorem groupMany_ev (l : List S39) (hb : ∀ x ∈ l, ∀ d ∈ x.f3, d.size ≤ 140737488355328) (hl : l.length ≤ 9223372036854775807) : corbellaw18_GroupMany.f 3000 l = some true := by
  have h1 := many_l0 l hb hl _ 0 3000 rfl (by omega) (by omega)
  unfold corbellaw18_GroupMany.f
  rw [speaks_ev 3000 (by omega), Option.bind_some, if_pos rfl]
  exact h1

end Go.Proofs.YticpjnpafmehaaaDoor.U
