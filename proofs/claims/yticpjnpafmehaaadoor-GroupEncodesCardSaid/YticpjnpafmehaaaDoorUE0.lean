/-
  What the document's Encode of groups answers, as the plain law has it.
-/
import Derived.Test.YticpjnpafmehaaaDoorUx8
import Derived.Test.YticpjnpafmehaaaDoorUG
namespace Go.Proofs.YticpjnpafmehaaaDoor.U
open Go.RowKit Go.Proofs.YticpjnpafmehaaaDoorW.PrintWords Go.Proofs.YticpjnpafmehaaaDoorW.PrintLast Go.Proofs.YticpjnpafmehaaaDoorW.PrintMore
set_option linter.unusedVariables false
set_option linter.unusedSimpArgs false

theorem rput_f (n w : Nat) (hw1 : 1 ≤ w) (hw : w ≤ 7) (hn : n < 256 ^ w) (h2 : n ≤ 9223372036854775807) : corbelref01_Put.f (n : Int) (w : Int) = some (str (be w n)) := by
  unfold corbelref01_Put.f
  rw [Int.toNat_natCast, Int.toNat_natCast, if_pos ⟨by omega, by omega, by omega, hn, by omega⟩]
theorem rsum_f (s : ByteArray) (h : s.size ≤ 9223372036854775807) : corbelref02_Sum.f s = some ((crcL (bl s)).toNat : Int) := by
  unfold corbelref02_Sum.f; rw [if_pos h]
theorem rd_at (xs : List Int) (i : Nat) (h : i < xs.length) : rd xs (i : Int) = xs[i] := by
  unfold rd; rw [Int.toNat_natCast, List.getD_eq_getElem?_getD, List.getElem?_eq_getElem h]; rfl
theorem rdB (xs : List Bool) (i : Nat) (h : i < xs.length) : rdOf false xs (i : Int) = xs[i] := by
  unfold rdOf; rw [Int.toNat_natCast, List.getD_eq_getElem?_getD, List.getElem?_eq_getElem h]; rfl

theorem ref_l1 (Y : List UInt8) (hY : Y.length ≤ 1000) : ∀ (m k : Nat) (X : List UInt8), X.length + m = 64 → m < k → corbelref18_Encode.l1 k (str X) (str Y) = some (str (X ++ (List.replicate m 0 ++ Y))) := by
  intro m
  induction m with
  | zero =>
    intro k X hX hk
    obtain ⟨k, rfl⟩ : ∃ m, k = m + 1 := ⟨k - 1, by omega⟩
    simp only [corbelref18_Encode.l1]
    rw [if_neg (by rw [str_size]; omega), if_pos (by rw [str_size, str_size]; omega), str_append]
    rfl
  | succ m ih =>
    intro k X hX hk
    obtain ⟨k, rfl⟩ : ∃ m, k = m + 1 := ⟨k - 1, by omega⟩
    have h1 := ih k (X ++ [0]) (by rw [List.length_append]; simp; omega) (by omega)
    simp only [corbelref18_Encode.l1]
    rw [if_pos (by rw [str_size]; omega), if_pos (by rw [str_size]; omega), show (⟨#[0]⟩ : ByteArray) = str [0] from rfl, str_append, h1]
    simp [List.replicate_succ]

theorem cat_take_len {es : List (Int × Bool)} {ds : List ByteArray} : ∀ {i : Nat}, pairOk (es.take i) (ds.take i) = true → (cat (ds.take i)).length ≤ 64 * i := fun {i} h => by
  rw [pairOk_cat h]
  have := (dataLen_mod (es.take i)).2
  rw [List.length_take] at this
  omega
theorem pairOk_snoc : ∀ {es : List (Int × Bool)} {ds : List ByteArray} {e : Int × Bool} {d : ByteArray}, pairOk es ds = true → 0 ≤ e.1 → e.1 < 2147483648 → d.size = wantsE e → pairOk (es ++ [e]) (ds ++ [d]) = true
  | [], [], e, d, _, h0, h1, h2 => by simp [pairOk, h0, h1, h2]
  | [], _ :: _, _, _, h, _, _, _ => by simp [pairOk] at h
  | _ :: _, [], _, _, h, _, _, _ => by simp [pairOk] at h
  | a :: es, b :: ds, e, d, h, h0, h1, h2 => by
    simp only [pairOk, Bool.and_eq_true, List.cons_append] at h ⊢
    exact ⟨h.1, h.2.1, h.2.2.1, pairOk_snoc h.2.2.2 h0 h1 h2⟩

theorem ref_l0 (seq : Int) (es : List (Int × Bool)) (ds : List ByteArray) (hl : ds.length = es.length) (hn : 1 ≤ es.length ∧ es.length ≤ 6) (P : List UInt8) (hP : P.length = 9) :
    ∀ (d i k : Nat), es.length - i = d → i ≤ es.length → 2 * d + 100 < k → pairOk (es.take i) (ds.take i) = true →
      corbelref18_Encode.l0 k (es.length : Int) (str (P ++ entsTxt (es.take i))) (str (cat (ds.take i))) (i : Int) seq (es.map Prod.fst) (es.map Prod.snd) ds =
        some (if pairOk (es.drop i) (ds.drop i) = true then str ((P ++ entsTxt es) ++ (be 4 (crcL ((P ++ entsTxt es) ++ cat ds)).toNat ++ (List.replicate (51 - 4 * es.length) 0 ++ cat ds))) else ⟨#[]⟩) := by
  intro d
  induction d with
  | zero =>
    intro i k hd hi hk hok
    obtain ⟨k, rfl⟩ : ∃ m, k = m + 1 := ⟨k - 1, by omega⟩
    obtain rfl : i = es.length := by omega
    have hcl := cat_take_len hok
    have hds : ds.take es.length = ds := by rw [← hl, List.take_length]
    have hte : es.take es.length = es := List.take_length
    rw [hds] at hcl
    rw [hte, hds]
    have hel := entsTxt_len es
    have hHl : (P ++ entsTxt es).length = 9 + 4 * es.length := by rw [List.length_append]; omega
    generalize hH : P ++ entsTxt es = H at hHl ⊢
    generalize hD : cat ds = D at hcl ⊢
    obtain ⟨C, hC⟩ : ∃ C, (crcL (H ++ D)).toNat = C := ⟨_, rfl⟩
    have hCl : C < 4294967296 := by rw [← hC]; exact (crcL (H ++ D)).isLt
    have hsum : corbelref02_Sum.f (str H ++ str D) = some (C : Int) := by
      rw [str_append, rsum_f _ (by rw [str_size, List.length_append]; omega), bl_str, hC]
    have h256 : (256 : Nat) ^ 4 = 4294967296 := by decide
    have hput : corbelref01_Put.f (C : Int) 4 = some (str (be 4 C)) := rput_f C 4 (by omega) (by omega) (by omega) (by omega)
    have h1 := ref_l1 D (by omega) (51 - 4 * es.length) k (H ++ be 4 C) (by rw [List.length_append, be_length]; omega) (by omega)
    have b1 : -9223372036854775808 ≤ (C : Int) ∧ (C : Int) ≤ 9223372036854775807 := by omega
    have s1 : (str H).size + (str D).size ≤ 9223372036854775807 := by rw [str_size, str_size]; omega
    have s2 : (str H).size + (str (be 4 C)).size ≤ 9223372036854775807 := by rw [str_size, str_size, be_length]; omega
    rw [hC]
    simp only [corbelref18_Encode.l0]
    rw [if_neg (by omega), if_pos s1, hsum, Option.bind_some, w64 _ b1, hput, Option.bind_some, if_pos s2, str_append, h1]
    rw [List.drop_length, List.drop_of_length_le (by omega), if_pos (show pairOk [] [] = true from rfl), List.append_assoc]
  | succ d ih =>
    intro i k hd hi hk hok
    obtain ⟨k, rfl⟩ : ∃ m, k = m + 2 := ⟨k - 2, by omega⟩
    have hlt : i < es.length := by omega
    have hcl := cat_take_len hok
    have htl : (entsTxt (es.take i)).length = 4 * i := by rw [entsTxt_len, List.length_take]; omega
    have ht : entsTxt (es.take (i + 1)) = entsTxt (es.take i) ++ be 4 (entV es[i]) := by
      rw [List.take_succ_eq_append_getElem hlt]
      unfold entsTxt
      rw [List.flatMap_append]
      simp only [List.flatMap_cons, List.flatMap_nil, List.append_nil]
    have hct : cat (ds.take (i + 1)) = cat (ds.take i) ++ bl (ds[i]'(by omega)) := by
      rw [List.take_succ_eq_append_getElem (show i < ds.length by omega)]
      unfold cat
      rw [List.flatMap_append]
      simp only [List.flatMap_cons, List.flatMap_nil, List.append_nil]
    have hnext := ih (i + 1) k (by omega) (by omega) (by omega)
    rw [List.take_succ_eq_append_getElem hlt, List.take_succ_eq_append_getElem (show i < ds.length by omega)] at hnext
    rw [← List.take_succ_eq_append_getElem hlt, ← List.take_succ_eq_append_getElem (show i < ds.length by omega)] at hnext
    have hld : i < ds.length := by omega
    have hsn := fun a b c => pairOk_snoc hok (e := es[i]'hlt) (d := ds[i]'hld) a b c
    rw [← List.take_succ_eq_append_getElem hlt, ← List.take_succ_eq_append_getElem (show i < ds.length by omega)] at hsn
    have e1 : rd (es.map Prod.fst) (i : Int) = es[i].1 := by rw [rd_at _ i (by simpa using hlt)]; simp
    have e2 : rdOf false (es.map Prod.snd) (i : Int) = es[i].2 := by rw [rdB _ i (by simpa using hlt)]; simp
    have e3 : rdOf ByteArray.empty ds (i : Int) = ds[i]'(by omega) := rdD ds i (by omega)
    have s1 : (str (P ++ entsTxt (es.take i))).size + (str (be 4 (entV es[i]))).size ≤ 9223372036854775807 := by rw [str_size, str_size, List.length_append, be_length]; omega
    have happ : str (P ++ entsTxt (es.take i)) ++ str (be 4 (entV es[i])) = str (P ++ entsTxt (es.take (i + 1))) := by rw [str_append, ht, List.append_assoc]
    have hda : str (cat (ds.take i)) ++ (ds[i]'(by omega)) = str (cat (ds.take (i + 1))) := by
      apply bl_inj; rw [bl_append, bl_str, bl_str, hct]
    have hdr : pairOk (es.drop i) (ds.drop i) = (decide (0 ≤ es[i].1) && (decide (es[i].1 < 2147483648) && (decide ((ds[i]'(by omega)).size = wantsE es[i]) && pairOk (es.drop (i + 1)) (ds.drop (i + 1))))) := by
      rw [drop_cons es i hlt, drop_cons ds i (by omega)]; rfl
    have h256 : (256 : Nat) ^ 4 = 4294967296 := by decide
    simp only [corbelref18_Encode.l0]
    rw [if_pos (by omega), if_pos (by omega), if_pos (by rw [List.length_map]; omega), e1, hdr]
    by_cases h0 : es[i].1 < 0
    · rw [if_pos h0, decide_eq_false (show ¬0 ≤ es[i].1 by omega)]
      simp only [corbelref18_Encode.j2]
      rfl
    · rw [if_neg h0, decide_eq_true (show 0 ≤ es[i].1 by omega)]
      obtain ⟨b, hb⟩ := Int.eq_ofNat_of_zero_le (show 0 ≤ es[i].1 by omega)
      by_cases h1 : es[i].1 > 2147483647
      · rw [decide_eq_true h1, decide_eq_false (show ¬es[i].1 < 2147483648 by omega)]
        simp only [corbelref18_Encode.j2]
        rfl
      · rw [decide_eq_false h1, decide_eq_true (show es[i].1 < 2147483648 by omega)]
        simp only [corbelref18_Encode.j2]
        rw [if_neg (by simp), if_pos (by omega), if_pos (by rw [List.length_map]; omega), e2]
        cases htr : es[i].2 with
        | true =>
          have hw : wantsE es[i] = 0 := by unfold wantsE; rw [htr]; rfl
          have hv : entV es[i] = b + 2147483648 := by unfold entV; rw [htr, hb]; rfl
          rw [if_pos rfl, if_pos (by omega), e3, toL]
          by_cases hz : bl (ds[i]'(by omega)) = []
          · have hs0 : (ds[i]'(by omega)).size = wantsE es[i] := by rw [hw, ← bl_size, hz]; rfl
            have h2 := hnext (hsn (by omega) (by omega) hs0)
            have s2 : (str (cat (ds.take i))).size + (ds[i]'(by omega)).size ≤ 9223372036854775807 := by rw [str_size]; omega
            have hput : corbelref01_Put.f ((b + 2147483648 : Nat) : Int) 4 = some (str (be 4 (entV es[i]))) := by rw [hv]; exact rput_f _ 4 (by omega) (by omega) (by omega) (by omega)
            rw [if_pos hz, decide_eq_true hs0, w64 (es[i].1 + 2147483648) (by omega), show es[i].1 + 2147483648 = ((b + 2147483648 : Nat) : Int) by omega, hput, Option.bind_some, if_pos s1, if_pos s2, happ, hda, w64 _ (by omega)]
            exact h2
          · have hs0 : ¬(ds[i]'(by omega)).size = wantsE es[i] := by rw [hw]; intro hh; exact hz (List.eq_nil_of_length_eq_zero hh)
            rw [if_neg hz, decide_eq_false hs0]
            rfl
        | false =>
          have hw : wantsE es[i] = 64 := by unfold wantsE; rw [htr]; rfl
          have hv : entV es[i] = b := by unfold entV; rw [htr, hb]; rfl
          rw [if_neg (by simp), if_pos (by omega), e3]
          by_cases hz : (ds[i]'(by omega)).size = 64
          · have hs0 : (ds[i]'(by omega)).size = wantsE es[i] := by rw [hw, hz]
            have h2 := hnext (hsn (by omega) (by omega) hs0)
            have s2 : (str (cat (ds.take i))).size + (ds[i]'(by omega)).size ≤ 9223372036854775807 := by rw [str_size]; omega
            have hput : corbelref01_Put.f (b : Int) 4 = some (str (be 4 (entV es[i]))) := by rw [hv]; exact rput_f _ 4 (by omega) (by omega) (by omega) (by omega)
            rw [if_pos (by omega), decide_eq_true hs0, hb, hput, Option.bind_some, if_pos s1, if_pos s2, happ, hda, w64 _ (by omega)]
            exact h2
          · have hs0 : ¬(ds[i]'(by omega)).size = wantsE es[i] := by rw [hw]; exact hz
            rw [if_neg (by omega), decide_eq_false hs0]
            rfl

theorem ref_f (g : Gp) (k : Nat) (hk : 300 < k) : corbelref18_Encode.f k g.seq (g.es.map Prod.fst) (g.es.map Prod.snd) g.ds = some (if goodG g = true then str (encG g) else ⟨#[]⟩) := by
  obtain ⟨seq, es, ds⟩ := g
  obtain ⟨k, rfl⟩ : ∃ m, k = m + 1 := ⟨k - 1, by omega⟩
  have bad : goodG ⟨seq, es, ds⟩ = false → (some (⟨#[]⟩ : ByteArray)) = some (if goodG ⟨seq, es, ds⟩ = true then str (encG ⟨seq, es, ds⟩) else ⟨#[]⟩) := fun h => by rw [h, if_neg (by simp)]
  have nb_ : ∀ {p : Prop}, (goodG ⟨seq, es, ds⟩ = true → p) → ¬p → goodG ⟨seq, es, ds⟩ = false := fun h hp => by
    cases hg : goodG ⟨seq, es, ds⟩ with
    | false => rfl
    | true => exact absurd (h hg) hp
  unfold corbelref18_Encode.f
  simp only [List.length_map]
  by_cases h0 : seq < 0
  · rw [if_pos h0]
    simp only [corbelref18_Encode.j0]
    exact bad (nb_ (fun h => ((good_iff _).1 h).1.1) (by show ¬0 ≤ seq; omega))
  · rw [if_neg h0]
    by_cases h1 : seq > 1099511627776
    · rw [if_pos h1]
      simp only [corbelref18_Encode.j0]
      exact bad (nb_ (fun h => ((good_iff _).1 h).1.2) (by show ¬seq ≤ 1099511627776; omega))
    · rw [if_neg h1]
      by_cases h2 : (es.length : Int) < 1
      · rw [if_pos h2]
        simp only [corbelref18_Encode.j0]
        exact bad (nb_ (fun h => ((good_iff _).1 h).2.1.1) (by show ¬1 ≤ es.length; omega))
      · rw [if_neg h2]
        by_cases h3 : (es.length : Int) > 6
        · rw [if_pos h3]
          simp only [corbelref18_Encode.j0]
          exact bad (nb_ (fun h => ((good_iff _).1 h).2.1.2) (by show ¬es.length ≤ 6; omega))
        · rw [if_neg h3, if_pos trivial]
          by_cases h4 : ds.length = es.length
          · have hb : ((ds.length : Int) != (es.length : Int)) = false := by rw [h4]; simp
            obtain ⟨n, hn⟩ := Int.eq_ofNat_of_zero_le (show 0 ≤ seq by omega)
            have h256 : (256 : Nat) ^ 6 = 281474976710656 := by decide
            have p1 : corbelref01_Put.f (n : Int) 6 = some (str (be 6 n)) := rput_f n 6 (by omega) (by omega) (by omega) (by omega)
            have p2 : corbelref01_Put.f (es.length : Int) 1 = some (str (be 1 es.length)) := rput_f es.length 1 (by omega) (by omega) (by omega) (by omega)
            have s1 : 2 + (str (be 6 n)).size ≤ 9223372036854775807 := by rw [str_size, be_length]; omega
            have s2 : ((⟨#[67, 71]⟩ : ByteArray) ++ str (be 6 n)).size + (str (be 1 es.length)).size ≤ 9223372036854775807 := by rw [ByteArray.size_append, str_size, str_size, be_length, be_length]; show 2 + 6 + 1 ≤ _; omega
            have e1 : ((⟨#[67, 71]⟩ : ByteArray) ++ str (be 6 n)) ++ str (be 1 es.length) = str (([67, 71] ++ (be 6 n ++ be 1 es.length)) ++ entsTxt (es.take 0)) := by
              rw [show (⟨#[67, 71]⟩ : ByteArray) = str [67, 71] from rfl, str_append, str_append]
              simp [entsTxt]
            have hm := ref_l0 seq es ds h4 (by omega) ([67, 71] ++ (be 6 n ++ be 1 es.length)) (by simp [be_length]) (es.length - 0) 0 k rfl (by omega) (by omega) rfl
            rw [hb]
            simp only [corbelref18_Encode.j0]
            rw [if_neg (by simp), hn, p1, Option.bind_some, if_pos s1, p2, Option.bind_some, if_pos s2, e1]
            rw [show ((0 : Nat) : Int) = 0 from rfl] at hm
            rw [show (⟨#[]⟩ : ByteArray) = str (cat (ds.take 0)) from rfl, ← hn, hm, List.drop_zero, List.drop_zero]
            have hgp : goodG ⟨seq, es, ds⟩ = pairOk es ds := by
              unfold goodG
              simp only [decide_eq_true (show 0 ≤ seq by omega), decide_eq_true (show seq ≤ 1099511627776 by omega), decide_eq_true (show 1 ≤ es.length by omega), decide_eq_true (show es.length ≤ 6 by omega), Bool.true_and]
            rw [hgp]
            congr 1
            have hh : headG ⟨seq, es, ds⟩ = ([67, 71] ++ (be 6 n ++ be 1 es.length)) ++ entsTxt es := by
              unfold headG
              simp only [hn, Int.toNat_natCast, List.append_assoc]
            unfold encG
            simp only [hh]
            rfl
          · have hb : ((ds.length : Int) != (es.length : Int)) = true := by rw [bne_iff_ne]; omega
            rw [hb]
            simp only [corbelref18_Encode.j0]
            exact bad (nb_ (fun h => pairOk_len ((good_iff _).1 h).2.2) h4)

end Go.Proofs.YticpjnpafmehaaaDoor.U
