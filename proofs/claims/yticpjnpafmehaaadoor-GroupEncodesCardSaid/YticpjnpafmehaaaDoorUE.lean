/-
  Plain law of GroupEncodes over the printed functions.
-/
import Derived.Test.YticpjnpafmehaaaDoorUxE
import Derived.Test.YticpjnpafmehaaaDoorUE0
namespace Go.Proofs.YticpjnpafmehaaaDoor.U
open Go.RowKit Go.Proofs.YticpjnpafmehaaaDoorW.PrintWords Go.Proofs.YticpjnpafmehaaaDoorW.PrintLast Go.Proofs.YticpjnpafmehaaaDoorW.PrintMore
set_option linter.unusedVariables false
set_option linter.unusedSimpArgs false

theorem encodes_l0 (S W' : ByteArray) (E : Int) (g : Gp) (hes : g.es.length ≤ 9) (seq : Int) (L : List S62) (hL : L = g.es.map toE) (ds : List ByteArray) (s2 : Int) (bs : List Int) (d2 : List ByteArray) (hSW : S.toList = W'.toList) (hE : (E = 0 ∧ W'.toList ≠ []) ∨ (E = 1 ∧ W'.toList = [])) :
    ∀ (d i k n : Nat), g.es.length - i = d → i ≤ g.es.length → 300 + d < k → n = 1 + dataLen (g.es.take i) / 64 →
      corbellaw18_GroupEncodes.l0 k S E W' (n : Int) (i : Int) seq L ds s2 bs (g.es.map Prod.snd) d2 = some true := by
  intro d
  induction d with
  | zero =>
    intro i k n hd hi hk hn
    obtain ⟨k, rfl⟩ : ∃ m, k = m + 1 := ⟨k - 1, by omega⟩
    obtain rfl : i = g.es.length := by omega
    have hbl := blocks_f g.es (by omega) k (by omega)
    have hnn : n = blkN g.es := by rw [hn, List.take_length]; rfl
    simp only [corbellaw18_GroupEncodes.l0]
    rw [if_neg (by rw [List.length_map]; omega), if_pos hSW]
    rcases hE with ⟨rfl, hE⟩ | ⟨rfl, hE⟩
    · have h1 : ((((0 : Int) == 0) == (W'.toList != ([] : List UInt8)))) = true := by
        have : (W'.toList != ([] : List UInt8)) = true := bne_iff_ne.2 hE
        rw [this]; rfl
      rw [if_pos h1, if_pos rfl, hL, hbl, Option.bind_some, hnn]
      simp
    · have h1 : ((((1 : Int) == 0) == (W'.toList != ([] : List UInt8)))) = true := by rw [hE]; rfl
      rw [if_pos h1, if_neg (by omega), if_pos rfl, hL, hbl, Option.bind_some, hnn]
      simp
  | succ d ih =>
    intro i k n hd hi hk hn
    obtain ⟨k, rfl⟩ : ∃ m, k = m + 1 := ⟨k - 1, by omega⟩
    have hlt : i < g.es.length := by omega
    have htk : dataLen (g.es.take (i + 1)) = dataLen (g.es.take i) + wantsE g.es[i] := by
      rw [List.take_succ_eq_append_getElem hlt, dataLen_append]; simp [dataLen]
    have hb1 := dataLen_mod (g.es.take i)
    rw [List.length_take] at hb1
    have e2 : rdOf false (g.es.map Prod.snd) (i : Int) = g.es[i].2 := by rw [rdB _ i (by simpa using hlt)]; simp
    simp only [corbellaw18_GroupEncodes.l0]
    rw [if_pos (by rw [List.length_map]; omega), if_pos (by omega), e2]
    cases ht : g.es[i].2 with
    | true =>
      have hw : wantsE g.es[i] = 0 := by unfold wantsE; rw [ht]; rfl
      have h1 := ih (i + 1) k n (by omega) (by omega) (by omega) (by rw [htk, hw]; exact hn)
      rw [if_pos rfl, w64 _ (by omega)]
      exact h1
    | false =>
      have hw : wantsE g.es[i] = 64 := by unfold wantsE; rw [ht]; rfl
      have h1 := ih (i + 1) k (n + 1) (by omega) (by omega) (by omega) (by rw [htk, hw]; omega)
      rw [if_neg (by simp), w64 _ (by omega), w64 _ (by omega)]
      exact h1

theorem groupEncodes_ev (seq : Int) (bs : List Int) (ts : List Bool) (ds : List ByteArray) (hd : ∀ d ∈ ds, d.size ≤ 140737488355328) : corbellaw18_GroupEncodes.f 2000 seq bs ts ds = some true := by
  obtain ⟨g, hg⟩ : ∃ g, gvG seq bs ts ds = g := ⟨_, rfl⟩
  have hgv := given_f seq bs ts ds hd
  have h1 : gvB bs (min bs.length 9) = g.es.map Prod.fst := by rw [← hg]; unfold gvB gvG; rw [List.map_map]; rfl
  have h2 : gvT ts (min bs.length 9) = g.es.map Prod.snd := by rw [← hg]; unfold gvT gvG; rw [List.map_map]; rfl
  have hs : g.seq = seq := by rw [← hg]; rfl
  have h9 : g.es.length ≤ 9 := by rw [← hg]; unfold gvG; simp; omega
  rw [hg, h1, h2] at hgv
  have href := ref_f g 2000 (by omega)
  rw [hs] at href
  unfold corbellaw18_GroupEncodes.f
  rw [speaks_ev 2000 (by omega), Option.bind_some, if_pos rfl, hgv, Option.bind_some]
  cases hgood : goodG g with
  | true =>
    have he := enc_good g 2000 (by omega) hgood
    rw [hs] at he
    rw [if_pos hgood] at href
    have hl := (good_len hgood).2
    have hne : (str (encG g)).toList ≠ [] := by
      rw [toL, bl_str]; intro h; rw [h] at hl; simp at hl
    have h3 := encodes_l0 (str (encG g)) (str (encG g)) 0 g h9 seq (g.es.map toE) rfl g.ds seq (g.es.map Prod.fst) g.ds rfl (.inl ⟨rfl, hne⟩) (g.es.length - 0) 0 2000 1 rfl (by omega) (by omega) (by rw [List.take_zero]; rfl)
    rw [he, Option.bind_some, href, Option.bind_some]
    exact h3
  | false =>
    have he := enc_bad g 2000 (by omega) hgood
    rw [hs] at he
    rw [hgood, if_neg (by simp)] at href
    have h3 := encodes_l0 ⟨#[]⟩ ⟨#[]⟩ 1 g h9 seq (g.es.map toE) rfl g.ds seq (g.es.map Prod.fst) g.ds rfl (.inr ⟨rfl, by rw [toL]⟩) (g.es.length - 0) 0 2000 1 rfl (by omega) (by omega) (by rw [List.take_zero]; rfl)
    rw [he, Option.bind_some, href, Option.bind_some]
    exact h3

end Go.Proofs.YticpjnpafmehaaaDoor.U
