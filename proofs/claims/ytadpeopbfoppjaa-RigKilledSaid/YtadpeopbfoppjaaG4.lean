/-
  Walk of the rig's fail.
-/
import Derived.Test.YtadpeopbfoppjaaG1
import Derived.Deep.RegionWith
import Derived.Deep.RegionHeld3
import Derived.Deep.DeepCutAuto
namespace Go.Proofs.Ytadpeopbfoppjaa
open Go.RowKit

/-- The rig with the first k drives behind the loss. -/
def failK (r : Rg) (keep : List Int) (k : Nat) : Rg := { r with ds := (List.range r.ds.length).map fun i => if i < k then dloseF (r.ds.getD i dv0) (rot keep i) else r.ds.getD i dv0 }

theorem failK_len (r : Rg) (keep : List Int) (k : Nat) : (failK r keep k).ds.length = r.ds.length := by simp [failK]
theorem failK_zero (r : Rg) (keep : List Int) : failK r keep 0 = r := by
  have : ((List.range r.ds.length).map fun i => if i < 0 then dloseF (r.ds.getD i dv0) (rot keep i) else r.ds.getD i dv0) = r.ds := by
    apply List.ext_getElem
    · simp
    · intro i h1 h2
      simp [List.getD_eq_getElem?_getD, h2]
  simp only [failK, this]
theorem failK_at (r : Rg) (keep : List Int) (k : Nat) : (failK r keep k).ds.getD k dv0 = r.ds.getD k dv0 := by
  by_cases h : k < r.ds.length
  · simp [failK, List.getD_eq_getElem?_getD, h]
  · simp [failK, List.getD_eq_getElem?_getD, h]
theorem failK_succ (r : Rg) (keep : List Int) (k : Nat) : (failK r keep k).put k (dloseF (r.ds.getD k dv0) (rot keep k)) = failK r keep (k + 1) := by
  have : (failK r keep k).ds.set k (dloseF (r.ds.getD k dv0) (rot keep k)) = (failK r keep (k + 1)).ds := by
    apply List.ext_getElem
    · simp [failK]
    · intro i h1 h2
      have hi : i < r.ds.length := by simpa [failK] using h2
      rw [List.getElem_set]
      by_cases hik : k = i
      · subst hik
        simp [failK]
      · rw [if_neg hik]
        simp only [failK, List.getElem_map, List.getElem_range]
        by_cases h3 : i < k
        · rw [if_pos h3, if_pos (by omega)]
        · rw [if_neg h3, if_neg (by omega)]
  unfold Rg.put
  rw [this]
  rfl
theorem failK_all (r : Rg) (keep : List Int) : (⟨(failK r keep r.ds.length).ds, r.bl, none, true, r.cnt⟩ : Rg) = gfailF r keep := by
  have : (failK r keep r.ds.length).ds = (gfailF r keep).ds := by
    simp only [failK, gfailF]
    apply List.map_congr_left
    intro i hi
    rw [if_pos (List.mem_range.1 hi)]
  rw [this]
  rfl

theorem rot_ok {keep : List Int} (h : KeepOk keep) (i : Nat) : KeepOk (rot keep i) := by
  unfold rot
  split
  · exact h
  · refine ⟨by have := h.1; simp; omega, fun j => ?_⟩
    have hm : ∀ x ∈ keep, IntIn x := fun x hx => by
      obtain ⟨t, ht, rfl⟩ := List.getElem_of_mem hx
      have := h.2 t
      rwa [List.getD_eq_getElem?_getD, List.getElem?_eq_getElem ht] at this
    rw [List.getD_eq_getElem?_getD]
    cases hj : (keep.drop (i % keep.length) ++ keep.take (i % keep.length))[j]? with
    | none => exact ⟨by simp, by simp⟩
    | some x =>
      have hx := List.mem_of_getElem? hj
      rw [List.mem_append] at hx
      rcases hx with hx | hx
      · exact hm x (List.mem_of_mem_drop hx)
      · exact hm x (List.mem_of_mem_take hx)

/-- A part of the numbers behind a place. -/
theorem IntsAt.drop {w : World} {ls : List Int} {b off : Nat} {c : Nat} {k : Nat} (h : IntsAt w (.slice (some ⟨b, off, none⟩) ls.length c) ls b) (hk : k < ls.length) (a : Addr) (ha : a = ⟨b, off + k, none⟩) (n c' : Nat) (hn : n = ls.length - k) :
    IntsAt w (.slice (some a) n c') (ls.drop k) b := by
  subst ha
  obtain ⟨a', c2, hv, hc⟩ := h
  obtain ⟨off', ha', hlt, hcell⟩ := hc (by omega)
  subst ha'
  simp only [Value.slice.injEq, Option.some.injEq, Addr.mk.injEq] at hv
  obtain ⟨⟨-, rfl, -⟩, -, -⟩ := hv
  refine ⟨_, c', by rw [List.length_drop, hn], fun _ => ⟨off + k, rfl, hlt, fun j hj => ?_⟩⟩
  rw [List.length_drop] at hj
  rw [Nat.add_assoc, hcell (k + j) (by omega)]
  congr 2
  simp [List.getD_eq_getElem?_getD]

/-- The rounds of fail. -/
def FailRel (w : World) (P : Pl) (r : Rg) (keep : List Int) (k : Nat) (wr : World) : Prop :=
  ∃ Fs, IsR wr { P with Fs := Fs } (failK r keep k) ∧ Mod P.Fs.flatten w wr ∧ ∀ x ∈ Fs.flatten, x ∈ P.Fs.flatten ∨ w.heap.size ≤ x

/-- A round: drive k has lost what it loses. -/
theorem FailRel.next {w wr w1 w2 : World} {P : Pl} {r : Rg} {keep : List Int} {k : Nat} {Fs : List (List Nat)} (hI : IsR wr { P with Fs := Fs } (failK r keep k)) (hm : Mod P.Fs.flatten w wr) (hf : ∀ x ∈ Fs.flatten, x ∈ P.Fs.flatten ∨ w.heap.size ≤ x)
    (hlt : k < r.ds.length) (hm1 : Mod [] wr w1) (hs : DrvStep w1 w2 (P.ps.getD k 0) (Fs.getD k []) (dloseF (r.ds.getD k dv0) (rot keep k))) : FailRel w P r keep (k + 1) w2 := by
  obtain ⟨F', h1, h2, h3⟩ := hs
  have hI1 := hI.same hm1
  have hi : k < (failK r keep k).ds.length := by rw [failK_len]; exact hlt
  have hk : k < Fs.length := by have := hI.nF; rw [failK_len] at this; exact this ▸ hlt
  have hd := hI1.drive (P := { P with Fs := Fs }) hi h1 h2 h3
  rw [failK_succ r keep k] at hd
  refine ⟨Fs.set k F', hd, (hm.trans hm1 (fun i _ h => h.elim id (by simp))).trans h2 (fun i hi' h => ?_), fun x hx => ?_⟩
  · rcases h with h | h
    · exact h
    · rcases hf i (mem_getD_flatten.2 ⟨k, hk, h⟩) with h | h
      · exact h
      · omega
  · obtain ⟨j, hj, hx⟩ := mem_getD_flatten.1 hx
    by_cases hjk : j = k
    · subst hjk
      rw [getD_set_self _ _ _ _ hk] at hx
      rcases h3 x hx with h | h
      · exact hf x (mem_getD_flatten.2 ⟨j, hk, h⟩)
      · exact .inr (Nat.le_trans hm.size (Nat.le_trans hm1.size h))
    · rw [getD_set_ne _ _ _ _ _ hjk] at hx
      exact hf x (mem_getD_flatten.2 ⟨j, by simpa using hj, hx⟩)

set_option maxHeartbeats 4000000 in
set_option maxRecDepth 100000 in
theorem gfail_any {P : Pl} {r : Rg} {w : World} (keep : List Int) (kv : Value) (b : Nat) (hI : IsR w P r) (hK : IntsAt w kv keep b) (hb : 0 < keep.length → b < w.heap.size ∧ b ≠ P.br ∧ b ∉ P.own ∧ b ∉ P.Fs.flatten) (hk : KeepOk keep) (hc : CapOk kv) :
    Calls Try.prog 31 #[.pointer (some ⟨P.br, 0, none⟩), kv] w fun e w' => e = .returned (.tuple #[]) ∧ RStep w w' P (gfailF r keep) := by
  have HI := Lib.hid hI; clear hI
  have HK := Lib.hid hK; clear hK
  have Hb := Lib.hid hb; clear hb
  have hll := HI.out.len
  have hkl := hk.1
  have Hk := Lib.hid hk; clear hk
  have c0 := HI.out.cells.c0
  obtain ⟨da, dc, hd, hs⟩ := HI.out.slice
  have Hd := Lib.hid hd
  rw [hd] at c0
  clear hd hs
  obtain ⟨ka, kc, rfl, hka⟩ := HK.out
  obtain ⟨hkc1, hkc2⟩ := hc _ _ _ rfl
  have Hka := Lib.hid hka; clear hka hc
  go_enter Try.func31, Try.ntmps31
  go_wp2_with fail
  go_loopw [13] (fun s13 wr => ∃ k : Nat, s13 = .int .i64 k ∧ k ≤ r.ds.length ∧ FailRel w P r keep k wr) (fun s13 _ => 20 - (intOf s13).toNat)
  case atStart => exact ⟨0, rfl, Nat.zero_le _, P.Fs, by rw [failK_zero]; exact HI.out, Mod.refl _ _, fun x hx => .inl hx⟩
  case round =>
    obtain ⟨k, rfl, hk, Fs, hIk, hmk, hfk⟩ := hrel
    have HIk := Lib.hid hIk; have Hmk := Lib.hid hmk; have Hfk := Lib.hid hfk
    clear hIk hmk hfk
    by_cases hlt : k < r.ds.length
    · obtain ⟨da2, dc2, hd2, hs2⟩ := HIk.out.slice
      rw [failK_len] at hd2 hs2
      have hd3 : (Value.slice da r.ds.length dc) = .slice da2 r.ds.length dc2 := Hd.out.symm.trans hd2
      simp only [Value.slice.injEq] at hd3
      obtain ⟨rfl, -, rfl⟩ := hd3
      obtain ⟨g, rfl, hg, hc⟩ := hs2 k hlt
      clear hd2 hs2
      by_cases h0 : keep.length = 0
      · have hkb : decide (0 < keep.length) = false := by simp [h0]
        have hrt : rot keep k = keep := by unfold rot; rw [if_pos h0]
        have Hrt := Lib.hid hrt; clear hrt h0
        have hdr : DrvIn wr (P.ps.getD k 0) (Fs.getD k []) (r.ds.getD k dv0) := by
          have := HIk.out.each k (by rw [failK_len]; exact hlt)
          rwa [failK_at] at this
        have Hdr := Lib.hid hdr; clear hdr
        go_wp2_with fail
        refine (dloseI keep (.slice ka keep.length kc) Hdr.out (HK.out.mod' Hmk.out (fun h => (Hb.out h).2.2.2)) (fun h => ⟨?_, Nat.lt_of_lt_of_le (Hb.out h).1 Hmk.out.size⟩) Hk.out).mono ?_
        · exact absurd h (by simpa using hkb)
        rintro e w2 ⟨rfl, hs⟩
        rw [← Hrt.out] at hs
        have Hs := Lib.hid (FailRel.next HIk.out Hmk.out Hfk.out hlt (Mod.refl [] wr) (by rw [Hrt.out]; rw [Hrt.out] at hs; exact hs))
        clear hs
        go_wp2_with fail
        go_roundw
        case rel => exact ⟨k + 1, by go_num, by omega, Hs.out⟩
        case measure => simp [intOf]; omega
      · have hkb : decide (0 < keep.length) = true := by simp; omega
        obtain ⟨j, hj⟩ : ∃ j, k % keep.length = j := ⟨_, rfl⟩
        have hjl : j < keep.length := by rw [← hj]; exact Nat.mod_lt _ (by omega)
        have hji : ((k : Int) % (keep.length : Int)) = (j : Int) := by omega
        have hrt : rot keep k = keep.drop j ++ keep.take j := by unfold rot; rw [if_neg h0, hj]
        have Hrt := Lib.hid hrt; clear hrt h0 hj
        have hdr : DrvIn wr (P.ps.getD k 0) (Fs.getD k []) (r.ds.getD k dv0) := by
          have := HIk.out.each k (by rw [failK_len]; exact hlt)
          rwa [failK_at] at this
        have Hdr := Lib.hid hdr; clear hdr
        have HKk := Lib.hid (HK.out.mod' Hmk.out (fun h => (Hb.out h).2.2.2))
        obtain ⟨i0, ei0, ei1, ei2, ei3⟩ := info_parts infoI
        obtain ⟨off, rfl, -, -⟩ := Hka.out (by omega)
        have HKd : Hid (IntsAt wr (.slice (some ⟨b, off + j, none⟩) (keep.length - j) (kc - j)) (keep.drop j) b) := HKk.out.drop hjl _ rfl _ _ rfl
        have Hln : Hid ((ic (keep.take j)).length = j * 1) := by show _ = _; rw [ic_length]; simp; omega
        have Hone : Hid (∀ u ∈ ic (keep.take j), u.oneCell' = true) := by
          intro u hu
          simp only [ic, List.mem_map] at hu
          obtain ⟨x, _, rfl⟩ := hu
          rfl
        have Hnews : Hid (∀ (t : Nat) (u : Value), (ic (keep.take j))[t]? = some u → ∀ w2, Mod [] wr.drew w2 → w2.cell? ((⟨b, off, none⟩ : Addr).add t) = some u) := by
          intro t u ht w2 hm2
          have htl : t < j := by
            have := (List.getElem?_eq_some_iff.1 ht).1
            rw [ic_length] at this
            simp at this
            omega
          obtain ⟨a', c2, hv, hc⟩ := HKk.out
          obtain ⟨off', ha', hblt, hcell⟩ := hc (by omega)
          subst ha'
          simp only [Value.slice.injEq, Option.some.injEq, Addr.mk.injEq] at hv
          obtain ⟨⟨-, rfl, -⟩, -, -⟩ := hv
          rw [ic_get _ _ (by simp; omega)] at ht
          injection ht with ht
          subst ht
          rw [Addr.add_lit]
          have e : (keep.take j).getD t 0 = keep.getD t 0 := by simp [List.getD_eq_getElem?_getD, List.getElem?_take_of_lt htl]
          rw [e]
          exact (hm2.cell (w := wr.drew) hblt (by simp)).trans (hcell t (by omega))
        have Hb1 : Hid ((keep.drop j).length + j ≤ maxLen) := by show _ ≤ _; rw [List.length_drop]; unfold maxLen; omega
        have Hb2 : Hid (((keep.drop j).length + j) * 8 ≤ 140737488355328) := by show _ ≤ _; rw [List.length_drop]; omega
        have z1 : (0 : Int) ≤ (j : Int) := by omega
        have z2 : (j : Int) ≤ (keep.length : Int) := by omega
        have z3 : (keep.length : Int) ≤ (kc : Int) := by omega
        have z4 : (j : Int) ≤ (kc : Int) := by omega
        have z5 : ((j : Int) == (kc : Int)) = false := by simp; omega
        have z6 : (j == kc) = false := by simp; omega
        have z7 : ¬ (j = kc) := by omega
        have z8 : ¬ (kc = j) := by omega
        go_upto_region 6 with fail
        rw [hji]
        clear hji
        go_region_held3 (fun w' => True) (trivial) (first
          | (go_at_call 23; refine (iclone_any _ (keep.drop j) b _ (by first | exact HKd.out | exact HKd.out.mod' ((Mod.refl [] _).drew) (by simp) | exact HKd.out.mod' ((Mod.refl [] _).drewN _) (by simp)) (by simp; omega)).mono ?_; rintro e w2 ⟨v2, rfl, hnew⟩; have Hnew := Lib.hid hnew; clear hnew)
          | (refine step_append_own (by rfl) _ _ 40 (by rfl) wr.heap.size 3 i0 (.int .i64 0) 1 8 Try.underlying40 ei0 ei1 ei2 ei3 rfl (by decide) v2 (keep.drop j).length (ic (keep.drop j)) (by rfl) Hnew.out.1 ⟨b, off, none⟩ j kc (ic (keep.take j)) (by rfl) Hln.out (fun t u ht => (Hnews.out t u ht w2 Hnew.out.2)) Hone.out Hb1.out Hb2.out Hnew.out.2.size ?_; intro v3 w3 hown3 hgrow3 _; have Hown3 := Lib.hid hown3; have Hgrow3 := Lib.hid hgrow3; clear hown3 hgrow3))
        have HN : Hid (IntsNew wr w3 v3 (rot keep k)) := by
          have h1 : IntsNew wr w2 v2 (keep.drop j) := ⟨Hnew.out.1, ((Mod.refl [] wr).drew).trans' Hnew.out.2⟩
          have h2 := h1.row (B := keep.take j) (by have := Hown3.out; rwa [show (keep.take j).length = j by simp; omega]) Hgrow3.out
          rw [Hrt.out]; exact h2
        clear Hnew Hown3 Hgrow3 Hnews Hone Hln HKd
        have Hdr3 : Hid (DrvIn w3 (P.ps.getD k 0) (Fs.getD k []) (r.ds.getD k dv0)) := Hdr.out.mod HN.out.2 (by simp)
        obtain ⟨b3, hi3, ho3⟩ := ints_owned HN.out.1
        have Hi3 := Lib.hid hi3; have Ho3 := Lib.hid ho3
        clear hi3 ho3
        go_wp2_with fail
        refine (dloseI (rot keep k) v3 Hdr3.out Hi3.out (fun h => ⟨fun hx => ?_, ?_⟩) (rot_ok Hk.out k)).mono ?_
        · have h1 := (Ho3.out h).2
          have h2 := Hdr.out.lt b3 hx
          omega
        · have h1 := ownsRow_lt HN.out.1 (Ho3.out h).1
          exact h1
        rintro e w4 ⟨rfl, hs⟩
        have Hs := Lib.hid (FailRel.next HIk.out Hmk.out Hfk.out hlt HN.out.2 hs)
        clear hs
        go_wp2_with fail
        go_roundw
        case rel => exact ⟨k + 1, by go_num, by omega, Hs.out⟩
        case measure => simp [intOf]; omega
    · have hdd : decide (k < r.ds.length) = false := by simpa using hlt
      have hfz2 := HIk.out.rig.frozen 2
      have hfz3 := HIk.out.rig.frozen 3
      have hlb := HIk.out.rig.lt
      have q2 : wr.cell? ⟨P.br, 2, none⟩ = some P.sv := HIk.out.cells.c2
      have q3 : wr.cell? ⟨P.br, 3, none⟩ = some (.bool r.off) := HIk.out.cells.c3
      go_wp2_with fail
      obtain rfl : k = r.ds.length := by omega
      refine bodyPost_end (results_none rfl _ _ _) rfl ⟨rfl, ?_⟩
      have hmW : Mod [P.br] wr ((wr.setCell ⟨P.br, 3, none⟩ (.bool true)).setCell ⟨P.br, 2, none⟩ (.pointer none)) := ((Mod.refl _ _).set (.inl (by simp)) _).set (.inl (by simp)) _
      have hb2 : Blk ((wr.setCell ⟨P.br, 3, none⟩ (.bool true)).setCell ⟨P.br, 2, none⟩ (.pointer none)) P.br #[P.dv, .int .i64 r.bl, .pointer none, .bool true, .int .i64 r.cnt] 54 := (HIk.out.rig.set 3 _).set 2 _
      have hst := RStep.heads (r' := ⟨(failK r keep r.ds.length).ds, r.bl, none, true, r.cnt⟩) (sv' := .pointer none) (G' := []) HIk.out hmW rfl rfl (by simp) (by simp) hb2
      rw [failK_all] at hst
      have key := RStep.from (P := P) (P1 := { P with Fs := Fs }) ⟨rfl, rfl⟩ (Hmk.out.mono (T := P.feet) (fun i _ hi => List.mem_append_right _ hi)) (fun x hx => by
        rcases List.mem_append.1 hx with hx | hx
        · exact .inl (List.mem_append_left _ hx)
        · rcases Hfk.out x hx with h | h
          · exact .inl (List.mem_append_right _ h)
          · exact .inr h) hst
      first | exact key | exact key.same' ((Mod.refl [] _).drew)

end Go.Proofs.Ytadpeopbfoppjaa
