/-
  Walks of the rig's step, reach.
-/
import Derived.Test.YtadpeopbfoppjaaG4
namespace Go.Proofs.Ytadpeopbfoppjaa
open Go.RowKit

theorem mod_put {w : World} {b o : Nat} {v : Value} : Mod [b] w (w.setCell ⟨b, o, none⟩ v) := (Mod.refl _ _).set (.inl (by simp)) _

set_option maxHeartbeats 1000000 in
theorem gstep_none {P : Pl} {r : Rg} {w : World} (hI : IsR w P r) (hs : r.set = none) :
    Calls Try.prog 34 #[.pointer (some ⟨P.br, 0, none⟩)] w fun e w' => e = .returned (.int .i64 (gstepF r).1) ∧ RStep w w' P (gstepF r).2 := by
  have hf : gstepF r = (0, { r with cnt := wrap64 (r.cnt + 1) }) := by unfold gstepF; rw [hs]
  rw [hf]
  have hset := hI.set
  rw [hs] at hset
  have hsv : P.sv = .pointer none := hset
  have HI := Lib.hid hI
  have Hs := Lib.hid hs
  have c2 := hI.cells.c2
  rw [hsv] at c2
  have c4 := hI.cells.c4
  have f4 := hI.rig.frozen 4
  have hlb := hI.rig.lt
  have Hsv := Lib.hid hsv
  clear hI hs hf hset hsv
  go_enter Try.func34, Try.ntmps34
  go_wp2_with fail
  go_ret
  refine ⟨rfl, ?_⟩
  have key : RStep w (w.setCell ⟨P.br, 4, none⟩ (.int .i64 (wrap64 (r.cnt + 1)))) P { r with cnt := wrap64 (r.cnt + 1) } :=
    RStep.heads (sv' := P.sv) (G' := P.G) HI.out mod_put rfl (HI.out.set.mod mod_put (fun x hx h => by rw [List.mem_singleton] at h; subst h; exact HI.out.hd1 (List.mem_append_right _ hx))) (fun x hx => .inl hx) (fun x hx => by simpa using HI.out.gs x hx) (HI.out.rig.set 4 _)
  first | exact key | exact key.same' ((Mod.refl [] _).drew)

/-- The cut's own cells. -/
theorem IsR.cut {w : World} {P : Pl} {r : Rg} {l : Int} {k : List Int} (h : IsR w P r) (hs : r.set = some (l, k)) : ∃ bc bk kv, P.sv = .pointer (some ⟨bc, 0, none⟩) ∧ bc ∈ P.G ∧ (0 < k.length → bk ∈ P.G ∧ bk ≠ bc) ∧ Blk w bc #[.int .i64 l, kv] 60 ∧ IntsAt w kv k bk ∧ CapOk kv ∧ 0 ≤ l ∧ l ≤ 9223372036854775807 ∧ KeepOk k := by
  have := h.set
  rw [hs] at this
  exact this

/-- Less commands are left. -/
theorem IsR.tick {w : World} {P : Pl} {r : Rg} {l l' : Int} {k : List Int} {bc : Nat} (h : IsR w P r) (hs : r.set = some (l, k)) (hb : P.sv = .pointer (some ⟨bc, 0, none⟩)) (h0 : 0 ≤ l') (h1 : l' ≤ l) :
    IsR (w.setCell ⟨bc, 0, none⟩ (.int .i64 l')) P { r with set := some (l', k) } ∧ bc ∈ P.G := by
  obtain ⟨bc', bk, kv, e, hG, hG2, hB, hK, hC, g0, g1, hk⟩ := h.cut hs
  rw [hb] at e
  simp only [Value.pointer.injEq, Option.some.injEq, Addr.mk.injEq, and_true] at e
  subst e
  have hm : Mod [bc] w (w.setCell ⟨bc, 0, none⟩ (.int .i64 l')) := mod_put
  have hbc : ∀ x, x ∈ P.own ∨ x = P.br → x ∉ [bc] := fun x hx hx' => by
    rw [List.mem_singleton] at hx'
    subst hx'
    rcases hx with hx | hx
    · exact h.hd2 _ hx hG
    · exact h.hd1 (List.mem_append_right _ (hx ▸ hG))
  refine ⟨⟨hm.blk h.rig (hbc _ (.inr rfl)), ownsRow_block h.row fun g hg => hm.block g (ownsRow_lt h.row hg) (hbc g (.inl (by simpa [Pl.own] using hg))), h.np, h.nF, fun i hi => (h.each i hi).mod hm (fun x hx hx' => ?_), ?_, fun x hx => by simpa using h.gs x hx, h.hd1, h.hd2, h.off, h.apart, h.len⟩, hG⟩
  · rw [List.mem_singleton] at hx'
    subst hx'
    exact h.off i _ hi hx (IsR.G_hd hG)
  · exact ⟨bc, bk, kv, hb, hG, hG2, hB.set 0 _, hK.mod' hm (fun h => by simpa using (hG2 h).2), hC, h0, by omega, hk⟩

theorem RStep.tick {w : World} {P : Pl} {r : Rg} {l l' : Int} {k : List Int} {bc : Nat} (h : IsR w P r) (hs : r.set = some (l, k)) (hb : P.sv = .pointer (some ⟨bc, 0, none⟩)) (h0 : 0 ≤ l') (h1 : l' ≤ l) :
    RStep w (w.setCell ⟨bc, 0, none⟩ (.int .i64 l')) P { r with set := some (l', k) } := by
  obtain ⟨hI, hG⟩ := h.tick hs hb h0 h1
  exact ⟨P, ⟨rfl, rfl⟩, hI, (mod_put (b := bc)).mono (fun i _ hi => by rw [List.mem_singleton] at hi; subst hi; exact IsR.feet_hd (IsR.G_hd hG)), fun _ hx => .inl hx⟩

set_option maxHeartbeats 1000000 in
theorem gstep_more {P : Pl} {r : Rg} {l : Int} {k : List Int} {w : World} (hI : IsR w P r) (hs : r.set = some (l, k)) (hl : 2 ≤ l) :
    Calls Try.prog 34 #[.pointer (some ⟨P.br, 0, none⟩)] w fun e w' => e = .returned (.int .i64 (gstepF r).1) ∧ RStep w w' P (gstepF r).2 := by
  have hf : gstepF r = (0, { r with set := some (l - 1, k), cnt := wrap64 (r.cnt + 1) }) := by unfold gstepF; rw [hs]; simp only; rw [if_neg (by omega)]
  rw [hf]
  obtain ⟨bc, bk, kv, hsv, hG, hG2, hB, hK, hC, g0, g1, hk⟩ := hI.cut hs
  have c2 := hI.cells.c2
  rw [hsv] at c2
  have c4 := hI.cells.c4
  have f4 := hI.rig.frozen 4
  have hlb := hI.rig.lt
  have d0 := hB.cell (i := 0) rfl
  have e0 := hB.frozen 0
  have hlc := hB.lt
  have hne : P.br ≠ bc := fun e => hI.hd1 (List.mem_append_right _ (e ▸ hG))
  have hne' := Ne.symm hne
  have hz : ((l - 1 : Int) == 0) = false := by simp; omega
  have HI := Lib.hid hI
  have Hs := Lib.hid hs
  have Hsv := Lib.hid hsv
  clear hI hs hf hsv hB hK hC hk hG hG2
  go_enter Try.func34, Try.ntmps34
  go_wp2_with fail
  go_ret
  refine ⟨rfl, ?_⟩
  have key : RStep w ((w.setCell ⟨bc, 0, none⟩ (.int .i64 (l - 1))).setCell ⟨P.br, 4, none⟩ (.int .i64 (wrap64 (r.cnt + 1)))) P { r with set := some (l - 1, k), cnt := wrap64 (r.cnt + 1) } := by
    obtain ⟨hI2, hG⟩ := HI.out.tick Hs.out Hsv.out (l' := l - 1) (by omega) (by omega)
    refine RStep.from (P1 := P) (b := w.setCell ⟨bc, 0, none⟩ (.int .i64 (l - 1))) ⟨rfl, rfl⟩ ((mod_put (b := bc)).mono (fun i _ hi => by rw [List.mem_singleton] at hi; subst hi; exact IsR.feet_hd (IsR.G_hd hG))) (fun _ hx => .inl hx) ?_
    exact RStep.heads (sv' := P.sv) (G' := P.G) hI2 mod_put rfl (hI2.set.mod mod_put (fun x hx h => by rw [List.mem_singleton] at h; subst h; exact HI.out.hd1 (List.mem_append_right _ hx))) (fun x hx => .inl hx) (fun x hx => by simpa using hI2.gs x hx) (hI2.rig.set 4 _)
  first | exact key | exact key.same' ((Mod.refl [] _).drew)

set_option maxHeartbeats 1000000 in
theorem gstep_last {P : Pl} {r : Rg} {l : Int} {k : List Int} {w : World} (hI : IsR w P r) (hs : r.set = some (l, k)) (hl : l = 1) :
    Calls Try.prog 34 #[.pointer (some ⟨P.br, 0, none⟩)] w fun e w' => e = .returned (.int .i64 (gstepF r).1) ∧ RStep w w' P (gstepF r).2 := by
  subst hl
  have hf : gstepF r = (6, gfailF r k) := by unfold gstepF; rw [hs]; rfl
  have hf2 : gfailF { r with set := some (0, k) } k = gfailF r k := rfl
  rw [hf]
  obtain ⟨bc, bk, kv, hsv, hG, hG2, hB, hK, hC, g0, g1, hk⟩ := hI.cut hs
  have c2 := hI.cells.c2
  rw [hsv] at c2
  have hlb := hI.rig.lt
  have d0 := hB.cell (i := 0) rfl
  have d1 := hB.cell (i := 1) rfl
  have e0 := hB.frozen 0
  have hlc := hB.lt
  have hne : P.br ≠ bc := fun e => hI.hd1 (List.mem_append_right _ (e ▸ hG))
  have hne' := Ne.symm hne
  have HI := Lib.hid hI
  have Hs := Lib.hid hs
  have Hsv := Lib.hid hsv
  have HB := Lib.hid hB; have HK := Lib.hid hK; have HC := Lib.hid hC; have Hk := Lib.hid hk; have HG := Lib.hid hG; have HG2 := Lib.hid hG2
  have Hf2 := Lib.hid hf2
  clear hI hs hf hf2 hsv hB hK hC hk hG hG2
  go_enter Try.func34, Try.ntmps34
  go_wp2_with fail
  have hm : Mod [bc] w (w.setCell ⟨bc, 0, none⟩ (.int .i64 0)) := mod_put
  refine (gfail_any (P := P) (r := { r with set := some (0, k) }) k kv bk (HI.out.tick Hs.out Hsv.out (by omega) (by omega)).1 (HK.out.mod' hm (fun h => by simpa using (HG2.out h).2)) (fun h => ⟨?_, ?_, ?_, ?_⟩) Hk.out HC.out).mono ?_
  · have := HI.out.gs bk (HG2.out h).1; simpa using this
  · intro e; exact HI.out.hd1 (List.mem_append_right _ (e ▸ (HG2.out h).1))
  · intro h2; exact HI.out.hd2 bk h2 (HG2.out h).1
  · intro h2
    obtain ⟨i, hi, hx⟩ := mem_getD_flatten.1 h2
    exact HI.out.off i bk (by rw [← HI.out.nF]; exact hi) hx (IsR.G_hd (HG2.out h).1)
  rintro e w2 ⟨rfl, hst⟩
  rw [Hf2.out] at hst
  have Hst := Lib.hid hst
  clear hst hm
  go_wp2_with fail
  go_ret
  refine ⟨rfl, RStep.from (P1 := P) ⟨rfl, rfl⟩ ((mod_put (b := bc)).mono (fun i _ hi => by rw [List.mem_singleton] at hi; subst hi; exact IsR.feet_hd (IsR.G_hd HG.out))) (fun _ hx => .inl hx) Hst.out⟩

theorem gstep_any {P : Pl} {r : Rg} {w : World} (hI : IsR w P r) (hl : r.live) :
    Calls Try.prog 34 #[.pointer (some ⟨P.br, 0, none⟩)] w fun e w' => e = .returned (.int .i64 (gstepF r).1) ∧ RStep w w' P (gstepF r).2 := by
  cases hs : r.set with
  | none => exact gstep_none hI hs
  | some p =>
    obtain ⟨l, k⟩ := p
    have h1 := hl l k hs
    by_cases h2 : l = 1
    · exact gstep_last hI hs h2
    · exact gstep_more hI hs (by omega)

end Go.Proofs.Ytadpeopbfoppjaa
