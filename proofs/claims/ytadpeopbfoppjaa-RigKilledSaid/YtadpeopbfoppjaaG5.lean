/-
  Walks of the rig's step, reach.
  Walks of the rig's reach, Do, Flush.
  Walks of the rig's On, Cut, Crash.
-/
import Derived.Test.YtadpeopbfoppjaaG4
namespace Go.Proofs.Ytadpeopbfoppjaa
open Go.RowKit

theorem mod_put {w : World} {b o : Nat} {v : Value} : Mod [b] w (w.setCell ⟨b, o, none⟩ v) := (Mod.refl _ _).set (.inl (by simp)) _

set_option maxHeartbeats 1000000 in
theorem gstep_none {P : Pl} {r : Rg} {w : World} (hI : IsR w P r) (hs : r.set = none) :
    Calls Try.prog 34 #[.pointer (some ⟨P.br, 0, none⟩)] w fun e w' => e = .returned (.int .i64 (gstepF r).1) ∧ RStep w w' P (gstepF r).2 := by
  have hf : gstepF r = (0, { r with cnt := wrap64 (r.cnt + 1) }) := by unfold gstepF; rw [hs]
  rw [hf]
  have hset := hI.set
  rw [hs] at hset
  have hsv : P.sv = .pointer none := hset
  have HI := Lib.hid hI
  have Hs := Lib.hid hs
  have c2 := hI.cells.c2
  rw [hsv] at c2
  have c4 := hI.cells.c4
  have f4 := hI.rig.frozen 4
  have hlb := hI.rig.lt
  have Hsv := Lib.hid hsv
  clear hI hs hf hset hsv
  go_enter Try.func34, Try.ntmps34
  go_wp2_with fail
  go_ret
  refine ⟨rfl, ?_⟩
  have key : RStep w (w.setCell ⟨P.br, 4, none⟩ (.int .i64 (wrap64 (r.cnt + 1)))) P { r with cnt := wrap64 (r.cnt + 1) } :=
    RStep.heads (sv' := P.sv) (G' := P.G) HI.out mod_put rfl (HI.out.set.mod mod_put (fun x hx h => by rw [List.mem_singleton] at h; subst h; exact HI.out.hd1 (List.mem_append_right _ hx))) (fun x hx => .inl hx) (fun x hx => by simpa using HI.out.gs x hx) (HI.out.rig.set 4 _)
  first | exact key | exact key.same' ((Mod.refl [] _).drew)

/-- The cut's own cells. -/
theorem IsR.cut {w : World} {P : Pl} {r : Rg} {l : Int} {k : List Int} (h : IsR w P r) (hs : r.set = some (l, k)) : ∃ bc bk kv, P.sv = .pointer (some ⟨bc, 0, none⟩) ∧ bc ∈ P.G ∧ (0 < k.length → bk ∈ P.G ∧ bk ≠ bc) ∧ Blk w bc #[.int .i64 l, kv] 60 ∧ IntsAt w kv k bk ∧ CapOk kv ∧ 0 ≤ l ∧ l ≤ 9223372036854775807 ∧ KeepOk k := by
  have := h.set
  rw [hs] at this
  exact this

/-- Less commands are left. -/
theorem IsR.tick {w : World} {P : Pl} {r : Rg} {l l' : Int} {k : List Int} {bc : Nat} (h : IsR w P r) (hs : r.set = some (l, k)) (hb : P.sv = .pointer (some ⟨bc, 0, none⟩)) (h0 : 0 ≤ l') (h1 : l' ≤ l) :
    IsR (w.setCell ⟨bc, 0, none⟩ (.int .i64 l')) P { r with set := some (l', k) } ∧ bc ∈ P.G := by
  obtain ⟨bc', bk, kv, e, hG, hG2, hB, hK, hC, g0, g1, hk⟩ := h.cut hs
  rw [hb] at e
  simp only [Value.pointer.injEq, Option.some.injEq, Addr.mk.injEq, and_true] at e
  subst e
  have hm : Mod [bc] w (w.setCell ⟨bc, 0, none⟩ (.int .i64 l')) := mod_put
  have hbc : ∀ x, x ∈ P.own ∨ x = P.br → x ∉ [bc] := fun x hx hx' => by
    rw [List.mem_singleton] at hx'
    subst hx'
    rcases hx with hx | hx
    · exact h.hd2 _ hx hG
    · exact h.hd1 (List.mem_append_right _ (hx ▸ hG))
  refine ⟨⟨hm.blk h.rig (hbc _ (.inr rfl)), ownsRow_block h.row fun g hg => hm.block g (ownsRow_lt h.row hg) (hbc g (.inl (by simpa [Pl.own] using hg))), h.np, h.nF, fun i hi => (h.each i hi).mod hm (fun x hx hx' => ?_), ?_, fun x hx => by simpa using h.gs x hx, h.hd1, h.hd2, h.off, h.apart, h.len⟩, hG⟩
  · rw [List.mem_singleton] at hx'
    subst hx'
    exact h.off i _ hi hx (IsR.G_hd hG)
  · exact ⟨bc, bk, kv, hb, hG, hG2, hB.set 0 _, hK.mod' hm (fun h => by simpa using (hG2 h).2), hC, h0, by omega, hk⟩

theorem RStep.tick {w : World} {P : Pl} {r : Rg} {l l' : Int} {k : List Int} {bc : Nat} (h : IsR w P r) (hs : r.set = some (l, k)) (hb : P.sv = .pointer (some ⟨bc, 0, none⟩)) (h0 : 0 ≤ l') (h1 : l' ≤ l) :
    RStep w (w.setCell ⟨bc, 0, none⟩ (.int .i64 l')) P { r with set := some (l', k) } := by
  obtain ⟨hI, hG⟩ := h.tick hs hb h0 h1
  exact ⟨P, ⟨rfl, rfl⟩, hI, (mod_put (b := bc)).mono (fun i _ hi => by rw [List.mem_singleton] at hi; subst hi; exact IsR.feet_hd (IsR.G_hd hG)), fun _ hx => .inl hx⟩

set_option maxHeartbeats 1000000 in
theorem gstep_more {P : Pl} {r : Rg} {l : Int} {k : List Int} {w : World} (hI : IsR w P r) (hs : r.set = some (l, k)) (hl : 2 ≤ l) :
    Calls Try.prog 34 #[.pointer (some ⟨P.br, 0, none⟩)] w fun e w' => e = .returned (.int .i64 (gstepF r).1) ∧ RStep w w' P (gstepF r).2 := by
  have hf : gstepF r = (0, { r with set := some (l - 1, k), cnt := wrap64 (r.cnt + 1) }) := by unfold gstepF; rw [hs]; simp only; rw [if_neg (by omega)]
  rw [hf]
  obtain ⟨bc, bk, kv, hsv, hG, hG2, hB, hK, hC, g0, g1, hk⟩ := hI.cut hs
  have c2 := hI.cells.c2
  rw [hsv] at c2
  have c4 := hI.cells.c4
  have f4 := hI.rig.frozen 4
  have hlb := hI.rig.lt
  have d0 := hB.cell (i := 0) rfl
  have e0 := hB.frozen 0
  have hlc := hB.lt
  have hne : P.br ≠ bc := fun e => hI.hd1 (List.mem_append_right _ (e ▸ hG))
  have hne' := Ne.symm hne
  have hz : ((l - 1 : Int) == 0) = false := by simp; omega
  have HI := Lib.hid hI
  have Hs := Lib.hid hs
  have Hsv := Lib.hid hsv
  clear hI hs hf hsv hB hK hC hk hG hG2
  go_enter Try.func34, Try.ntmps34
  go_wp2_with fail
  go_ret
  refine ⟨rfl, ?_⟩
  have key : RStep w ((w.setCell ⟨bc, 0, none⟩ (.int .i64 (l - 1))).setCell ⟨P.br, 4, none⟩ (.int .i64 (wrap64 (r.cnt + 1)))) P { r with set := some (l - 1, k), cnt := wrap64 (r.cnt + 1) } := by
    obtain ⟨hI2, hG⟩ := HI.out.tick Hs.out Hsv.out (l' := l - 1) (by omega) (by omega)
    refine RStep.from (P1 := P) (b := w.setCell ⟨bc, 0, none⟩ (.int .i64 (l - 1))) ⟨rfl, rfl⟩ ((mod_put (b := bc)).mono (fun i _ hi => by rw [List.mem_singleton] at hi; subst hi; exact IsR.feet_hd (IsR.G_hd hG))) (fun _ hx => .inl hx) ?_
    exact RStep.heads (sv' := P.sv) (G' := P.G) hI2 mod_put rfl (hI2.set.mod mod_put (fun x hx h => by rw [List.mem_singleton] at h; subst h; exact HI.out.hd1 (List.mem_append_right _ hx))) (fun x hx => .inl hx) (fun x hx => by simpa using hI2.gs x hx) (hI2.rig.set 4 _)
  first | exact key | exact key.same' ((Mod.refl [] _).drew)

set_option maxHeartbeats 1000000 in
theorem gstep_last {P : Pl} {r : Rg} {l : Int} {k : List Int} {w : World} (hI : IsR w P r) (hs : r.set = some (l, k)) (hl : l = 1) :
    Calls Try.prog 34 #[.pointer (some ⟨P.br, 0, none⟩)] w fun e w' => e = .returned (.int .i64 (gstepF r).1) ∧ RStep w w' P (gstepF r).2 := by
  subst hl
  have hf : gstepF r = (6, gfailF r k) := by unfold gstepF; rw [hs]; rfl
  have hf2 : gfailF { r with set := some (0, k) } k = gfailF r k := rfl
  rw [hf]
  obtain ⟨bc, bk, kv, hsv, hG, hG2, hB, hK, hC, g0, g1, hk⟩ := hI.cut hs
  have c2 := hI.cells.c2
  rw [hsv] at c2
  have hlb := hI.rig.lt
  have d0 := hB.cell (i := 0) rfl
  have d1 := hB.cell (i := 1) rfl
  have e0 := hB.frozen 0
  have hlc := hB.lt
  have hne : P.br ≠ bc := fun e => hI.hd1 (List.mem_append_right _ (e ▸ hG))
  have hne' := Ne.symm hne
  have HI := Lib.hid hI
  have Hs := Lib.hid hs
  have Hsv := Lib.hid hsv
  have HB := Lib.hid hB; have HK := Lib.hid hK; have HC := Lib.hid hC; have Hk := Lib.hid hk; have HG := Lib.hid hG; have HG2 := Lib.hid hG2
  have Hf2 := Lib.hid hf2
  clear hI hs hf hf2 hsv hB hK hC hk hG hG2
  go_enter Try.func34, Try.ntmps34
  go_wp2_with fail
  have hm : Mod [bc] w (w.setCell ⟨bc, 0, none⟩ (.int .i64 0)) := mod_put
  refine (gfail_any (P := P) (r := { r with set := some (0, k) }) k kv bk (HI.out.tick Hs.out Hsv.out (by omega) (by omega)).1 (HK.out.mod' hm (fun h => by simpa using (HG2.out h).2)) (fun h => ⟨?_, ?_, ?_, ?_⟩) Hk.out HC.out).mono ?_
  · have := HI.out.gs bk (HG2.out h).1; simpa using this
  · intro e; exact HI.out.hd1 (List.mem_append_right _ (e ▸ (HG2.out h).1))
  · intro h2; exact HI.out.hd2 bk h2 (HG2.out h).1
  · intro h2
    obtain ⟨i, hi, hx⟩ := mem_getD_flatten.1 h2
    exact HI.out.off i bk (by rw [← HI.out.nF]; exact hi) hx (IsR.G_hd (HG2.out h).1)
  rintro e w2 ⟨rfl, hst⟩
  rw [Hf2.out] at hst
  have Hst := Lib.hid hst
  clear hst hm
  go_wp2_with fail
  go_ret
  refine ⟨rfl, RStep.from (P1 := P) ⟨rfl, rfl⟩ ((mod_put (b := bc)).mono (fun i _ hi => by rw [List.mem_singleton] at hi; subst hi; exact IsR.feet_hd (IsR.G_hd HG.out))) (fun _ hx => .inl hx) Hst.out⟩

theorem gstep_any {P : Pl} {r : Rg} {w : World} (hI : IsR w P r) (hl : r.live) :
    Calls Try.prog 34 #[.pointer (some ⟨P.br, 0, none⟩)] w fun e w' => e = .returned (.int .i64 (gstepF r).1) ∧ RStep w w' P (gstepF r).2 := by
  cases hs : r.set with
  | none => exact gstep_none hI hs
  | some p =>
    obtain ⟨l, k⟩ := p
    have h1 := hl l k hs
    by_cases h2 : l = 1
    · exact gstep_last hI hs h2
    · exact gstep_more hI hs (by omega)

end Go.Proofs.Ytadpeopbfoppjaa

namespace Go.Proofs.Ytadpeopbfoppjaa
open Go.RowKit

def ReachPost (P : Pl) (r : Rg) (n : Int) (ch : Bool) (w : World) (e : Ending) (w' : World) : Prop :=
  ∃ pv, e = .returned (.tuple #[pv, .int .i64 (greachF r n ch).1]) ∧ ((greachF r n ch).1 = 0 → thereF r n = true ∧ pv = .pointer (some ⟨P.ps.getD n.toNat 0, 0, none⟩)) ∧ RStep w w' P (greachF r n ch).2

set_option maxHeartbeats 1000000 in
theorem greach_any {P : Pl} {r : Rg} {w : World} (n : Int) (ch : Bool) (hI : IsR w P r) (hl : r.live) :
    Calls Try.prog 24 #[.pointer (some ⟨P.br, 0, none⟩), .int .i64 n, .bool ch] w (ReachPost P r n ch w) := by
  have HI := Lib.hid hI; clear hI
  have Hl := Lib.hid hl; clear hl
  rcases thereF_cases r n with ⟨i, rfl, hi, ht⟩ | ht
  · have hdr := Lib.hid (HI.out.each i hi)
    obtain ⟨bd, hbd⟩ : ∃ bd, P.ps.getD i 0 = bd := ⟨_, rfl⟩
    have Hbd := Lib.hid hbd
    obtain ⟨D, hD⟩ : ∃ D, r.ds.getD i dv0 = D := ⟨_, rfl⟩
    have HD := Lib.hid hD
    rw [hbd, hD] at hdr
    have hat : Hid (Calls Try.prog 27 #[.pointer (some ⟨P.br, 0, none⟩), .int .i64 i] w fun e w' => e = .returned (.pointer (some ⟨bd, 0, none⟩)) ∧ w = w') := by
      rw [← hbd]; exact gat_there HI.out hi
    clear hbd hD
    have c3 := HI.out.cells.c3
    have hlb := HI.out.cells.lt
    have Ht := Lib.hid ht
    clear ht hi
    cases ho : r.off with
    | true =>
      have hf : greachF r (i : Int) ch = (6, r) := by unfold greachF; rw [Ht.out, ho]; rfl
      have Hf := Lib.hid hf
      rw [ho] at c3
      clear hf ho
      go_enter Try.func24, Try.ntmps24
      go_wp2_with fail
      refine hat.out.mono ?_
      rintro e w1 ⟨rfl, rfl⟩
      go_wp2_with fail
      go_ret2
      exact ⟨.pointer none, by rw [Hf.out]; rfl, fun h => absurd h (by rw [Hf.out]; simp), by rw [Hf.out]; exact .same HI.out (Mod.refl _ _)⟩
    | false =>
      rw [ho] at c3
      cases hd : D.dead with
      | true =>
        have hf : greachF r (i : Int) ch = (7, r) := by
          unfold greachF; rw [Ht.out, ho, Int.toNat_natCast, HD.out, hd]; rfl
        have Hf := Lib.hid hf
        have Hd := Lib.hid hd
        clear hf ho hd
        go_enter Try.func24, Try.ntmps24
        go_wp2_with fail
        refine hat.out.mono ?_
        rintro e w1 ⟨rfl, rfl⟩
        go_wp2_with fail
        refine (ddeadI hdr.out).mono ?_
        rintro e w1 ⟨rfl, rfl⟩
        rw [Hd.out]
        go_wp2_with fail
        go_ret2
        exact ⟨.pointer none, by rw [Hf.out]; rfl, fun h => absurd h (by rw [Hf.out]; simp), by rw [Hf.out]; exact .same HI.out (Mod.refl _ _)⟩
      | false =>
        cases ch with
        | true =>
          have hf : greachF r (i : Int) true = gstepF r := by
            unfold greachF; rw [Ht.out, ho, Int.toNat_natCast, HD.out, hd]; rfl
          have Hf := Lib.hid hf
          have Hd := Lib.hid hd
          clear hf ho hd
          go_enter Try.func24, Try.ntmps24
          go_wp2_with fail
          refine hat.out.mono ?_
          rintro e w1 ⟨rfl, rfl⟩
          go_wp2_with fail
          refine (ddeadI hdr.out).mono ?_
          rintro e w1 ⟨rfl, rfl⟩
          rw [Hd.out]
          go_wp2_with fail
          refine (gstep_any HI.out Hl.out).mono ?_
          rintro e w1 ⟨rfl, hst⟩
          have Hst := Lib.hid hst
          clear hst
          go_wp2_with fail
          go_ret2
          exact ⟨.pointer (some ⟨bd, 0, none⟩), by rw [Hf.out]; rfl, fun _ => ⟨Ht.out, by rw [Int.toNat_natCast, Hbd.out]⟩, by rw [Hf.out]; exact Hst.out⟩
        | false =>
          have hf : greachF r (i : Int) false = (0, r) := by
            unfold greachF; rw [Ht.out, ho, Int.toNat_natCast, HD.out, hd]; rfl
          have Hf := Lib.hid hf
          have Hd := Lib.hid hd
          clear hf ho hd
          go_enter Try.func24, Try.ntmps24
          go_wp2_with fail
          refine hat.out.mono ?_
          rintro e w1 ⟨rfl, rfl⟩
          go_wp2_with fail
          refine (ddeadI hdr.out).mono ?_
          rintro e w1 ⟨rfl, rfl⟩
          rw [Hd.out]
          go_wp2_with fail
          go_ret2
          exact ⟨.pointer (some ⟨bd, 0, none⟩), by rw [Hf.out]; rfl, fun _ => ⟨Ht.out, by rw [Int.toNat_natCast, Hbd.out]⟩, by rw [Hf.out]; exact .same HI.out (Mod.refl _ _)⟩
  · have hf : greachF r n ch = (1, r) := by unfold greachF; rw [ht]; rfl
    have Hf := Lib.hid hf
    clear hf
    go_enter Try.func24, Try.ntmps24
    go_wp2_with fail
    refine (gat_no HI.out ht).mono ?_
    rintro e w1 ⟨rfl, rfl⟩
    go_wp2_with fail
    go_ret2
    exact ⟨.pointer none, by rw [Hf.out]; rfl, fun h => absurd h (by rw [Hf.out]; simp), by rw [Hf.out]; exact .same HI.out (Mod.refl _ _)⟩

theorem greach_none (n : Int) (ch : Bool) (w : World) :
    Calls Try.prog 24 #[.pointer none, .int .i64 n, .bool ch] w fun e w' => e = .returned (.tuple #[.pointer none, .int .i64 1]) ∧ w = w' := by
  go_enter Try.func24, Try.ntmps24
  go_wp2_with fail
  refine (gat_none n _).mono ?_
  rintro e w1 ⟨rfl, rfl⟩
  go_wp2_with fail
  go_ret2
  exact ⟨rfl, rfl⟩

/-- A drive's step within a rig's. -/
theorem RStep.drv {w w1 : World} {P : Pl} {r : Rg} {i : Nat} {d' : Dv} (h : IsR w P r) (hi : i < r.ds.length) (hs : DrvStep w w1 (P.ps.getD i 0) (P.Fs.getD i []) d') : RStep w w1 P (r.put i d') := by
  obtain ⟨F', h1, h2, h3⟩ := hs
  exact ⟨{ P with Fs := P.Fs.set i F' }, ⟨rfl, rfl⟩, h.drive hi h1 h2 h3, h2.mono (fun x _ hx => h.feet_of hi hx), h.drive_feet hi h3⟩

theorem gstep_len (r : Rg) : (gstepF r).2.ds.length = r.ds.length := by
  unfold gstepF
  split
  · rfl
  · split
    · simp [gfailF]
    · rfl
theorem greach_len (r : Rg) (n : Int) (ch : Bool) : (greachF r n ch).2.ds.length = r.ds.length := by
  unfold greachF
  repeat' split
  all_goals first | rfl | exact gstep_len r

def GDoPost (P : Pl) (q : (ByteArray × Int × Int) × Rg) (w : World) (e : Ending) (w' : World) : Prop :=
  e = .returned (.tuple #[.string q.1.1, .int .i64 q.1.2.1, .int .i64 q.1.2.2]) ∧ RStep w w' P q.2

set_option maxHeartbeats 1000000 in
theorem gdo_any {P : Pl} {r : Rg} {w : World} (n k z a l : Int) (s : ByteArray) (hI : IsR w P r) (hl : r.live) (hs : s.size ≤ 9223372036854775807) :
    Calls Try.prog 10 #[.pointer (some ⟨P.br, 0, none⟩), .int .i64 n, .agg #[.int .i64 k, .int .i64 z, .int .i64 a, .int .i64 l], .string s] w (GDoPost P (gdoF r n k z a l s) w) := by
  have HI := Lib.hid hI; clear hI
  have Hl := Lib.hid hl; clear hl
  have hne : (k != 7) = !(k == 7) := rfl
  obtain ⟨c, hc⟩ : ∃ c, (!(k == 7)) = c := ⟨_, rfl⟩
  have hkc : (k != 7) = c := hne.trans hc
  have Hc := Lib.hid hc
  clear hne hc
  have hst0 : ∀ (w1 : World) (q : Rg), RStep (w.alloc (.cells #[.int .i64 k, .int .i64 z, .int .i64 a, .int .i64 l] 34)) w1 P q → RStep w w1 P q := by
    intro w1 q hst
    obtain ⟨P', h1, h2, h3, h4⟩ := hst
    exact ⟨P', h1, h2, ((Mod.refl P.feet w).alloc _).trans' h3, fun x hx => (h4 x hx).imp_right (fun h => by simp at h; omega)⟩
  have Hst0 := Lib.hid hst0
  clear hst0
  have hcs : ∀ (w1 : World) (q : Rg), RStep (w.alloc (.cells #[.int .i64 k, .int .i64 z, .int .i64 a, .int .i64 l] 34)) w1 P q → Blk w1 w.heap.size #[.int .i64 k, .int .i64 z, .int .i64 a, .int .i64 l] 34 := by
    intro w1 q hst
    obtain ⟨P', h1, h2, h3, h4⟩ := hst
    exact h3.blk (Blk.new w _ _) (fun hx => by have := HI.out.lt _ hx; omega)
  go_enter Try.func10, Try.ntmps10
  go_wp2_with fail
  refine (greach_any n c (HI.out.same ((Mod.refl [] w).alloc _)) Hl.out).mono ?_
  rintro e w1 ⟨pv, rfl, hpv, hst⟩
  have hb := hcs _ _ hst
  have q0 := hb.cell (i := 0) rfl
  have q1 := hb.cell (i := 1) rfl
  have q2 := hb.cell (i := 2) rfl
  have q3 := hb.cell (i := 3) rfl
  have hlw := hb.lt
  have Hst : Hid (RStep w w1 P (greachF r n c).2) := Hst0.out _ _ hst
  have Hpv := Lib.hid hpv
  clear hst hpv hb hcs
  by_cases he : (greachF r n c).1 = 0
  · have hf : gdoF r n k z a l s = ((ddoF ((greachF r n c).2.ds.getD n.toNat dv0) k z a l s).1, (greachF r n c).2.put n.toNat (ddoF ((greachF r n c).2.ds.getD n.toNat dv0) k z a l s).2) := by
      unfold gdoF; rw [Hc.out, if_neg (by simpa using he)]
    have Hf := Lib.hid hf
    obtain ⟨ht, rfl⟩ := Hpv.out he
    have hi : n.toNat < r.ds.length := by
      simp only [thereF, Bool.and_eq_true, decide_eq_true_eq] at ht; omega
    have Hi := Lib.hid hi
    obtain ⟨P', h1, h2, h3, h4⟩ := Hst.out
    have H2 := Lib.hid h2
    have hdr := h2.each n.toNat (by rw [greach_len]; exact hi)
    rw [h1.2] at hdr
    have Hdr := Lib.hid hdr
    rw [he]
    clear hf he hi ht hdr h2
    generalize (greachF r n c).2.ds.getD n.toNat dv0 = D at *
    have H1 := Lib.hid h1
    have H3 := Lib.hid h3
    have H4 := Lib.hid h4
    clear h1 h3 h4 hkc
    go_wp2_with fail
    refine (ddoI k z a l s Hdr.out hs).mono ?_
    rintro e w2 ⟨rfl, hst⟩
    have Hst2 := Lib.hid hst
    clear hst
    go_wp2_with fail
    refine bodyPost_ret (results_tmp3 rfl _ _ _) rfl ?_
    rw [Hf.out]
    exact ⟨rfl, RStep.from H1.out H3.out H4.out (RStep.drv H2.out (by rw [greach_len]; exact Hi.out) (by rw [H1.out.2]; exact Hst2.out))⟩
  · have hf : gdoF r n k z a l s = ((ByteArray.empty, 0, (greachF r n c).1), (greachF r n c).2) := by
      unfold gdoF; rw [Hc.out, if_pos he]
    have Hf := Lib.hid hf
    have heb : ((greachF r n c).1 != 0) = true := by simpa using he
    clear hf he hkc
    go_wp2_with fail
    refine bodyPost_ret (results_tmp3 rfl _ _ _) rfl ?_
    rw [Hf.out]
    exact ⟨rfl, Hst.out⟩

theorem gdo_none (n k z a l : Int) (s : ByteArray) (w : World) :
    Calls Try.prog 10 #[.pointer none, .int .i64 n, .agg #[.int .i64 k, .int .i64 z, .int .i64 a, .int .i64 l], .string s] w fun e w' => e = .returned (.tuple #[.string ByteArray.empty, .int .i64 0, .int .i64 1]) ∧ Below w.heap.size w w' := by
  obtain ⟨c, hc⟩ : ∃ c, (k != 7) = c := ⟨_, rfl⟩
  go_enter Try.func10, Try.ntmps10
  go_wp2_with fail
  refine (greach_none n c _).mono ?_
  rintro e w1 ⟨rfl, rfl⟩
  go_wp2_with fail
  refine bodyPost_ret (results_tmp3 rfl _ _ _) rfl ?_
  exact ⟨rfl, (Below.refl _ _).alloc (Nat.le_refl _) _⟩

theorem gflush_none (n : Int) (w : World) : Calls Try.prog 13 #[.pointer none, .int .i64 n] w fun e w' => e = .returned (.int .i64 1) ∧ w = w' := by
  go_enter Try.func13, Try.ntmps13
  go_wp2_with fail
  refine (greach_none n true _).mono ?_
  rintro e w1 ⟨rfl, rfl⟩
  go_wp2_with fail
  go_ret
  exact ⟨rfl, rfl⟩

set_option maxHeartbeats 1000000 in
theorem gflush_any {P : Pl} {r : Rg} {w : World} (n : Int) (hI : IsR w P r) (hl : r.live) :
    Calls Try.prog 13 #[.pointer (some ⟨P.br, 0, none⟩), .int .i64 n] w fun e w' => e = .returned (.int .i64 (gflushF r n).1) ∧ RStep w w' P (gflushF r n).2 := by
  have HI := Lib.hid hI; clear hI
  have Hl := Lib.hid hl; clear hl
  go_enter Try.func13, Try.ntmps13
  go_wp2_with fail
  refine (greach_any n true HI.out Hl.out).mono ?_
  rintro e w1 ⟨pv, rfl, hpv, hst⟩
  have Hst := Lib.hid hst
  have Hpv := Lib.hid hpv
  clear hst hpv
  by_cases he : (greachF r n true).1 = 0
  · have hf : gflushF r n = ((dflushF ((greachF r n true).2.ds.getD n.toNat dv0)).1, (greachF r n true).2.put n.toNat (dflushF ((greachF r n true).2.ds.getD n.toNat dv0)).2) := by
      unfold gflushF; rw [if_neg (by simpa using he)]
    have Hf := Lib.hid hf
    obtain ⟨ht, rfl⟩ := Hpv.out he
    have hi : n.toNat < r.ds.length := by
      simp only [thereF, Bool.and_eq_true, decide_eq_true_eq] at ht; omega
    have Hi := Lib.hid hi
    obtain ⟨P', h1, h2, h3, h4⟩ := Hst.out
    have H2 := Lib.hid h2
    have hdr := h2.each n.toNat (by rw [greach_len]; exact hi)
    rw [h1.2] at hdr
    have Hdr := Lib.hid hdr
    rw [he]
    clear hf he hi ht hdr h2
    generalize (greachF r n true).2.ds.getD n.toNat dv0 = D at *
    have H1 := Lib.hid h1
    have H3 := Lib.hid h3
    have H4 := Lib.hid h4
    clear h1 h3 h4
    go_wp2_with fail
    refine (dflushI Hdr.out).mono ?_
    rintro e w2 ⟨rfl, hst⟩
    have Hst2 := Lib.hid hst
    clear hst
    go_wp2_with fail
    go_ret
    rw [Hf.out]
    exact ⟨rfl, RStep.from H1.out H3.out H4.out (RStep.drv H2.out (by rw [greach_len]; exact Hi.out) (by rw [H1.out.2]; exact Hst2.out))⟩
  · have hf : gflushF r n = ((greachF r n true).1, (greachF r n true).2) := by
      unfold gflushF; rw [if_pos he]
    have Hf := Lib.hid hf
    have heb : ((greachF r n true).1 != 0) = true := by simpa using he
    clear hf he
    go_wp2_with fail
    go_ret
    rw [Hf.out]
    exact ⟨rfl, Hst.out⟩

end Go.Proofs.Ytadpeopbfoppjaa

namespace Go.Proofs.Ytadpeopbfoppjaa
open Go.RowKit

theorem gon_any {P : Pl} {r : Rg} {w : World} (hI : IsR w P r) :
    Calls Try.prog 18 #[.pointer (some ⟨P.br, 0, none⟩)] w fun e w' => e = .returned (.tuple #[]) ∧ RStep w w' P (gonF r) := by
  have c2 := hI.cells.c2
  have c3 := hI.cells.c3
  have f2 := hI.rig.frozen 2
  have f3 := hI.rig.frozen 3
  have hlb := hI.rig.lt
  have HI := Lib.hid hI; clear hI
  go_enter Try.func18, Try.ntmps18
  go_wp2_with fail
  refine bodyPost_end (results_none rfl _ _ _) rfl ⟨rfl, ?_⟩
  have key : RStep w ((w.setCell ⟨P.br, 3, none⟩ (.bool false)).setCell ⟨P.br, 2, none⟩ (.pointer none)) P (gonF r) :=
    RStep.heads (sv' := .pointer none) (G' := []) HI.out (mod_put.trans' mod_put) rfl rfl (by simp) (by simp) ((HI.out.rig.set 3 _).set 2 _)
  first | exact key | exact key.same' ((Mod.refl [] _).drew)

theorem gcrash_none (kv : Value) (w : World) : Calls Try.prog 17 #[.pointer none, kv] w fun e w' => e = .returned (.tuple #[]) ∧ w = w' := by
  go_enter Try.func17, Try.ntmps17
  go_wp2_with fail
  exact bodyPost_end (results_none rfl _ _ _) rfl ⟨rfl, rfl⟩

theorem gcrash_any {P : Pl} {r : Rg} {w : World} (keep : List Int) (kv : Value) (b : Nat) (hI : IsR w P r) (hK : IntsAt w kv keep b) (hb : 0 < keep.length → b < w.heap.size ∧ b ≠ P.br ∧ b ∉ P.own ∧ b ∉ P.Fs.flatten) (hk : KeepOk keep) (hc : CapOk kv) :
    Calls Try.prog 17 #[.pointer (some ⟨P.br, 0, none⟩), kv] w fun e w' => e = .returned (.tuple #[]) ∧ RStep w w' P (gcrashF r keep) := by
  have HI := Lib.hid hI; clear hI
  have HK := Lib.hid hK; have Hb := Lib.hid hb; have Hk := Lib.hid hk; have Hc := Lib.hid hc
  clear hK hb hk hc
  go_enter Try.func17, Try.ntmps17
  go_wp2_with fail
  refine (gfail_any keep kv b HI.out HK.out Hb.out Hk.out Hc.out).mono ?_
  rintro e w1 ⟨rfl, P', h1, h2, h3, h4⟩
  have c3 := h2.cells.c3
  have f3 := h2.rig.frozen 3
  have hlb := h2.rig.lt
  rw [h1.1] at c3 f3 hlb
  have H1 := Lib.hid h1; have H2 := Lib.hid h2; have H3 := Lib.hid h3; have H4 := Lib.hid h4
  clear h1 h2 h3 h4
  go_wp2_with fail
  refine bodyPost_end (results_none rfl _ _ _) rfl ⟨rfl, RStep.from H1.out H3.out H4.out ?_⟩
  have key : RStep w1 (w1.setCell ⟨P'.br, 3, none⟩ (.bool false)) P' (gcrashF r keep) :=
    RStep.heads (sv' := P'.sv) (G' := P'.G) H2.out mod_put rfl (H2.out.set.mod mod_put (fun x hx h => by rw [List.mem_singleton] at h; subst h; exact H2.out.hd1 (List.mem_append_right _ hx))) (fun x hx => .inl hx) (fun x hx => by simpa using H2.out.gs x hx) (H2.out.rig.set 3 _)
  rw [H1.out.1] at key
  first | exact key | exact key.same' ((Mod.refl [] _).drew)

theorem gcut_none (n : Int) (kv : Value) (w : World) : Calls Try.prog 9 #[.pointer none, .int .i64 n, kv] w fun e w' => e = .returned (.tuple #[]) ∧ w = w' := by
  go_enter Try.func9, Try.ntmps9
  go_wp2_with fail
  exact bodyPost_end (results_none rfl _ _ _) rfl ⟨rfl, rfl⟩

set_option maxHeartbeats 1000000 in
theorem gcut_any {P : Pl} {r : Rg} {w : World} (n : Int) (keep : List Int) (kv : Value) (b : Nat) (hI : IsR w P r) (hn : n ≤ 9223372036854775807) (hK : IntsAt w kv keep b) (hk : KeepOk keep) :
    Calls Try.prog 9 #[.pointer (some ⟨P.br, 0, none⟩), .int .i64 n, kv] w fun e w' => e = .returned (.tuple #[]) ∧ RStep w w' P (gcutF r n keep) := by
  have HI := Lib.hid hI; clear hI
  have HK := Lib.hid hK; have Hk := Lib.hid hk
  have hkl := hk.1
  clear hK hk
  have hfin : ∀ (m : Int) (w2 : World) (v' : Value), 0 ≤ m → m ≤ 9223372036854775807 → IntsNew w w2 v' keep → m = max n 1 →
      RStep w ((w2.alloc (.cells #[.int .i64 m, v'] 60)).setCell ⟨P.br, 2, none⟩ (.pointer (some ⟨w2.heap.size, 0, none⟩))) P (gcutF r n keep) := by
    intro m w2 v' hm0 hm1 hnew hmm
    have hmW : Mod [P.br] w ((w2.alloc (.cells #[.int .i64 m, v'] 60)).setCell ⟨P.br, 2, none⟩ (.pointer (some ⟨w2.heap.size, 0, none⟩))) := ((hnew.2.alloc _).mono (by simp)).set (.inl (by simp)) _
    have hrb : Blk (w2.alloc (.cells #[.int .i64 m, v'] 60)) P.br #[P.dv, .int .i64 r.bl, P.sv, .bool r.off, .int .i64 r.cnt] 54 := (hnew.2.blk HI.out.rig (by simp)).alloc _
    have hne : P.br ≠ w2.heap.size := by have := hnew.2.size; have := HI.out.rig.lt; omega
    have hcb : Blk ((w2.alloc (.cells #[.int .i64 m, v'] 60)).setCell ⟨P.br, 2, none⟩ (.pointer (some ⟨w2.heap.size, 0, none⟩))) w2.heap.size #[.int .i64 m, v'] 60 := (Blk.new w2 _ _).set_other (by exact hne) _
    obtain ⟨bk, hi, ho⟩ := ints_owned hnew.1
    have hbr := HI.out.rig.lt
    refine RStep.heads (sv' := .pointer (some ⟨w2.heap.size, 0, none⟩)) (G' := w2.heap.size :: v'.ownBlock.toList) HI.out hmW rfl ?_ ?_ ?_ (hrb.set 2 _)
    · refine ⟨w2.heap.size, bk, v', rfl, by simp, fun h => ⟨?_, ?_⟩, ?_, ?_, cap_owned hnew.1, by omega, by omega, Hk.out⟩
      · rw [(ho h).1]; simp
      · have := ownsRow_lt hnew.1 (ho h).1; omega
      · rw [← hmm]; exact hcb
      · exact (hi.mod' ((Mod.refl [] w2).alloc _) (by simp)).mod' (mod_put (b := P.br)) (fun h => by
          have := (ho h).2
          rw [List.mem_singleton]; omega)
    · intro x hx
      rcases List.mem_cons.1 hx with rfl | hx
      · exact .inr hnew.2.size
      · exact .inr ((hnew.1.lt x (Option.mem_toList.1 hx)).1)
    · intro x hx
      rcases List.mem_cons.1 hx with rfl | hx
      · exact hcb.lt
      · have := ownsRow_lt hnew.1 (Option.mem_toList.1 hx)
        simp; omega
  have Hfin := Lib.hid hfin
  clear hfin
  have hlb := HI.out.rig.lt
  have c2 := HI.out.cells.c2
  have f2 := HI.out.rig.frozen 2
  by_cases h1 : 1 ≤ n
  all_goals
    go_enter Try.func9, Try.ntmps9
    go_wp2_with fail
    refine (iclone_any kv keep b w HK.out hkl).mono ?_
    rintro e w2 ⟨v', rfl, hnew⟩
    have g2 : w2.cell? ⟨P.br, 2, none⟩ = some P.sv := (hnew.2.cell hlb (by simp)).trans c2
    have k2 : w2.frozen? ⟨P.br, 2, none⟩ = false := (hnew.2.frozen hlb (by simp)).trans f2
    have hlb2 : P.br < w2.heap.size := Nat.lt_of_lt_of_le hlb hnew.2.size
    obtain ⟨va, vc, rfl⟩ : ∃ va vc, v' = .slice va keep.length vc := by
      obtain ⟨_, ⟨a, c, h, _⟩, _⟩ := ints_owned hnew.1
      exact ⟨a, c, h⟩
    have Hnew := Lib.hid hnew
    clear hnew
    go_wp2_with fail
    refine bodyPost_end (results_none rfl _ _ _) rfl ⟨rfl, ?_⟩
    have hsw := fun (o : Obj) (v : Value) => World.setCell_alloc_past (w := w2) o P.br 2 v hlb2
    have Hsw := Lib.hid hsw
    clear hsw
    first
      | exact Hfin.out n w2 (.slice va keep.length vc) (by omega) (by omega) Hnew.out (by omega)
      | exact Hfin.out 1 w2 (.slice va keep.length vc) (by omega) (by omega) Hnew.out (by omega)
      | (rw [← Hsw.out]; exact Hfin.out n w2 (.slice va keep.length vc) (by omega) (by omega) Hnew.out (by omega))
      | (rw [← Hsw.out]; exact Hfin.out 1 w2 (.slice va keep.length vc) (by omega) (by omega) Hnew.out (by omega))

end Go.Proofs.Ytadpeopbfoppjaa
