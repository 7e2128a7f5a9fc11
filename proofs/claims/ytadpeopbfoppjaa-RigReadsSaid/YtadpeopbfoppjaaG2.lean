/-
  The drive's contracts by the blocks it lies in; walks of the rig's Zone, Dead, Kill, On.
-/
import Derived.Test.YtadpeopbfoppjaaG1
import Derived.BigGuardPart
namespace Go.Proofs.Ytadpeopbfoppjaa
open Go.RowKit

theorem ddoI {w : World} {bd : Nat} {F : List Nat} {d : Dv} (k z a n : Int) (s : ByteArray) (h : DrvIn w bd F d) (hs : s.size ≤ 9223372036854775807) :
    Calls Try.prog 25 #[.pointer (some ⟨bd, 0, none⟩), .agg #[.int .i64 k, .int .i64 z, .int .i64 a, .int .i64 n], .string s] w fun e w' =>
      e = .returned (.tuple #[.string (ddoF d k z a n s).1.1, .int .i64 (ddoF d k z a n s).1.2.1, .int .i64 (ddoF d k z a n s).1.2.2]) ∧ DrvStep w w' bd F (ddoF d k z a n s).2 := by
  obtain ⟨bm, bz, bb, bl, vs, hI, hok, rfl⟩ := h
  exact (ddo_any bd bm bz bb bl d vs k z a n s w hI hok hs).mono fun _ _ ⟨he, vs', hI', hm, hf⟩ => ⟨he, _, ⟨bm, bz, bb, bl, vs', hI', ok_ddo hok k z a n s, rfl⟩, hm, hf⟩

theorem dflushI {w : World} {bd : Nat} {F : List Nat} {d : Dv} (h : DrvIn w bd F d) :
    Calls Try.prog 26 #[.pointer (some ⟨bd, 0, none⟩)] w fun e w' => e = .returned (.int .i64 (dflushF d).1) ∧ DrvStep w w' bd F (dflushF d).2 := by
  obtain ⟨bm, bz, bb, bl, vs, hI, hok, rfl⟩ := h
  exact (dflush_any bd bm bz bb bl d vs w hI hok.m.n2).mono fun _ _ ⟨he, hI', hm⟩ => ⟨he, _, ⟨bm, bz, bb, bl, vs, hI', ok_dflush hok, rfl⟩, hm.mono (fun i _ hi => by simp at hi; subst hi; exact feet_head (by simp)), fun _ hx => .inl hx⟩

theorem dloseI {w : World} {bd b : Nat} {F : List Nat} {d : Dv} (keep : List Int) (kv : Value) (h : DrvIn w bd F d) (hK : IntsAt w kv keep b) (hb : 0 < keep.length → b ∉ F ∧ b < w.heap.size) (hk : KeepOk keep) :
    Calls Try.prog 40 #[.pointer (some ⟨bd, 0, none⟩), kv] w fun e w' => e = .returned (.tuple #[]) ∧ DrvStep w w' bd F (dloseF d keep) := by
  have hlt := h.lt
  obtain ⟨bm, bz, bb, bl, vs, hI, hok, rfl⟩ := h
  exact (dlose_any bd bm bz bb bl b d vs keep kv w hI hok hK hb (by have := hk.1; omega) hk.2 hlt).mono fun _ _ ⟨he, vs', hI', hm, hf⟩ => ⟨he, _, ⟨bm, bz, bb, bl, vs', hI', ok_dlose hok keep, rfl⟩, hm, fun x hx => .inl (hf x hx)⟩

theorem ddieI {w : World} {bd : Nat} {F : List Nat} {d : Dv} (h : DrvIn w bd F d) :
    Calls Try.prog 28 #[.pointer (some ⟨bd, 0, none⟩)] w fun e w' => e = .returned (.tuple #[]) ∧ DrvStep w w' bd F { d with dead := true } := by
  obtain ⟨bm, bz, bb, bl, vs, hI, hok, rfl⟩ := h
  exact (die_any bd bm bz bb bl d vs w hI).mono fun _ _ ⟨he, hI', hm⟩ => ⟨he, _, ⟨bm, bz, bb, bl, vs, hI', ⟨hok.m, hok.nb, hok.nl, hok.each⟩, rfl⟩, hm.mono (fun i _ hi => by simp at hi; subst hi; exact feet_head (by simp)), fun _ hx => .inl hx⟩

theorem ddeadI {w : World} {bd : Nat} {F : List Nat} {d : Dv} (h : DrvIn w bd F d) :
    Calls Try.prog 29 #[.pointer (some ⟨bd, 0, none⟩)] w fun e w' => e = .returned (.bool d.dead) ∧ w = w' := by
  obtain ⟨bm, bz, bb, bl, vs, hI, hok, rfl⟩ := h
  exact dead_any bd bm bz bb bl d vs w hI

theorem dzoneI {w : World} {bd : Nat} {F : List Nat} {d : Dv} (z : Int) (h : DrvIn w bd F d) :
    Calls Try.prog 30 #[.pointer (some ⟨bd, 0, none⟩), .int .i64 z] w fun e w' => e = .returned (.tuple #[zoneV (getF d.m z).1, .bool (getF d.m z).2]) ∧ Below w.heap.size w w' := by
  obtain ⟨bm, bz, bb, bl, vs, hI, hok, rfl⟩ := h
  exact dzone_any bd bm bz bb bl d vs z w hI

theorem dnewI (z b o a : Int) (w : World) (h : newOk z b o a = true) :
    Calls Try.prog 22 #[.int .i64 z, .int .i64 b, .int .i64 o, .int .i64 a] w fun e w' => ∃ bd F, e = .returned (.tuple #[.pointer (some ⟨bd, 0, none⟩), .int .i64 0]) ∧ DrvIn w' bd F (dnewF z b o a) ∧ Mod [] w w' ∧ ∀ x ∈ F, w.heap.size ≤ x :=
  (dnew_ok z b o a w h).mono fun _ _ ⟨bd, bm, bz, bb, bl, vs, he, hI, hm, hlo⟩ => ⟨bd, _, he, ⟨bm, bz, bb, bl, vs, hI, ok_dnew h, rfl⟩, hm, hlo⟩

/-- The end of Zone: its result's block, what the call has left. -/
theorem zone_block {w w1 : World} (hb : Below (w.alloc (.cells #[.int .i64 0, .int .i64 0] 45)).heap.size (w.alloc (.cells #[.int .i64 0, .int .i64 0] 45)) w1) :
    w1.cell? ⟨w.heap.size, 0, none⟩ = some (.int .i64 0) ∧ w1.cell? ⟨w.heap.size, 1, none⟩ = some (.int .i64 0) ∧ w1.frozen? ⟨w.heap.size, 0, none⟩ = false ∧ w1.frozen? ⟨w.heap.size, 1, none⟩ = false ∧ w.heap.size < w1.heap.size ∧ Below w.heap.size w w1 := by
  have hbn : Blk w1 w.heap.size #[.int .i64 0, .int .i64 0] 45 := (Mod.of_below hb []).blk (Blk.new w _ _) (by simp)
  exact ⟨hbn.cell (i := 0) rfl, hbn.cell (i := 1) rfl, hbn.frozen 0, hbn.frozen 1, hbn.lt, ((Below.refl _ _).alloc (Nat.le_refl _) _).trans (hb.mono (by simp))⟩

theorem gzone_none (n z : Int) (w : World) : Calls Try.prog 16 #[.pointer none, .int .i64 n, .int .i64 z] w fun e w' => e = .returned (.tuple #[zoneV (0, 0), .bool false]) ∧ Below w.heap.size w w' := by
  go_enter Try.func16, Try.ntmps16
  go_wp2_with fail
  refine (gat_none n _).mono ?_
  rintro e w1 ⟨rfl, rfl⟩
  go_wp2_with fail
  refine (dzone_none z _).mono ?_
  rintro e w1 ⟨rfl, hb⟩
  obtain ⟨q0, q1, f0, f1, hlw, hb2⟩ := zone_block hb
  have Hb := Lib.hid hb2
  clear hb hb2
  have hz : zoneV (0, 0) = .agg #[.int .i64 0, .int .i64 0] := rfl
  rw [hz]
  clear hz
  go_wp2_with fail
  exact bodyPost_ret (v := .tuple #[.agg #[.int .i64 0, .int .i64 0], .bool false]) (by simp [*, results, Try.results16, go_sem]) rfl ⟨rfl, (Hb.out.setCell (Nat.le_refl _) _).setCell (Nat.le_refl _) _⟩

theorem gzone_any {P : Pl} {r : Rg} {w : World} (n z : Int) (hI : IsR w P r) :
    Calls Try.prog 16 #[.pointer (some ⟨P.br, 0, none⟩), .int .i64 n, .int .i64 z] w fun e w' => e = .returned (.tuple #[zoneV (gzoneF r n z).1, .bool (gzoneF r n z).2]) ∧ Below w.heap.size w w' := by
  have HI := Lib.hid hI; clear hI
  rcases thereF_cases r n with ⟨i, rfl, hi, ht⟩ | ht
  · have hf : gzoneF r (i : Int) z = getF (r.ds.getD i dv0).m z := by rw [gzoneF, ht, if_pos rfl, Int.toNat_natCast]
    rw [hf]
    clear hf ht
    have hdr := Lib.hid (HI.out.each i hi)
    generalize r.ds.getD i dv0 = D at hdr ⊢
    go_enter Try.func16, Try.ntmps16
    go_wp2_with fail
    refine (gat_there (HI.out.same ((Mod.refl [] w).alloc _)) hi).mono ?_
    rintro e w1 ⟨rfl, rfl⟩
    generalize P.ps.getD i 0 = bd at hdr ⊢
    go_wp2_with fail
    refine (dzoneI z (hdr.out.mod ((Mod.refl [] w).alloc _) (by simp))).mono ?_
    rintro e w1 ⟨rfl, hb⟩
    obtain ⟨q0, q1, f0, f1, hlw, hb2⟩ := zone_block hb
    have Hb := Lib.hid hb2
    clear hb hb2 hdr
    obtain ⟨r1, r2, r3, hr⟩ : ∃ r1 r2 r3, getF D.m z = ((r1, r2), r3) := ⟨_, _, _, rfl⟩
    have Hr := Lib.hid hr
    have hz : zoneV (r1, r2) = .agg #[.int .i64 r1, .int .i64 r2] := rfl
    rw [hr, hz]
    clear hz hr
    go_wp2_with fail
    exact bodyPost_ret (v := .tuple #[.agg #[.int .i64 r1, .int .i64 r2], .bool r3]) (by simp [*, results, Try.results16, go_sem]) rfl ⟨by rw [Hr.out], (Hb.out.setCell (Nat.le_refl _) _).setCell (Nat.le_refl _) _⟩
  · have hf : gzoneF r n z = ((0, 0), false) := by rw [gzoneF, ht, if_neg (by decide)]
    rw [hf]
    clear hf
    go_enter Try.func16, Try.ntmps16
    go_wp2_with fail
    refine (gat_no (HI.out.same ((Mod.refl [] w).alloc _)) ht).mono ?_
    rintro e w1 ⟨rfl, rfl⟩
    go_wp2_with fail
    refine (dzone_none z _).mono ?_
    rintro e w1 ⟨rfl, hb⟩
    obtain ⟨q0, q1, f0, f1, hlw, hb2⟩ := zone_block hb
    have Hb := Lib.hid hb2
    clear hb hb2
    have hz : zoneV (0, 0) = .agg #[.int .i64 0, .int .i64 0] := rfl
    rw [hz]
    clear hz
    go_wp2_with fail
    exact bodyPost_ret (v := .tuple #[.agg #[.int .i64 0, .int .i64 0], .bool false]) (by simp [*, results, Try.results16, go_sem]) rfl ⟨rfl, (Hb.out.setCell (Nat.le_refl _) _).setCell (Nat.le_refl _) _⟩

theorem gdead_none (n : Int) (w : World) : Calls Try.prog 15 #[.pointer none, .int .i64 n] w fun e w' => e = .returned (.bool true) ∧ w = w' := by
  go_enter Try.func15, Try.ntmps15
  go_wp2_with fail
  refine (gat_none n _).mono ?_
  rintro e w1 ⟨rfl, rfl⟩
  go_wp2_with fail
  go_ret
  exact ⟨rfl, rfl⟩

theorem gdead_any {P : Pl} {r : Rg} {w : World} (n : Int) (hI : IsR w P r) :
    Calls Try.prog 15 #[.pointer (some ⟨P.br, 0, none⟩), .int .i64 n] w fun e w' => e = .returned (.bool (gdeadF r n)) ∧ w = w' := by
  have HI := Lib.hid hI; clear hI
  rcases thereF_cases r n with ⟨i, rfl, hi, ht⟩ | ht
  · have hf : gdeadF r (i : Int) = (r.ds.getD i dv0).dead := by rw [gdeadF, ht, if_pos rfl, Int.toNat_natCast]
    rw [hf]
    clear hf ht
    have hdr := Lib.hid (HI.out.each i hi)
    generalize r.ds.getD i dv0 = D at hdr ⊢
    go_enter Try.func15, Try.ntmps15
    go_wp2_with fail
    refine (gat_there HI.out hi).mono ?_
    rintro e w1 ⟨rfl, rfl⟩
    go_wp2_with fail
    refine (ddeadI hdr.out).mono ?_
    rintro e w1 ⟨rfl, rfl⟩
    obtain ⟨q, hq⟩ : ∃ q, D.dead = q := ⟨_, rfl⟩
    have Hq := Lib.hid hq
    rw [hq]
    clear hq
    go_wp2_with fail
    go_ret
    exact ⟨by rw [Hq.out]; rfl, rfl⟩
  · have hf : gdeadF r n = true := by rw [gdeadF, ht, if_neg (by decide)]
    rw [hf]
    clear hf
    go_enter Try.func15, Try.ntmps15
    go_wp2_with fail
    refine (gat_no HI.out ht).mono ?_
    rintro e w1 ⟨rfl, rfl⟩
    go_wp2_with fail
    go_ret
    exact ⟨rfl, rfl⟩

theorem gkill_none (n : Int) (w : World) : Calls Try.prog 14 #[.pointer none, .int .i64 n] w fun e w' => e = .returned (.tuple #[]) ∧ w = w' := by
  go_enter Try.func14, Try.ntmps14
  go_wp2_with fail
  refine (gat_none n _).mono ?_
  rintro e w1 ⟨rfl, rfl⟩
  go_wp2_with fail
  refine (die_none _).mono ?_
  rintro e w1 ⟨rfl, rfl⟩
  go_wp2_with fail
  exact bodyPost_end (results_none rfl _ _ _) rfl ⟨rfl, rfl⟩

theorem gkill_any {P : Pl} {r : Rg} {w : World} (n : Int) (hI : IsR w P r) :
    Calls Try.prog 14 #[.pointer (some ⟨P.br, 0, none⟩), .int .i64 n] w fun e w' => e = .returned (.tuple #[]) ∧ RStep w w' P (gkillF r n) := by
  have HI := Lib.hid hI; clear hI
  rcases thereF_cases r n with ⟨i, rfl, hi, ht⟩ | ht
  · have hf : gkillF r (i : Int) = r.put i { r.ds.getD i dv0 with dead := true } := by rw [gkillF, ht, if_pos rfl, Int.toNat_natCast]
    rw [hf]
    clear hf
    go_enter Try.func14, Try.ntmps14
    go_wp2_with fail
    refine (gat_there HI.out hi).mono ?_
    rintro e w1 ⟨rfl, rfl⟩
    go_wp2_with fail
    refine (ddieI (HI.out.each i hi)).mono ?_
    rintro e w1 ⟨rfl, F', hd, hm, hF⟩
    have Hd := Lib.hid hd; have Hm := Lib.hid hm
    clear hd hm
    go_wp2_with fail
    exact bodyPost_end (results_none rfl _ _ _) rfl ⟨rfl, { P with Fs := P.Fs.set i F' }, ⟨rfl, rfl⟩, HI.out.drive hi Hd.out Hm.out hF, Hm.out.mono (fun x _ hx => HI.out.feet_of hi hx), HI.out.drive_feet hi hF⟩
  · have hf : gkillF r n = r := by rw [gkillF, ht, if_neg (by decide)]
    rw [hf]
    clear hf
    go_enter Try.func14, Try.ntmps14
    go_wp2_with fail
    refine (gat_no HI.out ht).mono ?_
    rintro e w1 ⟨rfl, rfl⟩
    go_wp2_with fail
    refine (die_none _).mono ?_
    rintro e w1 ⟨rfl, rfl⟩
    go_wp2_with fail
    exact bodyPost_end (results_none rfl _ _ _) rfl ⟨rfl, .same HI.out (Mod.refl _ _)⟩

theorem gon_none (w : World) : Calls Try.prog 18 #[.pointer none] w fun e w' => e = .returned (.tuple #[]) ∧ w = w' := by
  go_enter Try.func18, Try.ntmps18
  go_wp2_with fail
  exact bodyPost_end (results_none rfl _ _ _) rfl ⟨rfl, rfl⟩

end Go.Proofs.Ytadpeopbfoppjaa
