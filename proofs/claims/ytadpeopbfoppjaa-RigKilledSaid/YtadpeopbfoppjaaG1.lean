/-
  Walks of the rig's small functions.
  The drive's contracts by the blocks it lies in; walks of the rig's Zone, Dead, Kill, On.
  Clone of numbers; the kept list turned by a drive's place.
-/
import Derived.Test.YtadpeopbfoppjaaG0
import Derived.BigGuardPart
namespace Go.Proofs.Ytadpeopbfoppjaa
open Go.RowKit

structure RCells (w : World) (P : Pl) (r : Rg) : Prop where
  c0 : w.cell? ⟨P.br, 0, none⟩ = some P.dv
  c1 : w.cell? ⟨P.br, 1, none⟩ = some (.int .i64 r.bl)
  c2 : w.cell? ⟨P.br, 2, none⟩ = some P.sv
  c3 : w.cell? ⟨P.br, 3, none⟩ = some (.bool r.off)
  c4 : w.cell? ⟨P.br, 4, none⟩ = some (.int .i64 r.cnt)
  lt : P.br < w.heap.size

theorem IsR.cells {w : World} {P : Pl} {r : Rg} (h : IsR w P r) : RCells w P r :=
  ⟨h.rig.cell rfl, h.rig.cell rfl, h.rig.cell rfl, h.rig.cell rfl, h.rig.cell rfl, h.rig.lt⟩

/-- The drives' slice. -/
theorem IsR.slice {w : World} {P : Pl} {r : Rg} (h : IsR w P r) : ∃ (a : Option Addr) (c : Nat), P.dv = .slice a r.ds.length c ∧
    ∀ i, i < r.ds.length → ∃ g, a = some ⟨g, 0, none⟩ ∧ g < w.heap.size ∧ w.cell? ⟨g, i, none⟩ = some (.pointer (some ⟨P.ps.getD i 0, 0, none⟩)) := by
  have hrow := h.row
  obtain ⟨hl, ⟨h1, h2⟩ | ⟨g, cap, cur, h1, h2⟩⟩ := hrow
  · exact ⟨none, 0, by rw [h1, h2], fun i hi => by omega⟩
  · refine ⟨_, cap, h1, fun i hi => ⟨g, rfl, ownsRow_lt h.row (by rw [h1]; rfl), ?_⟩⟩
    have hc := h.row.cells (g := g) (by rw [h1]; rfl) i (.pointer (some ⟨P.ps.getD i 0, 0, none⟩)) (by
      have : i < P.ps.length := by rw [h.np]; exact hi
      simp [List.getD_eq_getElem?_getD, this])
    rwa [Addr.add_lit, Nat.zero_add] at hc

def gatV (P : Pl) (r : Rg) (n : Int) : Value := if thereF r n then .pointer (some ⟨P.ps.getD n.toNat 0, 0, none⟩) else .pointer none

theorem gat_none (n : Int) (w : World) : Calls Try.prog 27 #[.pointer none, .int .i64 n] w fun e w' => e = .returned (.pointer none) ∧ w = w' := by
  go_enter Try.func27, Try.ntmps27
  go_wp2
  go_ret
  exact ⟨rfl, rfl⟩

theorem thereF_nat {r : Rg} {i : Nat} (h : i < r.ds.length) : thereF r (i : Int) = true := by
  simp only [thereF, Bool.and_eq_true, decide_eq_true_eq]; omega
theorem thereF_no {r : Rg} {n : Int} (h : n < 0 ∨ (r.ds.length : Int) ≤ n) : thereF r n = false := by
  simp only [thereF, Bool.and_eq_false_iff, decide_eq_false_iff_not]; omega
theorem thereF_cases (r : Rg) (n : Int) : (∃ i : Nat, n = i ∧ i < r.ds.length ∧ thereF r n = true) ∨ thereF r n = false := by
  cases h : thereF r n with
  | false => exact .inr rfl
  | true =>
    simp only [thereF, Bool.and_eq_true, decide_eq_true_eq] at h
    exact .inl ⟨n.toNat, by omega, by omega, rfl⟩

theorem gat_there {P : Pl} {r : Rg} {i : Nat} {w : World} (hI : IsR w P r) (h2 : i < r.ds.length) :
    Calls Try.prog 27 #[.pointer (some ⟨P.br, 0, none⟩), .int .i64 i] w fun e w' => e = .returned (.pointer (some ⟨P.ps.getD i 0, 0, none⟩)) ∧ w = w' := by
  have c0 := hI.cells.c0
  have hll := hI.len
  obtain ⟨a, c, hd, hs⟩ := hI.slice
  rw [hd] at c0
  obtain ⟨g, rfl, hg, hc⟩ := hs i h2
  have hdd : decide (r.ds.length ≤ i) = false := by simpa using h2
  clear hI hd hs
  go_enter Try.func27, Try.ntmps27
  go_wp2
  go_ret
  exact ⟨rfl, rfl⟩

theorem gat_no {P : Pl} {r : Rg} {n : Int} {w : World} (hI : IsR w P r) (h : thereF r n = false) :
    Calls Try.prog 27 #[.pointer (some ⟨P.br, 0, none⟩), .int .i64 n] w fun e w' => e = .returned (.pointer none) ∧ w = w' := by
  have c0 := hI.cells.c0
  have hll := hI.len
  obtain ⟨a, c, hd, hs⟩ := hI.slice
  rw [hd] at c0
  by_cases h1 : n < 0
  · clear hI hd hs h
    go_enter Try.func27, Try.ntmps27
    go_wp2
    go_ret
    exact ⟨rfl, rfl⟩
  · obtain ⟨i, rfl⟩ := Int.eq_ofNat_of_zero_le (show 0 ≤ n by omega)
    have h2 : ¬ i < r.ds.length := fun h2 => by rw [thereF_nat h2] at h; cases h
    have hdd : decide (r.ds.length ≤ i) = true := by simpa using h2
    clear hI hd hs h
    go_enter Try.func27, Try.ntmps27
    go_wp2
    go_ret
    exact ⟨rfl, rfl⟩

theorem goff_none (w : World) : Calls Try.prog 11 #[.pointer none] w fun e w' => e = .returned (.bool false) ∧ w = w' := by
  go_enter Try.func11, Try.ntmps11
  go_wp2
  go_ret
  exact ⟨rfl, rfl⟩
theorem goff_any {P : Pl} {r : Rg} {w : World} (hI : IsR w P r) : Calls Try.prog 11 #[.pointer (some ⟨P.br, 0, none⟩)] w fun e w' => e = .returned (.bool r.off) ∧ w = w' := by
  have c3 := hI.cells.c3
  clear hI
  go_enter Try.func11, Try.ntmps11
  go_wp2
  go_ret
  exact ⟨rfl, rfl⟩

theorem gdrives_none (w : World) : Calls Try.prog 19 #[.pointer none] w fun e w' => e = .returned (.int .i64 0) ∧ w = w' := by
  go_enter Try.func19, Try.ntmps19
  go_wp2
  go_ret
  exact ⟨rfl, rfl⟩
theorem gdrives_any {P : Pl} {r : Rg} {w : World} (hI : IsR w P r) : Calls Try.prog 19 #[.pointer (some ⟨P.br, 0, none⟩)] w fun e w' => e = .returned (.int .i64 (r.ds.length : Int)) ∧ w = w' := by
  have c0 := hI.cells.c0
  obtain ⟨a, c, hd, hs⟩ := hI.slice
  rw [hd] at c0
  clear hI hd hs
  go_enter Try.func19, Try.ntmps19
  go_wp2
  go_ret
  exact ⟨rfl, rfl⟩

theorem gcount_none (w : World) : Calls Try.prog 12 #[.pointer none] w fun e w' => e = .returned (.int .i64 0) ∧ w = w' := by
  go_enter Try.func12, Try.ntmps12
  go_wp2
  go_ret
  exact ⟨rfl, rfl⟩
theorem gcount_any {P : Pl} {r : Rg} {w : World} (hI : IsR w P r) : Calls Try.prog 12 #[.pointer (some ⟨P.br, 0, none⟩)] w fun e w' => e = .returned (.int .i64 r.cnt) ∧ w = w' := by
  have c4 := hI.cells.c4
  clear hI
  go_enter Try.func12, Try.ntmps12
  go_wp2
  go_ret
  exact ⟨rfl, rfl⟩

theorem gblocks_none (w : World) : Calls Try.prog 20 #[.pointer none] w fun e w' => e = .returned (.int .i64 0) ∧ w = w' := by
  go_enter Try.func20, Try.ntmps20
  go_wp2
  go_ret
  exact ⟨rfl, rfl⟩
theorem gblocks_any {P : Pl} {r : Rg} {w : World} (hI : IsR w P r) : Calls Try.prog 20 #[.pointer (some ⟨P.br, 0, none⟩)] w fun e w' => e = .returned (.int .i64 r.bl) ∧ w = w' := by
  have c1 := hI.cells.c1
  clear hI
  go_enter Try.func20, Try.ntmps20
  go_wp2
  go_ret
  exact ⟨rfl, rfl⟩

end Go.Proofs.Ytadpeopbfoppjaa

namespace Go.Proofs.Ytadpeopbfoppjaa
open Go.RowKit

theorem ddoI {w : World} {bd : Nat} {F : List Nat} {d : Dv} (k z a n : Int) (s : ByteArray) (h : DrvIn w bd F d) (hs : s.size ≤ 9223372036854775807) :
    Calls Try.prog 25 #[.pointer (some ⟨bd, 0, none⟩), .agg #[.int .i64 k, .int .i64 z, .int .i64 a, .int .i64 n], .string s] w fun e w' =>
      e = .returned (.tuple #[.string (ddoF d k z a n s).1.1, .int .i64 (ddoF d k z a n s).1.2.1, .int .i64 (ddoF d k z a n s).1.2.2]) ∧ DrvStep w w' bd F (ddoF d k z a n s).2 := by
  obtain ⟨bm, bz, bb, bl, vs, hI, hok, rfl⟩ := h
  exact (ddo_any bd bm bz bb bl d vs k z a n s w hI hok hs).mono fun _ _ ⟨he, vs', hI', hm, hf⟩ => ⟨he, _, ⟨bm, bz, bb, bl, vs', hI', ok_ddo hok k z a n s, rfl⟩, hm, hf⟩

theorem dflushI {w : World} {bd : Nat} {F : List Nat} {d : Dv} (h : DrvIn w bd F d) :
    Calls Try.prog 26 #[.pointer (some ⟨bd, 0, none⟩)] w fun e w' => e = .returned (.int .i64 (dflushF d).1) ∧ DrvStep w w' bd F (dflushF d).2 := by
  obtain ⟨bm, bz, bb, bl, vs, hI, hok, rfl⟩ := h
  exact (dflush_any bd bm bz bb bl d vs w hI hok.m.n2).mono fun _ _ ⟨he, hI', hm⟩ => ⟨he, _, ⟨bm, bz, bb, bl, vs, hI', ok_dflush hok, rfl⟩, hm.mono (fun i _ hi => by simp at hi; subst hi; exact feet_head (by simp)), fun _ hx => .inl hx⟩

theorem dloseI {w : World} {bd b : Nat} {F : List Nat} {d : Dv} (keep : List Int) (kv : Value) (h : DrvIn w bd F d) (hK : IntsAt w kv keep b) (hb : 0 < keep.length → b ∉ F ∧ b < w.heap.size) (hk : KeepOk keep) :
    Calls Try.prog 40 #[.pointer (some ⟨bd, 0, none⟩), kv] w fun e w' => e = .returned (.tuple #[]) ∧ DrvStep w w' bd F (dloseF d keep) := by
  have hlt := h.lt
  obtain ⟨bm, bz, bb, bl, vs, hI, hok, rfl⟩ := h
  exact (dlose_any bd bm bz bb bl b d vs keep kv w hI hok hK hb (by have := hk.1; omega) hk.2 hlt).mono fun _ _ ⟨he, vs', hI', hm, hf⟩ => ⟨he, _, ⟨bm, bz, bb, bl, vs', hI', ok_dlose hok keep, rfl⟩, hm, fun x hx => .inl (hf x hx)⟩

theorem ddieI {w : World} {bd : Nat} {F : List Nat} {d : Dv} (h : DrvIn w bd F d) :
    Calls Try.prog 28 #[.pointer (some ⟨bd, 0, none⟩)] w fun e w' => e = .returned (.tuple #[]) ∧ DrvStep w w' bd F { d with dead := true } := by
  obtain ⟨bm, bz, bb, bl, vs, hI, hok, rfl⟩ := h
  exact (die_any bd bm bz bb bl d vs w hI).mono fun _ _ ⟨he, hI', hm⟩ => ⟨he, _, ⟨bm, bz, bb, bl, vs, hI', ⟨hok.m, hok.nb, hok.nl, hok.each⟩, rfl⟩, hm.mono (fun i _ hi => by simp at hi; subst hi; exact feet_head (by simp)), fun _ hx => .inl hx⟩

theorem ddeadI {w : World} {bd : Nat} {F : List Nat} {d : Dv} (h : DrvIn w bd F d) :
    Calls Try.prog 29 #[.pointer (some ⟨bd, 0, none⟩)] w fun e w' => e = .returned (.bool d.dead) ∧ w = w' := by
  obtain ⟨bm, bz, bb, bl, vs, hI, hok, rfl⟩ := h
  exact dead_any bd bm bz bb bl d vs w hI

theorem dzoneI {w : World} {bd : Nat} {F : List Nat} {d : Dv} (z : Int) (h : DrvIn w bd F d) :
    Calls Try.prog 30 #[.pointer (some ⟨bd, 0, none⟩), .int .i64 z] w fun e w' => e = .returned (.tuple #[zoneV (getF d.m z).1, .bool (getF d.m z).2]) ∧ Below w.heap.size w w' := by
  obtain ⟨bm, bz, bb, bl, vs, hI, hok, rfl⟩ := h
  exact dzone_any bd bm bz bb bl d vs z w hI

theorem dnewI (z b o a : Int) (w : World) (h : newOk z b o a = true) :
    Calls Try.prog 22 #[.int .i64 z, .int .i64 b, .int .i64 o, .int .i64 a] w fun e w' => ∃ bd F, e = .returned (.tuple #[.pointer (some ⟨bd, 0, none⟩), .int .i64 0]) ∧ DrvIn w' bd F (dnewF z b o a) ∧ Mod [] w w' ∧ ∀ x ∈ F, w.heap.size ≤ x :=
  (dnew_ok z b o a w h).mono fun _ _ ⟨bd, bm, bz, bb, bl, vs, he, hI, hm, hlo⟩ => ⟨bd, _, he, ⟨bm, bz, bb, bl, vs, hI, ok_dnew h, rfl⟩, hm, hlo⟩

/-- The end of Zone: its result's block, what the call has left. -/
theorem zone_block {w w1 : World} (hb : Below (w.alloc (.cells #[.int .i64 0, .int .i64 0] 45)).heap.size (w.alloc (.cells #[.int .i64 0, .int .i64 0] 45)) w1) :
    w1.cell? ⟨w.heap.size, 0, none⟩ = some (.int .i64 0) ∧ w1.cell? ⟨w.heap.size, 1, none⟩ = some (.int .i64 0) ∧ w1.frozen? ⟨w.heap.size, 0, none⟩ = false ∧ w1.frozen? ⟨w.heap.size, 1, none⟩ = false ∧ w.heap.size < w1.heap.size ∧ Below w.heap.size w w1 := by
  have hbn : Blk w1 w.heap.size #[.int .i64 0, .int .i64 0] 45 := (Mod.of_below hb []).blk (Blk.new w _ _) (by simp)
  exact ⟨hbn.cell (i := 0) rfl, hbn.cell (i := 1) rfl, hbn.frozen 0, hbn.frozen 1, hbn.lt, ((Below.refl _ _).alloc (Nat.le_refl _) _).trans (hb.mono (by simp))⟩

theorem gzone_none (n z : Int) (w : World) : Calls Try.prog 16 #[.pointer none, .int .i64 n, .int .i64 z] w fun e w' => e = .returned (.tuple #[zoneV (0, 0), .bool false]) ∧ Below w.heap.size w w' := by
  go_enter Try.func16, Try.ntmps16
  go_wp2_with fail
  refine (gat_none n _).mono ?_
  rintro e w1 ⟨rfl, rfl⟩
  go_wp2_with fail
  refine (dzone_none z _).mono ?_
  rintro e w1 ⟨rfl, hb⟩
  obtain ⟨q0, q1, f0, f1, hlw, hb2⟩ := zone_block hb
  have Hb := Lib.hid hb2
  clear hb hb2
  have hz : zoneV (0, 0) = .agg #[.int .i64 0, .int .i64 0] := rfl
  rw [hz]
  clear hz
  go_wp2_with fail
  exact bodyPost_ret (v := .tuple #[.agg #[.int .i64 0, .int .i64 0], .bool false]) (by simp [*, results, Try.results16, go_sem]) rfl ⟨rfl, (Hb.out.setCell (Nat.le_refl _) _).setCell (Nat.le_refl _) _⟩

theorem gzone_any {P : Pl} {r : Rg} {w : World} (n z : Int) (hI : IsR w P r) :
    Calls Try.prog 16 #[.pointer (some ⟨P.br, 0, none⟩), .int .i64 n, .int .i64 z] w fun e w' => e = .returned (.tuple #[zoneV (gzoneF r n z).1, .bool (gzoneF r n z).2]) ∧ Below w.heap.size w w' := by
  have HI := Lib.hid hI; clear hI
  rcases thereF_cases r n with ⟨i, rfl, hi, ht⟩ | ht
  · have hf : gzoneF r (i : Int) z = getF (r.ds.getD i dv0).m z := by rw [gzoneF, ht, if_pos rfl, Int.toNat_natCast]
    rw [hf]
    clear hf ht
    have hdr := Lib.hid (HI.out.each i hi)
    generalize r.ds.getD i dv0 = D at hdr ⊢
    go_enter Try.func16, Try.ntmps16
    go_wp2_with fail
    refine (gat_there (HI.out.same ((Mod.refl [] w).alloc _)) hi).mono ?_
    rintro e w1 ⟨rfl, rfl⟩
    generalize P.ps.getD i 0 = bd at hdr ⊢
    go_wp2_with fail
    refine (dzoneI z (hdr.out.mod ((Mod.refl [] w).alloc _) (by simp))).mono ?_
    rintro e w1 ⟨rfl, hb⟩
    obtain ⟨q0, q1, f0, f1, hlw, hb2⟩ := zone_block hb
    have Hb := Lib.hid hb2
    clear hb hb2 hdr
    obtain ⟨r1, r2, r3, hr⟩ : ∃ r1 r2 r3, getF D.m z = ((r1, r2), r3) := ⟨_, _, _, rfl⟩
    have Hr := Lib.hid hr
    have hz : zoneV (r1, r2) = .agg #[.int .i64 r1, .int .i64 r2] := rfl
    rw [hr, hz]
    clear hz hr
    go_wp2_with fail
    exact bodyPost_ret (v := .tuple #[.agg #[.int .i64 r1, .int .i64 r2], .bool r3]) (by simp [*, results, Try.results16, go_sem]) rfl ⟨by rw [Hr.out], (Hb.out.setCell (Nat.le_refl _) _).setCell (Nat.le_refl _) _⟩
  · have hf : gzoneF r n z = ((0, 0), false) := by rw [gzoneF, ht, if_neg (by decide)]
    rw [hf]
    clear hf
    go_enter Try.func16, Try.ntmps16
    go_wp2_with fail
    refine (gat_no (HI.out.same ((Mod.refl [] w).alloc _)) ht).mono ?_
    rintro e w1 ⟨rfl, rfl⟩
    go_wp2_with fail
    refine (dzone_none z _).mono ?_
    rintro e w1 ⟨rfl, hb⟩
    obtain ⟨q0, q1, f0, f1, hlw, hb2⟩ := zone_block hb
    have Hb := Lib.hid hb2
    clear hb hb2
    have hz : zoneV (0, 0) = .agg #[.int .i64 0, .int .i64 0] := rfl
    rw [hz]
    clear hz
    go_wp2_with fail
    exact bodyPost_ret (v := .tuple #[.agg #[.int .i64 0, .int .i64 0], .bool false]) (by simp [*, results, Try.results16, go_sem]) rfl ⟨rfl, (Hb.out.setCell (Nat.le_refl _) _).setCell (Nat.le_refl _) _⟩

theorem gdead_none (n : Int) (w : World) : Calls Try.prog 15 #[.pointer none, .int .i64 n] w fun e w' => e = .returned (.bool true) ∧ w = w' := by
  go_enter Try.func15, Try.ntmps15
  go_wp2_with fail
  refine (gat_none n _).mono ?_
  rintro e w1 ⟨rfl, rfl⟩
  go_wp2_with fail
  go_ret
  exact ⟨rfl, rfl⟩

theorem gdead_any {P : Pl} {r : Rg} {w : World} (n : Int) (hI : IsR w P r) :
    Calls Try.prog 15 #[.pointer (some ⟨P.br, 0, none⟩), .int .i64 n] w fun e w' => e = .returned (.bool (gdeadF r n)) ∧ w = w' := by
  have HI := Lib.hid hI; clear hI
  rcases thereF_cases r n with ⟨i, rfl, hi, ht⟩ | ht
  · have hf : gdeadF r (i : Int) = (r.ds.getD i dv0).dead := by rw [gdeadF, ht, if_pos rfl, Int.toNat_natCast]
    rw [hf]
    clear hf ht
    have hdr := Lib.hid (HI.out.each i hi)
    generalize r.ds.getD i dv0 = D at hdr ⊢
    go_enter Try.func15, Try.ntmps15
    go_wp2_with fail
    refine (gat_there HI.out hi).mono ?_
    rintro e w1 ⟨rfl, rfl⟩
    go_wp2_with fail
    refine (ddeadI hdr.out).mono ?_
    rintro e w1 ⟨rfl, rfl⟩
    obtain ⟨q, hq⟩ : ∃ q, D.dead = q := ⟨_, rfl⟩
    have Hq := Lib.hid hq
    rw [hq]
    clear hq
    go_wp2_with fail
    go_ret
    exact ⟨by rw [Hq.out]; rfl, rfl⟩
  · have hf : gdeadF r n = true := by rw [gdeadF, ht, if_neg (by decide)]
    rw [hf]
    clear hf
    go_enter Try.func15, Try.ntmps15
    go_wp2_with fail
    refine (gat_no HI.out ht).mono ?_
    rintro e w1 ⟨rfl, rfl⟩
    go_wp2_with fail
    go_ret
    exact ⟨rfl, rfl⟩

theorem gkill_none (n : Int) (w : World) : Calls Try.prog 14 #[.pointer none, .int .i64 n] w fun e w' => e = .returned (.tuple #[]) ∧ w = w' := by
  go_enter Try.func14, Try.ntmps14
  go_wp2_with fail
  refine (gat_none n _).mono ?_
  rintro e w1 ⟨rfl, rfl⟩
  go_wp2_with fail
  refine (die_none _).mono ?_
  rintro e w1 ⟨rfl, rfl⟩
  go_wp2_with fail
  exact bodyPost_end (results_none rfl _ _ _) rfl ⟨rfl, rfl⟩

theorem gkill_any {P : Pl} {r : Rg} {w : World} (n : Int) (hI : IsR w P r) :
    Calls Try.prog 14 #[.pointer (some ⟨P.br, 0, none⟩), .int .i64 n] w fun e w' => e = .returned (.tuple #[]) ∧ RStep w w' P (gkillF r n) := by
  have HI := Lib.hid hI; clear hI
  rcases thereF_cases r n with ⟨i, rfl, hi, ht⟩ | ht
  · have hf : gkillF r (i : Int) = r.put i { r.ds.getD i dv0 with dead := true } := by rw [gkillF, ht, if_pos rfl, Int.toNat_natCast]
    rw [hf]
    clear hf
    go_enter Try.func14, Try.ntmps14
    go_wp2_with fail
    refine (gat_there HI.out hi).mono ?_
    rintro e w1 ⟨rfl, rfl⟩
    go_wp2_with fail
    refine (ddieI (HI.out.each i hi)).mono ?_
    rintro e w1 ⟨rfl, F', hd, hm, hF⟩
    have Hd := Lib.hid hd; have Hm := Lib.hid hm
    clear hd hm
    go_wp2_with fail
    exact bodyPost_end (results_none rfl _ _ _) rfl ⟨rfl, { P with Fs := P.Fs.set i F' }, ⟨rfl, rfl⟩, HI.out.drive hi Hd.out Hm.out hF, Hm.out.mono (fun x _ hx => HI.out.feet_of hi hx), HI.out.drive_feet hi hF⟩
  · have hf : gkillF r n = r := by rw [gkillF, ht, if_neg (by decide)]
    rw [hf]
    clear hf
    go_enter Try.func14, Try.ntmps14
    go_wp2_with fail
    refine (gat_no HI.out ht).mono ?_
    rintro e w1 ⟨rfl, rfl⟩
    go_wp2_with fail
    refine (die_none _).mono ?_
    rintro e w1 ⟨rfl, rfl⟩
    go_wp2_with fail
    exact bodyPost_end (results_none rfl _ _ _) rfl ⟨rfl, .same HI.out (Mod.refl _ _)⟩

theorem gon_none (w : World) : Calls Try.prog 18 #[.pointer none] w fun e w' => e = .returned (.tuple #[]) ∧ w = w' := by
  go_enter Try.func18, Try.ntmps18
  go_wp2_with fail
  exact bodyPost_end (results_none rfl _ _ _) rfl ⟨rfl, rfl⟩

end Go.Proofs.Ytadpeopbfoppjaa

namespace Go.Proofs.Ytadpeopbfoppjaa
open Go.RowKit

def ic (l : List Int) : List Value := l.map fun x => Value.int .i64 x
theorem ic_length (l : List Int) : (ic l).length = l.length := by simp [ic]
theorem ic_get (l : List Int) (j : Nat) (h : j < l.length) : (ic l)[j]? = some (.int .i64 (l.getD j 0)) := by
  simp [ic, List.getD_eq_getElem?_getD, h]

/-- An owned row of numbers reads as these. -/
theorem ints_owned {w : World} {B : Nat} {v : Value} {ls : List Int} (h : w.ownsRow B 3 1 v ls.length (ic ls)) : ∃ b, IntsAt w v ls b ∧ (0 < ls.length → v.ownBlock = some b ∧ B ≤ b) := by
  have hrow := h
  obtain ⟨hl, ⟨h1, h2⟩ | ⟨g, cap, cur, h1, hB, h2⟩⟩ := hrow
  · exact ⟨0, ⟨none, 0, by rw [h1, h2], fun h0 => by omega⟩, fun h0 => by omega⟩
  · refine ⟨g, ⟨_, cap, h1, fun h0 => ⟨0, rfl, ownsRow_lt h (by rw [h1]; rfl), fun j hj => ?_⟩⟩, fun _ => ⟨by rw [h1]; rfl, hB⟩⟩
    have hc := h.cells (g := g) (by rw [h1]; rfl) j (.int .i64 (ls.getD j 0)) (ic_get ls j hj)
    rw [Addr.add_lit] at hc
    exact hc

theorem cap_owned {w : World} {B n : Nat} {v : Value} {xs : List Value} {E : TypeId} (h : w.ownsRow B E 1 v n xs) : CapOk v := by
  intro a n' c hv
  obtain ⟨hl, ⟨h1, h2⟩ | ⟨g, cap, cur, h1, hB, h2, h3, h4, _⟩⟩ := h
  · rw [h1] at hv
    simp only [Value.slice.injEq] at hv
    omega
  · rw [h1] at hv
    simp only [Value.slice.injEq] at hv
    unfold maxLen at h4
    omega

/-- What a slice of numbers made by the call is. -/
def IntsNew (w w' : World) (v : Value) (ls : List Int) : Prop := w'.ownsRow w.heap.size 3 1 v ls.length (ic ls) ∧ Mod [] w w'

theorem infoI : (Try.prog.info? 3).map (fun i => (i.zero, i.size, i.bytes)) = some (some (.int .i64 0), 1, 8) := by kernel_rfl

set_option maxHeartbeats 1000000 in
set_option maxRecDepth 100000 in
theorem iclone_any (v : Value) (ls : List Int) (b : Nat) (w : World) (hv : IntsAt w v ls b) (hn : ls.length ≤ 17592186044416) :
    Calls Try.prog 23 #[v] w fun e w' => ∃ v', e = .returned v' ∧ IntsNew w w' v' ls := by
  have hnl := fun (W : World) (a : Option Addr) (n c : Nat) => Lib.run_eql_slice_nil (P := Try.prog) W 40 3 a n c 0 0 Try.underlying40
  obtain ⟨a, c, rfl, hc⟩ := hv
  cases a with
  | none =>
    have h0 : ls = [] := by
      by_cases h : 0 < ls.length
      · obtain ⟨off, h, _⟩ := hc h; cases h
      · exact List.eq_nil_of_length_eq_zero (by omega)
    subst h0
    clear hc
    go_enter Try.func23, Try.ntmps23
    go_wp2_with fail
    go_ret
    exact ⟨_, rfl, ⟨rfl, .inl ⟨rfl, rfl⟩⟩, Mod.refl _ _⟩
  | some ad =>
    obtain ⟨i0, hi, hz0, hz1, hz2⟩ := info_parts infoI
    have hown : (w.alloc (.cells #[] 3)).ownsRow w.heap.size 3 1 (.slice (some ⟨w.heap.size, 0, none⟩) 0 0) 0 [] :=
      ⟨rfl, .inr ⟨w.heap.size, 0, #[], rfl, Nat.le_refl _, Blk.new w #[] 3, Nat.le_refl _, Nat.zero_le _, rfl, rfl⟩⟩
    have hnews : ∀ (j : Nat) (u : Value), (ic ls)[j]? = some u → (w.alloc (.cells #[] 3)).cell? (ad.add j) = some u := by
      intro j u hj
      have hjl : j < ls.length := by rw [← ic_length ls]; exact (List.getElem?_eq_some_iff.1 hj).1
      obtain ⟨off, he, hlt, hcell⟩ := hc (by omega)
      injection he with he
      subst he
      rw [ic_get ls j hjl] at hj
      injection hj with hj
      subst hj
      rw [Addr.add_lit]
      exact (((Mod.refl [] w).alloc _).cell hlt (by simp)).trans (hcell j hjl)
    have hone : ∀ u ∈ ic ls, u.oneCell' = true := by
      intro u hu
      simp only [ic, List.mem_map] at hu
      obtain ⟨x, _, rfl⟩ := hu
      rfl
    have Hown := Lib.hid hown; clear hown
    have Hnews := Lib.hid hnews; clear hnews
    have Hone := Lib.hid hone; clear hone hc
    go_enter Try.func23, Try.ntmps23
    go_wp2_with (at_builtin; refine wpList_append_own _ rfl _ _ 40 rfl w.heap.size 3 i0 _ 1 8 Try.underlying40 hi hz0 hz1 hz2 rfl (by decide) _ _ _ rfl Hown.out ad ls.length c (ic ls) rfl (by rw [ic_length]; omega) Hnews.out Hone.out (by unfold maxLen; omega) (by omega) (by simp) ?_; intro v' w' hown' hgrow hnil)
    go_ret
    rw [Nat.zero_add, List.nil_append] at hown'
    refine ⟨_, rfl, hown', ?_⟩
    have hgrow : (w.alloc (.cells #[] 3)).grownBy w' (some w.heap.size) := hgrow
    exact (((Mod.refl _ _).alloc _).trans' (Mod.of_grown hgrow [w.heap.size] (fun g hg => by injection hg with hg; simp [hg]))).mono (fun i hi hS => by simp at hS; omega)

theorem IntsNew.row {w w2 w3 : World} {v2 v3 : Value} {A B : List Int} (hn : IntsNew w w2 v2 A) (ho : w3.ownsRow w.heap.size 3 1 v3 (A.length + B.length) (ic A ++ ic B)) (hg : w2.grownBy w3 v2.ownBlock) : IntsNew w w3 v3 (A ++ B) := by
  refine ⟨?_, hn.2.trans (Mod.of_grown hg v2.ownBlock.toList (fun g hg => Option.mem_toList.2 hg)) (fun i hi h => ?_)⟩
  · rw [List.length_append]
    have e : ic (A ++ B) = ic A ++ ic B := by simp [ic]
    rw [e]; exact ho
  · rcases h with h | h
    · exact h
    · have := (hn.1.lt i (Option.mem_toList.1 h)).1
      omega

/-- An append to an owned row, as a step of a region that draws its order. -/
theorem step_append_own {P : Program} {w : World} {ops : Array Oper} {o : Oper} {a : Act} {K : Act → World → Prop} {Q : Exit → Act → World → Prop} {E : Prop} (hgd : o.guard = none) (s x : Operand) (t : TypeId)
    (ho : o.op = .call { callee := .builtin .append, args := #[s, x], argTypes := #[t, t] })
    (base : Nat) (e : TypeId) (i : TypeInfo) (z : Value) (size bytes : Nat) (ht : P.underlying t = some (.slice e)) (hi : P.info? e = some i) (hz : i.zero = some z)
    (hsize : i.size = size) (hby : i.bytes = bytes) (hzs : z.cells.size = size) (hsz : 0 < size)
    (v : Value) (n : Nat) (xs : List Value) (hs : a.eval s = v) (hown : w.ownsRow base e size v n xs)
    (ad : Addr) (m c : Nat) (news : List Value) (hx : a.eval x = .slice (some ad) m c) (hl : news.length = m * size) (hnews : ∀ j u, news[j]? = some u → w.cell? (ad.add j) = some u) (h1 : ∀ u ∈ news, u.oneCell' = true)
    (h63 : n + m ≤ maxLen) (hbytes : (n + m) * bytes ≤ 140737488355328) (hbase : base ≤ w.heap.size)
    (h : ∀ v' w', w'.ownsRow base e size v' (n + m) (xs ++ news) → w.grownBy w' v.ownBlock → (v' = .slice none 0 0 ↔ v = .slice none 0 0 ∧ m = 0) → K (a.put o.dst v') w') :
    if Region.wanted o (yielded ops a.tmps) = true then Oper.wp P o a w K Q else E := by
  have hw : Region.wanted o (yielded ops a.tmps) = true := by simp [Region.wanted, hgd]
  rw [if_pos hw]
  exact wp_append_own w s x t ho base e i z size bytes ht hi hz hsize hby hzs hsz v n xs hs hown ad m c news hx hl hnews h1 h63 hbytes hbase h

end Go.Proofs.Ytadpeopbfoppjaa
