/-
  Walks: Get and Clone of the zones' machine.
-/
import Derived.Test.YtojceddgmmapdaaZ7
namespace Go.Proofs.Ytojceddgmmapdaa
open Go.RowKit

/-- What Get answers. -/
def getF (m : Mc) (z : Int) : (Int × Int) × Bool := if 0 ≤ z ∧ z < m.zs.length then ((m.st z.toNat, m.ln z.toNat), true) else ((0, 0), false)

abbrev zoneV (p : Int × Int) : Value := .agg #[.int .i64 p.1, .int .i64 p.2]

theorem get_none (z : Int) (w : World) :
    Calls Try.prog 16 #[.pointer none, .int .i64 z] w fun e w' => e = .returned (.tuple #[zoneV (0, 0), .bool false]) ∧ Below w.heap.size w w' := by
  go_enter Try.func16, Try.ntmps16
  go_wp2
  exact bodyPost_ret (v := .tuple #[zoneV (0, 0), .bool false]) (by simp [results, Try.results16, go_sem]) rfl ⟨rfl, (Below.refl _ _).alloc (Nat.le_refl _) _⟩

theorem get_any (bm bz : Nat) (m : Mc) (z : Int) (w : World) (hI : IsM TM TZ w bm bz m) :
    Calls Try.prog 16 #[.pointer (some ⟨bm, 0, none⟩), .int .i64 z] w fun e w' => e = .returned (.tuple #[zoneV (getF m z).1, .bool (getF m z).2]) ∧ Below w.heap.size w w' := by
  have HI := Lib.hid hI; clear hI
  have hlt := HI.out.lt
  obtain ⟨hlm, hlz⟩ := hlt
  obtain ⟨cap, hcz⟩ := HI.out.cellZ
  by_cases h0 : z < 0
  · have hfin : getF m z = ((0, 0), false) := by unfold getF; rw [if_neg (by omega)]
    have Hfin := Lib.hid hfin; clear hfin
    go_enter Try.func16, Try.ntmps16
    go_wp2
    rw [Hfin.out]
    exact bodyPost_ret (v := .tuple #[zoneV (0, 0), .bool false]) (by simp [results, Try.results16, go_sem]) rfl ⟨rfl, (Below.refl _ _).alloc (Nat.le_refl _) _⟩
  · obtain ⟨i, rfl⟩ := Int.eq_ofNat_of_zero_le (show 0 ≤ z by omega)
    by_cases h1 : i < m.zs.length
    · have hfin : getF m i = ((m.st i, m.ln i), true) := by unfold getF; rw [if_pos (by omega)]; rfl
      have Hfin := Lib.hid hfin; clear hfin
      have k0 := HI.out.cellSt h1
      have k1 := HI.out.cellLn h1
      have hd : decide (m.zs.length ≤ i) = false := by simp; omega
      clear h0
      go_enter Try.func16, Try.ntmps16
      go_wp2
      rw [Hfin.out]
      exact bodyPost_ret (v := .tuple #[zoneV (m.st i, m.ln i), .bool true]) (by simp [results, Try.results16, go_sem]) rfl ⟨rfl, (Below.refl _ _).alloc (Nat.le_refl _) _⟩
    · have hfin : getF m i = ((0, 0), false) := by unfold getF; rw [if_neg (by omega)]
      have Hfin := Lib.hid hfin; clear hfin
      have hd : decide (m.zs.length ≤ i) = true := by simp; omega
      clear h0
      go_enter Try.func16, Try.ntmps16
      go_wp2
      rw [Hfin.out]
      exact bodyPost_ret (v := .tuple #[zoneV (0, 0), .bool false]) (by simp [results, Try.results16, go_sem]) rfl ⟨rfl, (Below.refl _ _).alloc (Nat.le_refl _) _⟩

/-- A slice value owns a list of zones in a new block. -/
def ClonePost (w : World) (zs : List (Int × Int)) (e : Ending) (w' : World) : Prop :=
  ∃ (bz cap : Nat) (r : List Value), e = .returned (.slice (some ⟨bz, 0, none⟩) zs.length cap) ∧ Blk w' bz (zc zs ++ r).toArray TZ ∧ Mod [] w w' ∧ w.heap.size ≤ bz

set_option maxHeartbeats 1000000 in
set_option maxRecDepth 100000 in
theorem sclone_any (bz cap : Nat) (zs : List (Int × Int)) (r : List Value) (w : World) (hz : Blk w bz (zc zs ++ r).toArray TZ) (hn : zs.length ≤ 64) (h1 : 1 ≤ zs.length) :
    Calls Try.prog 42 #[.slice (some ⟨bz, 0, none⟩) zs.length cap] w (ClonePost w zs) := by
  have Hz := Lib.hid hz; clear hz
  have hnl := fun (W : World) (a : Option Addr) (n c : Nat) => Lib.run_eql_slice_nil (P := Try.prog) W 82 30 a n c 0 0 Try.underlying82
  have hown : (w.alloc (.cells #[] TZ)).ownsRow w.heap.size TZ 2 (.slice (some ⟨w.heap.size, 0, none⟩) 0 0) 0 [] :=
    ⟨rfl, .inr ⟨w.heap.size, 0, #[], rfl, Nat.le_refl _, Blk.new w #[] TZ, Nat.le_refl _, Nat.zero_le _, rfl, rfl⟩⟩
  obtain ⟨i0, hi, hz0, hz1, hz2⟩ := info_parts Try.infoZ
  have hnews : ∀ (j : Nat) (u : Value), (zc zs)[j]? = some u → (w.alloc (.cells #[] TZ)).cell? ((⟨bz, 0, none⟩ : Addr).add j) = some u := by
    intro j u hj
    have : (⟨bz, 0, none⟩ : Addr).add j = ⟨bz, j, none⟩ := by simp [Addr.add]; exact fun h => h.symm
    rw [this]
    refine (Hz.out.alloc _).cell ?_
    rw [List.getElem?_toArray, List.getElem?_append_left (List.getElem?_eq_some_iff.1 hj).1]; exact hj
  have hone : ∀ u ∈ zc zs, u.oneCell' = true := by
    intro u hu
    simp only [zc, List.mem_flatMap] at hu
    obtain ⟨z, _, hu⟩ := hu
    simp only [List.mem_cons, List.not_mem_nil, or_false] at hu
    rcases hu with rfl | rfl <;> rfl
  have Hown := Lib.hid hown; clear hown
  have Hnews := Lib.hid hnews; clear hnews
  have Hone := Lib.hid hone; clear hone
  go_enter Try.func42, Try.ntmps42
  go_wp2_with (at_builtin; refine wpList_append_own _ rfl _ _ 82 rfl w.heap.size TZ i0 _ 2 16 Try.underlying82 hi hz0 hz1 hz2 rfl (by decide) _ _ _ rfl Hown.out ⟨bz, 0, none⟩ zs.length cap (zc zs) rfl (zc_length zs) Hnews.out Hone.out (by unfold maxLen; omega) (by omega) (by simp) ?_; intro v' w' hown' hgrow hnil)
  go_ret
  rw [Nat.zero_add, List.nil_append] at hown'
  obtain ⟨hl, h | ⟨g, cap', cur, rfl, hg, hb, hle, _, hsz, htk⟩⟩ := hown'
  · exact absurd h.2 (by omega)
  · refine ⟨g, cap', cur.toList.drop (zs.length * 2), rfl, ?_, ?_, hg⟩
    · rw [← htk, List.take_append_drop]; exact hb
    · have hgrow : (w.alloc (.cells #[] TZ)).grownBy w' (some w.heap.size) := hgrow
      have hm : Mod [w.heap.size] w w' := ((Mod.refl _ _).alloc _).trans' ⟨hgrow.os, hgrow.tape, hgrow.output, hgrow.size, fun k hk hS => hgrow.block k hk (by intro e; injection e with e; subst e; simp at hS)⟩
      exact hm.mono (fun i hi hS => by simp at hS; omega)

theorem clone_none (w : World) : Calls Try.prog 19 #[.pointer none] w fun e w' => e = .returned (.pointer none) ∧ w = w' := by
  go_enter Try.func19, Try.ntmps19
  go_wp2
  go_ret
  exact ⟨rfl, rfl⟩

def MClonePost (w : World) (m : Mc) (e : Ending) (w' : World) : Prop :=
  ∃ bm bz, e = .returned (.pointer (some ⟨bm, 0, none⟩)) ∧ IsM TM TZ w' bm bz m ∧ Mod [] w w' ∧ w.heap.size ≤ bm ∧ w.heap.size ≤ bz

set_option maxHeartbeats 1000000 in
theorem clone_any (bm bz : Nat) (m : Mc) (w : World) (hI : IsM TM TZ w bm bz m) (h1 : 1 ≤ m.zs.length) (hn : m.zs.length ≤ 64) :
    Calls Try.prog 19 #[.pointer (some ⟨bm, 0, none⟩)] w (MClonePost w m) := by
  obtain ⟨⟨cap, hm⟩, ⟨r, hz⟩, hne⟩ := hI
  have hlm := hm.lt
  have hlz := hz.lt
  have c0 := hm.cell (i := 0) rfl
  have c1 := hm.cell (i := 1) rfl
  have c2 := hm.cell (i := 2) rfl
  have c3 := hm.cell (i := 3) rfl
  have Hz := Lib.hid hz; clear hz
  have Hm := Lib.hid hm; clear hm
  go_enter Try.func19, Try.ntmps19
  go_wp2_with fail
  refine (sclone_any bz cap m.zs r _ (by exact Hz.out.alloc _) hn h1).mono ?_
  rintro e w1 ⟨bz', cap', r', rfl, hb, hmod, hbz⟩
  have hbx := hmod.blk (Blk.new w #[.slice (some ⟨bz, 0, none⟩) m.zs.length cap, .int .i64 m.bl, .int .i64 m.op, .int .i64 m.ac] TM) (by simp)
  have d0 := hbx.cell (i := 0) rfl
  have df := hbx.frozen
  have Hbx := Lib.hid hbx; clear hbx
  have Hb := Lib.hid hb; clear hb
  simp only [World.size_alloc] at hbz
  go_wp2
  go_ret
  refine ⟨w.heap.size, bz', rfl, ⟨⟨cap', ?_⟩, ⟨r', ?_⟩, by omega⟩, ?_, Nat.le_refl _, by omega⟩
  · exact Hbx.out.set 0 _
  · exact Hb.out.set_other (by show w.heap.size ≠ bz'; omega) _
  · exact (((Mod.refl [] w).alloc _).trans' hmod).set (.inr (Nat.le_refl _)) _

end Go.Proofs.Ytojceddgmmapdaa
