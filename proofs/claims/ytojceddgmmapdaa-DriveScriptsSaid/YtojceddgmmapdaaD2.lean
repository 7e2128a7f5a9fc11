/-
  Walks of fits, Zone of the drive.
-/
import Derived.Test.YtojceddgmmapdaaD1
namespace Go.Proofs.Ytojceddgmmapdaa
open Go.RowKit

theorem dzone_none (z : Int) (w : World) :
    Calls Try.prog 31 #[.pointer none, .int .i64 z] w fun e w' => e = .returned (.tuple #[zoneV (0, 0), .bool false]) ∧ Below w.heap.size w w' := by
  go_enter Try.func31, Try.ntmps31
  go_wp2
  exact bodyPost_ret (v := .tuple #[zoneV (0, 0), .bool false]) (by simp [results, Try.results31, go_sem]) rfl ⟨rfl, (Below.refl _ _).alloc (Nat.le_refl _) _⟩

theorem dzone_any (bd bm bz bb bl : Nat) (d : Dv) (vs : List Value) (z : Int) (w : World) (hI : IsD w bd bm bz bb bl d vs) :
    Calls Try.prog 31 #[.pointer (some ⟨bd, 0, none⟩), .int .i64 z] w fun e w' => e = .returned (.tuple #[zoneV (getF d.m z).1, .bool (getF d.m z).2]) ∧ Below w.heap.size w w' := by
  have c0 := hI.cells.c0
  have hlt := hI.cells.lt.1
  have HM := Lib.hid hI.m
  clear hI
  go_enter Try.func31, Try.ntmps31
  go_wp2_with fail
  refine (get_any bm bz d.m z _ (HM.out.alloc _)).mono ?_
  rintro e w1 ⟨rfl, hb⟩
  have hbn : Blk w1 w.heap.size #[.int .i64 0, .int .i64 0] 30 := (Mod.of_below hb []).blk (Blk.new w _ _) (by simp)
  have q0 := hbn.cell (i := 0) rfl
  have q1 := hbn.cell (i := 1) rfl
  have f0 := hbn.frozen 0
  have f1 := hbn.frozen 1
  have hlw := hbn.lt
  have Hb : Hid (Below w.heap.size w w1) := ((Below.refl _ _).alloc (Nat.le_refl _) _).trans (hb.mono (by simp))
  clear hb hbn
  have hr : ∃ r1 r2 r3, getF d.m z = ((r1, r2), r3) := ⟨_, _, _, rfl⟩
  obtain ⟨r1, r2, r3, hr⟩ := hr
  have hz : zoneV (r1, r2) = .agg #[.int .i64 r1, .int .i64 r2] := rfl
  have Hr := Lib.hid hr
  rw [hr, hz]
  clear hr hz
  go_wp2_with fail
  exact bodyPost_ret (v := .tuple #[.agg #[.int .i64 r1, .int .i64 r2], .bool r3]) (by simp [*, results, Try.results31, go_sem]) rfl ⟨by rw [Hr.out], ((Hb.out.setCell (Nat.le_refl _) _).setCell (Nat.le_refl _) _)⟩

theorem fits_any (k z a n : Int) (s : ByteArray) (hs : s.size ≤ 9223372036854775807) (w : World) : Calls Try.prog 47 #[.agg #[.int .i64 k, .int .i64 z, .int .i64 a, .int .i64 n], .string s] w fun e w' => e = .returned (.bool (fitsF k n s)) ∧ Below w.heap.size w w' := by
  by_cases hw : writesF k = true
  · go_enter Try.func47, Try.ntmps47
    go_wp2_with fail
    refine (writes_any k z a n _).mono ?_
    rintro e w1 ⟨rfl, hb⟩
    have hbn : Blk w1 w.heap.size #[.int .i64 k, .int .i64 z, .int .i64 a, .int .i64 n] 37 := (Mod.of_below hb []).blk (Blk.new w _ _) (by simp)
    have Hb : Hid (Below w.heap.size w w1) := ((Below.refl _ _).alloc (Nat.le_refl _) _).trans (hb.mono (by simp))
    have cn := hbn.cell (i := 3) rfl
    clear hb hbn
    rw [hw]
    by_cases hn : n < 0
    · go_wp2_with fail
      go_ret
      exact ⟨by simp [fitsF, hw, hn], Hb.out⟩
    · have hnd : decide (n < 0) = false := by simpa using hn
      by_cases hm : (s.size : Int) % 64 = 0
      · have hmb : ((s.size : Int) % 64 == 0) = true := by simpa using hm
        go_wp2_with fail
        go_ret
        exact ⟨by simp [fitsF, hw, hm, show ¬ n < 0 by omega], Hb.out⟩
      · have hmb : ((s.size : Int) % 64 == 0) = false := by simpa using hm
        go_wp2_with fail
        go_ret
        exact ⟨by simp [fitsF, hw, hm, show ¬ n < 0 by omega], Hb.out⟩
  · go_enter Try.func47, Try.ntmps47
    go_wp2_with fail
    refine (writes_any k z a n _).mono ?_
    rintro e w1 ⟨rfl, hb⟩
    have Hb : Hid (Below w.heap.size w w1) := ((Below.refl _ _).alloc (Nat.le_refl _) _).trans (hb.mono (by simp))
    clear hb
    have hw : writesF k = false := by simpa using hw
    rw [hw]
    go_wp2_with fail
    go_ret
    exact ⟨by simp [fitsF, hw], Hb.out⟩

end Go.Proofs.Ytojceddgmmapdaa
