/-
  Walk of DriveNil.
-/
import Derived.Test.YtojceddgmmapdaaDS
namespace Go.Proofs.Ytojceddgmmapdaa
open Go.RowKit

theorem ddo_none (c : Array Value) (k z a n : Int) (s : ByteArray) (w : World) (hc : c = #[.int .i64 k, .int .i64 z, .int .i64 a, .int .i64 n]) :
    Calls Try.prog 28 #[.pointer none, .agg c, .string s] w fun e w' => e = .returned (.tuple #[.string ByteArray.empty, .int .i64 0, .int .i64 1]) ∧ Below w.heap.size w w' := by
  subst hc
  go_enter Try.func28, Try.ntmps28
  go_wp2_with fail
  refine (alive_none _).mono ?_
  rintro e w1 ⟨rfl, rfl⟩
  go_wp2_with fail
  refine bodyPost_ret (results_tmp3 rfl _ _ _) rfl ?_
  exact ⟨rfl, (Below.refl _ _).alloc (Nat.le_refl _) _⟩

theorem dflush_none (w : World) : Calls Try.prog 29 #[.pointer none] w fun e w' => e = .returned (.int .i64 1) ∧ w = w' := by
  go_enter Try.func29, Try.ntmps29
  go_wp2_with fail
  refine (alive_none _).mono ?_
  rintro e w1 ⟨rfl, rfl⟩
  go_wp2_with fail
  go_ret
  exact ⟨rfl, rfl⟩

theorem ddoF_dead {d : Dv} (h : d.dead = true) (k z a n : Int) (s : ByteArray) : ddoF d k z a n s = ((ByteArray.empty, 0, 7), d) := by simp [ddoF, h]
theorem dflushF_dead {d : Dv} (h : d.dead = true) : dflushF d = (7, d) := by simp [dflushF, h]

def nd : Dv := { dnewF 2 4 1 1 with dead := true }
theorem nd_dead : nd.dead = true := rfl
theorem nd_do (k z a n : Int) (s : ByteArray) : ddoF nd k z a n s = ((ByteArray.empty, 0, 7), nd) := ddoF_dead nd_dead k z a n s
theorem nd_flush : dflushF nd = (7, nd) := dflushF_dead nd_dead

set_option maxHeartbeats 1000000 in
set_option maxRecDepth 100000 in
theorem driveNil_walk (k z : Int) (w : World) : Calls Try.prog 13 #[.int .i64 k, .int .i64 z] w fun e w' => e = .returned (.bool true) ∧ Below w.heap.size w w' := by
  go_enter Try.func13, Try.ntmps13
  go_wp2_with fail
  refine (speaks07_any _).mono ?_
  rintro e w1 ⟨rfl, hm1⟩
  have H1 := Lib.hid hm1; clear hm1
  go_wp2_with fail
  refine (ddo_none _ k z 0 0 ByteArray.empty _ rfl).mono ?_
  rintro e w2 ⟨rfl, hb⟩
  have H2 : Hid (Mod [] w w2) := H1.out.trans' (Mod.of_below hb [])
  clear hb H1
  go_wp2_with fail
  refine (dzone_none z _).mono ?_
  rintro e w3 ⟨rfl, hb⟩
  have hz : zoneV (0, 0) = .agg #[.int .i64 0, .int .i64 0] := rfl
  rw [hz]
  have H3 : Hid (Mod [] w w3) := H2.out.trans' (Mod.of_below hb [])
  clear hb H2 hz
  go_wp2_with fail
  refine (dlose_none _ _).mono ?_
  rintro e w4 ⟨rfl, rfl⟩
  go_wp2_with fail
  refine (die_none _).mono ?_
  rintro e w4 ⟨rfl, rfl⟩
  have hA : Blk w3 w3.heap.size #[.int .i64 0, .int .i64 0] 30 → True := fun _ => trivial
  clear hA
  have hA := (Blk.new w3 #[.int .i64 0, .int .i64 0] 30).alloc (.cells #[.int .i64 z] 3)
  go_wp2_with fail
  refine (dnewA 2 4 1 1 _ rfl).mono ?_
  rintro e w5 ⟨bd, bm, bz, bb, bl, vs, rfl, h5⟩
  have hA5 := h5.M.blk hA (by simp)
  have hfe5 : w3.heap.size ∉ feet bd bm bz bb bl vs := fun hx => by have := h5.lo _ hx; simp at this; omega
  have H5 := Lib.hid h5
  clear h5 hA
  go_wp2_with fail
  refine (ddieA H5.out).mono ?_
  rintro e w6 ⟨rfl, vs6, h6, hm6, hf6⟩
  have hA6 := hm6.blk hA5 hfe5
  have hfe6 : w3.heap.size ∉ feet bd bm bz bb bl vs6 := fun hx => (hf6 _ hx).elim hfe5 (fun h => by have := hA5.lt; omega)
  have H6 : Hid (DAt _ w6 bd bm bz bb bl nd vs6) := h6
  clear h6 hm6 hf6 hA5 hfe5 H5
  go_wp2_with fail
  refine (ddoA k z 0 1 ByteArray.empty H6.out (by decide)).mono ?_
  rintro e w7 ⟨rfl, vs7, h7, hm7, -⟩
  rw [nd_do] at h7 ⊢
  have hA7 := hm7.blk hA6 hfe6
  have q0 := hA7.cell (i := 0) rfl
  have q1 := hA7.cell (i := 1) rfl
  have hl7 := hA7.lt
  have H7 := Lib.hid h7
  clear h7 hm7 hA6 hfe6 H6 hA7
  go_wp2_with fail
  refine (dflush_none _).mono ?_
  rintro e w8 ⟨rfl, rfl⟩
  go_wp2_with fail
  refine (lasts_none z _).mono ?_
  rintro e w8 ⟨rfl, rfl⟩
  go_wp2_with fail
  refine (dead_none _).mono ?_
  rintro e w8 ⟨rfl, rfl⟩
  go_wp2_with fail
  refine (dflushA H7.out).mono ?_
  rintro e w9 ⟨rfl, vs9, h9, hm9, -⟩
  rw [nd_flush] at h9 ⊢
  go_wp2_with fail
  refine (dead_any bd bm bz bb bl nd vs9 _ h9.I).mono ?_
  rintro e w10 ⟨rfl, rfl⟩
  rw [nd_dead]
  go_wp2_with fail
  go_ret
  exact ⟨rfl, (((H3.out.alloc _).alloc _).trans' h9.M).below (Nat.le_refl _)⟩

end Go.Proofs.Ytojceddgmmapdaa
