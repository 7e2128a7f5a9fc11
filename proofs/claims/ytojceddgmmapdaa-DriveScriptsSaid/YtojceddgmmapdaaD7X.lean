/-
  Walk of the drive's Do: a drive that died; data that doesn't fit.
-/
import Derived.Test.YtojceddgmmapdaaD7P
namespace Go.Proofs.Ytojceddgmmapdaa
open Go.RowKit

theorem ddo_dead (bd bm bz bb bl : Nat) (d : Dv) (vs : List Value) (k z a n : Int) (s : ByteArray) (w : World) (hI : IsD w bd bm bz bb bl d vs) (hd : d.dead = true) :
    Calls Try.prog 28 #[.pointer (some ⟨bd, 0, none⟩), .agg #[.int .i64 k, .int .i64 z, .int .i64 a, .int .i64 n], .string s] w (DPost bd bm bz bb bl vs (ddoF d k z a n s) w) := by
  have HI := Lib.hid hI; clear hI
  have hf : ddoF d k z a n s = ((ByteArray.empty, 0, 7), d) := by simp [ddoF, hd]
  rw [hf]
  go_enter Try.func28, Try.ntmps28
  go_wp2_with fail
  refine (alive_any bd bm bz bb bl d vs _ (HI.out.same ((Mod.refl [] w).alloc _))).mono ?_
  rintro e w1 ⟨rfl, rfl⟩
  rw [hd, if_pos rfl]
  go_wp2_with fail
  refine bodyPost_ret (results_tmp3 rfl _ _ _) rfl ?_
  exact ⟨rfl, vs, HI.out.same ((Mod.refl [] w).alloc _), (Mod.refl _ w).alloc _, fun x hx => .inl hx⟩

theorem ddo_misfit (bd bm bz bb bl : Nat) (d : Dv) (vs : List Value) (k z a n : Int) (s : ByteArray) (w : World) (hI : IsD w bd bm bz bb bl d vs) (hs : s.size ≤ 9223372036854775807) (hd : d.dead = false) (hft : fitsF k n s = false) :
    Calls Try.prog 28 #[.pointer (some ⟨bd, 0, none⟩), .agg #[.int .i64 k, .int .i64 z, .int .i64 a, .int .i64 n], .string s] w (DPost bd bm bz bb bl vs (ddoF d k z a n s) w) := by
  have HI := Lib.hid hI; clear hI
  have hf : ddoF d k z a n s = ((ByteArray.empty, 0, 1), d) := by simp [ddoF, hd, hft]
  rw [hf]
  have Hft := Lib.hid hft; clear hft hf
  have Hd := Lib.hid hd; clear hd
  go_enter Try.func28, Try.ntmps28
  go_wp2_with fail
  refine (alive_any bd bm bz bb bl d vs _ (HI.out.same ((Mod.refl [] w).alloc _))).mono ?_
  rintro e w1 ⟨rfl, rfl⟩
  rw [Hd.out, if_neg (by decide)]
  go_wp2_with fail
  refine (fits_any k z a n s hs _).mono ?_
  rintro e w1 ⟨rfl, hb⟩
  rw [Hft.out]
  have HM : Hid (Mod [] w w1) := ((Mod.refl [] w).alloc _).trans' (Mod.of_below hb [])
  clear hb
  go_wp2_with fail
  refine bodyPost_ret (results_tmp3 rfl _ _ _) rfl ?_
  exact ⟨rfl, vs, HI.out.same HM.out, HM.out.mono (by simp), fun x hx => .inl hx⟩

end Go.Proofs.Ytojceddgmmapdaa
