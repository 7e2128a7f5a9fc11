/-
  Walk of the drive laws' speaks: two blocks that last.
-/
import Derived.Test.YtojceddgmmapdaaDA
import Derived.Test.YtojceddgmmapdaaDT
namespace Go.Proofs.Ytojceddgmmapdaa
open Go.RowKit

def zs (n : Nat) : ByteArray := str (List.replicate n 0)
def sd0 : Dv := dnewF 1 4 1 1
def sd1 : Dv := (ddoF sd0 2 0 0 2 (zs 128)).2
def sd2 : Dv := (dflushF sd1).2
def sd3 : Dv := (ddoF sd2 2 0 0 1 ((zs 128).extract 0 64)).2
def sd4 : Dv := dloseF sd3 [0]
theorem dsp1 : (ddoF sd0 2 0 0 2 (zs 128)).1 = (ByteArray.empty, 0, 0) := by kernel_rfl
theorem dsp2 : (dflushF sd1).1 = 0 := by kernel_rfl
theorem dsp3 : (ddoF sd2 2 0 0 1 ((zs 128).extract 0 64)).1 = (ByteArray.empty, 2, 0) := by kernel_rfl
theorem dsp5 : ddoF sd4 7 0 0 2 ByteArray.empty = ((zs 128, 0, 0), sd4) := by kernel_rfl
theorem dsp6 : getF sd4.m 0 = ((3, 2), true) := by kernel_rfl
theorem zs128 : (zs 128).size = 128 := by kernel_rfl

theorem zs_conv (w : World) (g n : Nat) (hb : Blk w g (Array.replicate n (.int .u8 0)) 5) : (convert 97 9 (.slice (some ⟨g, 0, none⟩) n n)).run Try.prog w = .ok (.string (zs n)) w := by
  have h := run_convert_bytes_back (P := Try.prog) w 97 9 5 ⟨g, 0, none⟩ n (List.replicate n 0) Try.underlying97 Try.underlying5 Try.underlying9 (fun j hj => by
    rw [Addr.add_lit, Nat.zero_add]
    refine hb.cell ?_
    have : j < n := by simpa using hj
    simp [this])
  rwa [List.length_replicate] at h

set_option maxHeartbeats 4000000 in
set_option maxRecDepth 100000 in
theorem speaks07_any (w : World) : Calls Try.prog 25 #[] w fun e w' => e = .returned (.bool true) ∧ Mod [] w w' := by
  have hmk := make_u8 128 (by omega) 128 rfl
  go_enter Try.func25, Try.ntmps25
  go_wp2_with fail
  refine (dnewA 1 4 1 1 w rfl).mono ?_
  rintro e w1 ⟨bd, bm, bz, bb, bl, vs, rfl, h1⟩
  have H1 := Lib.hid h1; clear h1
  have hcv := zs_conv (w1.alloc (.cells (Array.replicate 128 (.int .u8 0)) 5)) w1.heap.size 128 (Blk.new w1 _ _)
  go_wp2_with fail
  refine (ddoA 2 0 0 2 (zs 128) (H1.out.alloc _) (by rw [zs128]; omega)).mono ?_
  rintro e w2 ⟨rfl, vs2, h2, -, -⟩
  rw [show dnewF 1 4 1 1 = sd0 from rfl, dsp1]
  have H2 : Hid (DAt w w2 bd bm bz bb bl sd1 vs2) := h2
  clear h2 hcv H1
  go_wp2_with fail
  refine (dflushA H2.out).mono ?_
  rintro e w3 ⟨rfl, vs3, h3, -, -⟩
  rw [dsp2]
  have H3 : Hid (DAt w w3 bd bm bz bb bl sd2 vs3) := h3
  clear h3 H2
  have hz := zs128
  go_wp2_with fail
  refine (ddoA 2 0 0 1 ((zs 128).extract 0 64) H3.out (by decide)).mono ?_
  rintro e w4 ⟨rfl, vs4, h4, -, -⟩
  rw [dsp3]
  have H4 : Hid (DAt w w4 bd bm bz bb bl sd3 vs4) := h4
  clear h4 H3
  go_wp2_with fail
  refine (dloseA w4.heap.size [0] _ (H4.out.alloc _) (ints_one (Blk.new w4 _ _)) (fun _ => ⟨fun hx => by have := H4.out.lt _ hx; omega, by simp⟩) (by simp) (fun j => by cases j <;> simp)).mono ?_
  rintro e w5 ⟨rfl, vs5, h5, -, -⟩
  have H5 : Hid (DAt w w5 bd bm bz bb bl sd4 vs5) := h5
  clear h5 H4
  go_wp2_with fail
  refine (ddoA 7 0 0 2 ByteArray.empty H5.out (by decide)).mono ?_
  rintro e w6 ⟨rfl, vs6, h6, -, -⟩
  rw [dsp5] at h6 ⊢
  have H6 : Hid (DAt w w6 bd bm bz bb bl sd4 vs6) := h6
  clear h6 H5
  go_wp2_with fail
  refine (dzone_any bd bm bz bb bl sd4 vs6 0 _ H6.out.I).mono ?_
  rintro e w7 ⟨rfl, hb⟩
  rw [dsp6]
  have hz : zoneV (3, 2) = .agg #[.int .i64 3, .int .i64 2] := rfl
  rw [hz]
  have H7 : Hid (DAt w w7 bd bm bz bb bl sd4 vs6) := H6.out.below hb
  clear hb H6 hz
  go_wp2_with fail
  go_ret
  exact ⟨rfl, H7.out.M.alloc _⟩

end Go.Proofs.Ytojceddgmmapdaa
