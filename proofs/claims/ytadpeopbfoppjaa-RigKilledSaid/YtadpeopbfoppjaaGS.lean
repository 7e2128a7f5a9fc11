/-
  Walk of the rig laws' speaks; walk of RigNil.
-/
import Derived.Test.YtadpeopbfoppjaaGA
import Derived.Test.YtadpeopbfoppjaaDU
namespace Go.Proofs.Ytadpeopbfoppjaa
open Go.RowKit

def sg0 : Rg := gnewF 2 5 4 1 1
def sg1 : Rg := gcutF sg0 2 []
def sg2 : Rg := (gdoF sg1 0 2 0 0 1 (zs 64)).2
def sg3 : Rg := (gdoF sg2 1 2 0 0 1 (zs 64)).2
theorem gsp1 : (gdoF sg1 0 2 0 0 1 (zs 64)).1 = (ByteArray.empty, 0, 0) := by kernel_rfl
theorem gsp2 : (gdoF sg2 1 2 0 0 1 (zs 64)).1 = (ByteArray.empty, 0, 6) := by kernel_rfl
theorem gsp3 : gzoneF sg3 0 0 = ((0, 0), true) := by kernel_rfl
theorem gsp4 : sg3.off = true ∧ sg3.ds.length = 2 ∧ sg3.cnt = 1 := by
  refine ⟨?_, ?_, ?_⟩ <;> kernel_rfl
theorem zs64 : (zs 64).size = 64 := by kernel_rfl

set_option maxHeartbeats 4000000 in
set_option maxRecDepth 100000 in
theorem speaks08_any (w : World) : Calls Try.prog 7 #[] w fun e w' => e = .returned (.bool true) ∧ Mod [] w w' := by
  have hmk := make_u8 64 (by omega) 64 rfl
  go_enter Try.func7, Try.ntmps7
  go_wp2_with fail
  refine (gnewA 3 5 4 1 1 2 _ rfl (by omega) (by omega)).mono ?_
  rintro e w1 ⟨br, rfl, h1⟩
  have H1 := Lib.hid h1; clear h1
  go_wp2_with fail
  refine (gcutA (b := 0) 2 [] _ H1.out (by omega) (ints_nil _) keep_nil).mono ?_
  rintro e w2 ⟨rfl, h2⟩
  have H2 : Hid (RAt w w2 br sg1) := h2
  clear h2 H1
  have hcv := zs_conv (w2.alloc (.cells (Array.replicate 64 (.int .u8 0)) 5)) w2.heap.size 64 (Blk.new w2 _ _)
  go_wp2_with fail
  refine (gdoA 0 2 0 0 1 (zs 64) (H2.out.alloc _) (by rw [zs64]; omega)).mono ?_
  rintro e w3 ⟨rfl, h3⟩
  rw [gsp1]
  have H3 : Hid (RAt w w3 br sg2) := h3
  clear h3 H2 hcv
  go_wp2_with fail
  refine (gdoA 1 2 0 0 1 (zs 64) H3.out (by rw [zs64]; omega)).mono ?_
  rintro e w4 ⟨rfl, h4⟩
  rw [gsp2]
  have H4 : Hid (RAt w w4 br sg3) := h4
  clear h4 H3
  go_wp2_with fail
  refine (gzoneA 0 0 H4.out).mono ?_
  rintro e w5 ⟨rfl, hb⟩
  rw [gsp3]
  have hz : zoneV (0, 0) = .agg #[.int .i64 0, .int .i64 0] := rfl
  rw [hz]
  have H5 : Hid (RAt w w5 br sg3) := H4.out.below hb
  clear hb H4 hz
  have hzb : RAt w (w5.alloc (.cells #[.int .i64 0, .int .i64 0] 45)) br sg3 := H5.out.alloc _
  have H6 := Lib.hid hzb
  clear hzb
  go_wp2_with fail
  refine (goffA H6.out).mono ?_
  rintro e w6 ⟨rfl, rfl⟩
  rw [gsp4.1]
  go_wp2_with fail
  refine (gdrivesA H6.out).mono ?_
  rintro e w6 ⟨rfl, rfl⟩
  rw [gsp4.2.1]
  go_wp2_with fail
  refine (gcountA H6.out).mono ?_
  rintro e w6 ⟨rfl, rfl⟩
  rw [gsp4.2.2]
  go_wp2_with fail
  go_ret
  exact ⟨rfl, H6.out.M⟩

set_option maxHeartbeats 1000000 in
set_option maxRecDepth 100000 in
theorem rigNil_walk (n z : Int) (w : World) : Calls Try.prog 6 #[.int .i64 n, .int .i64 z] w fun e w' => e = .returned (.bool true) ∧ Below w.heap.size w w' := by
  go_enter Try.func6, Try.ntmps6
  go_wp2_with fail
  refine (speaks08_any _).mono ?_
  rintro e w1 ⟨rfl, hm1⟩
  have H1 := Lib.hid hm1; clear hm1
  go_wp2_with fail
  refine (gdo_none n 7 0 0 0 ByteArray.empty _).mono ?_
  rintro e w2 ⟨rfl, hb⟩
  have H2 : Hid (Mod [] w w2) := H1.out.trans' (Mod.of_below hb [])
  clear hb H1
  go_wp2_with fail
  refine (gzone_none n z _).mono ?_
  rintro e w3 ⟨rfl, hb⟩
  have hzv : zoneV (0, 0) = .agg #[.int .i64 0, .int .i64 0] := rfl
  rw [hzv]
  have H3 : Hid (Mod [] w w3) := H2.out.trans' (Mod.of_below hb [])
  clear hb H2 hzv
  have H4 : Hid (Mod [] w (w3.alloc (.cells #[.int .i64 0, .int .i64 0] 45))) := H3.out.alloc _
  go_wp2_with (first
    | (go_at_call 9; refine (gcut_none _ _ _).mono ?_; rintro e w4 ⟨rfl, rfl⟩)
    | (go_at_call 17; refine (gcrash_none _ _).mono ?_; rintro e w4 ⟨rfl, rfl⟩)
    | (go_at_call 18; refine (gon_none _).mono ?_; rintro e w4 ⟨rfl, rfl⟩)
    | (go_at_call 14; refine (gkill_none _ _).mono ?_; rintro e w4 ⟨rfl, rfl⟩)
    | (go_at_call 13; refine (gflush_none _ _).mono ?_; rintro e w4 ⟨rfl, rfl⟩)
    | (go_at_call 11; refine (goff_none _).mono ?_; rintro e w4 ⟨rfl, rfl⟩)
    | (go_at_call 15; refine (gdead_none _ _).mono ?_; rintro e w4 ⟨rfl, rfl⟩)
    | (go_at_call 19; refine (gdrives_none _).mono ?_; rintro e w4 ⟨rfl, rfl⟩)
    | (go_at_call 12; refine (gcount_none _).mono ?_; rintro e w4 ⟨rfl, rfl⟩)
    | (go_at_call 20; refine (gblocks_none _).mono ?_; rintro e w4 ⟨rfl, rfl⟩))
  go_ret
  have hfin := (H4.out.alloc (.cells #[.int .i64 z] 3)).below (Nat.le_refl _)
  exact ⟨rfl, hfin⟩

end Go.Proofs.Ytadpeopbfoppjaa
