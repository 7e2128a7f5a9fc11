/-
  RecordDecodes: for every text the law returns true, and its argument reads as before. No condition.
-/
import Derived.Test.YtadpeopbfoppjaaDoorRT0
import Derived.Test.YtadpeopbfoppjaaDoorOS1
import Derived.Test.YtadpeopbfoppjaaDoorRDW
import Derived.Test.YtadpeopbfoppjaaDoorTie
import Derived.Test.YtadpeopbfoppjaaDoorCards
import Derived.LaidMore
import Derived.Lay
import Derived.SevenTiedAt
import Derived.Stop.Joined
namespace Go.Proofs.YtadpeopbfoppjaaDoor
open Go.ChangeShapes Go.WideShapes Go.ChangeAt Go.RowKit Go.Joins Go.Proofs.YtadpeopbfoppjaaDoor.OS Go.Proofs.YtadpeopbfoppjaaDoor.E Go.Proofs.YtadpeopbfoppjaaDoorW.PrintWords
open Go.ChangeMaps (open_string)

set_option maxRecDepth 100000 in
theorem recordDecodes_lifted (os : Os) (started : os.Started) (H : Type) (enc : TypeId × Value → H) :
    ReturnsInHanded {} Tryd.checked os 6 .any (fun w args => (Rows.recordDecodesSpec.pre enc Tryd.prog Tryd.f6 Rows.recordDecodesRow.domain false w args ∧ laidMetH Tryd.prog Rows.recordDecodesRow.laid w) ∧ sizedMet enc Tryd.prog Tryd.f6 (OpenSpec.ofChange Rows.recordDecodesSpec) false w args)
      (Rows.recordDecodesSpec.post enc Tryd.prog Tryd.f6 false true false false) := by
  refine returnsInHanded_of_change_and (C := Tryd.checked) (X := fun w _ => laidMetH Tryd.prog Rows.recordDecodesRow.laid w) (fun _ _ _ hh h => h.of_heap hh) own started (by kernel_rfl) Tryd.func6
    (ChangeSpec.witness_shaped (enc := enc) (C := Tryd.checked) (os := os) (X := fun w _ => laidMetH Tryd.prog Rows.recordDecodesRow.laid w) false (World.laidAll Tryd.prog os Rows.recordDecodesRow.laid) #[.string ⟨#[]⟩] 8 (World.laidAll_os _ _ _)
      (World.shaped_of_ZipB (by kernel_rfl) (by kernel_rfl)) (by kernel_rfl) (by kernel_rfl) (by kernel_rfl)
      (by rw [MakeChecks.laidMetH_plain _ _ _ (by kernel_rfl)]; exact laidMet_laidAll _ (by kernel_rfl) (by kernel_rfl))) ?_
  intro W base args ds gs before hval0 hW hcnd hsz hL1 hL2
  have hval : ∀ (j : Nat) t v, Tryd.f6.params[j]? = some t → args[j]? = some v → Value.okWide Tryd.prog W .any base t v := hval0
  have hW' := hW
  obtain ⟨p, q, hA0, hV, rfl, hfz, hnd⟩ := hW
  have hA : DataW.TrodAll enc Tryd.prog W 0 (fun _ => true) true Tryd.f6.params.toList args.toList ds p := hA0
  rw [Tryd.params6] at hA hval
  obtain ⟨v0, vs0, d0, ds0, p0, q0, hargs, rfl, rfl, h0, r0⟩ := trodAll_cons hA
  obtain ⟨rfl, rfl, rfl⟩ := trodAll_nil r0
  obtain rfl : args = #[v0] := by cases args; simp_all
  obtain ⟨rfl, rfl⟩ := trodVars_none hV
  have k0 := h0
  have lt0 : ∀ x ∈ p0, x.block < W.heap.size := by obtain ⟨m, hm⟩ := k0; exact DataW.trod_lt m _ _ _ hm
  obtain ⟨x0, rfl, hx0, _, _⟩ := open_string Tryd.underlying9 (hval 0 9 v0 rfl rfl) h0
  have hn0 : x0.size ≤ 140737488351232 := by
    have := List.all_eq_true.1 hsz x0.data.toList.length (DataW.weights_mem_each (ts := [9] ++ []) (j := 0) (t := 9) rfl rfl _ (by rw [hx0]; simp [DataW.weights]))
    have := of_decide_eq_true this
    unfold reachBytes at this
    have e : x0.data.toList.length = x0.size := rfl
    omega
  clear hA0 hval0
  have hN : TabIn W := tabIn_laid W _ (by rw [← MakeChecks.laidMetH_plain _ _ _ (by kernel_rfl)]; first | exact hL1 | exact hL2)
  refine ((decodes_walk x0 W hN hn0)).mono fun e W' ⟨he, bel⟩ => ?_
  subst he
  exact ⟨_, rfl, _, _, _, [], _, [], hW', trodAll_mk1 (shut_bool Tryd.underlying4 _), (trodAll_cons_mk (Below.trod laidOut (by kernel_rfl) (of_decide_eq_true (by kernel_rfl)) k0 bel lt0) trodAll_mk0), rfl, bel.frame _, fun h => by cases h⟩

theorem recordDecodes_holds : Rows.RecordDecodesSaid :=
  OpenClaim.holds_of_wide 6 Tryd.f6 rfl rfl rfl rfl rfl rfl rfl ⟨rfl, rfl, rfl, rfl, rfl⟩ rfl rfl rfl rfl rfl (by kernel_rfl) Tryd.func6 (by kernel_rfl)
    (of_decide_eq_true (by kernel_rfl)) (by unfold Func.isWrapper; first | (rw [if_pos (by decide +kernel)]; kernel_rfl) | (rw [if_neg (by decide +kernel)]; exact ⟨rfl, rfl⟩))
    (fun os started H enc _ => recordDecodes_lifted os started H enc)
theorem recordDecodes_card : Rows.RecordDecodesCardSaid :=
  Claim7.holds_tied_plain_at .later [] [.data, .data, .pinned] true (true, "ef97516b39736fc78474e536d95e6425e24ecef700b3edf607db6e2039bcb872") false
    recordDecodes_holds (fun _ h => by cases h) (by kernel_rfl) (fun _ h => by cases h) recordDecodes_row_tie rfl ⟨rfl, rfl⟩ (by kernel_rfl) rfl
    (fun f fn hf hfn => by
      obtain rfl : f = 6 := Option.some.inj ((show Tryd.prog.funcNamed "corbel/corbellaw06.RecordDecodes" = some 6 by kernel_rfl).symm.trans hf) |>.symm
      obtain rfl : fn = Tryd.f6 := (Option.some.inj (Tryd.func6.symm.trans hfn)).symm
      exact ⟨by kernel_rfl, fun j t ht => by
        rw [Tryd.params6] at ht
        have hm : t ∈ [9] := by simpa using Array.mem_of_getElem? ht
        have hall : ([9].all fun u => !Tryd.prog.wantsStandIn u) = true := by kernel_rfl
        exact (show Tryd.prog.wantsStandIn t = false by simpa using List.all_eq_true.1 hall t hm)⟩)
    (by kernel_rfl)
#print axioms recordDecodes_card

end Go.Proofs.YtadpeopbfoppjaaDoor
