/-
  Walk of corbellaw06.whole.
-/
import Derived.Test.YtadpeopbfoppjaaDoorRE6
namespace Go.Proofs.YtadpeopbfoppjaaDoor
open Go.RowKit

/-- A body of the right length, if there must be one. -/
def wholeB (k : Int) (b : ByteArray) : ByteArray := if k = 4 ∧ b.size ≠ 0 then (b ++ zerosB 64).extract 0 64 else b

theorem Tryd.infoLawRec : (Tryd.prog.info? 23).map (·.size) = some 7 := by kernel_rfl
theorem zeros_bytes (X : World) (g : Nat) (hB : Blk X g (Array.replicate 64 (.int .u8 0)) 5) : (convert 35 9 (.slice (some ⟨g, 0, none⟩) 64 64)).run Tryd.prog X = Result.ok (.string (zerosB 64)) X := by
  have h := run_convert_bytes_back (P := Tryd.prog) X 35 9 5 ⟨g, 0, none⟩ 64 (List.replicate 64 0) Tryd.underlying35 Tryd.underlying5 Tryd.underlying9 (fun j hj => by
    rw [Addr.add_lit, Nat.zero_add]
    have hj' : j < 64 := by simpa using hj
    refine (hB.cell (i := j) (v := .int .u8 0) (by simp [hj'])).trans ?_
    rw [show (List.replicate 64 (0 : UInt8))[j]'(by simpa using hj') = 0 from List.getElem_replicate ..]; rfl)
  rw [List.length_replicate] at h
  exact h

theorem whole_ret {x : Array Value} {b : Nat} {R : Ending → World → Prop} {a : Act} {w : World} (hd : a.defers = []) (hp : a.tmps.getD 2 undef = .pointer (some ⟨b, 0, none⟩)) (hB : Blk w b x 23) (hR : x.size = 7 ∧ R (.returned (.agg x)) w) : bodyPost Tryd.prog Tryd.f9 R .ret a w := by
  refine bodyPost_ret (results_cell_row (P := Tryd.prog) (fn := Tryd.f9) (p := 2) (ty := 23) rfl a.tmps w b _ x _ _ hp hB Tryd.underlying23 rfl (by rw [hR.1]; exact Tryd.infoLawRec)) hd hR.2
theorem setSame {w : World} {b : Nat} {C : Array Value} {E : TypeId} {i : Nat} {v : Value} (h : Blk w b C E) : Blk (w.setCell ⟨b, i, none⟩ v) b (C.setIfInBounds i v) E := h.set i v

set_option maxHeartbeats 2000000 in
set_option maxRecDepth 100000 in
theorem whole_keep (k0 k1 k2 k3 k4 k5 : Int) (b : ByteArray) (w : World) (h : ¬(k0 = 4 ∧ b.size ≠ 0)) :
    Calls Tryd.prog 9 #[.agg #[.int .i64 k0, .int .i64 k1, .int .i64 k2, .int .i64 k3, .int .i64 k4, .int .i64 k5, .string b]] w fun e w' => e = .returned (.agg #[.int .i64 k0, .int .i64 k1, .int .i64 k2, .int .i64 k3, .int .i64 k4, .int .i64 k5, .string b]) ∧ Below w.heap.size w w' := by
  by_cases h4 : k0 = 4
  · have hb : b.size = 0 := by
      apply Classical.byContradiction; intro hb; exact h ⟨h4, hb⟩
    have he : b.toList.isEmpty = true := by rw [V.toList_empty]; exact decide_eq_true hb
    have he2 : b.toList = [] := by simpa using he
    subst h4
    clear h hb
    go_enter Tryd.func9, Tryd.ntmps9
    go_wp2
    exact bodyPost_ret (v := .agg #[.int .i64 4, .int .i64 k1, .int .i64 k2, .int .i64 k3, .int .i64 k4, .int .i64 k5, .string b]) (by simp [results, Tryd.results9, go_sem]) rfl ⟨rfl, by repeat (first | exact Below.refl _ _ | refine Below.setCell ?_ (by simp) _ | refine Below.alloc ?_ (by simp) _)⟩
  · have hk : (k0 == 4) = false := by simpa using h4
    clear h h4
    go_enter Tryd.func9, Tryd.ntmps9
    go_wp2
    exact bodyPost_ret (v := .agg #[.int .i64 k0, .int .i64 k1, .int .i64 k2, .int .i64 k3, .int .i64 k4, .int .i64 k5, .string b]) (by simp [results, Tryd.results9, go_sem]) rfl ⟨rfl, by repeat (first | exact Below.refl _ _ | refine Below.setCell ?_ (by simp) _ | refine Below.alloc ?_ (by simp) _)⟩

set_option maxHeartbeats 2000000 in
set_option maxRecDepth 100000 in
theorem whole_cut (k1 k2 k3 k4 k5 : Int) (b : ByteArray) (w : World) (h : b.size ≠ 0) (hb : b.size ≤ 140737488355328) :
    Calls Tryd.prog 9 #[.agg #[.int .i64 4, .int .i64 k1, .int .i64 k2, .int .i64 k3, .int .i64 k4, .int .i64 k5, .string b]] w fun e w' => e = .returned (.agg #[.int .i64 4, .int .i64 k1, .int .i64 k2, .int .i64 k3, .int .i64 k4, .int .i64 k5, .string ((b ++ zerosB 64).extract 0 64)]) ∧ Below w.heap.size w w' := by
  have he := empty_false b h
  have he2 : (!b.toList.isEmpty) = true := by rw [he]; rfl
  have hmk := make_u8 64 (by omega) 64 rfl
  have hcv := fun W : World => zeros_bytes (W.alloc (.cells (Array.replicate 64 (.int .u8 0)) 5)).drew W.heap.size (Blk.new W _ _)
  obtain ⟨Z, hZ⟩ : ∃ Z, zerosB 64 = Z := ⟨_, rfl⟩
  have hZs : Z.size = 64 := by rw [← hZ]; rfl
  rw [hZ] at hcv ⊢
  have hZ1 : 64 ≤ Z.size := by omega
  have hZ2 : Z.size ≤ 64 := by omega
  have hbz : b.size + Z.size ≤ 9223372036854775807 := by omega
  have hs64 : (64 : Int) ≤ ((b ++ Z).size : Int) := by rw [ByteArray.size_append]; omega
  clear hZs hZ h he
  go_enter Tryd.func9, Tryd.ntmps9
  go_upto_region 2 with fail
  have hA : Blk ((w.alloc (.cells #[.int .i64 4, .int .i64 k1, .int .i64 k2, .int .i64 k3, .int .i64 k4, .int .i64 k5, .string b] 23)).alloc (.cells #[.int .i64 0, .int .i64 0, .int .i64 0, .int .i64 0, .int .i64 0, .int .i64 0, .string ⟨#[]⟩] 23)) w.heap.size #[.int .i64 4, .int .i64 k1, .int .i64 k2, .int .i64 k3, .int .i64 k4, .int .i64 k5, .string b] 23 := (Blk.new w _ _).alloc _
  have hB : Blk ((w.alloc (.cells #[.int .i64 4, .int .i64 k1, .int .i64 k2, .int .i64 k3, .int .i64 k4, .int .i64 k5, .string b] 23)).alloc (.cells #[.int .i64 0, .int .i64 0, .int .i64 0, .int .i64 0, .int .i64 0, .int .i64 0, .string ⟨#[]⟩] 23)) (w.heap.size + 1) #[.int .i64 0, .int .i64 0, .int .i64 0, .int .i64 0, .int .i64 0, .int .i64 0, .string ⟨#[]⟩] 23 := by
    have := Blk.new (w.alloc (.cells #[.int .i64 4, .int .i64 k1, .int .i64 k2, .int .i64 k3, .int .i64 k4, .int .i64 k5, .string b] 23)) #[.int .i64 0, .int .i64 0, .int .i64 0, .int .i64 0, .int .i64 0, .int .i64 0, .string ⟨#[]⟩] 23
    rwa [show (w.alloc (.cells #[.int .i64 4, .int .i64 k1, .int .i64 k2, .int .i64 k3, .int .i64 k4, .int .i64 k5, .string b] 23)).heap.size = w.heap.size + 1 from by show (w.heap.push _).size = _; simp] at this
  have hW : Below w.heap.size w ((w.alloc (.cells #[.int .i64 4, .int .i64 k1, .int .i64 k2, .int .i64 k3, .int .i64 k4, .int .i64 k5, .string b] 23)).alloc (.cells #[.int .i64 0, .int .i64 0, .int .i64 0, .int .i64 0, .int .i64 0, .int .i64 0, .string ⟨#[]⟩] 23)) := by
    refine Below.alloc1 (Below.alloc1 (Below.refl _ _) _) _
  generalize ((w.alloc (.cells #[.int .i64 4, .int .i64 k1, .int .i64 k2, .int .i64 k3, .int .i64 k4, .int .i64 k5, .string b] 23)).alloc (.cells #[.int .i64 0, .int .i64 0, .int .i64 0, .int .i64 0, .int .i64 0, .int .i64 0, .string ⟨#[]⟩] 23)) = W0 at *
  have a6 : W0.cell? ⟨w.heap.size, 6, none⟩ = some (.string b) := hA.cell rfl
  have a0 : W0.cell? ⟨w.heap.size, 0, none⟩ = some (.int .i64 4) := hA.cell rfl
  have a1 : W0.cell? ⟨w.heap.size, 1, none⟩ = some (.int .i64 k1) := hA.cell rfl
  have a2 : W0.cell? ⟨w.heap.size, 2, none⟩ = some (.int .i64 k2) := hA.cell rfl
  have a3 : W0.cell? ⟨w.heap.size, 3, none⟩ = some (.int .i64 k3) := hA.cell rfl
  have a4 : W0.cell? ⟨w.heap.size, 4, none⟩ = some (.int .i64 k4) := hA.cell rfl
  have a5 : W0.cell? ⟨w.heap.size, 5, none⟩ = some (.int .i64 k5) := hA.cell rfl
  have z0 : W0.cell? ⟨w.heap.size + 1, 0, none⟩ = some (.int .i64 0) := hB.cell rfl
  have f0 := hB.frozen 0
  have z1 : W0.cell? ⟨w.heap.size + 1, 1, none⟩ = some (.int .i64 0) := hB.cell rfl
  have f1 := hB.frozen 1
  have z2 : W0.cell? ⟨w.heap.size + 1, 2, none⟩ = some (.int .i64 0) := hB.cell rfl
  have f2 := hB.frozen 2
  have z3 : W0.cell? ⟨w.heap.size + 1, 3, none⟩ = some (.int .i64 0) := hB.cell rfl
  have f3 := hB.frozen 3
  have z4 : W0.cell? ⟨w.heap.size + 1, 4, none⟩ = some (.int .i64 0) := hB.cell rfl
  have f4 := hB.frozen 4
  have z5 : W0.cell? ⟨w.heap.size + 1, 5, none⟩ = some (.int .i64 0) := hB.cell rfl
  have f5 := hB.frozen 5
  have z6 : W0.cell? ⟨w.heap.size + 1, 6, none⟩ = some (.string ⟨#[]⟩) := hB.cell rfl
  have f6 := hB.frozen 6
  have c6 := hA.frozen 6
  have hlA := hA.lt
  have hlB := hB.lt
  have HA := Lib.hid hA; have HB := Lib.hid hB; have HW := Lib.hid hW
  clear hA hB hW
  go_region_with (fail)
  all_goals
    go_wp2_with fail
    (try simp only [Exit.inBlock, Exit.then])
    refine whole_ret (b := w.heap.size + 1) rfl rfl ?_ ⟨rfl, rfl, ?_⟩
    · have hC := (((((((HB.out.set_other (a := ⟨w.heap.size, 6, none⟩) (by show w.heap.size ≠ _; omega) (.string ((b ++ Z).extract 0 64))).set 0 (.int .i64 4)).set 1 (.int .i64 k1)).set 2 (.int .i64 k2)).set 3 (.int .i64 k3)).set 4 (.int .i64 k4)).set 5 (.int .i64 k5)).set 6 (.string ((b ++ Z).extract 0 64))
      repeat (first | with_reducible apply Blk.drewN | with_reducible apply Blk.drew | with_reducible apply Blk.alloc)
      exact hC
    · repeat (first | with_reducible exact HW.out | with_reducible apply Below.drewN' | with_reducible apply Below.drew | with_reducible apply Below.alloc1 | with_reducible refine Below.setCell ?_ (by first | exact Nat.le_refl _ | (show w.heap.size ≤ w.heap.size + 1; omega)) _)

theorem whole_any (k0 k1 k2 k3 k4 k5 : Int) (b : ByteArray) (w : World) (hb : b.size ≤ 140737488355328) :
    Calls Tryd.prog 9 #[.agg #[.int .i64 k0, .int .i64 k1, .int .i64 k2, .int .i64 k3, .int .i64 k4, .int .i64 k5, .string b]] w fun e w' => e = .returned (.agg #[.int .i64 k0, .int .i64 k1, .int .i64 k2, .int .i64 k3, .int .i64 k4, .int .i64 k5, .string (wholeB k0 b)]) ∧ Below w.heap.size w w' := by
  by_cases h : k0 = 4 ∧ b.size ≠ 0
  · have e : wholeB k0 b = (b ++ zerosB 64).extract 0 64 := by unfold wholeB; rw [if_pos h]
    rw [e, h.1]
    exact whole_cut k1 k2 k3 k4 k5 b w h.2 hb
  · have e : wholeB k0 b = b := by unfold wholeB; rw [if_neg h]
    rw [e]
    exact whole_keep k0 k1 k2 k3 k4 k5 b w h

end Go.Proofs.YtadpeopbfoppjaaDoor
