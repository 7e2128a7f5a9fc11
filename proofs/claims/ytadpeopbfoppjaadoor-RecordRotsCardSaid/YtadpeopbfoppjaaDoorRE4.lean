/-
  Walk of record.Decode: the early refusals.
-/
import Derived.Test.YtadpeopbfoppjaaDoorRE2
import Derived.Test.YtadpeopbfoppjaaDoorRV
import Derived.Laws.Rows
namespace Go.Proofs.YtadpeopbfoppjaaDoor
open Go.RowKit

def rcVal (x : Rc) : Value := .agg #[.int .i64 x.kind, .int .i64 x.seq, .int .i64 x.a, .int .i64 x.b, .int .i64 x.c, .int .i64 x.d, .string x.body]
def rc0 : Rc := ⟨0, 0, 0, 0, 0, 0, ⟨#[]⟩⟩
/-- What Decode answers: the record, the blocks, the fault. -/
def decVal (x : Rc) (n e : Int) : Ending := .returned (.tuple #[rcVal x, .int .i64 n, .int .i64 e])

/-- The results of Decode: a struct in a cell, two numbers. -/
theorem results_row_tmp2 {P : Program} {fn : Func} {p u v : Tmp} {ty : TypeId} (h : fn.results = #[.cell p ty, .tmp u, .tmp v]) (tmps : Array Value) (w : World) (g : Nat) (t : TypeId) (cs : Array Value) (fr : Nat × Nat) (d : TypeDesc)
    (hp : tmps.getD p undef = .pointer (some ⟨g, 0, none⟩)) (hg : w.heap[g]? = some (.cells cs t fr))
    (hu : P.underlying ty = some d) (hd : (match d with | .struct _ | .array _ _ => true | _ => false) = true) (hi : (P.info? ty).map (·.size) = some cs.size) :
    (results fn tmps).run P w = .ok (.tuple #[.agg cs, tmps.getD u undef, tmps.getD v undef]) w := by
  have hp' : tmps[p]?.getD undef = .pointer (some ⟨g, 0, none⟩) := by simpa using hp
  simp [results, h, hp', asAddr, run_loadVar_row w g t ty cs fr d hg hu hd hi]
theorem Tryd.infoRec : (Tryd.prog.info? 29).map (·.size) = some 7 := by kernel_rfl
theorem Blk.set' {w : World} {b : Nat} {C C' : Array Value} {E : TypeId} (h : Blk w b C E) (i : Nat) (v : Value) (e : C.setIfInBounds i v = C') : Blk (w.setCell ⟨b, i, none⟩ v) b C' E := e ▸ h.set i v
theorem dec_ret {x : Rc} {n e : Int} {g : Nat} {R : Ending → World → Prop} {a : Act} {w : World} (hd : a.defers = []) (hp : a.tmps.getD 2 undef = .pointer (some ⟨g, 0, none⟩)) (hn : a.tmps.getD 3 undef = .int .i64 n) (he : a.tmps.getD 4 undef = .int .i64 e)
    (hB : Blk w g (rcCells x) 29) (hR : R (decVal x n e) w) : bodyPost Tryd.prog Tryd.f13 R .ret a w := by
  refine bodyPost_ret (results_row_tmp2 (P := Tryd.prog) (fn := Tryd.f13) rfl a.tmps w g _ (rcCells x) _ _ hp hB Tryd.underlying29 rfl Tryd.infoRec) hd ?_
  rw [hn, he]
  exact hR
theorem Below.drewN' {B : Nat} {a w : World} (h : Below B a w) (n : Nat) : Below B a (w.drewN n) := ⟨h.os, h.tape, h.output, h.size, h.block⟩
theorem empty_false (s : ByteArray) (h : s.size ≠ 0) : s.toList.isEmpty = false := by
  rw [V.toList_empty]; exact decide_eq_false h

set_option maxHeartbeats 2000000 in
set_option maxRecDepth 100000 in
theorem decode_none (w : World) : Calls Tryd.prog 13 #[.string ⟨#[]⟩] w fun e w' => e = decVal rc0 0 13 ∧ Below w.heap.size w w' := by
  go_enter Tryd.func13, Tryd.ntmps13
  go_wp2_with fail
  (try simp only [Exit.inBlock, Exit.then])
  refine dec_ret (x := rc0) rfl rfl rfl rfl (by repeat (first | with_reducible apply Blk.drewN | with_reducible apply Blk.drew | with_reducible refine Blk.set' (C := rcCells rc0) ?_ _ _ rfl | exact Blk.new _ _ _)) ⟨rfl, ?_⟩
  repeat (first | with_reducible exact Below.refl _ _ | with_reducible apply Below.drewN' | with_reducible apply Below.drew | with_reducible refine Below.setCell ?_ (by exact Nat.le_refl _) _ | with_reducible refine Below.alloc ?_ (by exact Nat.le_refl _) _)

set_option maxHeartbeats 2000000 in
set_option maxRecDepth 100000 in
theorem decode_short (s : ByteArray) (w : World) (h0 : s.size ≠ 0) (h : s.size < 64) : Calls Tryd.prog 13 #[.string s] w fun e w' => e = decVal rc0 0 10 ∧ Below w.heap.size w w' := by
  have he := empty_false s h0
  have hd : decide ((s.size : Int) < 64) = true := decide_eq_true (by omega)
  go_enter Tryd.func13, Tryd.ntmps13
  go_wp2_with fail
  (try simp only [Exit.inBlock, Exit.then])
  refine dec_ret (x := rc0) rfl rfl rfl rfl (by repeat (first | with_reducible apply Blk.drewN | with_reducible apply Blk.drew | with_reducible refine Blk.set' (C := rcCells rc0) ?_ _ _ rfl | exact Blk.new _ _ _)) ⟨rfl, ?_⟩
  repeat (first | with_reducible exact Below.refl _ _ | with_reducible apply Below.drewN' | with_reducible apply Below.drew | with_reducible refine Below.setCell ?_ (by exact Nat.le_refl _) _ | with_reducible refine Below.alloc ?_ (by exact Nat.le_refl _) _)

set_option maxHeartbeats 2000000 in
set_option maxRecDepth 100000 in
theorem decode_mark (s : ByteArray) (w : World) (h : 64 ≤ s.size) (hm : ¬(s.extract 0 2).toList = [67, 66]) : Calls Tryd.prog 13 #[.string s] w fun e w' => e = decVal rc0 0 10 ∧ Below w.heap.size w w' := by
  have he := empty_false s (by omega)
  have hd : decide ((s.size : Int) < 64) = false := decide_eq_false (by omega)
  have hi : (2 : Int) ≤ (s.size : Int) := by omega
  go_enter Tryd.func13, Tryd.ntmps13
  go_wp2_with fail
  (try simp only [Exit.inBlock, Exit.then])
  refine dec_ret (x := rc0) rfl rfl rfl rfl (by repeat (first | with_reducible apply Blk.drewN | with_reducible apply Blk.drew | with_reducible refine Blk.set' (C := rcCells rc0) ?_ _ _ rfl | exact Blk.new _ _ _)) ⟨rfl, ?_⟩
  repeat (first | with_reducible exact Below.refl _ _ | with_reducible apply Below.drewN' | with_reducible apply Below.drew | with_reducible refine Below.setCell ?_ (by exact Nat.le_refl _) _ | with_reducible refine Below.alloc ?_ (by exact Nat.le_refl _) _)

set_option maxHeartbeats 2000000 in
set_option maxRecDepth 100000 in
theorem decode_noise (s : ByteArray) (w : World) (h : 64 ≤ s.size) (hm : (s.extract 0 2).toList = [67, 66]) (hz : V.allz (s.extract 25 64) = false) : Calls Tryd.prog 13 #[.string s] w fun e w' => e = decVal rc0 0 10 ∧ Below w.heap.size w w' := by
  have he := empty_false s (by omega)
  have hd : decide ((s.size : Int) < 64) = false := decide_eq_false (by omega)
  have hi : (2 : Int) ≤ (s.size : Int) := by omega
  have hi2 : (64 : Int) ≤ (s.size : Int) := by omega
  have hes : (s.extract 25 64).size ≤ 140737488351232 := by rw [ByteArray.size_extract]; omega
  have HZ := Lib.hid (show V.xor_Empty.f (s.extract 25 64) = some false by unfold V.xor_Empty.f; rw [if_pos hes, hz])
  clear hes hz
  go_enter Tryd.func13, Tryd.ntmps13
  go_wp2_with fail
  refine (V.xor_Empty.calls _ _ _ HZ.out).mono ?_
  rintro e w1 ⟨rfl, ⟨n1, rfl⟩⟩
  go_wp2_with fail
  (try simp only [Exit.inBlock, Exit.then])
  refine dec_ret (x := rc0) rfl rfl rfl rfl (by repeat (first | with_reducible apply Blk.drewN | with_reducible apply Blk.drew | with_reducible refine Blk.set' (C := rcCells rc0) ?_ _ _ rfl | exact Blk.new _ _ _)) ⟨rfl, ?_⟩
  repeat (first | with_reducible exact Below.refl _ _ | with_reducible apply Below.drewN' | with_reducible apply Below.drew | with_reducible refine Below.setCell ?_ (by exact Nat.le_refl _) _ | with_reducible refine Below.alloc ?_ (by exact Nat.le_refl _) _)

end Go.Proofs.YtadpeopbfoppjaaDoor
