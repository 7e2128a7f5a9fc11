/-
  Walk of record.Decode: a block with the mark and noughts behind the sum.
-/
import Derived.Test.YtadpeopbfoppjaaDoorRE4
namespace Go.Proofs.YtadpeopbfoppjaaDoor
open Go.RowKit

/-- The number that stands in a field. -/
def rdF (s : ByteArray) (k : Nat) : Int := (nb (s.extract (fAt k) (fAt k + fWide k)).data.toList : Int)
/-- The record as it is behind k fields. -/
def rcUp (s : ByteArray) (k : Nat) : Rc := ⟨if 0 < k then rdF s 0 else 0, if 1 < k then rdF s 1 else 0, if 2 < k then rdF s 2 else 0, if 3 < k then rdF s 3 else 0, if 4 < k then rdF s 4 else 0, if 5 < k then rdF s 5 else 0, ⟨#[]⟩⟩
/-- The record with its body. -/
def decRc (s : ByteArray) : Rc := ⟨rdF s 0, rdF s 1, rdF s 2, rdF s 3, rdF s 4, rdF s 5, s.extract 64 (64 + (bodyLen (rdF s 0)).toNat)⟩
/-- What Decode answers of such bytes. -/
def decAns (s : ByteArray) : Ending :=
  if rightF (rcUp s 6) = true ∧ 64 + bodyLen (rdF s 0) ≤ (s.size : Int) then
    (if nb (s.extract 21 25).data.toList = (crcL ((s.extract 0 21).data.toList ++ (decRc s).body.data.toList)).toNat then decVal (decRc s) (bodyLen (rdF s 0) / 64 + 1) 0 else decVal rc0 0 11)
  else decVal rc0 0 10

theorem wr_ends : IntKind.i64.wrap 3 = 3 ∧ IntKind.i64.wrap 9 = 9 ∧ IntKind.i64.wrap 11 = 11 ∧ IntKind.i64.wrap 13 = 13 ∧ IntKind.i64.wrap 19 = 19 ∧ IntKind.i64.wrap 21 = 21 := by decide
attribute [local go_sem] wr_ends

/-- What stands behind k rounds. -/
def DecRel (s : ByteArray) (w : World) (rb fb : Nat) (k : Nat) (wr : World) : Prop :=
  Blk wr fb fieldCells 58 ∧ Blk wr rb (rcCells (rcUp s k)) 29 ∧ Blk wr w.heap.size (rcCells rc0) 29 ∧ Below w.heap.size w wr

theorem new_cell {w : World} {a : Addr} {v x : Value} {C : Array Value} {E : TypeId} {i : Nat} (h : C[i]? = some x) : ((w.setCell a v).alloc (.cells C E)).drew.cell? ⟨w.heap.size, i, none⟩ = some x := by
  have hs : (w.setCell a v).heap.size = w.heap.size := by simp [World.setCell]
  have hb := Blk.new (w.setCell a v) C E
  rw [hs] at hb
  exact hb.drew.cell h

theorem old_cell {w : World} {a : Addr} {v x : Value} {C : Array Value} {E : TypeId} {i : Nat} (ha : a.block ≠ w.heap.size) (h : C[i]? = some x) : ((w.alloc (.cells C E)).drew.setCell a v).cell? ⟨w.heap.size, i, none⟩ = some x :=
  ((Blk.new w C E).drew.set_other ha v).cell h

theorem Below.alloc1 {a w : World} (h : Below a.heap.size a w) (o : Obj) : Below a.heap.size a (w.alloc o) := h.alloc h.size o

theorem right_kind (s : ByteArray) (h : rightF (rcUp s 6) = true) : 1 ≤ rdF s 0 ∧ rdF s 0 ≤ 6 := by
  unfold rightF at h
  simp only [Bool.and_eq_true, decide_eq_true_eq] at h
  obtain ⟨h1, h2⟩ := h
  refine ⟨h2, ?_⟩
  unfold Rc.okTo at h1
  have := List.all_eq_true.1 h1 0 (by simp)
  simp only [Bool.and_eq_true, decide_eq_true_eq] at this
  exact this.2

theorem strs_new (W : World) (A B : ByteArray) : StrsIn (W.alloc (.cells #[.string A, .string B] 9)) (.slice (some ⟨W.heap.size, 0, none⟩) 2 2) [A, B] := by
  refine ⟨_, 2, rfl, fun _ => ⟨W.heap.size, 0, rfl, fun j hj => ?_⟩⟩
  have : j = 0 ∨ j = 1 := by simp at hj; omega
  rcases this with rfl | rfl
  · exact (Blk.new W _ _).cell rfl
  · exact (Blk.new W _ _).cell rfl

set_option maxHeartbeats 8000000 in
set_option maxRecDepth 100000 in
theorem decode_main (s : ByteArray) (w : World) (hT : TabIn w) (hw0 : 0 < w.heap.size) (h : 64 ≤ s.size) (hm : (s.extract 0 2).toList = [67, 66]) (hz : V.allz (s.extract 25 64) = true) :
    Calls Tryd.prog 13 #[.string s] w fun e w' => e = decAns s ∧ Below w.heap.size w w' := by
  have HT := Lib.hid hT
  clear hT
  have he := empty_false s (by omega)
  have hd : decide ((s.size : Int) < 64) = false := decide_eq_false (by omega)
  have hi : (2 : Int) ≤ (s.size : Int) := by omega
  have hi2 : (64 : Int) ≤ (s.size : Int) := by omega
  have hes : (s.extract 25 64).size ≤ 140737488351232 := by rw [ByteArray.size_extract]; omega
  have HZ := Lib.hid (show V.xor_Empty.f (s.extract 25 64) = some true by unfold V.xor_Empty.f; rw [if_pos hes, hz])
  clear hes hz
  go_enter Tryd.func13, Tryd.ntmps13
  go_upto_region 3 with fail
  go_cut [27] (fun s27 wx => s27 = .bool false ∧ Blk wx w.heap.size (rcCells rc0) 29 ∧ Below w.heap.size w wx)
  case first =>
    go_wp2_with fail
    refine (V.xor_Empty.calls _ _ _ HZ.out).mono ?_
    rintro e w1 ⟨rfl, ⟨n1, rfl⟩⟩
    go_wp2_with fail
    go_meet
    refine ⟨rfl, ?_, ?_⟩
    · repeat (first | with_reducible apply Blk.drewN | with_reducible apply Blk.drew | exact Blk.new _ _ _)
    · repeat (first | with_reducible exact Below.refl _ _ | with_reducible apply Below.drewN' | with_reducible apply Below.drew | with_reducible refine Below.setCell ?_ (by exact Nat.le_refl _) _ | with_reducible refine Below.alloc ?_ (by exact Nat.le_refl _) _)
  case rest =>
    obtain ⟨rfl, hB, hW⟩ := hcut
    have HB := Lib.hid hB; have HW := Lib.hid hW
    have hsz := hW.size
    have hlz := hB.lt
    clear hB hW
    go_wp2_with fail
    obtain ⟨fb, hfb⟩ : ∃ fb, fb = (wc.alloc (.cells (rcCells rc0) 29)).heap.size := ⟨_, rfl⟩
    have hfb2 : fb = wc.heap.size + 1 := by rw [hfb]; show (wc.heap.push _).size = _; simp
    refine (fields_any _).mono ?_
    rintro e w1 ⟨he1, hw1⟩
    have he2 : e = .returned (.slice (some ⟨fb, 0, none⟩) 6 6) := by rw [he1, hfb]; rfl
    have hR0 : Blk w1 wc.heap.size (rcCells rc0) 29 := by rw [← hw1]; exact (Blk.new wc _ _).alloc _
    have hF0 : Blk w1 fb fieldCells 58 := by rw [← hw1, hfb]; exact Blk.new _ _ _
    have hZ0 : Blk w1 w.heap.size (rcCells rc0) 29 := by rw [← hw1]; exact (HB.out.alloc _).alloc _
    have hW0 : Below w.heap.size w w1 := by rw [← hw1]; exact (HW.out.alloc hsz _).alloc (Nat.le_trans hsz (by show wc.heap.size ≤ (wc.heap.push _).size; simp)) _
    subst he2
    have HR0 := Lib.hid hR0; have HF0 := Lib.hid hF0; have HZ0 := Lib.hid hZ0; have HW0 := Lib.hid hW0
    have hne : wc.heap.size < fb := by omega
    clear hR0 hF0 hZ0 hW0 hw1 he1 hfb hfb2
    go_wp2_with fail
    go_loopw [31] (fun s31 wr => ∃ k : Nat, s31 = .int .i64 k ∧ k ≤ 6 ∧ DecRel s w wc.heap.size fb k wr) (fun s31 _ => 6 - (intOf s31).toNat)
    case atStart => exact ⟨0, rfl, by omega, HF0.out, HR0.out, HZ0.out, HW0.out⟩
    case round =>
      obtain ⟨k, rfl, hk, hF, hR, hZ, hW⟩ := hrel
      have HF := Lib.hid hF; have HR2 := Lib.hid hR; have HZ2 := Lib.hid hZ; have HW2 := Lib.hid hW
      have hlf := hF.lt
      have hlr := hR.lt
      have hlz2 := hZ.lt
      have hsz2 := hW.size
      clear hF hR hZ hW
      have hcase : k = 0 ∨ k = 1 ∨ k = 2 ∨ k = 3 ∨ k = 4 ∨ k = 5 ∨ k = 6 := by omega
      rcases hcase with rfl | rfl | rfl | rfl | rfl | rfl | rfl
      · have q0 : wr.cell? ⟨fb, 0, none⟩ = some (.int .i64 2) := HF.out.cell rfl
        have q1 : wr.cell? ⟨fb, 1, none⟩ = some (.int .i64 1) := HF.out.cell rfl
        have q2 : wr.cell? ⟨fb, 2, none⟩ = some (.int .i64 6) := HF.out.cell rfl
        have q3 : wr.cell? ⟨fb, 3, none⟩ = some (.func (.func 28) #[] #[]) := HF.out.cell rfl
        have r0 : wr.cell? ⟨wc.heap.size, 0, none⟩ = some (.int .i64 0) := HR2.out.cell rfl
        have fz := HR2.out.frozen 0
        have hE : (s.extract 2 3).size = 1 := by rw [ByteArray.size_extract]; omega
        have hE1 : 1 ≤ (s.extract 2 3).size := by omega
        have hE2 : (s.extract 2 3).size ≤ 6 := by omega
        have hb1 : (3 : Int) ≤ (s.size : Int) := by omega
        obtain ⟨m, hmm⟩ : ∃ m, nb (s.extract 2 3).data.toList = m := ⟨_, rfl⟩
        have hrd : rdF s 0 = (m : Int) := by show ((nb (s.extract 2 (2+1)).data.toList : Nat) : Int) = m; rw [← hmm]
        have he : (rcCells (rcUp s 0)).setIfInBounds 0 (.int .i64 (m : Int)) = rcCells (rcUp s 1) := by rw [← hrd]; rfl
        have HM := Lib.hid hmm; have HE := Lib.hid he; have HE1 := Lib.hid hE1; have HE2 := Lib.hid hE2
        clear hE hmm hrd he hE1 hE2
        go_upto_region 9 with fail
        have hx1 : ¬ wc.heap.size = wr.heap.size := by omega
        have hx2 : ¬ wr.heap.size = wc.heap.size := by omega
        go_region_held3 (fun w' => w'.cell? ⟨wr.heap.size, 0, none⟩ = some (.int .i64 2) ∧ w'.cell? ⟨wr.heap.size, 1, none⟩ = some (.int .i64 1) ∧ w'.cell? ⟨wr.heap.size, 3, none⟩ = some (.func (.func 28) #[] #[])) ((repeat' apply And.intro) <;> first | ((with_reducible refine new_cell ?_) <;> rfl) | ((with_reducible refine old_cell hx1 ?_) <;> rfl) | with_reducible assumption | go_keep | (simp [*, go_sem]; done)) (first
          | (go_at_call 28; refine (field1_any wc.heap.size _).mono ?_; rintro e w2 ⟨rfl, rfl⟩)
          | (go_at_call 26; refine (get_any _ _ HE1.out HE2.out).mono ?_; rintro e w3 ⟨rfl, rfl⟩; rw [HM.out]))
        all_goals
          go_wp2_with fail
          refine ⟨⟨1, rfl, by omega, ?_, ?_, ?_, ?_⟩, by simp [intOf]⟩
          · repeat (first | with_reducible exact HF.out | with_reducible apply Blk.drewN | with_reducible apply Blk.drew | with_reducible apply Blk.alloc | with_reducible refine Blk.set_other ?_ (by first | (show _ ≠ _; omega) | (show ¬ _ = _; omega) | (dsimp only; omega)) _)
          · repeat (first | with_reducible apply Blk.drewN | with_reducible apply Blk.drew | with_reducible apply Blk.alloc)
            refine Blk.set' (C := rcCells (rcUp s 0)) ?_ _ _ HE.out
            repeat (first | with_reducible exact HR2.out | with_reducible apply Blk.drewN | with_reducible apply Blk.drew | with_reducible apply Blk.alloc | with_reducible refine Blk.set_other ?_ (by first | (show _ ≠ _; omega) | (show ¬ _ = _; omega) | (dsimp only; omega)) _)
          · repeat (first | with_reducible exact HZ2.out | with_reducible apply Blk.drewN | with_reducible apply Blk.drew | with_reducible apply Blk.alloc | with_reducible refine Blk.set_other ?_ (by first | (show _ ≠ _; omega) | (show ¬ _ = _; omega) | (dsimp only; omega)) _)
          · repeat (first | with_reducible exact HW2.out | with_reducible apply Below.drewN' | with_reducible apply Below.drew | with_reducible refine Below.setCell ?_ (by exact hsz) _ | with_reducible apply Below.alloc1)
      · have q0 : wr.cell? ⟨fb, 4, none⟩ = some (.int .i64 3) := HF.out.cell rfl
        have q1 : wr.cell? ⟨fb, 5, none⟩ = some (.int .i64 6) := HF.out.cell rfl
        have q2 : wr.cell? ⟨fb, 6, none⟩ = some (.int .i64 1099511627776) := HF.out.cell rfl
        have q3 : wr.cell? ⟨fb, 7, none⟩ = some (.func (.func 29) #[] #[]) := HF.out.cell rfl
        have r0 : wr.cell? ⟨wc.heap.size, 1, none⟩ = some (.int .i64 0) := HR2.out.cell rfl
        have fz := HR2.out.frozen 1
        have hE : (s.extract 3 9).size = 6 := by rw [ByteArray.size_extract]; omega
        have hE1 : 1 ≤ (s.extract 3 9).size := by omega
        have hE2 : (s.extract 3 9).size ≤ 6 := by omega
        have hb1 : (9 : Int) ≤ (s.size : Int) := by omega
        obtain ⟨m, hmm⟩ : ∃ m, nb (s.extract 3 9).data.toList = m := ⟨_, rfl⟩
        have hrd : rdF s 1 = (m : Int) := by show ((nb (s.extract 3 (3+6)).data.toList : Nat) : Int) = m; rw [← hmm]
        have he : (rcCells (rcUp s 1)).setIfInBounds 1 (.int .i64 (m : Int)) = rcCells (rcUp s 2) := by rw [← hrd]; rfl
        have HM := Lib.hid hmm; have HE := Lib.hid he; have HE1 := Lib.hid hE1; have HE2 := Lib.hid hE2
        clear hE hmm hrd he hE1 hE2
        go_upto_region 9 with fail
        have hx1 : ¬ wc.heap.size = wr.heap.size := by omega
        have hx2 : ¬ wr.heap.size = wc.heap.size := by omega
        go_region_held3 (fun w' => w'.cell? ⟨wr.heap.size, 0, none⟩ = some (.int .i64 3) ∧ w'.cell? ⟨wr.heap.size, 1, none⟩ = some (.int .i64 6) ∧ w'.cell? ⟨wr.heap.size, 3, none⟩ = some (.func (.func 29) #[] #[])) ((repeat' apply And.intro) <;> first | ((with_reducible refine new_cell ?_) <;> rfl) | ((with_reducible refine old_cell hx1 ?_) <;> rfl) | with_reducible assumption | go_keep | (simp [*, go_sem]; done)) (first
          | (go_at_call 29; refine (field2_any wc.heap.size _).mono ?_; rintro e w2 ⟨rfl, rfl⟩)
          | (go_at_call 26; refine (get_any _ _ HE1.out HE2.out).mono ?_; rintro e w3 ⟨rfl, rfl⟩; rw [HM.out]))
        all_goals
          go_wp2_with fail
          refine ⟨⟨2, rfl, by omega, ?_, ?_, ?_, ?_⟩, by simp [intOf]⟩
          · repeat (first | with_reducible exact HF.out | with_reducible apply Blk.drewN | with_reducible apply Blk.drew | with_reducible apply Blk.alloc | with_reducible refine Blk.set_other ?_ (by first | (show _ ≠ _; omega) | (show ¬ _ = _; omega) | (dsimp only; omega)) _)
          · repeat (first | with_reducible apply Blk.drewN | with_reducible apply Blk.drew | with_reducible apply Blk.alloc)
            refine Blk.set' (C := rcCells (rcUp s 1)) ?_ _ _ HE.out
            repeat (first | with_reducible exact HR2.out | with_reducible apply Blk.drewN | with_reducible apply Blk.drew | with_reducible apply Blk.alloc | with_reducible refine Blk.set_other ?_ (by first | (show _ ≠ _; omega) | (show ¬ _ = _; omega) | (dsimp only; omega)) _)
          · repeat (first | with_reducible exact HZ2.out | with_reducible apply Blk.drewN | with_reducible apply Blk.drew | with_reducible apply Blk.alloc | with_reducible refine Blk.set_other ?_ (by first | (show _ ≠ _; omega) | (show ¬ _ = _; omega) | (dsimp only; omega)) _)
          · repeat (first | with_reducible exact HW2.out | with_reducible apply Below.drewN' | with_reducible apply Below.drew | with_reducible refine Below.setCell ?_ (by exact hsz) _ | with_reducible apply Below.alloc1)
      · have q0 : wr.cell? ⟨fb, 8, none⟩ = some (.int .i64 9) := HF.out.cell rfl
        have q1 : wr.cell? ⟨fb, 9, none⟩ = some (.int .i64 2) := HF.out.cell rfl
        have q2 : wr.cell? ⟨fb, 10, none⟩ = some (.int .i64 65535) := HF.out.cell rfl
        have q3 : wr.cell? ⟨fb, 11, none⟩ = some (.func (.func 30) #[] #[]) := HF.out.cell rfl
        have r0 : wr.cell? ⟨wc.heap.size, 2, none⟩ = some (.int .i64 0) := HR2.out.cell rfl
        have fz := HR2.out.frozen 2
        have hE : (s.extract 9 11).size = 2 := by rw [ByteArray.size_extract]; omega
        have hE1 : 1 ≤ (s.extract 9 11).size := by omega
        have hE2 : (s.extract 9 11).size ≤ 6 := by omega
        have hb1 : (11 : Int) ≤ (s.size : Int) := by omega
        obtain ⟨m, hmm⟩ : ∃ m, nb (s.extract 9 11).data.toList = m := ⟨_, rfl⟩
        have hrd : rdF s 2 = (m : Int) := by show ((nb (s.extract 9 (9+2)).data.toList : Nat) : Int) = m; rw [← hmm]
        have he : (rcCells (rcUp s 2)).setIfInBounds 2 (.int .i64 (m : Int)) = rcCells (rcUp s 3) := by rw [← hrd]; rfl
        have HM := Lib.hid hmm; have HE := Lib.hid he; have HE1 := Lib.hid hE1; have HE2 := Lib.hid hE2
        clear hE hmm hrd he hE1 hE2
        go_upto_region 9 with fail
        have hx1 : ¬ wc.heap.size = wr.heap.size := by omega
        have hx2 : ¬ wr.heap.size = wc.heap.size := by omega
        go_region_held3 (fun w' => w'.cell? ⟨wr.heap.size, 0, none⟩ = some (.int .i64 9) ∧ w'.cell? ⟨wr.heap.size, 1, none⟩ = some (.int .i64 2) ∧ w'.cell? ⟨wr.heap.size, 3, none⟩ = some (.func (.func 30) #[] #[])) ((repeat' apply And.intro) <;> first | ((with_reducible refine new_cell ?_) <;> rfl) | ((with_reducible refine old_cell hx1 ?_) <;> rfl) | with_reducible assumption | go_keep | (simp [*, go_sem]; done)) (first
          | (go_at_call 30; refine (field3_any wc.heap.size _).mono ?_; rintro e w2 ⟨rfl, rfl⟩)
          | (go_at_call 26; refine (get_any _ _ HE1.out HE2.out).mono ?_; rintro e w3 ⟨rfl, rfl⟩; rw [HM.out]))
        all_goals
          go_wp2_with fail
          refine ⟨⟨3, rfl, by omega, ?_, ?_, ?_, ?_⟩, by simp [intOf]⟩
          · repeat (first | with_reducible exact HF.out | with_reducible apply Blk.drewN | with_reducible apply Blk.drew | with_reducible apply Blk.alloc | with_reducible refine Blk.set_other ?_ (by first | (show _ ≠ _; omega) | (show ¬ _ = _; omega) | (dsimp only; omega)) _)
          · repeat (first | with_reducible apply Blk.drewN | with_reducible apply Blk.drew | with_reducible apply Blk.alloc)
            refine Blk.set' (C := rcCells (rcUp s 2)) ?_ _ _ HE.out
            repeat (first | with_reducible exact HR2.out | with_reducible apply Blk.drewN | with_reducible apply Blk.drew | with_reducible apply Blk.alloc | with_reducible refine Blk.set_other ?_ (by first | (show _ ≠ _; omega) | (show ¬ _ = _; omega) | (dsimp only; omega)) _)
          · repeat (first | with_reducible exact HZ2.out | with_reducible apply Blk.drewN | with_reducible apply Blk.drew | with_reducible apply Blk.alloc | with_reducible refine Blk.set_other ?_ (by first | (show _ ≠ _; omega) | (show ¬ _ = _; omega) | (dsimp only; omega)) _)
          · repeat (first | with_reducible exact HW2.out | with_reducible apply Below.drewN' | with_reducible apply Below.drew | with_reducible refine Below.setCell ?_ (by exact hsz) _ | with_reducible apply Below.alloc1)
      · have q0 : wr.cell? ⟨fb, 12, none⟩ = some (.int .i64 11) := HF.out.cell rfl
        have q1 : wr.cell? ⟨fb, 13, none⟩ = some (.int .i64 2) := HF.out.cell rfl
        have q2 : wr.cell? ⟨fb, 14, none⟩ = some (.int .i64 65535) := HF.out.cell rfl
        have q3 : wr.cell? ⟨fb, 15, none⟩ = some (.func (.func 31) #[] #[]) := HF.out.cell rfl
        have r0 : wr.cell? ⟨wc.heap.size, 3, none⟩ = some (.int .i64 0) := HR2.out.cell rfl
        have fz := HR2.out.frozen 3
        have hE : (s.extract 11 13).size = 2 := by rw [ByteArray.size_extract]; omega
        have hE1 : 1 ≤ (s.extract 11 13).size := by omega
        have hE2 : (s.extract 11 13).size ≤ 6 := by omega
        have hb1 : (13 : Int) ≤ (s.size : Int) := by omega
        obtain ⟨m, hmm⟩ : ∃ m, nb (s.extract 11 13).data.toList = m := ⟨_, rfl⟩
        have hrd : rdF s 3 = (m : Int) := by show ((nb (s.extract 11 (11+2)).data.toList : Nat) : Int) = m; rw [← hmm]
        have he : (rcCells (rcUp s 3)).setIfInBounds 3 (.int .i64 (m : Int)) = rcCells (rcUp s 4) := by rw [← hrd]; rfl
        have HM := Lib.hid hmm; have HE := Lib.hid he; have HE1 := Lib.hid hE1; have HE2 := Lib.hid hE2
        clear hE hmm hrd he hE1 hE2
        go_upto_region 9 with fail
        have hx1 : ¬ wc.heap.size = wr.heap.size := by omega
        have hx2 : ¬ wr.heap.size = wc.heap.size := by omega
        go_region_held3 (fun w' => w'.cell? ⟨wr.heap.size, 0, none⟩ = some (.int .i64 11) ∧ w'.cell? ⟨wr.heap.size, 1, none⟩ = some (.int .i64 2) ∧ w'.cell? ⟨wr.heap.size, 3, none⟩ = some (.func (.func 31) #[] #[])) ((repeat' apply And.intro) <;> first | ((with_reducible refine new_cell ?_) <;> rfl) | ((with_reducible refine old_cell hx1 ?_) <;> rfl) | with_reducible assumption | go_keep | (simp [*, go_sem]; done)) (first
          | (go_at_call 31; refine (field4_any wc.heap.size _).mono ?_; rintro e w2 ⟨rfl, rfl⟩)
          | (go_at_call 26; refine (get_any _ _ HE1.out HE2.out).mono ?_; rintro e w3 ⟨rfl, rfl⟩; rw [HM.out]))
        all_goals
          go_wp2_with fail
          refine ⟨⟨4, rfl, by omega, ?_, ?_, ?_, ?_⟩, by simp [intOf]⟩
          · repeat (first | with_reducible exact HF.out | with_reducible apply Blk.drewN | with_reducible apply Blk.drew | with_reducible apply Blk.alloc | with_reducible refine Blk.set_other ?_ (by first | (show _ ≠ _; omega) | (show ¬ _ = _; omega) | (dsimp only; omega)) _)
          · repeat (first | with_reducible apply Blk.drewN | with_reducible apply Blk.drew | with_reducible apply Blk.alloc)
            refine Blk.set' (C := rcCells (rcUp s 3)) ?_ _ _ HE.out
            repeat (first | with_reducible exact HR2.out | with_reducible apply Blk.drewN | with_reducible apply Blk.drew | with_reducible apply Blk.alloc | with_reducible refine Blk.set_other ?_ (by first | (show _ ≠ _; omega) | (show ¬ _ = _; omega) | (dsimp only; omega)) _)
          · repeat (first | with_reducible exact HZ2.out | with_reducible apply Blk.drewN | with_reducible apply Blk.drew | with_reducible apply Blk.alloc | with_reducible refine Blk.set_other ?_ (by first | (show _ ≠ _; omega) | (show ¬ _ = _; omega) | (dsimp only; omega)) _)
          · repeat (first | with_reducible exact HW2.out | with_reducible apply Below.drewN' | with_reducible apply Below.drew | with_reducible refine Below.setCell ?_ (by exact hsz) _ | with_reducible apply Below.alloc1)
      · have q0 : wr.cell? ⟨fb, 16, none⟩ = some (.int .i64 13) := HF.out.cell rfl
        have q1 : wr.cell? ⟨fb, 17, none⟩ = some (.int .i64 6) := HF.out.cell rfl
        have q2 : wr.cell? ⟨fb, 18, none⟩ = some (.int .i64 1099511627776) := HF.out.cell rfl
        have q3 : wr.cell? ⟨fb, 19, none⟩ = some (.func (.func 32) #[] #[]) := HF.out.cell rfl
        have r0 : wr.cell? ⟨wc.heap.size, 4, none⟩ = some (.int .i64 0) := HR2.out.cell rfl
        have fz := HR2.out.frozen 4
        have hE : (s.extract 13 19).size = 6 := by rw [ByteArray.size_extract]; omega
        have hE1 : 1 ≤ (s.extract 13 19).size := by omega
        have hE2 : (s.extract 13 19).size ≤ 6 := by omega
        have hb1 : (19 : Int) ≤ (s.size : Int) := by omega
        obtain ⟨m, hmm⟩ : ∃ m, nb (s.extract 13 19).data.toList = m := ⟨_, rfl⟩
        have hrd : rdF s 4 = (m : Int) := by show ((nb (s.extract 13 (13+6)).data.toList : Nat) : Int) = m; rw [← hmm]
        have he : (rcCells (rcUp s 4)).setIfInBounds 4 (.int .i64 (m : Int)) = rcCells (rcUp s 5) := by rw [← hrd]; rfl
        have HM := Lib.hid hmm; have HE := Lib.hid he; have HE1 := Lib.hid hE1; have HE2 := Lib.hid hE2
        clear hE hmm hrd he hE1 hE2
        go_upto_region 9 with fail
        have hx1 : ¬ wc.heap.size = wr.heap.size := by omega
        have hx2 : ¬ wr.heap.size = wc.heap.size := by omega
        go_region_held3 (fun w' => w'.cell? ⟨wr.heap.size, 0, none⟩ = some (.int .i64 13) ∧ w'.cell? ⟨wr.heap.size, 1, none⟩ = some (.int .i64 6) ∧ w'.cell? ⟨wr.heap.size, 3, none⟩ = some (.func (.func 32) #[] #[])) ((repeat' apply And.intro) <;> first | ((with_reducible refine new_cell ?_) <;> rfl) | ((with_reducible refine old_cell hx1 ?_) <;> rfl) | with_reducible assumption | go_keep | (simp [*, go_sem]; done)) (first
          | (go_at_call 32; refine (field5_any wc.heap.size _).mono ?_; rintro e w2 ⟨rfl, rfl⟩)
          | (go_at_call 26; refine (get_any _ _ HE1.out HE2.out).mono ?_; rintro e w3 ⟨rfl, rfl⟩; rw [HM.out]))
        all_goals
          go_wp2_with fail
          refine ⟨⟨5, rfl, by omega, ?_, ?_, ?_, ?_⟩, by simp [intOf]⟩
          · repeat (first | with_reducible exact HF.out | with_reducible apply Blk.drewN | with_reducible apply Blk.drew | with_reducible apply Blk.alloc | with_reducible refine Blk.set_other ?_ (by first | (show _ ≠ _; omega) | (show ¬ _ = _; omega) | (dsimp only; omega)) _)
          · repeat (first | with_reducible apply Blk.drewN | with_reducible apply Blk.drew | with_reducible apply Blk.alloc)
            refine Blk.set' (C := rcCells (rcUp s 4)) ?_ _ _ HE.out
            repeat (first | with_reducible exact HR2.out | with_reducible apply Blk.drewN | with_reducible apply Blk.drew | with_reducible apply Blk.alloc | with_reducible refine Blk.set_other ?_ (by first | (show _ ≠ _; omega) | (show ¬ _ = _; omega) | (dsimp only; omega)) _)
          · repeat (first | with_reducible exact HZ2.out | with_reducible apply Blk.drewN | with_reducible apply Blk.drew | with_reducible apply Blk.alloc | with_reducible refine Blk.set_other ?_ (by first | (show _ ≠ _; omega) | (show ¬ _ = _; omega) | (dsimp only; omega)) _)
          · repeat (first | with_reducible exact HW2.out | with_reducible apply Below.drewN' | with_reducible apply Below.drew | with_reducible refine Below.setCell ?_ (by exact hsz) _ | with_reducible apply Below.alloc1)
      · have q0 : wr.cell? ⟨fb, 20, none⟩ = some (.int .i64 19) := HF.out.cell rfl
        have q1 : wr.cell? ⟨fb, 21, none⟩ = some (.int .i64 2) := HF.out.cell rfl
        have q2 : wr.cell? ⟨fb, 22, none⟩ = some (.int .i64 65535) := HF.out.cell rfl
        have q3 : wr.cell? ⟨fb, 23, none⟩ = some (.func (.func 33) #[] #[]) := HF.out.cell rfl
        have r0 : wr.cell? ⟨wc.heap.size, 5, none⟩ = some (.int .i64 0) := HR2.out.cell rfl
        have fz := HR2.out.frozen 5
        have hE : (s.extract 19 21).size = 2 := by rw [ByteArray.size_extract]; omega
        have hE1 : 1 ≤ (s.extract 19 21).size := by omega
        have hE2 : (s.extract 19 21).size ≤ 6 := by omega
        have hb1 : (21 : Int) ≤ (s.size : Int) := by omega
        obtain ⟨m, hmm⟩ : ∃ m, nb (s.extract 19 21).data.toList = m := ⟨_, rfl⟩
        have hrd : rdF s 5 = (m : Int) := by show ((nb (s.extract 19 (19+2)).data.toList : Nat) : Int) = m; rw [← hmm]
        have he : (rcCells (rcUp s 5)).setIfInBounds 5 (.int .i64 (m : Int)) = rcCells (rcUp s 6) := by rw [← hrd]; rfl
        have HM := Lib.hid hmm; have HE := Lib.hid he; have HE1 := Lib.hid hE1; have HE2 := Lib.hid hE2
        clear hE hmm hrd he hE1 hE2
        go_upto_region 9 with fail
        have hx1 : ¬ wc.heap.size = wr.heap.size := by omega
        have hx2 : ¬ wr.heap.size = wc.heap.size := by omega
        go_region_held3 (fun w' => w'.cell? ⟨wr.heap.size, 0, none⟩ = some (.int .i64 19) ∧ w'.cell? ⟨wr.heap.size, 1, none⟩ = some (.int .i64 2) ∧ w'.cell? ⟨wr.heap.size, 3, none⟩ = some (.func (.func 33) #[] #[])) ((repeat' apply And.intro) <;> first | ((with_reducible refine new_cell ?_) <;> rfl) | ((with_reducible refine old_cell hx1 ?_) <;> rfl) | with_reducible assumption | go_keep | (simp [*, go_sem]; done)) (first
          | (go_at_call 33; refine (field6_any wc.heap.size _).mono ?_; rintro e w2 ⟨rfl, rfl⟩)
          | (go_at_call 26; refine (get_any _ _ HE1.out HE2.out).mono ?_; rintro e w3 ⟨rfl, rfl⟩; rw [HM.out]))
        all_goals
          go_wp2_with fail
          refine ⟨⟨6, rfl, by omega, ?_, ?_, ?_, ?_⟩, by simp [intOf]⟩
          · repeat (first | with_reducible exact HF.out | with_reducible apply Blk.drewN | with_reducible apply Blk.drew | with_reducible apply Blk.alloc | with_reducible refine Blk.set_other ?_ (by first | (show _ ≠ _; omega) | (show ¬ _ = _; omega) | (dsimp only; omega)) _)
          · repeat (first | with_reducible apply Blk.drewN | with_reducible apply Blk.drew | with_reducible apply Blk.alloc)
            refine Blk.set' (C := rcCells (rcUp s 5)) ?_ _ _ HE.out
            repeat (first | with_reducible exact HR2.out | with_reducible apply Blk.drewN | with_reducible apply Blk.drew | with_reducible apply Blk.alloc | with_reducible refine Blk.set_other ?_ (by first | (show _ ≠ _; omega) | (show ¬ _ = _; omega) | (dsimp only; omega)) _)
          · repeat (first | with_reducible exact HZ2.out | with_reducible apply Blk.drewN | with_reducible apply Blk.drew | with_reducible apply Blk.alloc | with_reducible refine Blk.set_other ?_ (by first | (show _ ≠ _; omega) | (show ¬ _ = _; omega) | (dsimp only; omega)) _)
          · repeat (first | with_reducible exact HW2.out | with_reducible apply Below.drewN' | with_reducible apply Below.drew | with_reducible refine Below.setCell ?_ (by exact hsz) _ | with_reducible apply Below.alloc1)
      · obtain ⟨kd, hkd⟩ : ∃ kd, rdF s 0 = kd := ⟨_, rfl⟩
        have q0 : wr.cell? ⟨wc.heap.size, 0, none⟩ = some (.int .i64 kd) := by rw [← hkd]; exact HR2.out.cell rfl
        have HKD := Lib.hid hkd
        clear hkd
        have HRT := fun W h => right_any wc.heap.size (rcUp s 6) W h
        by_cases hr : rightF (rcUp s 6) = true
        · rw [hr] at HRT
          have hkr : 1 ≤ kd ∧ kd ≤ 6 := by rw [← HKD.out]; exact right_kind s hr
          have hbl : kd = 4 ∨ kd ≠ 4 := by omega
          obtain ⟨N, hN, hN1⟩ : ∃ N : Nat, (if kd < 1 ∨ 6 < kd then (0 : Int) else if kd = 4 then 2 else 1) = (N : Int) ∧ (N = 1 ∨ N = 2) := by
            rw [if_neg (by omega)]
            rcases hbl with h | h
            · exact ⟨2, by rw [if_pos h]; rfl, .inr rfl⟩
            · exact ⟨1, by rw [if_neg h]; rfl, .inl rfl⟩
          have hNb : bodyLen kd = ((N : Int) - 1) * 64 := by
            have : (if kd < 1 ∨ 6 < kd then (0 : Int) else if kd = 4 then 2 else 1) = (N : Int) := hN
            rw [if_neg (by omega)] at this
            unfold bodyLen
            rcases hbl with h | h
            · rw [if_pos h] at this ⊢; omega
            · rw [if_neg h] at this ⊢; omega
          have HN := Lib.hid hN; have HNb := Lib.hid hNb; have Hr := Lib.hid hr
          clear hN hNb hr hbl hkr
          by_cases hlen : 64 * N ≤ s.size
          · have hA : decAns s = (if nb (s.extract 21 25).data.toList = (crcL ((s.extract 0 21).data.toList ++ (decRc s).body.data.toList)).toNat then decVal (decRc s) N 0 else decVal rc0 0 11) := by
              unfold decAns; rw [if_pos ⟨Hr.out, by rw [HKD.out, HNb.out]; omega⟩, HKD.out, HNb.out]
              have : (N - 1) * 64 / 64 + 1 = (N : Int) := by omega
              rw [this]
            have hD : decRc s = { rcUp s 6 with body := s.extract 64 (N * 64) } := by
              unfold decRc; rw [HKD.out, HNb.out]
              have : 64 + (((N : Int) - 1) * 64).toNat = N * 64 := by rcases hN1 with rfl | rfl <;> rfl
              rw [this, HKD.out.symm]; rfl
            have HA := Lib.hid hA; have HD := Lib.hid hD; clear hA hD
            go_wp2_with fail
            refine (blocks_any kd _).mono ?_
            rw [HN.out]
            rintro e w2 ⟨rfl, rfl⟩
            have hlt : decide ((s.size : Int) < (N : Int) * 64) = false := decide_eq_false (by omega)
            have hN64 : (64 : Int) ≤ (N : Int) * 64 := by omega
            have hNs : (N : Int) * 64 ≤ (s.size : Int) := by omega
            go_wp2_with fail
            refine (HRT _ HR2.out).mono ?_
            rintro e w4 ⟨rfl, hb4⟩
            have hB4 : Blk w4 wc.heap.size (rcCells (rcUp s 6)) 29 := (Mod.of_below hb4 []).blk HR2.out (by simp)
            have hZ4 : Blk w4 w.heap.size (rcCells rc0) 29 := (Mod.of_below hb4 []).blk HZ2.out (by simp)
            have hW4 : Below w.heap.size w w4 := HW2.out.trans (hb4.mono hsz2)
            have b6 := hB4.cell (i := 6) rfl
            have c6 := hB4.frozen 6
            have hs4 := hb4.size
            have hl4 := hB4.lt
            have HB4 := Lib.hid hB4; have HZ4 := Lib.hid hZ4; have HW4 := Lib.hid hW4
            clear hb4 hB4 hZ4 hW4
            have hE : (s.extract 21 25).size = 4 := by rw [ByteArray.size_extract]; omega
            have hE1 : 1 ≤ (s.extract 21 25).size := by omega
            have hE2 : (s.extract 21 25).size ≤ 6 := by omega
            obtain ⟨m, hmm⟩ : ∃ m, nb (s.extract 21 25).data.toList = m := ⟨_, rfl⟩
            have hm32 : m < 4294967296 := by
              rw [← hmm]
              refine Nat.lt_of_lt_of_le (nb_lt _) ?_
              have : (s.extract 21 25).data.toList.length = 4 := hE
              rw [this]; decide
            have hwm : IntKind.u32.wrap (m : Int) = (m : Int) := by rw [IntKind.wrap_u32]; omega
            have HM := Lib.hid hmm
            clear hmm hE
            go_wp2_with fail
            refine (get_any _ _ hE1 hE2).mono ?_
            rintro e w5 ⟨rfl, rfl⟩
            rw [HM.out]
            go_wp2_with fail
            have hB6 : Blk (w4.setCell ⟨wc.heap.size, 6, none⟩ (.string (s.extract 64 (N * 64)))) wc.heap.size (rcCells (decRc s)) 29 := by
              rw [HD.out]; exact Blk.set' HB4.out _ _ rfl
            have hZ6 : Blk (w4.setCell ⟨wc.heap.size, 6, none⟩ (.string (s.extract 64 (N * 64)))) w.heap.size (rcCells rc0) 29 := HZ4.out.set_other (by show wc.heap.size ≠ w.heap.size; omega) _
            have hW6 : Below w.heap.size w (w4.setCell ⟨wc.heap.size, 6, none⟩ (.string (s.extract 64 (N * 64)))) := HW4.out.setCell hsz _
            have hbody : (decRc s).body = s.extract 64 (N * 64) := by rw [HD.out]
            generalize w4.setCell ⟨wc.heap.size, 6, none⟩ (.string (s.extract 64 (N * 64))) = w6 at *
            have hA21 : (s.extract 0 21).size = 21 := by rw [ByteArray.size_extract]; omega
            have hB64 : (s.extract 64 (N * 64)).size ≤ 64 := by rw [ByteArray.size_extract]; omega
            have hcat : cat [s.extract 0 21, s.extract 64 (N * 64)] = (s.extract 0 21).data.toList ++ (decRc s).body.data.toList := by rw [hbody]; simp [cat]
            obtain ⟨A, hAe⟩ : ∃ A, s.extract 0 21 = A := ⟨_, rfl⟩
            obtain ⟨B, hBe⟩ : ∃ B, s.extract 64 (N * 64) = B := ⟨_, rfl⟩
            have HAe := Lib.hid hAe; have HBe := Lib.hid hBe
            rw [hAe] at hA21; rw [hBe] at hB64; rw [hAe, hBe] at hcat
            have g6 : w6.cell? ⟨wc.heap.size, 6, none⟩ = some (.string B) := by have : w6.cell? ⟨wc.heap.size, 6, none⟩ = some (.string (decRc s).body) := hB6.cell rfl; rw [hbody, hBe] at this; exact this
            have HS : Hid (∀ j, ([A, B].getD j ⟨#[]⟩).size ≤ 9223372036854775807) := by
              intro j
              have : j = 0 ∨ j = 1 ∨ 2 ≤ j := by omega
              rcases this with rfl | rfl | h2
              · show A.size ≤ _; omega
              · show B.size ≤ _; omega
              · rw [List.getD_eq_getElem?_getD, List.getElem?_eq_none (by simpa using h2)]; simp [ByteArray.size]
            obtain ⟨C, hC⟩ : ∃ C, (crcL (cat [A, B])).toNat = C := ⟨_, rfl⟩
            have HC := Lib.hid hC
            rw [hcat] at hC
            have HCC := Lib.hid hC
            have HB6 := Lib.hid hB6; have HZ6 := Lib.hid hZ6; have HW6 := Lib.hid hW6
            clear hBe hbody hcat hC hB6 hZ6 hW6
            first | (go_region_with (first
              | (go_at_call 20; refine (crcSum_any _ [A, B] _ (HT.out.below (by repeat (first | with_reducible exact HW6.out | with_reducible apply Below.drewN' | with_reducible apply Below.drew | with_reducible apply Below.alloc1)) hw0) (by first | exact strs_new _ _ _ | exact (strs_new _ _ _).drew) (by simp) HS.out).mono ?_; rintro e w7 ⟨rfl, rfl⟩; rw [HC.out]))) | (exfalso; fail)
            all_goals
              have hB8 : Blk ((w6.alloc (.cells #[.string A, .string B] 9)).drew) wc.heap.size (rcCells (decRc s)) 29 := (HB6.out.alloc _).drew
              have hZ8 : Blk ((w6.alloc (.cells #[.string A, .string B] 9)).drew) w.heap.size (rcCells rc0) 29 := (HZ6.out.alloc _).drew
              have hW8 : Below w.heap.size w ((w6.alloc (.cells #[.string A, .string B] 9)).drew) := (Below.alloc1 HW6.out _).drew
              have HB8 := Lib.hid hB8; have HZ8 := Lib.hid hZ8; have HW8 := Lib.hid hW8
              clear hB8 hZ8 hW8
              by_cases hmc : m = C
              · have hbq : ((m : Int) != (C : Int)) = false := by rw [hmc]; simp
                have hA : decAns s = decVal (decRc s) N 0 := by rw [HA.out, HM.out, HAe.out, HCC.out, if_pos hmc]
                have HA2 := Lib.hid hA
                clear hmc hA hAe hA21 hB64 HRT q0 b6 c6 g6
                go_upto_region 18 with fail
                generalize (w6.alloc (.cells #[.string A, .string B] 9)).drew = w8 at *
                have z0 := HZ8.out.cell (i := 0) rfl
                have z1 := HZ8.out.cell (i := 1) rfl
                have z2 := HZ8.out.cell (i := 2) rfl
                have z3 := HZ8.out.cell (i := 3) rfl
                have z4 := HZ8.out.cell (i := 4) rfl
                have z5 := HZ8.out.cell (i := 5) rfl
                have z6 := HZ8.out.cell (i := 6) rfl
                have f0 := HZ8.out.frozen 0
                have f1 := HZ8.out.frozen 1
                have f2 := HZ8.out.frozen 2
                have f3 := HZ8.out.frozen 3
                have f4 := HZ8.out.frozen 4
                have f5 := HZ8.out.frozen 5
                have f6 := HZ8.out.frozen 6
                have b0 : w8.cell? ⟨wc.heap.size, 0, none⟩ = some (.int .i64 (decRc s).kind) := HB8.out.cell rfl
                have b1 : w8.cell? ⟨wc.heap.size, 1, none⟩ = some (.int .i64 (decRc s).seq) := HB8.out.cell rfl
                have b2 : w8.cell? ⟨wc.heap.size, 2, none⟩ = some (.int .i64 (decRc s).a) := HB8.out.cell rfl
                have b3 : w8.cell? ⟨wc.heap.size, 3, none⟩ = some (.int .i64 (decRc s).b) := HB8.out.cell rfl
                have b4 : w8.cell? ⟨wc.heap.size, 4, none⟩ = some (.int .i64 (decRc s).c) := HB8.out.cell rfl
                have b5 : w8.cell? ⟨wc.heap.size, 5, none⟩ = some (.int .i64 (decRc s).d) := HB8.out.cell rfl
                have b6 : w8.cell? ⟨wc.heap.size, 6, none⟩ = some (.string (decRc s).body) := HB8.out.cell rfl
                generalize decRc s = D at *
                go_wp2_with fail
                (try simp only [Exit.inBlock, Exit.then])
                have hC := (((((((HZ8.out.set 0 (.int .i64 D.kind)).set 1 (.int .i64 D.seq)).set 2 (.int .i64 D.a)).set 3 (.int .i64 D.b)).set 4 (.int .i64 D.c)).set 5 (.int .i64 D.d)).set 6 (.string D.body))
                refine dec_ret (x := D) rfl rfl rfl rfl hC ⟨HA2.out.symm, ?_⟩
                repeat (first | with_reducible exact HW8.out | with_reducible apply Below.drewN' | with_reducible apply Below.drew | with_reducible refine Below.setCell ?_ (by exact Nat.le_refl _) _)
              · have hbq : ((m : Int) != (C : Int)) = true := by simp; omega
                have hA : decAns s = decVal rc0 0 11 := by rw [HA.out, HM.out, HAe.out, HCC.out, if_neg hmc]
                have HA2 := Lib.hid hA
                clear hmc hA hAe hA21 hB64 HRT q0 b6 c6 g6
                go_upto_region 17 with fail
                generalize (w6.alloc (.cells #[.string A, .string B] 9)).drew = w8 at *
                have z0 := HZ8.out.cell (i := 0) rfl
                have z1 := HZ8.out.cell (i := 1) rfl
                have z2 := HZ8.out.cell (i := 2) rfl
                have z3 := HZ8.out.cell (i := 3) rfl
                have z4 := HZ8.out.cell (i := 4) rfl
                have z5 := HZ8.out.cell (i := 5) rfl
                have z6 := HZ8.out.cell (i := 6) rfl
                have f0 := HZ8.out.frozen 0
                have f1 := HZ8.out.frozen 1
                have f2 := HZ8.out.frozen 2
                have f3 := HZ8.out.frozen 3
                have f4 := HZ8.out.frozen 4
                have f5 := HZ8.out.frozen 5
                have f6 := HZ8.out.frozen 6
                go_wp2_with fail
                (try simp only [Exit.inBlock, Exit.then])
                refine dec_ret (x := rc0) rfl rfl rfl rfl (by repeat (first | with_reducible exact HZ8.out | with_reducible apply Blk.drewN | with_reducible apply Blk.drew | with_reducible refine Blk.set' (C := rcCells rc0) ?_ _ _ rfl)) ⟨HA2.out.symm, ?_⟩
                repeat (first | with_reducible exact HW8.out | with_reducible apply Below.drewN' | with_reducible apply Below.drew | with_reducible refine Below.setCell ?_ (by exact Nat.le_refl _) _)
          · have hA : decAns s = decVal rc0 0 10 := by unfold decAns; rw [if_neg (fun h => hlen (by have := h.2; rw [HKD.out, HNb.out] at this; omega))]
            have HA := Lib.hid hA; clear hA
            go_wp2_with fail
            refine (blocks_any kd _).mono ?_
            rw [HN.out]
            rintro e w2 ⟨rfl, rfl⟩
            have hlt : decide ((s.size : Int) < (N : Int) * 64) = true := decide_eq_true (by omega)
            have hw64 : IntKind.i64.wrap ((N : Int) * 64) = (N : Int) * 64 := by rcases hN1 with rfl | rfl <;> decide
            go_wp2_with fail
            refine (HRT _ HR2.out).mono ?_
            rintro e w4 ⟨rfl, hb4⟩
            have hZ4 : Blk w4 w.heap.size (rcCells rc0) 29 := (Mod.of_below hb4 []).blk HZ2.out (by simp)
            have hW4 : Below w.heap.size w w4 := HW2.out.trans (hb4.mono hsz2)
            have HZ4 := Lib.hid hZ4; have HW4 := Lib.hid hW4
            clear hb4 hZ4 hW4
            have z0 := HZ4.out.cell (i := 0) rfl
            have z1 := HZ4.out.cell (i := 1) rfl
            have z2 := HZ4.out.cell (i := 2) rfl
            have z3 := HZ4.out.cell (i := 3) rfl
            have z4 := HZ4.out.cell (i := 4) rfl
            have z5 := HZ4.out.cell (i := 5) rfl
            have z6 := HZ4.out.cell (i := 6) rfl
            have f0 := HZ4.out.frozen 0
            have f1 := HZ4.out.frozen 1
            have f2 := HZ4.out.frozen 2
            have f3 := HZ4.out.frozen 3
            have f4 := HZ4.out.frozen 4
            have f5 := HZ4.out.frozen 5
            have f6 := HZ4.out.frozen 6
            go_wp2_with fail
            (try simp only [Exit.inBlock, Exit.then])
            refine dec_ret (x := rc0) rfl rfl rfl rfl (by repeat (first | with_reducible exact HZ4.out | with_reducible apply Blk.drewN | with_reducible apply Blk.drew | with_reducible refine Blk.set' (C := rcCells rc0) ?_ _ _ rfl)) ⟨HA.out.symm, ?_⟩
            repeat (first | with_reducible exact HW4.out | with_reducible apply Below.drewN' | with_reducible apply Below.drew | with_reducible refine Below.setCell ?_ (by exact Nat.le_refl _) _)
        · have hrf : rightF (rcUp s 6) = false := by simpa using hr
          rw [hrf] at HRT
          have hA : decAns s = decVal rc0 0 10 := by unfold decAns; rw [if_neg (fun h => hr h.1)]
          have HA := Lib.hid hA; clear hr hrf hA
          go_wp2_with fail
          refine (blocks_any kd _).mono ?_
          generalize (if kd < 1 ∨ 6 < kd then (0 : Int) else if kd = 4 then 2 else 1) = N
          rintro e w2 ⟨rfl, rfl⟩
          go_wp2_with fail
          refine (HRT _ HR2.out).mono ?_
          rintro e w4 ⟨rfl, hb4⟩
          have hZ4 : Blk w4 w.heap.size (rcCells rc0) 29 := (Mod.of_below hb4 []).blk HZ2.out (by simp)
          have hW4 : Below w.heap.size w w4 := HW2.out.trans (hb4.mono hsz2)
          have HZ4 := Lib.hid hZ4; have HW4 := Lib.hid hW4
          clear hb4 hZ4 hW4
          have z0 := HZ4.out.cell (i := 0) rfl
          have z1 := HZ4.out.cell (i := 1) rfl
          have z2 := HZ4.out.cell (i := 2) rfl
          have z3 := HZ4.out.cell (i := 3) rfl
          have z4 := HZ4.out.cell (i := 4) rfl
          have z5 := HZ4.out.cell (i := 5) rfl
          have z6 := HZ4.out.cell (i := 6) rfl
          have f0 := HZ4.out.frozen 0
          have f1 := HZ4.out.frozen 1
          have f2 := HZ4.out.frozen 2
          have f3 := HZ4.out.frozen 3
          have f4 := HZ4.out.frozen 4
          have f5 := HZ4.out.frozen 5
          have f6 := HZ4.out.frozen 6
          go_wp2_with fail
          (try simp only [Exit.inBlock, Exit.then])
          refine dec_ret (x := rc0) rfl rfl rfl rfl (by repeat (first | with_reducible exact HZ4.out | with_reducible apply Blk.drewN | with_reducible apply Blk.drew | with_reducible refine Blk.set' (C := rcCells rc0) ?_ _ _ rfl)) ⟨HA.out.symm, ?_⟩
          repeat (first | with_reducible exact HW4.out | with_reducible apply Below.drewN' | with_reducible apply Below.drew | with_reducible refine Below.setCell ?_ (by exact Nat.le_refl _) _)

end Go.Proofs.YtadpeopbfoppjaaDoor
