/-
  Walk of RecordApart.
-/
import Derived.Test.YtadpeopbfoppjaaDoorRB1
namespace Go.Proofs.YtadpeopbfoppjaaDoor
open Go.RowKit
set_option linter.unusedVariables false
set_option linter.unusedSimpArgs false

theorem nlt1 (n : Nat) : (n < n + 1) = True := eq_true (by omega)
theorem nlt2 (n : Nat) : (n < n + 1 + 1) = True := eq_true (by omega)
theorem nlt3 (n : Nat) : (n + 1 < n + 1 + 1) = True := eq_true (by omega)
theorem dsz (w : World) : w.drew.heap.size = w.heap.size := rfl
theorem cellAlloc (w : World) (o : Obj) (b i : Nat) (h : b < w.heap.size) : (w.alloc o).cell? ⟨b, i, none⟩ = w.cell? ⟨b, i, none⟩ := World.cell?_of_block (w := w) (Below.heap_alloc _ _ _ h)
theorem frozenAlloc (w : World) (o : Obj) (b i : Nat) (h : b < w.heap.size) : (w.alloc o).frozen? ⟨b, i, none⟩ = w.frozen? ⟨b, i, none⟩ := World.frozen?_of_block (w := w) (Below.heap_alloc _ _ _ h)
attribute [local go_sem] nlt1 nlt2 nlt3 dsz cellAlloc frozenAlloc
theorem bcell4 {W w1 : World} (hb : Below W.heap.size W w1) : (∀ b, b < W.heap.size → (b = w1.heap.size) = False) ∧ (∀ b, b < W.heap.size → (w1.heap.size = b) = False) :=
  ⟨fun b h => eq_false (by have := hb.size; omega), fun b h => eq_false (by have := hb.size; omega)⟩
/-- The record with the body that is meant. -/
def whR (x : Rc) : Rc := { x with body := wholeB x.kind x.body }
theorem whole_rc (x : Rc) (w : World) (hb : x.body.size ≤ 140737488355328) :
    Calls Tryd.prog 9 #[.agg #[.int .i64 x.kind, .int .i64 x.seq, .int .i64 x.a, .int .i64 x.b, .int .i64 x.c, .int .i64 x.d, .string x.body]] w fun e w' => e = .returned (.agg #[.int .i64 (whR x).kind, .int .i64 (whR x).seq, .int .i64 (whR x).a, .int .i64 (whR x).b, .int .i64 (whR x).c, .int .i64 (whR x).d, .string (whR x).body]) ∧ Below w.heap.size w w' :=
  whole_any x.kind x.seq x.a x.b x.c x.d x.body w hb

theorem whole_le (x : Rc) (h : x.body.size ≤ 140737488351232) : (whR x).body.size ≤ 140737488351232 := by
  show (wholeB x.kind x.body).size ≤ _
  unfold wholeB
  split
  · rw [ByteArray.size_extract]; omega
  · exact h
/-- The two arguments in their blocks, and what was there ahead. -/
structure Two (w : World) (x y : Rc) (w1 : World) : Prop where
  below : Below w.heap.size w w1
  bx : Blk w1 w.heap.size (rcCells x) 23
  by_ : Blk w1 (w.heap.size + 1) (rcCells y) 23
theorem Two.next {w w1 w2 : World} {x y : Rc} (h : Two w x y w1) (hb : Below w1.heap.size w1 w2) : Two w x y w2 :=
  ⟨h.below.trans (hb.mono h.below.size), (Mod.of_below hb []).blk h.bx (by simp), (Mod.of_below hb []).blk h.by_ (by simp)⟩
theorem Two.drew {w w1 : World} {x y : Rc} (h : Two w x y w1) : Two w x y w1.drew := ⟨h.below.drew, h.bx.drew, h.by_.drew⟩
theorem Two.alloc {w w1 : World} {x y : Rc} (h : Two w x y w1) (o : Obj) : Two w x y (w1.alloc o) := ⟨Below.alloc1 h.below o, h.bx.alloc o, h.by_.alloc o⟩
theorem Two.start (w : World) (x y : Rc) : Two w x y ((w.alloc (.cells (rcCells x) 23)).alloc (.cells (rcCells y) 23)) := by
  refine ⟨Below.alloc1 (Below.alloc1 (Below.refl _ _) _) _, (Blk.new w _ _).alloc _, ?_⟩
  have := Blk.new (w.alloc (.cells (rcCells x) 23)) (rcCells y) 23
  rwa [show (w.alloc (.cells (rcCells x) 23)).heap.size = w.heap.size + 1 from by show (w.heap.push _).size = _; simp] at this

theorem Two.set {w w1 : World} {x y : Rc} (h : Two w x y w1) {p : Addr} (hp : w.heap.size + 1 < p.block) (v : Value) : Two w x y (w1.setCell p v) :=
  ⟨h.below.setCell (by omega) v, h.bx.set_other (by omega) v, h.by_.set_other (by omega) v⟩
theorem Two.cells {w w' : World} {x y : Rc} (h : Two w x y w') : w'.cell? ⟨w.heap.size, 0, none⟩ = some (.int .i64 x.kind) ∧ w'.cell? ⟨w.heap.size, 1, none⟩ = some (.int .i64 x.seq) ∧ w'.cell? ⟨w.heap.size, 2, none⟩ = some (.int .i64 x.a) ∧ w'.cell? ⟨w.heap.size, 3, none⟩ = some (.int .i64 x.b) ∧ w'.cell? ⟨w.heap.size, 4, none⟩ = some (.int .i64 x.c) ∧ w'.cell? ⟨w.heap.size, 5, none⟩ = some (.int .i64 x.d) ∧ w'.cell? ⟨w.heap.size, 6, none⟩ = some (.string x.body) ∧ w'.cell? ⟨w.heap.size + 1, 0, none⟩ = some (.int .i64 y.kind) ∧ w'.cell? ⟨w.heap.size + 1, 1, none⟩ = some (.int .i64 y.seq) ∧ w'.cell? ⟨w.heap.size + 1, 2, none⟩ = some (.int .i64 y.a) ∧ w'.cell? ⟨w.heap.size + 1, 3, none⟩ = some (.int .i64 y.b) ∧ w'.cell? ⟨w.heap.size + 1, 4, none⟩ = some (.int .i64 y.c) ∧ w'.cell? ⟨w.heap.size + 1, 5, none⟩ = some (.int .i64 y.d) ∧ w'.cell? ⟨w.heap.size + 1, 6, none⟩ = some (.string y.body) :=
  ⟨h.bx.cell rfl, h.bx.cell rfl, h.bx.cell rfl, h.bx.cell rfl, h.bx.cell rfl, h.bx.cell rfl, h.bx.cell rfl, h.by_.cell rfl, h.by_.cell rfl, h.by_.cell rfl, h.by_.cell rfl, h.by_.cell rfl, h.by_.cell rfl, h.by_.cell rfl⟩


set_option maxHeartbeats 8000000 in
set_option maxRecDepth 100000 in
theorem apart_walk (x y : Rc) (w : World) (hN : TabIn w) (hx : x.body.size ≤ 140737488351232) (hy : y.body.size ≤ 140737488351232) :
    Calls Tryd.prog 5 #[.agg #[.int .i64 x.kind, .int .i64 x.seq, .int .i64 x.a, .int .i64 x.b, .int .i64 x.c, .int .i64 x.d, .string x.body], .agg #[.int .i64 y.kind, .int .i64 y.seq, .int .i64 y.a, .int .i64 y.b, .int .i64 y.c, .int .i64 y.d, .string y.body]] w fun e w' => e = .returned (.bool true) ∧ Below w.heap.size w w' := by
  have HN := Lib.hid hN
  have hw0 := hN.lt
  clear hN
  have CX := Lib.hid (fun W => whole_rc x W (by omega))
  have CY := Lib.hid (fun W => whole_rc y W (by omega))
  go_enter Tryd.func5, Tryd.ntmps5
  go_wp2_with fail
  refine (Y.corbellaw06_speaks.calls true _ Y.speaks_ev (HN.out.below (Two.start w x y).below hw0)).mono ?_
  rintro e w1 ⟨rfl, hb1⟩
  have HT := Lib.hid ((Two.start w x y).next hb1)
  clear hb1
  go_upto_region 3 with fail
  go_cut [5, 6] (fun s5 s6 wx => ∃ ba bb, s5 = .pointer (some ⟨ba, 0, none⟩) ∧ s6 = .pointer (some ⟨bb, 0, none⟩) ∧ (wx.cell? ⟨ba, 0, none⟩ = some (.int .i64 (whR x).kind) ∧ wx.cell? ⟨ba, 1, none⟩ = some (.int .i64 (whR x).seq) ∧ wx.cell? ⟨ba, 2, none⟩ = some (.int .i64 (whR x).a) ∧ wx.cell? ⟨ba, 3, none⟩ = some (.int .i64 (whR x).b) ∧ wx.cell? ⟨ba, 4, none⟩ = some (.int .i64 (whR x).c) ∧ wx.cell? ⟨ba, 5, none⟩ = some (.int .i64 (whR x).d) ∧ wx.cell? ⟨ba, 6, none⟩ = some (.string (whR x).body)) ∧ (wx.cell? ⟨bb, 0, none⟩ = some (.int .i64 (whR y).kind) ∧ wx.cell? ⟨bb, 1, none⟩ = some (.int .i64 (whR y).seq) ∧ wx.cell? ⟨bb, 2, none⟩ = some (.int .i64 (whR y).a) ∧ wx.cell? ⟨bb, 3, none⟩ = some (.int .i64 (whR y).b) ∧ wx.cell? ⟨bb, 4, none⟩ = some (.int .i64 (whR y).c) ∧ wx.cell? ⟨bb, 5, none⟩ = some (.int .i64 (whR y).d) ∧ wx.cell? ⟨bb, 6, none⟩ = some (.string (whR y).body)) ∧ ba < wx.heap.size ∧ bb < wx.heap.size ∧ Below w.heap.size w wx)
  case first =>
    have x0 : w1.cell? ⟨w.heap.size, 0, none⟩ = some (.int .i64 x.kind) := HT.out.bx.cell rfl
    have x1 : w1.cell? ⟨w.heap.size, 1, none⟩ = some (.int .i64 x.seq) := HT.out.bx.cell rfl
    have x2 : w1.cell? ⟨w.heap.size, 2, none⟩ = some (.int .i64 x.a) := HT.out.bx.cell rfl
    have x3 : w1.cell? ⟨w.heap.size, 3, none⟩ = some (.int .i64 x.b) := HT.out.bx.cell rfl
    have x4 : w1.cell? ⟨w.heap.size, 4, none⟩ = some (.int .i64 x.c) := HT.out.bx.cell rfl
    have x5 : w1.cell? ⟨w.heap.size, 5, none⟩ = some (.int .i64 x.d) := HT.out.bx.cell rfl
    have x6 : w1.cell? ⟨w.heap.size, 6, none⟩ = some (.string x.body) := HT.out.bx.cell rfl
    have y0 : w1.cell? ⟨w.heap.size + 1, 0, none⟩ = some (.int .i64 y.kind) := HT.out.by_.cell rfl
    have y1 : w1.cell? ⟨w.heap.size + 1, 1, none⟩ = some (.int .i64 y.seq) := HT.out.by_.cell rfl
    have y2 : w1.cell? ⟨w.heap.size + 1, 2, none⟩ = some (.int .i64 y.a) := HT.out.by_.cell rfl
    have y3 : w1.cell? ⟨w.heap.size + 1, 3, none⟩ = some (.int .i64 y.b) := HT.out.by_.cell rfl
    have y4 : w1.cell? ⟨w.heap.size + 1, 4, none⟩ = some (.int .i64 y.c) := HT.out.by_.cell rfl
    have y5 : w1.cell? ⟨w.heap.size + 1, 5, none⟩ = some (.int .i64 y.d) := HT.out.by_.cell rfl
    have y6 : w1.cell? ⟨w.heap.size + 1, 6, none⟩ = some (.string y.body) := HT.out.by_.cell rfl
    have hz : w.heap.size + 1 < w1.heap.size := HT.out.by_.lt
    go_region_held3 (fun w' => w'.cell? ⟨w.heap.size, 0, none⟩ = some (.int .i64 x.kind) ∧ w'.cell? ⟨w.heap.size, 1, none⟩ = some (.int .i64 x.seq) ∧ w'.cell? ⟨w.heap.size, 2, none⟩ = some (.int .i64 x.a) ∧ w'.cell? ⟨w.heap.size, 3, none⟩ = some (.int .i64 x.b) ∧ w'.cell? ⟨w.heap.size, 4, none⟩ = some (.int .i64 x.c) ∧ w'.cell? ⟨w.heap.size, 5, none⟩ = some (.int .i64 x.d) ∧ w'.cell? ⟨w.heap.size, 6, none⟩ = some (.string x.body) ∧ w'.cell? ⟨w.heap.size + 1, 0, none⟩ = some (.int .i64 y.kind) ∧ w'.cell? ⟨w.heap.size + 1, 1, none⟩ = some (.int .i64 y.seq) ∧ w'.cell? ⟨w.heap.size + 1, 2, none⟩ = some (.int .i64 y.a) ∧ w'.cell? ⟨w.heap.size + 1, 3, none⟩ = some (.int .i64 y.b) ∧ w'.cell? ⟨w.heap.size + 1, 4, none⟩ = some (.int .i64 y.c) ∧ w'.cell? ⟨w.heap.size + 1, 5, none⟩ = some (.int .i64 y.d) ∧ w'.cell? ⟨w.heap.size + 1, 6, none⟩ = some (.string y.body)) ((refine Two.cells ?_; repeat (first | with_reducible exact HT.out | with_reducible apply Two.drew | with_reducible apply Two.alloc | with_reducible refine Two.set ?_ (by first | omega | (dsimp only; omega)) _))) (first
      | (go_at_call 9; (with_reducible refine (CX.out _).mono ?_); rintro e wa ⟨rfl, hba⟩; obtain ⟨hca, hfa, hla⟩ := bcell hba; obtain ⟨hna, hma⟩ := bcell4 hba; have hs1 := hba.size; (try simp at hs1); have hk2 : Two w x y wa := (by refine Two.next ?_ hba; repeat (first | with_reducible exact HT.out | with_reducible apply Two.drew | with_reducible apply Two.alloc)); have hz2 : w.heap.size + 1 < wa.heap.size := hk2.by_.lt; have HT2 := Lib.hid hk2; clear hk2 HT hba; have HT := HT2; clear HT2)
      | (go_at_call 9; (with_reducible refine (CY.out _).mono ?_); rintro e wb ⟨rfl, hbb⟩; obtain ⟨hcb, hfb, hlb⟩ := bcell hbb; obtain ⟨hnb, hmb⟩ := bcell4 hbb; have hs2 := hbb.size; (try simp at hs2); have hbb2 : Below wa.heap.size wa wb := (by first | exact hbb | exact (Below.alloc1 (Below.refl _ _) _).trans (hbb.mono (by show wa.heap.size ≤ (wa.heap.push _).size; simp)) | exact (Below.alloc1 (Below.alloc1 (Below.refl _ _) _) _).trans (hbb.mono (by show wa.heap.size ≤ ((wa.heap.push _).push _).size; simp; omega))); have hab := hbb2.size; have Hab := Lib.hid hab; obtain ⟨hcd, hfd, hld⟩ := bcell hbb2; clear hbb2; have hlc := (fun b h => Nat.lt_of_lt_of_le (hla b h) hab); have hk2 : Two w x y wb := (by refine Two.next ?_ hbb; repeat (first | with_reducible exact HT.out | with_reducible apply Two.drew | with_reducible apply Two.alloc)); have hz3 : w.heap.size + 1 < wb.heap.size := hk2.by_.lt; have HT2 := Lib.hid hk2; clear hk2 HT hbb; have HT := HT2; clear HT2))
    all_goals
      go_wp2_with fail
      go_meet
      refine ⟨_, _, rfl, rfl, ⟨?_, ?_, ?_, ?_, ?_, ?_, ?_⟩, ⟨?_, ?_, ?_, ?_, ?_, ?_, ?_⟩, ?_, ?_, ?_⟩
      all_goals first
        | (go_simp; done)
        | (simp; omega)
        | (simp (maxDischargeDepth := 9) [go_sem, *]; done)
        | (go_simp; rw [cellAlloc] <;> first | (go_simp; done) | (have h9 := Hab.out; simp; omega))
        | (go_simp; rw [cellAlloc, cellAlloc] <;> first | (go_simp; done) | (have h9 := Hab.out; simp; omega))
        | (repeat (first | with_reducible exact HT.out.below | with_reducible apply Below.drew | with_reducible apply Below.alloc1 | with_reducible refine Below.setCell ?_ (by first | omega | (dsimp only; omega)) _))
  case rest =>
    obtain ⟨ba, bb, rfl, rfl, ⟨a0, a1, a2, a3, a4, a5, a6⟩, hB, hla, hlb, hW⟩ := hcut
    have HB := Lib.hid hB; have HW := Lib.hid hW
    have hsz := hW.size
    have H0 := Lib.hid a0; have H1 := Lib.hid a1; have H2 := Lib.hid a2; have H3 := Lib.hid a3; have H4 := Lib.hid a4; have H5 := Lib.hid a5; have H6 := Lib.hid a6
    clear hB hW
    go_wp2_with fail
    refine (encode_any (whR x) _ (HN.out.below HW.out hw0) (Nat.lt_of_lt_of_le hw0 hsz) (Nat.le_trans (whole_le x hx) (by omega))).mono ?_
    rintro e w4 ⟨rfl, hb4⟩
    have ka := fun i v (h : wc.cell? ⟨ba, i, none⟩ = some v) => (hb4.cell (p := ⟨ba, i, none⟩) hla).trans h
    have kb := fun i v (h : wc.cell? ⟨bb, i, none⟩ = some v) => (hb4.cell (p := ⟨bb, i, none⟩) hlb).trans h
    have c0 := kb 0 _ HB.out.1
    have c1 := kb 1 _ HB.out.2.1
    have c2 := kb 2 _ HB.out.2.2.1
    have c3 := kb 3 _ HB.out.2.2.2.1
    have c4 := kb 4 _ HB.out.2.2.2.2.1
    have c5 := kb 5 _ HB.out.2.2.2.2.2.1
    have c6 := kb 6 _ HB.out.2.2.2.2.2.2
    have b0 := ka 0 _ H0.out
    have b1 := ka 1 _ H1.out
    have b2 := ka 2 _ H2.out
    have b3 := ka 3 _ H3.out
    have b4 := ka 4 _ H4.out
    have b5 := ka 5 _ H5.out
    have b6 := ka 6 _ H6.out
    have hla4 : ba < w4.heap.size := Nat.lt_of_lt_of_le hla hb4.size
    have hlb4 : bb < w4.heap.size := Nat.lt_of_lt_of_le hlb hb4.size
    have hW4 : Below w.heap.size w w4 := HW.out.trans (hb4.mono hsz)
    have HW4 := Lib.hid hW4
    have hsz4 := hW4.size
    clear a0 a1 a2 a3 a4 a5 a6 ka kb hb4 hW4
    go_wp2_with fail
    refine (encode_any (whR y) _ (HN.out.below HW4.out hw0) (Nat.lt_of_lt_of_le hw0 hsz4) (Nat.le_trans (whole_le y hy) (by omega))).mono ?_
    rintro e w5 ⟨rfl, hb5⟩
    have hW5 : Below w.heap.size w w5 := HW4.out.trans (hb5.mono hsz4)
    have HW5 := Lib.hid hW5
    have d0 := (hb5.cell (p := ⟨ba, 0, none⟩) hla4).trans b0
    have d1 := (hb5.cell (p := ⟨ba, 1, none⟩) hla4).trans b1
    have d2 := (hb5.cell (p := ⟨ba, 2, none⟩) hla4).trans b2
    have d3 := (hb5.cell (p := ⟨ba, 3, none⟩) hla4).trans b3
    have d4 := (hb5.cell (p := ⟨ba, 4, none⟩) hla4).trans b4
    have d5 := (hb5.cell (p := ⟨ba, 5, none⟩) hla4).trans b5
    have d6 := (hb5.cell (p := ⟨ba, 6, none⟩) hla4).trans b6
    have e0 := (hb5.cell (p := ⟨bb, 0, none⟩) hlb4).trans c0
    have e1 := (hb5.cell (p := ⟨bb, 1, none⟩) hlb4).trans c1
    have e2 := (hb5.cell (p := ⟨bb, 2, none⟩) hlb4).trans c2
    have e3 := (hb5.cell (p := ⟨bb, 3, none⟩) hlb4).trans c3
    have e4 := (hb5.cell (p := ⟨bb, 4, none⟩) hlb4).trans c4
    have e5 := (hb5.cell (p := ⟨bb, 5, none⟩) hlb4).trans c5
    have e6 := (hb5.cell (p := ⟨bb, 6, none⟩) hlb4).trans c6
    clear b0 b1 b2 b3 b4 b5 b6 c0 c1 c2 c3 c4 c5 c6 hb5 hW5
    cases hga : goodR (whR x) with
    | false =>
      have g1 : (encF (whR x)).2 = 1 := by rw [Y.encF_bad hga]
      clear hga
      go_wp2_with fail
      go_ret
      exact ⟨rfl, HW5.out⟩
    | true =>
      have g1 : (encF (whR x)).2 = 0 := by rw [Y.encF_good hga]
      cases hgb : goodR (whR y) with
      | false =>
        have g2 : (encF (whR y)).2 = 1 := by rw [Y.encF_bad hgb]
        clear hga hgb
        go_wp2_with fail
        go_ret
        exact ⟨rfl, HW5.out⟩
      | true =>
        have g2 : (encF (whR y)).2 = 0 := by rw [Y.encF_good hgb]
        have hS : (encF (whR x)).1 = str (encTxt (whR x)) := by rw [Y.encF_good hga]
        have hT : (encF (whR y)).1 = str (encTxt (whR y)) := by rw [Y.encF_good hgb]
        have hl : (str (encTxt (whR x))).size = 64 + (whR x).body.size := encTxt_len (whR x)
        have hk := ((good_iff _).1 hga)
        have Hga := Lib.hid hga; have Hgb := Lib.hid hgb; have Hk := Lib.hid hk
        clear hga hgb hk
        by_cases hab : whR x = whR y
        · rw [← hab] at e0 e1 e2 e3 e4 e5 e6 g2 hT
          have hB : (if (whR x).kind < 1 ∨ 6 < (whR x).kind then (0 : Int) else if (whR x).kind = 4 then 2 else 1) * 64 = ((str (encTxt (whR x))).size : Int) := by
            have h1 := Hk.out.1.1
            have h2 := Hk.out.2
            rw [if_neg (by omega), hl]
            unfold bodyLen at h2
            split <;> rename_i h4
            · rw [if_pos h4] at h2; omega
            · rw [if_neg h4] at h2; omega
          have HB2 := Lib.hid hB
          have hab2 : whR y = whR x := hab.symm
          clear hB hl hab
          go_wp2_with fail
          refine (blocks_any _ _).mono ?_
          obtain ⟨N, hN⟩ : ∃ N : Int, (if (whR x).kind < 1 ∨ 6 < (whR x).kind then (0 : Int) else if (whR x).kind = 4 then 2 else 1) = N := ⟨_, rfl⟩
          have hB3 := HB2.out
          rw [hN] at hB3 ⊢
          have hN1 : N = 1 ∨ N = 2 := by
            rw [← hN, if_neg (by have := Hk.out.1.1; omega)]; split
            · exact .inr rfl
            · exact .inl rfl
          rintro e w6 ⟨rfl, rfl⟩
          have hq : (((str (encTxt (whR x))).size : Int) == N * 64) = true := by rw [hB3]; simp
          have hN2 : 0 ≤ N := by omega
          have hN3 : N ≤ 2 := by omega
          clear hB3 hN hN1
          go_wp2_with fail
          go_ret
          exact ⟨rfl, HW5.out⟩
        · have hl2 : (str (encTxt (whR y))).size = 64 + (whR y).body.size := encTxt_len (whR y)
          have hST : ¬str (encTxt (whR x)) = str (encTxt (whR y)) := fun h => hab (enc_inj Hga.out Hgb.out (by rw [← bl_str (encTxt (whR x)), h, bl_str]))
          have hne : ((str (encTxt (whR x))).toList == (str (encTxt (whR y))).toList) = false := by
            rw [toL, toL, beq_eq_false_iff_ne]; exact fun h => hST (bl_inj h)
          obtain ⟨N, hN⟩ : ∃ N : Int, (if (whR x).kind < 1 ∨ 6 < (whR x).kind then (0 : Int) else if (whR x).kind = 4 then 2 else 1) = N := ⟨_, rfl⟩
          have hN1 : (N = 1 ∨ N = 2) ∧ N * 64 = ((str (encTxt (whR x))).size : Int) := by
            have h1 := Hk.out.1.1
            have h2 := Hk.out.2
            rw [if_neg (by omega)] at hN
            rw [hl]
            unfold bodyLen at h2
            split at hN <;> rename_i h4
            · rw [if_pos h4] at h2; exact ⟨.inr hN.symm, by omega⟩
            · rw [if_neg h4] at h2; exact ⟨.inl hN.symm, by omega⟩
          have HNN : Hid (∀ k, k = (whR x).kind → (if k < 1 ∨ 6 < k then (0 : Int) else if k = 4 then 2 else 1) = N) := by rintro k rfl; exact hN
          have hq : (((str (encTxt (whR x))).size : Int) == N * 64) = true := by rw [hN1.2]; simp
          have hN2 : 0 ≤ N := by omega
          have hN3 : N ≤ 2 := by omega
          have HNE := Lib.hid hab
          clear hl hN hN1 hab hl2 hST
          generalize str (encTxt (whR x)) = S at *
          generalize str (encTxt (whR y)) = T at *
          go_wp2_with fail
          all_goals first
            | (exfalso; refine HNE.out (rc_ext ?_ ?_ ?_ ?_ ?_ ?_ (bl_inj ?_)) <;> first | assumption | (rw [← toL, ← toL]; assumption))
            | (refine (blocks_any _ _).mono ?_
               rw [HNN.out _ (by first | rfl | assumption | (symm; assumption))]
               rintro e w6 ⟨rfl, rfl⟩
               go_wp2_with fail
               go_ret
               exact ⟨rfl, HW5.out⟩)

end Go.Proofs.YtadpeopbfoppjaaDoor
