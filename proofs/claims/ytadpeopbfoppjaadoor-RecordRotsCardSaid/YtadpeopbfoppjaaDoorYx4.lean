-- printed by a program of a session (wip/tools/printx.py) over the kit's print; not typed by hand
import Derived.Test.YtadpeopbfoppjaaDoorYx0
import Derived.Test.YtadpeopbfoppjaaDoorYx1
import Derived.Test.YtadpeopbfoppjaaDoorYx2
import Derived.Test.YtadpeopbfoppjaaDoorYx3
namespace Go.Proofs.YtadpeopbfoppjaaDoor.Y
open Go.RowKit Go.Proofs.YtadpeopbfoppjaaDoorW.PrintWords Go.Proofs.YtadpeopbfoppjaaDoorW.PrintLast Go.Proofs.YtadpeopbfoppjaaDoorW.PrintMore
attribute [local go_sem] max2_int min2_int max_two min_two max_three min_three max_four min_four   -- for this text's walks alone
set_option linter.unusedVariables false
set_option linter.unusedSimpArgs false

attribute [local go_sem high] eqA29
/-! ### corbellaw06_RecordBack: function 7 -/
mutual
def corbellaw06_RecordBack.l0 : Nat → List (S23) → Int → ByteArray → List (S29) → List Int → Int → Option (Bool)
  | 0, _, _, _, _, _, _ => none
  | k + 1, x0, x1, x5, x6, x7, x8 => if x8 < (x0.length : Int) then (corbellaw06_RecordBack.j1 k x0 x1 x5 x6 x7 x8 (decide (x8 < 40))) else (corbellaw06_RecordBack.j1 k x0 x1 x5 x6 x7 x8 false)
def corbellaw06_RecordBack.j1 : Nat → List (S23) → Int → ByteArray → List (S29) → List Int → Int → Bool → Option (Bool)
  | 0, _, _, _, _, _, _, _ => none
  | k + 1, x0, x1, x5, x6, x7, x8, x25 => if x25 = true then (if 0 ≤ x8 then (if x8 < (x0.length : Int) then ((corbellaw06_whole.f ((rd_T23 x0 x8).f0) ((rd_T23 x0 x8).f1) ((rd_T23 x0 x8).f2) ((rd_T23 x0 x8).f3) ((rd_T23 x0 x8).f4) ((rd_T23 x0 x8).f5) ((rd_T23 x0 x8).f6)).bind fun bt134 => ((record_Encode.f bt134.1 bt134.2.1 bt134.2.2.1 bt134.2.2.2.1 bt134.2.2.2.2.1 bt134.2.2.2.2.2.1 bt134.2.2.2.2.2.2).bind fun bt142 => (if bt142.2 = 0 then (if x5.size + bt142.1.size ≤ 9223372036854775807 then (if x6.length < 2199023255552 then (if x7.length < 17592186044416 then (corbellaw06_RecordBack.l0 k x0 x1 (x5 ++ bt142.1) (x6 ++ [(⟨bt134.1, bt134.2.1, bt134.2.2.1, bt134.2.2.2.1, bt134.2.2.2.2.1, bt134.2.2.2.2.2.1, bt134.2.2.2.2.2.2⟩ : S29)]) (x7 ++ [((x5 ++ bt142.1).size : Int)]) (wrap64 (x8 + 1))) else (none)) else (none)) else (none)) else (corbellaw06_RecordBack.l0 k x0 x1 x5 x6 x7 (wrap64 (x8 + 1)))))) else (none)) else (none)) else (if (wrap64 ((x5.size : Int) + 1)) = 0 then (none) else (corbellaw06_RecordBack.l1 k (Int.tmod (wrap64 ((wrap64 ((Int.tmod x1 (wrap64 ((x5.size : Int) + 1))) + (x5.size : Int))) + 1)) (wrap64 ((x5.size : Int) + 1))) x5 x6 x7 0))
def corbellaw06_RecordBack.j3 : Nat → Int → ByteArray → List (S29) → List Int → Int → Option (Bool)
  | 0, _, _, _, _, _ => none
  | k + 1, x1, x5, x6, x7, x12 => if 0 ≤ x1 then (if x1 ≤ (x5.size : Int) then ((record_Scan.f k (x5.extract 0 (x1 : Int).toNat)).bind fun bt151 => (if (bt151.1.length : Int) = x12 then (if x12 > 0 then (if 0 ≤ (wrap64 (x12 - 1)) then (if (wrap64 (x12 - 1)) < (x7.length : Int) then (if (wrap64 (bt151.2 * 64)) = (rd x7 (wrap64 (x12 - 1))) then (if x12 = 0 then (corbellaw06_RecordBack.j4 k x6 x12 bt151.1 (bt151.2 != 0)) else (corbellaw06_RecordBack.j4 k x6 x12 bt151.1 false)) else (corbellaw06_RecordBack.j4 k x6 x12 bt151.1 true)) else (none)) else (none)) else (if x12 = 0 then (corbellaw06_RecordBack.j4 k x6 x12 bt151.1 (bt151.2 != 0)) else (corbellaw06_RecordBack.j4 k x6 x12 bt151.1 false))) else (corbellaw06_RecordBack.j4 k x6 x12 bt151.1 true))) else (none)) else (none)
def corbellaw06_RecordBack.j4 : Nat → List (S29) → Int → List (S29) → Bool → Option (Bool)
  | 0, _, _, _, _ => none
  | k + 1, x6, x12, x13, x111 => if x111 = true then (some false) else (corbellaw06_RecordBack.l2 k x6 x12 x13 0)
def corbellaw06_RecordBack.l2 : Nat → List (S29) → Int → List (S29) → Int → Option (Bool)
  | 0, _, _, _, _ => none
  | k + 1, x6, x12, x13, x15 => if x15 < x12 then (if 0 ≤ x15 then (if x15 < (x13.length : Int) then (if x15 < (x6.length : Int) then (if (!(((rd_T29 x13 x15).f0) == ((rd_T29 x6 x15).f0)) || (!(((rd_T29 x13 x15).f1) == ((rd_T29 x6 x15).f1)) || (!(((rd_T29 x13 x15).f2) == ((rd_T29 x6 x15).f2)) || (!(((rd_T29 x13 x15).f3) == ((rd_T29 x6 x15).f3)) || (!(((rd_T29 x13 x15).f4) == ((rd_T29 x6 x15).f4)) || (!(((rd_T29 x13 x15).f5) == ((rd_T29 x6 x15).f5)) || (!((((rd_T29 x13 x15).f6).toList) == (((rd_T29 x6 x15).f6).toList))))))))) = true then (some false) else (corbellaw06_RecordBack.l2 k x6 x12 x13 (wrap64 (x15 + 1)))) else (none)) else (none)) else (none)) else (some true)
def corbellaw06_RecordBack.l1 : Nat → Int → ByteArray → List (S29) → List Int → Int → Option (Bool)
  | 0, _, _, _, _, _ => none
  | k + 1, x1, x5, x6, x7, x12 => if x12 < (x7.length : Int) then (if 0 ≤ x12 then (if (rd x7 x12) ≤ x1 then (corbellaw06_RecordBack.l1 k x1 x5 x6 x7 (wrap64 (x12 + 1))) else (corbellaw06_RecordBack.j3 k x1 x5 x6 x7 x12)) else (none)) else (corbellaw06_RecordBack.j3 k x1 x5 x6 x7 x12)
end
def corbellaw06_RecordBack.f (k : Nat) (l0 : List (S23)) (a1 : Int) : Option (Bool) := (corbellaw06_speaks.f).bind fun t132 => (if t132 = true then (corbellaw06_RecordBack.l0 k l0 a1 (⟨#[]⟩ : ByteArray) ([] : List (S29)) ([] : List Int) 0) else (some false))
theorem corbellaw06_RecordBack.mono_l : ∀ k, (∀ y0 y1 y2 y3 y4 y5, LeO (corbellaw06_RecordBack.l0 k y0 y1 y2 y3 y4 y5) (corbellaw06_RecordBack.l0 (k + 1) y0 y1 y2 y3 y4 y5)) ∧ (∀ y0 y1 y2 y3 y4 y5 y6, LeO (corbellaw06_RecordBack.j1 k y0 y1 y2 y3 y4 y5 y6) (corbellaw06_RecordBack.j1 (k + 1) y0 y1 y2 y3 y4 y5 y6)) ∧ (∀ y0 y1 y2 y3 y4, LeO (corbellaw06_RecordBack.j3 k y0 y1 y2 y3 y4) (corbellaw06_RecordBack.j3 (k + 1) y0 y1 y2 y3 y4)) ∧ (∀ y0 y1 y2 y3, LeO (corbellaw06_RecordBack.j4 k y0 y1 y2 y3) (corbellaw06_RecordBack.j4 (k + 1) y0 y1 y2 y3)) ∧ (∀ y0 y1 y2 y3, LeO (corbellaw06_RecordBack.l2 k y0 y1 y2 y3) (corbellaw06_RecordBack.l2 (k + 1) y0 y1 y2 y3)) ∧ (∀ y0 y1 y2 y3 y4, LeO (corbellaw06_RecordBack.l1 k y0 y1 y2 y3 y4) (corbellaw06_RecordBack.l1 (k + 1) y0 y1 y2 y3 y4))
  | 0 => ⟨fun _ _ _ _ _ _ r h => by simp [corbellaw06_RecordBack.l0] at h, fun _ _ _ _ _ _ _ r h => by simp [corbellaw06_RecordBack.j1] at h, fun _ _ _ _ _ r h => by simp [corbellaw06_RecordBack.j3] at h, fun _ _ _ _ r h => by simp [corbellaw06_RecordBack.j4] at h, fun _ _ _ _ r h => by simp [corbellaw06_RecordBack.l2] at h, fun _ _ _ _ _ r h => by simp [corbellaw06_RecordBack.l1] at h⟩
  | k + 1 => by
    obtain ⟨ih0, ih1, ih2, ih3, ih4, ih5⟩ := corbellaw06_RecordBack.mono_l k
    refine ⟨?_, ?_, ?_, ?_, ?_, ?_⟩
    · intro y0 y1 y2 y3 y4 y5
      unfold corbellaw06_RecordBack.l0
      repeat' first
      | (with_reducible exact ih0 _ _ _ _ _ _)
      | (with_reducible exact ih1 _ _ _ _ _ _ _)
      | (with_reducible exact ih2 _ _ _ _ _)
      | (with_reducible exact ih3 _ _ _ _)
      | (with_reducible exact ih4 _ _ _ _)
      | (with_reducible exact ih5 _ _ _ _ _)
      | (with_reducible exact record_Scan.mono _ _)
      | (with_reducible exact LeO.refl _)
      | (with_reducible exact LeO.none _)
      | (with_reducible refine LeO.ite ?_ ?_)
      | (with_reducible refine LeO.bind ?_ (fun _ => ?_))
      | exact ih0 _ _ _ _ _ _
      | exact ih1 _ _ _ _ _ _ _
      | exact ih2 _ _ _ _ _
      | exact ih3 _ _ _ _
      | exact ih4 _ _ _ _
      | exact ih5 _ _ _ _ _
      | exact record_Scan.mono _ _
      | exact LeO.none _
      | refine LeO.ite ?_ ?_
      | refine LeO.bind ?_ (fun _ => ?_)
    · intro y0 y1 y2 y3 y4 y5 y6
      unfold corbellaw06_RecordBack.j1
      repeat' first
      | (with_reducible exact ih0 _ _ _ _ _ _)
      | (with_reducible exact ih1 _ _ _ _ _ _ _)
      | (with_reducible exact ih2 _ _ _ _ _)
      | (with_reducible exact ih3 _ _ _ _)
      | (with_reducible exact ih4 _ _ _ _)
      | (with_reducible exact ih5 _ _ _ _ _)
      | (with_reducible exact record_Scan.mono _ _)
      | (with_reducible exact LeO.refl _)
      | (with_reducible exact LeO.none _)
      | (with_reducible refine LeO.ite ?_ ?_)
      | (with_reducible refine LeO.bind ?_ (fun _ => ?_))
      | exact ih0 _ _ _ _ _ _
      | exact ih1 _ _ _ _ _ _ _
      | exact ih2 _ _ _ _ _
      | exact ih3 _ _ _ _
      | exact ih4 _ _ _ _
      | exact ih5 _ _ _ _ _
      | exact record_Scan.mono _ _
      | exact LeO.none _
      | refine LeO.ite ?_ ?_
      | refine LeO.bind ?_ (fun _ => ?_)
    · intro y0 y1 y2 y3 y4
      unfold corbellaw06_RecordBack.j3
      repeat' first
      | (with_reducible exact ih0 _ _ _ _ _ _)
      | (with_reducible exact ih1 _ _ _ _ _ _ _)
      | (with_reducible exact ih2 _ _ _ _ _)
      | (with_reducible exact ih3 _ _ _ _)
      | (with_reducible exact ih4 _ _ _ _)
      | (with_reducible exact ih5 _ _ _ _ _)
      | (with_reducible exact record_Scan.mono _ _)
      | (with_reducible exact LeO.refl _)
      | (with_reducible exact LeO.none _)
      | (with_reducible refine LeO.ite ?_ ?_)
      | (with_reducible refine LeO.bind ?_ (fun _ => ?_))
      | exact ih0 _ _ _ _ _ _
      | exact ih1 _ _ _ _ _ _ _
      | exact ih2 _ _ _ _ _
      | exact ih3 _ _ _ _
      | exact ih4 _ _ _ _
      | exact ih5 _ _ _ _ _
      | exact record_Scan.mono _ _
      | exact LeO.none _
      | refine LeO.ite ?_ ?_
      | refine LeO.bind ?_ (fun _ => ?_)
    · intro y0 y1 y2 y3
      unfold corbellaw06_RecordBack.j4
      repeat' first
      | (with_reducible exact ih0 _ _ _ _ _ _)
      | (with_reducible exact ih1 _ _ _ _ _ _ _)
      | (with_reducible exact ih2 _ _ _ _ _)
      | (with_reducible exact ih3 _ _ _ _)
      | (with_reducible exact ih4 _ _ _ _)
      | (with_reducible exact ih5 _ _ _ _ _)
      | (with_reducible exact record_Scan.mono _ _)
      | (with_reducible exact LeO.refl _)
      | (with_reducible exact LeO.none _)
      | (with_reducible refine LeO.ite ?_ ?_)
      | (with_reducible refine LeO.bind ?_ (fun _ => ?_))
      | exact ih0 _ _ _ _ _ _
      | exact ih1 _ _ _ _ _ _ _
      | exact ih2 _ _ _ _ _
      | exact ih3 _ _ _ _
      | exact ih4 _ _ _ _
      | exact ih5 _ _ _ _ _
      | exact record_Scan.mono _ _
      | exact LeO.none _
      | refine LeO.ite ?_ ?_
      | refine LeO.bind ?_ (fun _ => ?_)
    · intro y0 y1 y2 y3
      unfold corbellaw06_RecordBack.l2
      repeat' first
      | (with_reducible exact ih0 _ _ _ _ _ _)
      | (with_reducible exact ih1 _ _ _ _ _ _ _)
      | (with_reducible exact ih2 _ _ _ _ _)
      | (with_reducible exact ih3 _ _ _ _)
      | (with_reducible exact ih4 _ _ _ _)
      | (with_reducible exact ih5 _ _ _ _ _)
      | (with_reducible exact record_Scan.mono _ _)
      | (with_reducible exact LeO.refl _)
      | (with_reducible exact LeO.none _)
      | (with_reducible refine LeO.ite ?_ ?_)
      | (with_reducible refine LeO.bind ?_ (fun _ => ?_))
      | exact ih0 _ _ _ _ _ _
      | exact ih1 _ _ _ _ _ _ _
      | exact ih2 _ _ _ _ _
      | exact ih3 _ _ _ _
      | exact ih4 _ _ _ _
      | exact ih5 _ _ _ _ _
      | exact record_Scan.mono _ _
      | exact LeO.none _
      | refine LeO.ite ?_ ?_
      | refine LeO.bind ?_ (fun _ => ?_)
    · intro y0 y1 y2 y3 y4
      unfold corbellaw06_RecordBack.l1
      repeat' first
      | (with_reducible exact ih0 _ _ _ _ _ _)
      | (with_reducible exact ih1 _ _ _ _ _ _ _)
      | (with_reducible exact ih2 _ _ _ _ _)
      | (with_reducible exact ih3 _ _ _ _)
      | (with_reducible exact ih4 _ _ _ _)
      | (with_reducible exact ih5 _ _ _ _ _)
      | (with_reducible exact record_Scan.mono _ _)
      | (with_reducible exact LeO.refl _)
      | (with_reducible exact LeO.none _)
      | (with_reducible refine LeO.ite ?_ ?_)
      | (with_reducible refine LeO.bind ?_ (fun _ => ?_))
      | exact ih0 _ _ _ _ _ _
      | exact ih1 _ _ _ _ _ _ _
      | exact ih2 _ _ _ _ _
      | exact ih3 _ _ _ _
      | exact ih4 _ _ _ _
      | exact ih5 _ _ _ _ _
      | exact record_Scan.mono _ _
      | exact LeO.none _
      | refine LeO.ite ?_ ?_
      | refine LeO.bind ?_ (fun _ => ?_)
theorem corbellaw06_RecordBack.mono : ∀ a0 a1 k, LeO (corbellaw06_RecordBack.f k a0 a1) (corbellaw06_RecordBack.f (k + 1) a0 a1) := by
  intro a0 a1 k
  obtain ⟨ih0, ih1, ih2, ih3, ih4, ih5⟩ := corbellaw06_RecordBack.mono_l k
  unfold corbellaw06_RecordBack.f
  repeat' first
      | (with_reducible exact ih0 _ _ _ _ _ _)
      | (with_reducible exact ih1 _ _ _ _ _ _ _)
      | (with_reducible exact ih2 _ _ _ _ _)
      | (with_reducible exact ih3 _ _ _ _)
      | (with_reducible exact ih4 _ _ _ _)
      | (with_reducible exact ih5 _ _ _ _ _)
      | (with_reducible exact record_Scan.mono _ _)
      | (with_reducible exact LeO.refl _)
      | (with_reducible exact LeO.none _)
      | (with_reducible refine LeO.ite ?_ ?_)
      | (with_reducible refine LeO.bind ?_ (fun _ => ?_))
      | exact ih0 _ _ _ _ _ _
      | exact ih1 _ _ _ _ _ _ _
      | exact ih2 _ _ _ _ _
      | exact ih3 _ _ _ _
      | exact ih4 _ _ _ _
      | exact ih5 _ _ _ _ _
      | exact record_Scan.mono _ _
      | exact LeO.none _
      | refine LeO.ite ?_ ?_
      | refine LeO.bind ?_ (fun _ => ?_)
set_option maxHeartbeats 8000000 in
set_option maxRecDepth 100000 in
theorem corbellaw06_RecordBack.calls (k : Nat) (A0 : Option Addr) (c0 : Nat) (l0 : List (S23)) (a1 : Int) (r : Bool) (w : World) (hr0 : Kd.C k23 w A0 l0.length l0) (hc0 : l0.length ≤ c0) (h : corbellaw06_RecordBack.f k l0 a1 = some r) (hN : TabIn w) :
    Calls Tryd.prog 7 #[.slice A0 l0.length c0, .int .i64 a1] w fun e w' => e = .returned (.bool r) ∧ Below w.heap.size w w' := by
  have hu23 := Tryd.underlying23
  have hu29 := Tryd.underlying29
  have HR0 := Aside0.mk hr0
  have HC0 := Aside0.mk hc0
  clear hr0 hc0
  have HB := Aside0.mk (Below.refl w.heap.size w)
  have HN := Aside0.mk hN
  clear hN
  have H : ((corbellaw06_speaks.f).bind fun t132 => (if t132 = true then (corbellaw06_RecordBack.l0 k l0 a1 (⟨#[]⟩ : ByteArray) ([] : List (S29)) ([] : List Int) 0) else (some false))) = some r := h
  clear h
  replace H := Option.bind_eq_some_iff.mp H
  obtain ⟨t132, A30, H⟩ := H
  replace H : (if t132 = true then (corbellaw06_RecordBack.l0 k l0 a1 (⟨#[]⟩ : ByteArray) ([] : List (S29)) ([] : List Int) 0) else (some false)) = some r := H
  have A3 := Aside0.mk A30
  clear A30
  by_cases c4 : t132 = true
  · subst c4
    have H1 : (corbellaw06_RecordBack.l0 k l0 a1 (⟨#[]⟩ : ByteArray) ([] : List (S29)) ([] : List Int) 0) = some r := by rw [if_pos rfl] at H; exact H
    clear H
    have H := H1
    clear H1
    have H' := Aside0.mk H
    clear H
    go_enter Tryd.func7, Tryd.ntmps7
    go_wp2_with (first | (go_at_call 8; (with_reducible refine (corbellaw06_speaks.calls  true _ A3.out (HN.out.below (by repeat (first | (with_reducible first | exact HB.out | apply below_alloc | apply pw_below_drewN | apply below_drew1 | refine below_set ?_ GE141.out) | exact HB.out)) (Nat.lt_of_lt_of_le HN.out.lt (Nat.le_refl _)))).mono ?_); rintro e w5 ⟨rfl, hb⟩; have n0_ := Aside0.mk (below_step (by repeat (first | (with_reducible first | exact HB.out | apply below_alloc | apply pw_below_drewN | apply below_drew1) | exact HB.out)) hb); clear HB; have HB := n0_; clear n0_; (try clear hb); (try clear hb2); (try clear hk); (try clear hi)))
    repeat (go_quiet (first | (go_at_call 8; (with_reducible refine (corbellaw06_speaks.calls  true _ A3.out (HN.out.below (by repeat (first | (with_reducible first | exact HB.out | apply below_alloc | apply pw_below_drewN | apply below_drew1 | refine below_set ?_ GE141.out) | exact HB.out)) (Nat.lt_of_lt_of_le HN.out.lt (Nat.le_refl _)))).mono ?_); rintro e w5 ⟨rfl, hb⟩; have n0_ := Aside0.mk (below_step (by repeat (first | (with_reducible first | exact HB.out | apply below_alloc | apply pw_below_drewN | apply below_drew1) | exact HB.out)) hb); clear HB; have HB := n0_; clear n0_; (try clear hb); (try clear hb2); (try clear hk); (try clear hi))); try go_wp2_with (first | (go_at_call 8; (with_reducible refine (corbellaw06_speaks.calls  true _ A3.out (HN.out.below (by repeat (first | (with_reducible first | exact HB.out | apply below_alloc | apply pw_below_drewN | apply below_drew1 | refine below_set ?_ GE141.out) | exact HB.out)) (Nat.lt_of_lt_of_le HN.out.lt (Nat.le_refl _)))).mono ?_); rintro e w5 ⟨rfl, hb⟩; have n0_ := Aside0.mk (below_step (by repeat (first | (with_reducible first | exact HB.out | apply below_alloc | apply pw_below_drewN | apply below_drew1) | exact HB.out)) hb); clear HB; have HB := n0_; clear n0_; (try clear hb); (try clear hb2); (try clear hk); (try clear hi))))
    go_loopg [5, 6, 7, 8] k (fun kq v5 v6 v7 v8 w' => ∃ (x5_1 : ByteArray) (x6_1 : List (S29)) (x7_1 : List Int) (x8_1 : Int), v5 = .string x5_1 ∧ v8 = .int .i64 x8_1 ∧ Aside0 (corbellaw06_RecordBack.l0 kq l0 a1 x5_1 x6_1 x7_1 x8_1 = some r) ∧ Aside0 (kq ≤ k) ∧ Aside0 (Kd.R k29 29 w' w.heap.size (fun _ => True) v6 x6_1) ∧ Aside0 (Kd.R (Kd.int .i64) 3 w' w.heap.size (fun _ => True) v7 x7_1) ∧ Aside0 (Below w.heap.size w w'))
    case atStart => exact ⟨((⟨#[]⟩ : ByteArray)), (([] : List (S29))), (([] : List Int)), (0), (by first | rfl | (simp; done) | (simp [*]; done)), (by first | rfl | (simp; done) | (simp [*]; done)), H', ⟨Nat.le_refl _⟩, ⟨by first | exact Kd.R_nil _ _ _ _ _ | exact Kd.N_nil _ _ _ _ _ | exact Kd.V_nil _ _ _ _ _ | exact Kd.Q_nil _ _ _ _ _ | exact Kd.S_nil _ _ _ _ _⟩, ⟨by first | exact Kd.R_nil _ _ _ _ _ | exact Kd.N_nil _ _ _ _ _ | exact Kd.V_nil _ _ _ _ _ | exact Kd.Q_nil _ _ _ _ _ | exact Kd.S_nil _ _ _ _ _⟩, ⟨by repeat (first | (with_reducible first | exact HB.out | apply below_alloc | apply pw_below_drewN | apply below_drew1) | exact HB.out)⟩⟩
    case round =>
      clear H'
      try clear p2
      try clear c4
      obtain ⟨x5_1, x6_1, x7_1, x8_1, rfl, rfl, HA, HK1, HO_6, HO_7, HB⟩ := hrel
      cases gk with
      | zero => exact absurd HA.out (by simp [corbellaw06_RecordBack.l0])
      | succ k1 =>
        have H := HA.out
        clear HA
        simp only [corbellaw06_RecordBack.l0] at H
        have HC6 := Aside0.mk H
        clear H
        go_upto_region 7 with (fail)
        repeat (go_quiet (fail); go_upto_region 7 with (fail))
        go_cut [25] (fun v25 wc => ∃ (kq : Nat) (x25_5 : Bool), v25 = .bool x25_5 ∧ Aside0 (corbellaw06_RecordBack.j1 kq l0 a1 x5_1 x6_1 x7_1 x8_1 x25_5 = some r) ∧ Aside0 (kq ≤ k1) ∧ Aside0 (Kd.R k29 29 wc w.heap.size (fun _ => True) u6 x6_1) ∧ Aside0 (Kd.R (Kd.int .i64) 3 wc w.heap.size (fun _ => True) u7 x7_1) ∧ Aside0 (Below w.heap.size w wc))
        case first =>
          have H := HC6.out
          clear HC6
          by_cases c7 : x8_1 < (l0.length : Int)
          · rw [if_pos c7] at H
            have c7b0 : decide (x8_1 < (l0.length : Int)) = true := decide_eq_true c7
            clear c7
            (first | rw [c7b0] | (simp only [i64_w, i32_w]; rw [c7b0]) | skip)
            have H' := Aside0.mk H
            clear H
            go_wp2
            repeat (go_quiet (fail); try go_wp2)
            go_meet
            case rel => exact ⟨_, (decide (x8_1 < 40)), (by first | rfl | (simp; done) | (simp [*]; done)), H', ⟨by have := HK1.out; first | omega | exact Nat.le_refl _⟩, ⟨by (with_reducible repeat (first | apply Kd.R_alloc | apply Kd.R_drewN | apply Kd.R_drew)); exact HO_6.out⟩, ⟨by (with_reducible repeat (first | apply Kd.R_alloc | apply Kd.R_drewN | apply Kd.R_drew)); exact HO_7.out⟩, ⟨by repeat (first | (with_reducible first | exact HB.out | apply below_alloc | apply pw_below_drewN | apply below_drew1) | exact HB.out)⟩⟩
          · rw [if_neg c7] at H
            have c7b0 : decide (x8_1 < (l0.length : Int)) = false := decide_eq_false c7
            clear c7
            (first | rw [c7b0] | (simp only [i64_w, i32_w]; rw [c7b0]) | skip)
            have H' := Aside0.mk H
            clear H
            go_wp2
            repeat (go_quiet (fail); try go_wp2)
            go_meet
            case rel => exact ⟨_, (false), (by first | rfl | (simp; done) | (simp [*]; done)), H', ⟨by have := HK1.out; first | omega | exact Nat.le_refl _⟩, ⟨by (with_reducible repeat (first | apply Kd.R_alloc | apply Kd.R_drewN | apply Kd.R_drew)); exact HO_6.out⟩, ⟨by (with_reducible repeat (first | apply Kd.R_alloc | apply Kd.R_drewN | apply Kd.R_drew)); exact HO_7.out⟩, ⟨by repeat (first | (with_reducible first | exact HB.out | apply below_alloc | apply pw_below_drewN | apply below_drew1) | exact HB.out)⟩⟩
        case rest =>
          clear HC6
          try clear p2
          try clear c4
          try clear c7
          try clear c7b0
          try clear p2
          obtain ⟨kq, x25_5, rfl, HA, HJ5, HO_6, HO_7, HB⟩ := hcut
          cases kq with
          | zero => exact absurd HA.out (by simp [corbellaw06_RecordBack.j1])
          | succ kj5 =>
            have H := HA.out
            clear HA
            simp only [corbellaw06_RecordBack.j1] at H
            by_cases c8 : x25_5 = true
            · subst c8
              have H1 : (if 0 ≤ x8_1 then (if x8_1 < (l0.length : Int) then ((corbellaw06_whole.f ((rd_T23 l0 x8_1).f0) ((rd_T23 l0 x8_1).f1) ((rd_T23 l0 x8_1).f2) ((rd_T23 l0 x8_1).f3) ((rd_T23 l0 x8_1).f4) ((rd_T23 l0 x8_1).f5) ((rd_T23 l0 x8_1).f6)).bind fun bt134 => ((record_Encode.f bt134.1 bt134.2.1 bt134.2.2.1 bt134.2.2.2.1 bt134.2.2.2.2.1 bt134.2.2.2.2.2.1 bt134.2.2.2.2.2.2).bind fun bt142 => (if bt142.2 = 0 then (if x5_1.size + bt142.1.size ≤ 9223372036854775807 then (if x6_1.length < 2199023255552 then (if x7_1.length < 17592186044416 then (corbellaw06_RecordBack.l0 kj5 l0 a1 (x5_1 ++ bt142.1) (x6_1 ++ [(⟨bt134.1, bt134.2.1, bt134.2.2.1, bt134.2.2.2.1, bt134.2.2.2.2.1, bt134.2.2.2.2.2.1, bt134.2.2.2.2.2.2⟩ : S29)]) (x7_1 ++ [((x5_1 ++ bt142.1).size : Int)]) (wrap64 (x8_1 + 1))) else (none)) else (none)) else (none)) else (corbellaw06_RecordBack.l0 kj5 l0 a1 x5_1 x6_1 x7_1 (wrap64 (x8_1 + 1)))))) else (none)) else (none)) = some r := by rw [if_pos rfl] at H; exact H
              clear H
              have H := H1
              clear H1
              by_cases c9 : 0 ≤ x8_1
              · rw [if_pos c9] at H
                have c9b0 : decide (0 ≤ x8_1) = true := decide_eq_true c9
                clear c9
                by_cases c10 : x8_1 < (l0.length : Int)
                · rw [if_pos c10] at H
                  have c10b0 : decide (x8_1 < (l0.length : Int)) = true := decide_eq_true c10
                  clear c10
                  replace H := Option.bind_eq_some_iff.mp H
                  obtain ⟨⟨t134, t135, t136, t137, t138, t139, t140⟩, A110, H⟩ := H
                  replace H : ((record_Encode.f t134 t135 t136 t137 t138 t139 t140).bind fun bt142 => (if bt142.2 = 0 then (if x5_1.size + bt142.1.size ≤ 9223372036854775807 then (if x6_1.length < 2199023255552 then (if x7_1.length < 17592186044416 then (corbellaw06_RecordBack.l0 kj5 l0 a1 (x5_1 ++ bt142.1) (x6_1 ++ [(⟨t134, t135, t136, t137, t138, t139, t140⟩ : S29)]) (x7_1 ++ [((x5_1 ++ bt142.1).size : Int)]) (wrap64 (x8_1 + 1))) else (none)) else (none)) else (none)) else (corbellaw06_RecordBack.l0 kj5 l0 a1 x5_1 x6_1 x7_1 (wrap64 (x8_1 + 1))))) = some r := H
                  have A11 := Aside0.mk A110
                  clear A110
                  replace H := Option.bind_eq_some_iff.mp H
                  obtain ⟨⟨t142, t143⟩, A120, H⟩ := H
                  replace H : (if t143 = 0 then (if x5_1.size + t142.size ≤ 9223372036854775807 then (if x6_1.length < 2199023255552 then (if x7_1.length < 17592186044416 then (corbellaw06_RecordBack.l0 kj5 l0 a1 (x5_1 ++ t142) (x6_1 ++ [(⟨t134, t135, t136, t137, t138, t139, t140⟩ : S29)]) (x7_1 ++ [((x5_1 ++ t142).size : Int)]) (wrap64 (x8_1 + 1))) else (none)) else (none)) else (none)) else (corbellaw06_RecordBack.l0 kj5 l0 a1 x5_1 x6_1 x7_1 (wrap64 (x8_1 + 1)))) = some r := H
                  have A12 := Aside0.mk A120
                  clear A120
                  by_cases c13 : t143 = 0
                  · rw [if_pos c13] at H
                    have c13b0 : (t143 == 0) = true := beq_iff_eq.mpr c13
                    have c13b1 : (t143 != 0) = false := bne_eq_false_iff_eq.mpr c13
                    clear c13
                    by_cases c14 : x5_1.size + t142.size ≤ 9223372036854775807
                    · rw [if_pos c14] at H
                      have c14b0 := eq_true c14
                      have c14b1 : decide (x5_1.size + t142.size ≤ 9223372036854775807) = true := decide_eq_true c14
                      try have c14b2 : (9223372036854775807 < x5_1.size + t142.size) = False := eq_false (Nat.not_lt.2 c14)
                      by_cases c15 : x6_1.length < 2199023255552
                      · rw [if_pos c15] at H
                        have LMc15 := Aside0.mk c15
                        clear c15
                        obtain ⟨y144, hy144⟩ : ∃ y_ : List (S29), y_ = (x6_1 ++ [(⟨t134, t135, t136, t137, t138, t139, t140⟩ : S29)]) := ⟨_, rfl⟩
                        replace H : (if x7_1.length < 17592186044416 then (corbellaw06_RecordBack.l0 kj5 l0 a1 (x5_1 ++ t142) y144 (x7_1 ++ [((x5_1 ++ t142).size : Int)]) (wrap64 (x8_1 + 1))) else (none)) = some r := by first | (rw [hy144]; with_reducible exact H) | (have H2_ := (Option.bind_some _ _).symm.trans H; rw [hy144]; with_reducible exact H2_) | (have H2_ := (Option.bind_some _ _).symm.trans H; with_reducible exact H2_) | with_reducible exact H | (rw [hy144]; exact H) | exact H
                        have Ny144 := Aside0.mk hy144
                        clear hy144
                        by_cases c16 : x7_1.length < 17592186044416
                        · rw [if_pos c16] at H
                          have LMc16 := Aside0.mk c16
                          clear c16
                          obtain ⟨y147, hy147⟩ : ∃ y_ : List Int, y_ = (x7_1 ++ [((x5_1 ++ t142).size : Int)]) := ⟨_, rfl⟩
                          replace H : (corbellaw06_RecordBack.l0 kj5 l0 a1 (x5_1 ++ t142) y144 y147 (wrap64 (x8_1 + 1))) = some r := by first | (rw [hy147]; with_reducible exact H) | (have H2_ := (Option.bind_some _ _).symm.trans H; rw [hy147]; with_reducible exact H2_) | (have H2_ := (Option.bind_some _ _).symm.trans H; with_reducible exact H2_) | with_reducible exact H | (rw [hy147]; exact H) | exact H
                          have Ny147 := Aside0.mk hy147
                          clear hy147
                          have H' := Aside0.mk H
                          clear H
                          have p133 : 0 ≤ (x8_1 : Int) := of_decide_eq_true (by first | (with_reducible assumption) | assumption)
                          have q133 : x8_1 < (l0.length : Int) := of_decide_eq_true (by first | (with_reducible assumption) | assumption)
                          obtain ⟨ad133, e133, hx133_0, hx133_1, hx133_2, hx133_3, hx133_4, hx133_5, hx133_6⟩ := at_T23 HR0.out x8_1 p133 q133
                          cases e133
                          replace hx133_0 := (HB.out.cell (World.block_lt_of_cell? w _ hx133_0)).trans hx133_0
                          replace hx133_1 := (HB.out.cell (World.block_lt_of_cell? w _ hx133_1)).trans hx133_1
                          replace hx133_2 := (HB.out.cell (World.block_lt_of_cell? w _ hx133_2)).trans hx133_2
                          replace hx133_3 := (HB.out.cell (World.block_lt_of_cell? w _ hx133_3)).trans hx133_3
                          replace hx133_4 := (HB.out.cell (World.block_lt_of_cell? w _ hx133_4)).trans hx133_4
                          replace hx133_5 := (HB.out.cell (World.block_lt_of_cell? w _ hx133_5)).trans hx133_5
                          replace hx133_6 := (HB.out.cell (World.block_lt_of_cell? w _ hx133_6)).trans hx133_6
                          replace p133 := eq_true p133
                          replace q133 := eq_true q133
                          go_wp2_with (first | (go_at_call 9; (with_reducible refine (corbellaw06_whole.calls ((rd_T23 l0 x8_1).f0) ((rd_T23 l0 x8_1).f1) ((rd_T23 l0 x8_1).f2) ((rd_T23 l0 x8_1).f3) ((rd_T23 l0 x8_1).f4) ((rd_T23 l0 x8_1).f5) ((rd_T23 l0 x8_1).f6) t134 t135 t136 t137 t138 t139 t140 _ A11.out).mono ?_); rintro e w17 ⟨rfl, hb⟩; have n0_ := Aside0.mk (Kd.R_below (by (with_reducible repeat (first | apply Kd.R_alloc | apply Kd.R_drewN | apply Kd.R_drew)); exact HO_6.out) hb); have n1_ := Aside0.mk (Kd.R_below (by (with_reducible repeat (first | apply Kd.R_alloc | apply Kd.R_drewN | apply Kd.R_drew)); exact HO_7.out) hb); have n2_ := Aside0.mk (below_step (by repeat (first | (with_reducible first | exact HB.out | apply below_alloc | apply pw_below_drewN | apply below_drew1) | exact HB.out)) hb); clear HO_6; clear HO_7; clear HB; have HO_6 := n0_; have HO_7 := n1_; have HB := n2_; clear n0_ n1_ n2_; (try clear hb); (try clear hb2); (try clear hk); (try clear hi)) | ((with_reducible refine gate_dst (N := 9) rfl ?_); refine box_event ?hg (N := 9) ?hd (cs := #[.int .i64 0, .int .i64 0, .int .i64 0, .int .i64 0, .int .i64 0, .int .i64 0, .string (⟨#[]⟩ : ByteArray)]) (t := 23) ?hr ?_; (case hd => rfl); (case hg => rfl); (case hr => first | (go_simp; done) | (go_simp; rfl)); intro gb141 hg w18 hbox hb; have n0_ := Aside0.mk (Kd.R_below (by (with_reducible repeat (first | apply Kd.R_alloc | apply Kd.R_drewN | apply Kd.R_drew)); exact HO_6.out) hb); have n1_ := Aside0.mk (Kd.R_below (by (with_reducible repeat (first | apply Kd.R_alloc | apply Kd.R_drewN | apply Kd.R_drew)); exact HO_7.out) hb); have n2_ := Aside0.mk (below_step (by repeat (first | (with_reducible first | exact HB.out | apply below_alloc | apply pw_below_drewN | apply below_drew1) | exact HB.out)) hb); have n3_ := Aside0.mk (hbox); have n4_ := Aside0.mk ((by rw [hg]; exact (below_size (by repeat (first | (with_reducible first | exact HB.out | apply below_alloc | apply pw_below_drewN | apply below_drew1) | exact HB.out))) : w.heap.size ≤ gb141)); have n5_ := Aside0.mk ((by rw [hg]; exact (below_size (by repeat (first | (with_reducible first | exact HB.out | apply below_alloc | apply pw_below_drewN | apply below_drew1) | exact HB.out))) : w.heap.size ≤ gb141)); clear HO_6; clear HO_7; clear HB; have HO_6 := n0_; have HO_7 := n1_; have HB := n2_; have BK141 := n3_; have GW141 := n4_; have GE141 := n5_; clear n0_ n1_ n2_ n3_ n4_ n5_; clear hb hbox hg; have hcz19_0 : w18.cell? ⟨gb141, 0, none⟩ = some (.int .i64 0) := (blk_cell BK141.out 0).trans rfl; have hcz19_1 : w18.cell? ⟨gb141, 1, none⟩ = some (.int .i64 0) := (blk_cell BK141.out 1).trans rfl; have hcz19_2 : w18.cell? ⟨gb141, 2, none⟩ = some (.int .i64 0) := (blk_cell BK141.out 2).trans rfl; have hcz19_3 : w18.cell? ⟨gb141, 3, none⟩ = some (.int .i64 0) := (blk_cell BK141.out 3).trans rfl; have hcz19_4 : w18.cell? ⟨gb141, 4, none⟩ = some (.int .i64 0) := (blk_cell BK141.out 4).trans rfl; have hcz19_5 : w18.cell? ⟨gb141, 5, none⟩ = some (.int .i64 0) := (blk_cell BK141.out 5).trans rfl; have hcz19_6 : w18.cell? ⟨gb141, 6, none⟩ = some (.string (⟨#[]⟩ : ByteArray)) := (blk_cell BK141.out 6).trans rfl; have hfz19_0 := blk_frozen BK141.out 0; have hfz19_1 := blk_frozen BK141.out 1; have hfz19_2 := blk_frozen BK141.out 2; have hfz19_3 := blk_frozen BK141.out 3; have hfz19_4 := blk_frozen BK141.out 4; have hfz19_5 := blk_frozen BK141.out 5; have hfz19_6 := blk_frozen BK141.out 6) | (go_at_call 10; (with_reducible refine (record_Encode.calls t134 t135 t136 t137 t138 t139 t140 t142 t143 _ A12.out (HN.out.below (by repeat (first | (with_reducible first | exact HB.out | apply below_alloc | apply pw_below_drewN | apply below_drew1 | refine below_set ?_ GE141.out) | exact HB.out)) (Nat.lt_of_lt_of_le HN.out.lt (Nat.le_refl _)))).mono ?_); rintro e w20 ⟨rfl, hb⟩; have n0_ := Aside0.mk (Kd.R_below (by (with_reducible repeat (first | apply Kd.R_alloc | apply Kd.R_drewN | apply Kd.R_drew)); exact (Kd.R_mono (Kd.R_far (p := ⟨gb141, 6, none⟩) (Kd.R_far (p := ⟨gb141, 5, none⟩) (Kd.R_far (p := ⟨gb141, 4, none⟩) (Kd.R_far (p := ⟨gb141, 3, none⟩) (Kd.R_far (p := ⟨gb141, 2, none⟩) (Kd.R_far (p := ⟨gb141, 1, none⟩) (Kd.R_far (p := ⟨gb141, 0, none⟩) (Kd.R_types HO_6.out BK141.out (by decide)) (fun _ hk => hk.2) (.int .i64 t134)) (fun _ hk => hk.2) (.int .i64 t135)) (fun _ hk => hk.2) (.int .i64 t136)) (fun _ hk => hk.2) (.int .i64 t137)) (fun _ hk => hk.2) (.int .i64 t138)) (fun _ hk => hk.2) (.int .i64 t139)) (fun _ hk => hk.2) (.string t140)) (fun _ h_ => h_.1))) hb); have n1_ := Aside0.mk (Kd.R_below (by (with_reducible repeat (first | apply Kd.R_alloc | apply Kd.R_drewN | apply Kd.R_drew)); exact (Kd.R_mono (Kd.R_far (p := ⟨gb141, 6, none⟩) (Kd.R_far (p := ⟨gb141, 5, none⟩) (Kd.R_far (p := ⟨gb141, 4, none⟩) (Kd.R_far (p := ⟨gb141, 3, none⟩) (Kd.R_far (p := ⟨gb141, 2, none⟩) (Kd.R_far (p := ⟨gb141, 1, none⟩) (Kd.R_far (p := ⟨gb141, 0, none⟩) (Kd.R_types HO_7.out BK141.out (by decide)) (fun _ hk => hk.2) (.int .i64 t134)) (fun _ hk => hk.2) (.int .i64 t135)) (fun _ hk => hk.2) (.int .i64 t136)) (fun _ hk => hk.2) (.int .i64 t137)) (fun _ hk => hk.2) (.int .i64 t138)) (fun _ hk => hk.2) (.int .i64 t139)) (fun _ hk => hk.2) (.string t140)) (fun _ h_ => h_.1))) hb); have n2_ := Aside0.mk (blk_below (g := gb141) (o := .cells #[.int .i64 t134, .int .i64 t135, .int .i64 t136, .int .i64 t137, .int .i64 t138, .int .i64 t139, .string t140] 23 (0, 0)) (by (with_reducible repeat (first | refine blk_drewN ?_ _ | refine blk_drew ?_ | refine blk_alloc ?_ _)); refine blk_put (cs := #[.int .i64 t134, .int .i64 t135, .int .i64 t136, .int .i64 t137, .int .i64 t138, .int .i64 t139, .string (⟨#[]⟩ : ByteArray)]) ?_ 6 _ rfl; (with_reducible repeat (first | refine blk_drewN ?_ _ | refine blk_drew ?_ | refine blk_alloc ?_ _)); refine blk_put (cs := #[.int .i64 t134, .int .i64 t135, .int .i64 t136, .int .i64 t137, .int .i64 t138, .int .i64 0, .string (⟨#[]⟩ : ByteArray)]) ?_ 5 _ rfl; (with_reducible repeat (first | refine blk_drewN ?_ _ | refine blk_drew ?_ | refine blk_alloc ?_ _)); refine blk_put (cs := #[.int .i64 t134, .int .i64 t135, .int .i64 t136, .int .i64 t137, .int .i64 0, .int .i64 0, .string (⟨#[]⟩ : ByteArray)]) ?_ 4 _ rfl; (with_reducible repeat (first | refine blk_drewN ?_ _ | refine blk_drew ?_ | refine blk_alloc ?_ _)); refine blk_put (cs := #[.int .i64 t134, .int .i64 t135, .int .i64 t136, .int .i64 0, .int .i64 0, .int .i64 0, .string (⟨#[]⟩ : ByteArray)]) ?_ 3 _ rfl; (with_reducible repeat (first | refine blk_drewN ?_ _ | refine blk_drew ?_ | refine blk_alloc ?_ _)); refine blk_put (cs := #[.int .i64 t134, .int .i64 t135, .int .i64 0, .int .i64 0, .int .i64 0, .int .i64 0, .string (⟨#[]⟩ : ByteArray)]) ?_ 2 _ rfl; (with_reducible repeat (first | refine blk_drewN ?_ _ | refine blk_drew ?_ | refine blk_alloc ?_ _)); refine blk_put (cs := #[.int .i64 t134, .int .i64 0, .int .i64 0, .int .i64 0, .int .i64 0, .int .i64 0, .string (⟨#[]⟩ : ByteArray)]) ?_ 1 _ rfl; (with_reducible repeat (first | refine blk_drewN ?_ _ | refine blk_drew ?_ | refine blk_alloc ?_ _)); refine blk_put (cs := #[.int .i64 0, .int .i64 0, .int .i64 0, .int .i64 0, .int .i64 0, .int .i64 0, .string (⟨#[]⟩ : ByteArray)]) ?_ 0 _ rfl; (with_reducible repeat (first | refine blk_drewN ?_ _ | refine blk_drew ?_ | refine blk_alloc ?_ _)); exact BK141.out) hb); have n3_ := Aside0.mk (below_step (by repeat (first | (with_reducible first | exact HB.out | apply below_alloc | apply pw_below_drewN | apply below_drew1 | refine below_set ?_ GE141.out) | exact HB.out)) hb); clear HO_6; clear HO_7; clear BK141; clear HB; have HO_6 := n0_; have HO_7 := n1_; have BK141 := n2_; have HB := n3_; clear n0_ n1_ n2_ n3_; (try clear hb); (try clear hb2); (try clear hk); (try clear hi); have hcz21_0 : w20.cell? ⟨gb141, 0, none⟩ = some (.int .i64 t134) := (blk_cell BK141.out 0).trans rfl; have hcz21_1 : w20.cell? ⟨gb141, 1, none⟩ = some (.int .i64 t135) := (blk_cell BK141.out 1).trans rfl; have hcz21_2 : w20.cell? ⟨gb141, 2, none⟩ = some (.int .i64 t136) := (blk_cell BK141.out 2).trans rfl; have hcz21_3 : w20.cell? ⟨gb141, 3, none⟩ = some (.int .i64 t137) := (blk_cell BK141.out 3).trans rfl; have hcz21_4 : w20.cell? ⟨gb141, 4, none⟩ = some (.int .i64 t138) := (blk_cell BK141.out 4).trans rfl; have hcz21_5 : w20.cell? ⟨gb141, 5, none⟩ = some (.int .i64 t139) := (blk_cell BK141.out 5).trans rfl; have hcz21_6 : w20.cell? ⟨gb141, 6, none⟩ = some (.string t140) := (blk_cell BK141.out 6).trans rfl; have hfz21_0 := blk_frozen BK141.out 0; have hfz21_1 := blk_frozen BK141.out 1; have hfz21_2 := blk_frozen BK141.out 2; have hfz21_3 := blk_frozen BK141.out 3; have hfz21_4 := blk_frozen BK141.out 4; have hfz21_5 := blk_frozen BK141.out 5; have hfz21_6 := blk_frozen BK141.out 6) | ((with_reducible refine gate_builtin (b := .append) (xs := #[.tmp 43, .tmp 45]) rfl ?_); at_builtin; refine Kd.R_append k29 (w0 := w) w.heap.size rfl (.tmp 43) (.tmp 45) 42 29 (.agg #[(.int .i64 0), (.int .i64 0), (.int .i64 0), (.int .i64 0), (.int .i64 0), (.int .i64 0), (.string ⟨#[]⟩)]) 64 rfl Tryd.underlying42 info29 rfl (by decide) (by omega) u6 x6_1 (⟨t134, t135, t136, t137, t138, t139, t140⟩ : S29) [.int .i64 t134, .int .i64 t135, .int .i64 t136, .int .i64 t137, .int .i64 t138, .int .i64 t139, .string t140] (fun _ => True) (fun _ => False) rfl rfl ?aP (fun _ hk => hk.elim) ?aF ?aO ?aB ?aS ?aL ?_; (case aP => exact k29_mkM _ _ _ (⟨t134, t135, t136, t137, t138, t139, t140⟩ : S29)); (case aB => exact (by repeat (first | (with_reducible first | exact HB.out | apply below_alloc | apply pw_below_drewN | apply below_drew1 | refine below_set ?_ GE141.out) | exact HB.out))); (case aF => exact (fun _ _ => trivial)); (case aO => exact (by (with_reducible repeat (first | apply Kd.R_alloc | apply Kd.R_drewN | apply Kd.R_drew)); exact HO_6.out)); (case aS => exact (below_size (by repeat (first | (with_reducible first | exact HB.out | apply below_alloc | apply pw_below_drewN | apply below_drew1 | refine below_set ?_ GE141.out) | exact HB.out)))); (case aL => have := LMc15.out; omega); intro v145 w22 ho hb hg hat; rw [← Ny144.out] at ho; have n0_ := Aside0.mk (Kd.R_over' (by (with_reducible repeat (first | apply Kd.R_alloc | apply Kd.R_drewN | apply Kd.R_drew)); exact HO_7.out) (Kd.R_typed (by (with_reducible repeat (first | apply Kd.R_alloc | apply Kd.R_drewN | apply Kd.R_drew)); exact HO_6.out)) (by decide) hg); have n1_ := Aside0.mk (blk_grown (g := gb141) (o := .cells #[.int .i64 t134, .int .i64 t135, .int .i64 t136, .int .i64 t137, .int .i64 t138, .int .i64 t139, .string t140] 23 (0, 0)) (by (with_reducible repeat (first | refine blk_drewN ?_ _ | refine blk_drew ?_ | refine blk_alloc ?_ _)); exact BK141.out) hg (Kd.R_ne HO_6.out BK141.out (by decide))); have n2_ := Aside0.mk (hb); have n3_ := Aside0.mk (ho); clear HO_7; clear BK141; clear HB; clear HO_6; have HO_7 := n0_; have BK141 := n1_; have HB := n2_; have HO146 := n3_; clear n0_ n1_ n2_ n3_; clear ho hb hg hat) | ((with_reducible refine gate_builtin (b := .append) (xs := #[.tmp 47, .tmp 50]) rfl ?_); at_builtin; refine Kd.R_append (Kd.int .i64) (w0 := w) w.heap.size rfl (.tmp 47) (.tmp 50) 50 3 (.int .i64 0) 8 rfl Tryd.underlying50 info3 rfl (by decide) (by omega) u7 x7_1 ((x5_1.size : Int) + (t142.size : Int)) [.int .i64 ((x5_1.size : Int) + (t142.size : Int))] (fun _ => True) (fun _ => False) rfl rfl ?aP (fun _ hk => hk.elim) ?aF ?aO ?aB ?aS ?aL ?_; (case aP => exact rfl); (case aB => exact (by repeat (first | (with_reducible first | exact HB.out | apply below_alloc | apply pw_below_drewN | apply below_drew1 | refine below_set ?_ GE141.out) | exact HB.out))); (case aF => exact (fun _ _ => trivial)); (case aO => exact (by (with_reducible repeat (first | apply Kd.R_alloc | apply Kd.R_drewN | apply Kd.R_drew)); exact HO_7.out)); (case aS => exact (below_size (by repeat (first | (with_reducible first | exact HB.out | apply below_alloc | apply pw_below_drewN | apply below_drew1 | refine below_set ?_ GE141.out) | exact HB.out)))); (case aL => have := LMc16.out; omega); intro v148 w23 ho hb hg hat; have hsj_ : ((x5_1.size : Int) + (t142.size : Int)) = ((x5_1 ++ t142).size : Int) := (by rw [ByteArray.size_append]; omega); rw [hsj_, ← Ny147.out] at ho; clear hsj_; have n0_ := Aside0.mk (blk_grown (g := gb141) (o := .cells #[.int .i64 t134, .int .i64 t135, .int .i64 t136, .int .i64 t137, .int .i64 t138, .int .i64 t139, .string t140] 23 (0, 0)) (by (with_reducible repeat (first | refine blk_drewN ?_ _ | refine blk_drew ?_ | refine blk_alloc ?_ _)); exact BK141.out) hg (Kd.R_ne HO_7.out BK141.out (by decide))); have n1_ := Aside0.mk (Kd.R_over' (by (with_reducible repeat (first | apply Kd.R_alloc | apply Kd.R_drewN | apply Kd.R_drew)); exact HO146.out) (Kd.R_typed (by (with_reducible repeat (first | apply Kd.R_alloc | apply Kd.R_drewN | apply Kd.R_drew)); exact HO_7.out)) (by decide) hg); have n2_ := Aside0.mk (hb); have n3_ := Aside0.mk (ho); clear BK141; clear HO146; clear HB; clear HO_7; have BK141 := n0_; have HO146 := n1_; have HB := n2_; have HO149 := n3_; clear n0_ n1_ n2_ n3_; clear ho hb hg hat))
                          repeat (go_quiet (first | (go_at_call 9; (with_reducible refine (corbellaw06_whole.calls ((rd_T23 l0 x8_1).f0) ((rd_T23 l0 x8_1).f1) ((rd_T23 l0 x8_1).f2) ((rd_T23 l0 x8_1).f3) ((rd_T23 l0 x8_1).f4) ((rd_T23 l0 x8_1).f5) ((rd_T23 l0 x8_1).f6) t134 t135 t136 t137 t138 t139 t140 _ A11.out).mono ?_); rintro e w17 ⟨rfl, hb⟩; have n0_ := Aside0.mk (Kd.R_below (by (with_reducible repeat (first | apply Kd.R_alloc | apply Kd.R_drewN | apply Kd.R_drew)); exact HO_6.out) hb); have n1_ := Aside0.mk (Kd.R_below (by (with_reducible repeat (first | apply Kd.R_alloc | apply Kd.R_drewN | apply Kd.R_drew)); exact HO_7.out) hb); have n2_ := Aside0.mk (below_step (by repeat (first | (with_reducible first | exact HB.out | apply below_alloc | apply pw_below_drewN | apply below_drew1) | exact HB.out)) hb); clear HO_6; clear HO_7; clear HB; have HO_6 := n0_; have HO_7 := n1_; have HB := n2_; clear n0_ n1_ n2_; (try clear hb); (try clear hb2); (try clear hk); (try clear hi)) | ((with_reducible refine gate_dst (N := 9) rfl ?_); refine box_event ?hg (N := 9) ?hd (cs := #[.int .i64 0, .int .i64 0, .int .i64 0, .int .i64 0, .int .i64 0, .int .i64 0, .string (⟨#[]⟩ : ByteArray)]) (t := 23) ?hr ?_; (case hd => rfl); (case hg => rfl); (case hr => first | (go_simp; done) | (go_simp; rfl)); intro gb141 hg w18 hbox hb; have n0_ := Aside0.mk (Kd.R_below (by (with_reducible repeat (first | apply Kd.R_alloc | apply Kd.R_drewN | apply Kd.R_drew)); exact HO_6.out) hb); have n1_ := Aside0.mk (Kd.R_below (by (with_reducible repeat (first | apply Kd.R_alloc | apply Kd.R_drewN | apply Kd.R_drew)); exact HO_7.out) hb); have n2_ := Aside0.mk (below_step (by repeat (first | (with_reducible first | exact HB.out | apply below_alloc | apply pw_below_drewN | apply below_drew1) | exact HB.out)) hb); have n3_ := Aside0.mk (hbox); have n4_ := Aside0.mk ((by rw [hg]; exact (below_size (by repeat (first | (with_reducible first | exact HB.out | apply below_alloc | apply pw_below_drewN | apply below_drew1) | exact HB.out))) : w.heap.size ≤ gb141)); have n5_ := Aside0.mk ((by rw [hg]; exact (below_size (by repeat (first | (with_reducible first | exact HB.out | apply below_alloc | apply pw_below_drewN | apply below_drew1) | exact HB.out))) : w.heap.size ≤ gb141)); clear HO_6; clear HO_7; clear HB; have HO_6 := n0_; have HO_7 := n1_; have HB := n2_; have BK141 := n3_; have GW141 := n4_; have GE141 := n5_; clear n0_ n1_ n2_ n3_ n4_ n5_; clear hb hbox hg; have hcz19_0 : w18.cell? ⟨gb141, 0, none⟩ = some (.int .i64 0) := (blk_cell BK141.out 0).trans rfl; have hcz19_1 : w18.cell? ⟨gb141, 1, none⟩ = some (.int .i64 0) := (blk_cell BK141.out 1).trans rfl; have hcz19_2 : w18.cell? ⟨gb141, 2, none⟩ = some (.int .i64 0) := (blk_cell BK141.out 2).trans rfl; have hcz19_3 : w18.cell? ⟨gb141, 3, none⟩ = some (.int .i64 0) := (blk_cell BK141.out 3).trans rfl; have hcz19_4 : w18.cell? ⟨gb141, 4, none⟩ = some (.int .i64 0) := (blk_cell BK141.out 4).trans rfl; have hcz19_5 : w18.cell? ⟨gb141, 5, none⟩ = some (.int .i64 0) := (blk_cell BK141.out 5).trans rfl; have hcz19_6 : w18.cell? ⟨gb141, 6, none⟩ = some (.string (⟨#[]⟩ : ByteArray)) := (blk_cell BK141.out 6).trans rfl; have hfz19_0 := blk_frozen BK141.out 0; have hfz19_1 := blk_frozen BK141.out 1; have hfz19_2 := blk_frozen BK141.out 2; have hfz19_3 := blk_frozen BK141.out 3; have hfz19_4 := blk_frozen BK141.out 4; have hfz19_5 := blk_frozen BK141.out 5; have hfz19_6 := blk_frozen BK141.out 6) | (go_at_call 10; (with_reducible refine (record_Encode.calls t134 t135 t136 t137 t138 t139 t140 t142 t143 _ A12.out (HN.out.below (by repeat (first | (with_reducible first | exact HB.out | apply below_alloc | apply pw_below_drewN | apply below_drew1 | refine below_set ?_ GE141.out) | exact HB.out)) (Nat.lt_of_lt_of_le HN.out.lt (Nat.le_refl _)))).mono ?_); rintro e w20 ⟨rfl, hb⟩; have n0_ := Aside0.mk (Kd.R_below (by (with_reducible repeat (first | apply Kd.R_alloc | apply Kd.R_drewN | apply Kd.R_drew)); exact (Kd.R_mono (Kd.R_far (p := ⟨gb141, 6, none⟩) (Kd.R_far (p := ⟨gb141, 5, none⟩) (Kd.R_far (p := ⟨gb141, 4, none⟩) (Kd.R_far (p := ⟨gb141, 3, none⟩) (Kd.R_far (p := ⟨gb141, 2, none⟩) (Kd.R_far (p := ⟨gb141, 1, none⟩) (Kd.R_far (p := ⟨gb141, 0, none⟩) (Kd.R_types HO_6.out BK141.out (by decide)) (fun _ hk => hk.2) (.int .i64 t134)) (fun _ hk => hk.2) (.int .i64 t135)) (fun _ hk => hk.2) (.int .i64 t136)) (fun _ hk => hk.2) (.int .i64 t137)) (fun _ hk => hk.2) (.int .i64 t138)) (fun _ hk => hk.2) (.int .i64 t139)) (fun _ hk => hk.2) (.string t140)) (fun _ h_ => h_.1))) hb); have n1_ := Aside0.mk (Kd.R_below (by (with_reducible repeat (first | apply Kd.R_alloc | apply Kd.R_drewN | apply Kd.R_drew)); exact (Kd.R_mono (Kd.R_far (p := ⟨gb141, 6, none⟩) (Kd.R_far (p := ⟨gb141, 5, none⟩) (Kd.R_far (p := ⟨gb141, 4, none⟩) (Kd.R_far (p := ⟨gb141, 3, none⟩) (Kd.R_far (p := ⟨gb141, 2, none⟩) (Kd.R_far (p := ⟨gb141, 1, none⟩) (Kd.R_far (p := ⟨gb141, 0, none⟩) (Kd.R_types HO_7.out BK141.out (by decide)) (fun _ hk => hk.2) (.int .i64 t134)) (fun _ hk => hk.2) (.int .i64 t135)) (fun _ hk => hk.2) (.int .i64 t136)) (fun _ hk => hk.2) (.int .i64 t137)) (fun _ hk => hk.2) (.int .i64 t138)) (fun _ hk => hk.2) (.int .i64 t139)) (fun _ hk => hk.2) (.string t140)) (fun _ h_ => h_.1))) hb); have n2_ := Aside0.mk (blk_below (g := gb141) (o := .cells #[.int .i64 t134, .int .i64 t135, .int .i64 t136, .int .i64 t137, .int .i64 t138, .int .i64 t139, .string t140] 23 (0, 0)) (by (with_reducible repeat (first | refine blk_drewN ?_ _ | refine blk_drew ?_ | refine blk_alloc ?_ _)); refine blk_put (cs := #[.int .i64 t134, .int .i64 t135, .int .i64 t136, .int .i64 t137, .int .i64 t138, .int .i64 t139, .string (⟨#[]⟩ : ByteArray)]) ?_ 6 _ rfl; (with_reducible repeat (first | refine blk_drewN ?_ _ | refine blk_drew ?_ | refine blk_alloc ?_ _)); refine blk_put (cs := #[.int .i64 t134, .int .i64 t135, .int .i64 t136, .int .i64 t137, .int .i64 t138, .int .i64 0, .string (⟨#[]⟩ : ByteArray)]) ?_ 5 _ rfl; (with_reducible repeat (first | refine blk_drewN ?_ _ | refine blk_drew ?_ | refine blk_alloc ?_ _)); refine blk_put (cs := #[.int .i64 t134, .int .i64 t135, .int .i64 t136, .int .i64 t137, .int .i64 0, .int .i64 0, .string (⟨#[]⟩ : ByteArray)]) ?_ 4 _ rfl; (with_reducible repeat (first | refine blk_drewN ?_ _ | refine blk_drew ?_ | refine blk_alloc ?_ _)); refine blk_put (cs := #[.int .i64 t134, .int .i64 t135, .int .i64 t136, .int .i64 0, .int .i64 0, .int .i64 0, .string (⟨#[]⟩ : ByteArray)]) ?_ 3 _ rfl; (with_reducible repeat (first | refine blk_drewN ?_ _ | refine blk_drew ?_ | refine blk_alloc ?_ _)); refine blk_put (cs := #[.int .i64 t134, .int .i64 t135, .int .i64 0, .int .i64 0, .int .i64 0, .int .i64 0, .string (⟨#[]⟩ : ByteArray)]) ?_ 2 _ rfl; (with_reducible repeat (first | refine blk_drewN ?_ _ | refine blk_drew ?_ | refine blk_alloc ?_ _)); refine blk_put (cs := #[.int .i64 t134, .int .i64 0, .int .i64 0, .int .i64 0, .int .i64 0, .int .i64 0, .string (⟨#[]⟩ : ByteArray)]) ?_ 1 _ rfl; (with_reducible repeat (first | refine blk_drewN ?_ _ | refine blk_drew ?_ | refine blk_alloc ?_ _)); refine blk_put (cs := #[.int .i64 0, .int .i64 0, .int .i64 0, .int .i64 0, .int .i64 0, .int .i64 0, .string (⟨#[]⟩ : ByteArray)]) ?_ 0 _ rfl; (with_reducible repeat (first | refine blk_drewN ?_ _ | refine blk_drew ?_ | refine blk_alloc ?_ _)); exact BK141.out) hb); have n3_ := Aside0.mk (below_step (by repeat (first | (with_reducible first | exact HB.out | apply below_alloc | apply pw_below_drewN | apply below_drew1 | refine below_set ?_ GE141.out) | exact HB.out)) hb); clear HO_6; clear HO_7; clear BK141; clear HB; have HO_6 := n0_; have HO_7 := n1_; have BK141 := n2_; have HB := n3_; clear n0_ n1_ n2_ n3_; (try clear hb); (try clear hb2); (try clear hk); (try clear hi); have hcz21_0 : w20.cell? ⟨gb141, 0, none⟩ = some (.int .i64 t134) := (blk_cell BK141.out 0).trans rfl; have hcz21_1 : w20.cell? ⟨gb141, 1, none⟩ = some (.int .i64 t135) := (blk_cell BK141.out 1).trans rfl; have hcz21_2 : w20.cell? ⟨gb141, 2, none⟩ = some (.int .i64 t136) := (blk_cell BK141.out 2).trans rfl; have hcz21_3 : w20.cell? ⟨gb141, 3, none⟩ = some (.int .i64 t137) := (blk_cell BK141.out 3).trans rfl; have hcz21_4 : w20.cell? ⟨gb141, 4, none⟩ = some (.int .i64 t138) := (blk_cell BK141.out 4).trans rfl; have hcz21_5 : w20.cell? ⟨gb141, 5, none⟩ = some (.int .i64 t139) := (blk_cell BK141.out 5).trans rfl; have hcz21_6 : w20.cell? ⟨gb141, 6, none⟩ = some (.string t140) := (blk_cell BK141.out 6).trans rfl; have hfz21_0 := blk_frozen BK141.out 0; have hfz21_1 := blk_frozen BK141.out 1; have hfz21_2 := blk_frozen BK141.out 2; have hfz21_3 := blk_frozen BK141.out 3; have hfz21_4 := blk_frozen BK141.out 4; have hfz21_5 := blk_frozen BK141.out 5; have hfz21_6 := blk_frozen BK141.out 6) | ((with_reducible refine gate_builtin (b := .append) (xs := #[.tmp 43, .tmp 45]) rfl ?_); at_builtin; refine Kd.R_append k29 (w0 := w) w.heap.size rfl (.tmp 43) (.tmp 45) 42 29 (.agg #[(.int .i64 0), (.int .i64 0), (.int .i64 0), (.int .i64 0), (.int .i64 0), (.int .i64 0), (.string ⟨#[]⟩)]) 64 rfl Tryd.underlying42 info29 rfl (by decide) (by omega) u6 x6_1 (⟨t134, t135, t136, t137, t138, t139, t140⟩ : S29) [.int .i64 t134, .int .i64 t135, .int .i64 t136, .int .i64 t137, .int .i64 t138, .int .i64 t139, .string t140] (fun _ => True) (fun _ => False) rfl rfl ?aP (fun _ hk => hk.elim) ?aF ?aO ?aB ?aS ?aL ?_; (case aP => exact k29_mkM _ _ _ (⟨t134, t135, t136, t137, t138, t139, t140⟩ : S29)); (case aB => exact (by repeat (first | (with_reducible first | exact HB.out | apply below_alloc | apply pw_below_drewN | apply below_drew1 | refine below_set ?_ GE141.out) | exact HB.out))); (case aF => exact (fun _ _ => trivial)); (case aO => exact (by (with_reducible repeat (first | apply Kd.R_alloc | apply Kd.R_drewN | apply Kd.R_drew)); exact HO_6.out)); (case aS => exact (below_size (by repeat (first | (with_reducible first | exact HB.out | apply below_alloc | apply pw_below_drewN | apply below_drew1 | refine below_set ?_ GE141.out) | exact HB.out)))); (case aL => have := LMc15.out; omega); intro v145 w22 ho hb hg hat; rw [← Ny144.out] at ho; have n0_ := Aside0.mk (Kd.R_over' (by (with_reducible repeat (first | apply Kd.R_alloc | apply Kd.R_drewN | apply Kd.R_drew)); exact HO_7.out) (Kd.R_typed (by (with_reducible repeat (first | apply Kd.R_alloc | apply Kd.R_drewN | apply Kd.R_drew)); exact HO_6.out)) (by decide) hg); have n1_ := Aside0.mk (blk_grown (g := gb141) (o := .cells #[.int .i64 t134, .int .i64 t135, .int .i64 t136, .int .i64 t137, .int .i64 t138, .int .i64 t139, .string t140] 23 (0, 0)) (by (with_reducible repeat (first | refine blk_drewN ?_ _ | refine blk_drew ?_ | refine blk_alloc ?_ _)); exact BK141.out) hg (Kd.R_ne HO_6.out BK141.out (by decide))); have n2_ := Aside0.mk (hb); have n3_ := Aside0.mk (ho); clear HO_7; clear BK141; clear HB; clear HO_6; have HO_7 := n0_; have BK141 := n1_; have HB := n2_; have HO146 := n3_; clear n0_ n1_ n2_ n3_; clear ho hb hg hat) | ((with_reducible refine gate_builtin (b := .append) (xs := #[.tmp 47, .tmp 50]) rfl ?_); at_builtin; refine Kd.R_append (Kd.int .i64) (w0 := w) w.heap.size rfl (.tmp 47) (.tmp 50) 50 3 (.int .i64 0) 8 rfl Tryd.underlying50 info3 rfl (by decide) (by omega) u7 x7_1 ((x5_1.size : Int) + (t142.size : Int)) [.int .i64 ((x5_1.size : Int) + (t142.size : Int))] (fun _ => True) (fun _ => False) rfl rfl ?aP (fun _ hk => hk.elim) ?aF ?aO ?aB ?aS ?aL ?_; (case aP => exact rfl); (case aB => exact (by repeat (first | (with_reducible first | exact HB.out | apply below_alloc | apply pw_below_drewN | apply below_drew1 | refine below_set ?_ GE141.out) | exact HB.out))); (case aF => exact (fun _ _ => trivial)); (case aO => exact (by (with_reducible repeat (first | apply Kd.R_alloc | apply Kd.R_drewN | apply Kd.R_drew)); exact HO_7.out)); (case aS => exact (below_size (by repeat (first | (with_reducible first | exact HB.out | apply below_alloc | apply pw_below_drewN | apply below_drew1 | refine below_set ?_ GE141.out) | exact HB.out)))); (case aL => have := LMc16.out; omega); intro v148 w23 ho hb hg hat; have hsj_ : ((x5_1.size : Int) + (t142.size : Int)) = ((x5_1 ++ t142).size : Int) := (by rw [ByteArray.size_append]; omega); rw [hsj_, ← Ny147.out] at ho; clear hsj_; have n0_ := Aside0.mk (blk_grown (g := gb141) (o := .cells #[.int .i64 t134, .int .i64 t135, .int .i64 t136, .int .i64 t137, .int .i64 t138, .int .i64 t139, .string t140] 23 (0, 0)) (by (with_reducible repeat (first | refine blk_drewN ?_ _ | refine blk_drew ?_ | refine blk_alloc ?_ _)); exact BK141.out) hg (Kd.R_ne HO_7.out BK141.out (by decide))); have n1_ := Aside0.mk (Kd.R_over' (by (with_reducible repeat (first | apply Kd.R_alloc | apply Kd.R_drewN | apply Kd.R_drew)); exact HO146.out) (Kd.R_typed (by (with_reducible repeat (first | apply Kd.R_alloc | apply Kd.R_drewN | apply Kd.R_drew)); exact HO_7.out)) (by decide) hg); have n2_ := Aside0.mk (hb); have n3_ := Aside0.mk (ho); clear BK141; clear HO146; clear HB; clear HO_7; have BK141 := n0_; have HO146 := n1_; have HB := n2_; have HO149 := n3_; clear n0_ n1_ n2_ n3_; clear ho hb hg hat)); try go_wp2_with (first | (go_at_call 9; (with_reducible refine (corbellaw06_whole.calls ((rd_T23 l0 x8_1).f0) ((rd_T23 l0 x8_1).f1) ((rd_T23 l0 x8_1).f2) ((rd_T23 l0 x8_1).f3) ((rd_T23 l0 x8_1).f4) ((rd_T23 l0 x8_1).f5) ((rd_T23 l0 x8_1).f6) t134 t135 t136 t137 t138 t139 t140 _ A11.out).mono ?_); rintro e w17 ⟨rfl, hb⟩; have n0_ := Aside0.mk (Kd.R_below (by (with_reducible repeat (first | apply Kd.R_alloc | apply Kd.R_drewN | apply Kd.R_drew)); exact HO_6.out) hb); have n1_ := Aside0.mk (Kd.R_below (by (with_reducible repeat (first | apply Kd.R_alloc | apply Kd.R_drewN | apply Kd.R_drew)); exact HO_7.out) hb); have n2_ := Aside0.mk (below_step (by repeat (first | (with_reducible first | exact HB.out | apply below_alloc | apply pw_below_drewN | apply below_drew1) | exact HB.out)) hb); clear HO_6; clear HO_7; clear HB; have HO_6 := n0_; have HO_7 := n1_; have HB := n2_; clear n0_ n1_ n2_; (try clear hb); (try clear hb2); (try clear hk); (try clear hi)) | ((with_reducible refine gate_dst (N := 9) rfl ?_); refine box_event ?hg (N := 9) ?hd (cs := #[.int .i64 0, .int .i64 0, .int .i64 0, .int .i64 0, .int .i64 0, .int .i64 0, .string (⟨#[]⟩ : ByteArray)]) (t := 23) ?hr ?_; (case hd => rfl); (case hg => rfl); (case hr => first | (go_simp; done) | (go_simp; rfl)); intro gb141 hg w18 hbox hb; have n0_ := Aside0.mk (Kd.R_below (by (with_reducible repeat (first | apply Kd.R_alloc | apply Kd.R_drewN | apply Kd.R_drew)); exact HO_6.out) hb); have n1_ := Aside0.mk (Kd.R_below (by (with_reducible repeat (first | apply Kd.R_alloc | apply Kd.R_drewN | apply Kd.R_drew)); exact HO_7.out) hb); have n2_ := Aside0.mk (below_step (by repeat (first | (with_reducible first | exact HB.out | apply below_alloc | apply pw_below_drewN | apply below_drew1) | exact HB.out)) hb); have n3_ := Aside0.mk (hbox); have n4_ := Aside0.mk ((by rw [hg]; exact (below_size (by repeat (first | (with_reducible first | exact HB.out | apply below_alloc | apply pw_below_drewN | apply below_drew1) | exact HB.out))) : w.heap.size ≤ gb141)); have n5_ := Aside0.mk ((by rw [hg]; exact (below_size (by repeat (first | (with_reducible first | exact HB.out | apply below_alloc | apply pw_below_drewN | apply below_drew1) | exact HB.out))) : w.heap.size ≤ gb141)); clear HO_6; clear HO_7; clear HB; have HO_6 := n0_; have HO_7 := n1_; have HB := n2_; have BK141 := n3_; have GW141 := n4_; have GE141 := n5_; clear n0_ n1_ n2_ n3_ n4_ n5_; clear hb hbox hg; have hcz19_0 : w18.cell? ⟨gb141, 0, none⟩ = some (.int .i64 0) := (blk_cell BK141.out 0).trans rfl; have hcz19_1 : w18.cell? ⟨gb141, 1, none⟩ = some (.int .i64 0) := (blk_cell BK141.out 1).trans rfl; have hcz19_2 : w18.cell? ⟨gb141, 2, none⟩ = some (.int .i64 0) := (blk_cell BK141.out 2).trans rfl; have hcz19_3 : w18.cell? ⟨gb141, 3, none⟩ = some (.int .i64 0) := (blk_cell BK141.out 3).trans rfl; have hcz19_4 : w18.cell? ⟨gb141, 4, none⟩ = some (.int .i64 0) := (blk_cell BK141.out 4).trans rfl; have hcz19_5 : w18.cell? ⟨gb141, 5, none⟩ = some (.int .i64 0) := (blk_cell BK141.out 5).trans rfl; have hcz19_6 : w18.cell? ⟨gb141, 6, none⟩ = some (.string (⟨#[]⟩ : ByteArray)) := (blk_cell BK141.out 6).trans rfl; have hfz19_0 := blk_frozen BK141.out 0; have hfz19_1 := blk_frozen BK141.out 1; have hfz19_2 := blk_frozen BK141.out 2; have hfz19_3 := blk_frozen BK141.out 3; have hfz19_4 := blk_frozen BK141.out 4; have hfz19_5 := blk_frozen BK141.out 5; have hfz19_6 := blk_frozen BK141.out 6) | (go_at_call 10; (with_reducible refine (record_Encode.calls t134 t135 t136 t137 t138 t139 t140 t142 t143 _ A12.out (HN.out.below (by repeat (first | (with_reducible first | exact HB.out | apply below_alloc | apply pw_below_drewN | apply below_drew1 | refine below_set ?_ GE141.out) | exact HB.out)) (Nat.lt_of_lt_of_le HN.out.lt (Nat.le_refl _)))).mono ?_); rintro e w20 ⟨rfl, hb⟩; have n0_ := Aside0.mk (Kd.R_below (by (with_reducible repeat (first | apply Kd.R_alloc | apply Kd.R_drewN | apply Kd.R_drew)); exact (Kd.R_mono (Kd.R_far (p := ⟨gb141, 6, none⟩) (Kd.R_far (p := ⟨gb141, 5, none⟩) (Kd.R_far (p := ⟨gb141, 4, none⟩) (Kd.R_far (p := ⟨gb141, 3, none⟩) (Kd.R_far (p := ⟨gb141, 2, none⟩) (Kd.R_far (p := ⟨gb141, 1, none⟩) (Kd.R_far (p := ⟨gb141, 0, none⟩) (Kd.R_types HO_6.out BK141.out (by decide)) (fun _ hk => hk.2) (.int .i64 t134)) (fun _ hk => hk.2) (.int .i64 t135)) (fun _ hk => hk.2) (.int .i64 t136)) (fun _ hk => hk.2) (.int .i64 t137)) (fun _ hk => hk.2) (.int .i64 t138)) (fun _ hk => hk.2) (.int .i64 t139)) (fun _ hk => hk.2) (.string t140)) (fun _ h_ => h_.1))) hb); have n1_ := Aside0.mk (Kd.R_below (by (with_reducible repeat (first | apply Kd.R_alloc | apply Kd.R_drewN | apply Kd.R_drew)); exact (Kd.R_mono (Kd.R_far (p := ⟨gb141, 6, none⟩) (Kd.R_far (p := ⟨gb141, 5, none⟩) (Kd.R_far (p := ⟨gb141, 4, none⟩) (Kd.R_far (p := ⟨gb141, 3, none⟩) (Kd.R_far (p := ⟨gb141, 2, none⟩) (Kd.R_far (p := ⟨gb141, 1, none⟩) (Kd.R_far (p := ⟨gb141, 0, none⟩) (Kd.R_types HO_7.out BK141.out (by decide)) (fun _ hk => hk.2) (.int .i64 t134)) (fun _ hk => hk.2) (.int .i64 t135)) (fun _ hk => hk.2) (.int .i64 t136)) (fun _ hk => hk.2) (.int .i64 t137)) (fun _ hk => hk.2) (.int .i64 t138)) (fun _ hk => hk.2) (.int .i64 t139)) (fun _ hk => hk.2) (.string t140)) (fun _ h_ => h_.1))) hb); have n2_ := Aside0.mk (blk_below (g := gb141) (o := .cells #[.int .i64 t134, .int .i64 t135, .int .i64 t136, .int .i64 t137, .int .i64 t138, .int .i64 t139, .string t140] 23 (0, 0)) (by (with_reducible repeat (first | refine blk_drewN ?_ _ | refine blk_drew ?_ | refine blk_alloc ?_ _)); refine blk_put (cs := #[.int .i64 t134, .int .i64 t135, .int .i64 t136, .int .i64 t137, .int .i64 t138, .int .i64 t139, .string (⟨#[]⟩ : ByteArray)]) ?_ 6 _ rfl; (with_reducible repeat (first | refine blk_drewN ?_ _ | refine blk_drew ?_ | refine blk_alloc ?_ _)); refine blk_put (cs := #[.int .i64 t134, .int .i64 t135, .int .i64 t136, .int .i64 t137, .int .i64 t138, .int .i64 0, .string (⟨#[]⟩ : ByteArray)]) ?_ 5 _ rfl; (with_reducible repeat (first | refine blk_drewN ?_ _ | refine blk_drew ?_ | refine blk_alloc ?_ _)); refine blk_put (cs := #[.int .i64 t134, .int .i64 t135, .int .i64 t136, .int .i64 t137, .int .i64 0, .int .i64 0, .string (⟨#[]⟩ : ByteArray)]) ?_ 4 _ rfl; (with_reducible repeat (first | refine blk_drewN ?_ _ | refine blk_drew ?_ | refine blk_alloc ?_ _)); refine blk_put (cs := #[.int .i64 t134, .int .i64 t135, .int .i64 t136, .int .i64 0, .int .i64 0, .int .i64 0, .string (⟨#[]⟩ : ByteArray)]) ?_ 3 _ rfl; (with_reducible repeat (first | refine blk_drewN ?_ _ | refine blk_drew ?_ | refine blk_alloc ?_ _)); refine blk_put (cs := #[.int .i64 t134, .int .i64 t135, .int .i64 0, .int .i64 0, .int .i64 0, .int .i64 0, .string (⟨#[]⟩ : ByteArray)]) ?_ 2 _ rfl; (with_reducible repeat (first | refine blk_drewN ?_ _ | refine blk_drew ?_ | refine blk_alloc ?_ _)); refine blk_put (cs := #[.int .i64 t134, .int .i64 0, .int .i64 0, .int .i64 0, .int .i64 0, .int .i64 0, .string (⟨#[]⟩ : ByteArray)]) ?_ 1 _ rfl; (with_reducible repeat (first | refine blk_drewN ?_ _ | refine blk_drew ?_ | refine blk_alloc ?_ _)); refine blk_put (cs := #[.int .i64 0, .int .i64 0, .int .i64 0, .int .i64 0, .int .i64 0, .int .i64 0, .string (⟨#[]⟩ : ByteArray)]) ?_ 0 _ rfl; (with_reducible repeat (first | refine blk_drewN ?_ _ | refine blk_drew ?_ | refine blk_alloc ?_ _)); exact BK141.out) hb); have n3_ := Aside0.mk (below_step (by repeat (first | (with_reducible first | exact HB.out | apply below_alloc | apply pw_below_drewN | apply below_drew1 | refine below_set ?_ GE141.out) | exact HB.out)) hb); clear HO_6; clear HO_7; clear BK141; clear HB; have HO_6 := n0_; have HO_7 := n1_; have BK141 := n2_; have HB := n3_; clear n0_ n1_ n2_ n3_; (try clear hb); (try clear hb2); (try clear hk); (try clear hi); have hcz21_0 : w20.cell? ⟨gb141, 0, none⟩ = some (.int .i64 t134) := (blk_cell BK141.out 0).trans rfl; have hcz21_1 : w20.cell? ⟨gb141, 1, none⟩ = some (.int .i64 t135) := (blk_cell BK141.out 1).trans rfl; have hcz21_2 : w20.cell? ⟨gb141, 2, none⟩ = some (.int .i64 t136) := (blk_cell BK141.out 2).trans rfl; have hcz21_3 : w20.cell? ⟨gb141, 3, none⟩ = some (.int .i64 t137) := (blk_cell BK141.out 3).trans rfl; have hcz21_4 : w20.cell? ⟨gb141, 4, none⟩ = some (.int .i64 t138) := (blk_cell BK141.out 4).trans rfl; have hcz21_5 : w20.cell? ⟨gb141, 5, none⟩ = some (.int .i64 t139) := (blk_cell BK141.out 5).trans rfl; have hcz21_6 : w20.cell? ⟨gb141, 6, none⟩ = some (.string t140) := (blk_cell BK141.out 6).trans rfl; have hfz21_0 := blk_frozen BK141.out 0; have hfz21_1 := blk_frozen BK141.out 1; have hfz21_2 := blk_frozen BK141.out 2; have hfz21_3 := blk_frozen BK141.out 3; have hfz21_4 := blk_frozen BK141.out 4; have hfz21_5 := blk_frozen BK141.out 5; have hfz21_6 := blk_frozen BK141.out 6) | ((with_reducible refine gate_builtin (b := .append) (xs := #[.tmp 43, .tmp 45]) rfl ?_); at_builtin; refine Kd.R_append k29 (w0 := w) w.heap.size rfl (.tmp 43) (.tmp 45) 42 29 (.agg #[(.int .i64 0), (.int .i64 0), (.int .i64 0), (.int .i64 0), (.int .i64 0), (.int .i64 0), (.string ⟨#[]⟩)]) 64 rfl Tryd.underlying42 info29 rfl (by decide) (by omega) u6 x6_1 (⟨t134, t135, t136, t137, t138, t139, t140⟩ : S29) [.int .i64 t134, .int .i64 t135, .int .i64 t136, .int .i64 t137, .int .i64 t138, .int .i64 t139, .string t140] (fun _ => True) (fun _ => False) rfl rfl ?aP (fun _ hk => hk.elim) ?aF ?aO ?aB ?aS ?aL ?_; (case aP => exact k29_mkM _ _ _ (⟨t134, t135, t136, t137, t138, t139, t140⟩ : S29)); (case aB => exact (by repeat (first | (with_reducible first | exact HB.out | apply below_alloc | apply pw_below_drewN | apply below_drew1 | refine below_set ?_ GE141.out) | exact HB.out))); (case aF => exact (fun _ _ => trivial)); (case aO => exact (by (with_reducible repeat (first | apply Kd.R_alloc | apply Kd.R_drewN | apply Kd.R_drew)); exact HO_6.out)); (case aS => exact (below_size (by repeat (first | (with_reducible first | exact HB.out | apply below_alloc | apply pw_below_drewN | apply below_drew1 | refine below_set ?_ GE141.out) | exact HB.out)))); (case aL => have := LMc15.out; omega); intro v145 w22 ho hb hg hat; rw [← Ny144.out] at ho; have n0_ := Aside0.mk (Kd.R_over' (by (with_reducible repeat (first | apply Kd.R_alloc | apply Kd.R_drewN | apply Kd.R_drew)); exact HO_7.out) (Kd.R_typed (by (with_reducible repeat (first | apply Kd.R_alloc | apply Kd.R_drewN | apply Kd.R_drew)); exact HO_6.out)) (by decide) hg); have n1_ := Aside0.mk (blk_grown (g := gb141) (o := .cells #[.int .i64 t134, .int .i64 t135, .int .i64 t136, .int .i64 t137, .int .i64 t138, .int .i64 t139, .string t140] 23 (0, 0)) (by (with_reducible repeat (first | refine blk_drewN ?_ _ | refine blk_drew ?_ | refine blk_alloc ?_ _)); exact BK141.out) hg (Kd.R_ne HO_6.out BK141.out (by decide))); have n2_ := Aside0.mk (hb); have n3_ := Aside0.mk (ho); clear HO_7; clear BK141; clear HB; clear HO_6; have HO_7 := n0_; have BK141 := n1_; have HB := n2_; have HO146 := n3_; clear n0_ n1_ n2_ n3_; clear ho hb hg hat) | ((with_reducible refine gate_builtin (b := .append) (xs := #[.tmp 47, .tmp 50]) rfl ?_); at_builtin; refine Kd.R_append (Kd.int .i64) (w0 := w) w.heap.size rfl (.tmp 47) (.tmp 50) 50 3 (.int .i64 0) 8 rfl Tryd.underlying50 info3 rfl (by decide) (by omega) u7 x7_1 ((x5_1.size : Int) + (t142.size : Int)) [.int .i64 ((x5_1.size : Int) + (t142.size : Int))] (fun _ => True) (fun _ => False) rfl rfl ?aP (fun _ hk => hk.elim) ?aF ?aO ?aB ?aS ?aL ?_; (case aP => exact rfl); (case aB => exact (by repeat (first | (with_reducible first | exact HB.out | apply below_alloc | apply pw_below_drewN | apply below_drew1 | refine below_set ?_ GE141.out) | exact HB.out))); (case aF => exact (fun _ _ => trivial)); (case aO => exact (by (with_reducible repeat (first | apply Kd.R_alloc | apply Kd.R_drewN | apply Kd.R_drew)); exact HO_7.out)); (case aS => exact (below_size (by repeat (first | (with_reducible first | exact HB.out | apply below_alloc | apply pw_below_drewN | apply below_drew1 | refine below_set ?_ GE141.out) | exact HB.out)))); (case aL => have := LMc16.out; omega); intro v148 w23 ho hb hg hat; have hsj_ : ((x5_1.size : Int) + (t142.size : Int)) = ((x5_1 ++ t142).size : Int) := (by rw [ByteArray.size_append]; omega); rw [hsj_, ← Ny147.out] at ho; clear hsj_; have n0_ := Aside0.mk (blk_grown (g := gb141) (o := .cells #[.int .i64 t134, .int .i64 t135, .int .i64 t136, .int .i64 t137, .int .i64 t138, .int .i64 t139, .string t140] 23 (0, 0)) (by (with_reducible repeat (first | refine blk_drewN ?_ _ | refine blk_drew ?_ | refine blk_alloc ?_ _)); exact BK141.out) hg (Kd.R_ne HO_7.out BK141.out (by decide))); have n1_ := Aside0.mk (Kd.R_over' (by (with_reducible repeat (first | apply Kd.R_alloc | apply Kd.R_drewN | apply Kd.R_drew)); exact HO146.out) (Kd.R_typed (by (with_reducible repeat (first | apply Kd.R_alloc | apply Kd.R_drewN | apply Kd.R_drew)); exact HO_7.out)) (by decide) hg); have n2_ := Aside0.mk (hb); have n3_ := Aside0.mk (ho); clear BK141; clear HO146; clear HB; clear HO_7; have BK141 := n0_; have HO146 := n1_; have HB := n2_; have HO149 := n3_; clear n0_ n1_ n2_ n3_; clear ho hb hg hat)))
                          go_roundg kj5
                          case measure => have := HK1.out; have := HJ5.out; omega
                          case rel => exact ⟨(x5_1 ++ t142), (y144), (y147), (wrap64 (x8_1 + 1)), (by first | rfl | (simp; done) | (simp [*]; done)), (by first | rfl | (simp; done) | (simp [*]; done)), H', ⟨by have := HK1.out; have := HJ5.out; omega⟩, ⟨by (with_reducible repeat (first | apply Kd.R_alloc | apply Kd.R_drewN | apply Kd.R_drew)); exact HO146.out⟩, ⟨by (with_reducible repeat (first | apply Kd.R_alloc | apply Kd.R_drewN | apply Kd.R_drew)); exact HO149.out⟩, ⟨by repeat (first | (with_reducible first | exact HB.out | apply below_alloc | apply pw_below_drewN | apply below_drew1 | refine below_set ?_ GE141.out) | exact HB.out)⟩⟩
                        · rw [if_neg c16] at H
                          exact absurd H (by simp)
                      · rw [if_neg c15] at H
                        exact absurd H (by simp)
                    · rw [if_neg c14] at H
                      exact absurd H (by simp)
                  · rw [if_neg c13] at H
                    have c13b0 : (t143 == 0) = false := beq_eq_false_iff_ne.mpr c13
                    have c13b1 : (t143 != 0) = true := bne_iff_ne.mpr c13
                    have H' := Aside0.mk H
                    clear H
                    have p133 : 0 ≤ (x8_1 : Int) := of_decide_eq_true (by first | (with_reducible assumption) | assumption)
                    have q133 : x8_1 < (l0.length : Int) := of_decide_eq_true (by first | (with_reducible assumption) | assumption)
                    obtain ⟨ad133, e133, hx133_0, hx133_1, hx133_2, hx133_3, hx133_4, hx133_5, hx133_6⟩ := at_T23 HR0.out x8_1 p133 q133
                    cases e133
                    replace hx133_0 := (HB.out.cell (World.block_lt_of_cell? w _ hx133_0)).trans hx133_0
                    replace hx133_1 := (HB.out.cell (World.block_lt_of_cell? w _ hx133_1)).trans hx133_1
                    replace hx133_2 := (HB.out.cell (World.block_lt_of_cell? w _ hx133_2)).trans hx133_2
                    replace hx133_3 := (HB.out.cell (World.block_lt_of_cell? w _ hx133_3)).trans hx133_3
                    replace hx133_4 := (HB.out.cell (World.block_lt_of_cell? w _ hx133_4)).trans hx133_4
                    replace hx133_5 := (HB.out.cell (World.block_lt_of_cell? w _ hx133_5)).trans hx133_5
                    replace hx133_6 := (HB.out.cell (World.block_lt_of_cell? w _ hx133_6)).trans hx133_6
                    replace p133 := eq_true p133
                    replace q133 := eq_true q133
                    go_wp2_with (first | (go_at_call 9; (with_reducible refine (corbellaw06_whole.calls ((rd_T23 l0 x8_1).f0) ((rd_T23 l0 x8_1).f1) ((rd_T23 l0 x8_1).f2) ((rd_T23 l0 x8_1).f3) ((rd_T23 l0 x8_1).f4) ((rd_T23 l0 x8_1).f5) ((rd_T23 l0 x8_1).f6) t134 t135 t136 t137 t138 t139 t140 _ A11.out).mono ?_); rintro e w24 ⟨rfl, hb⟩; have n0_ := Aside0.mk (Kd.R_below (by (with_reducible repeat (first | apply Kd.R_alloc | apply Kd.R_drewN | apply Kd.R_drew)); exact HO_6.out) hb); have n1_ := Aside0.mk (Kd.R_below (by (with_reducible repeat (first | apply Kd.R_alloc | apply Kd.R_drewN | apply Kd.R_drew)); exact HO_7.out) hb); have n2_ := Aside0.mk (below_step (by repeat (first | (with_reducible first | exact HB.out | apply below_alloc | apply pw_below_drewN | apply below_drew1) | exact HB.out)) hb); clear HO_6; clear HO_7; clear HB; have HO_6 := n0_; have HO_7 := n1_; have HB := n2_; clear n0_ n1_ n2_; (try clear hb); (try clear hb2); (try clear hk); (try clear hi)) | ((with_reducible refine gate_dst (N := 9) rfl ?_); refine box_event ?hg (N := 9) ?hd (cs := #[.int .i64 0, .int .i64 0, .int .i64 0, .int .i64 0, .int .i64 0, .int .i64 0, .string (⟨#[]⟩ : ByteArray)]) (t := 23) ?hr ?_; (case hd => rfl); (case hg => rfl); (case hr => first | (go_simp; done) | (go_simp; rfl)); intro gb141 hg w25 hbox hb; have n0_ := Aside0.mk (Kd.R_below (by (with_reducible repeat (first | apply Kd.R_alloc | apply Kd.R_drewN | apply Kd.R_drew)); exact HO_6.out) hb); have n1_ := Aside0.mk (Kd.R_below (by (with_reducible repeat (first | apply Kd.R_alloc | apply Kd.R_drewN | apply Kd.R_drew)); exact HO_7.out) hb); have n2_ := Aside0.mk (below_step (by repeat (first | (with_reducible first | exact HB.out | apply below_alloc | apply pw_below_drewN | apply below_drew1) | exact HB.out)) hb); have n3_ := Aside0.mk (hbox); have n4_ := Aside0.mk ((by rw [hg]; exact (below_size (by repeat (first | (with_reducible first | exact HB.out | apply below_alloc | apply pw_below_drewN | apply below_drew1) | exact HB.out))) : w.heap.size ≤ gb141)); have n5_ := Aside0.mk ((by rw [hg]; exact (below_size (by repeat (first | (with_reducible first | exact HB.out | apply below_alloc | apply pw_below_drewN | apply below_drew1) | exact HB.out))) : w.heap.size ≤ gb141)); clear HO_6; clear HO_7; clear HB; have HO_6 := n0_; have HO_7 := n1_; have HB := n2_; have BK141 := n3_; have GW141 := n4_; have GE141 := n5_; clear n0_ n1_ n2_ n3_ n4_ n5_; clear hb hbox hg; have hcz26_0 : w25.cell? ⟨gb141, 0, none⟩ = some (.int .i64 0) := (blk_cell BK141.out 0).trans rfl; have hcz26_1 : w25.cell? ⟨gb141, 1, none⟩ = some (.int .i64 0) := (blk_cell BK141.out 1).trans rfl; have hcz26_2 : w25.cell? ⟨gb141, 2, none⟩ = some (.int .i64 0) := (blk_cell BK141.out 2).trans rfl; have hcz26_3 : w25.cell? ⟨gb141, 3, none⟩ = some (.int .i64 0) := (blk_cell BK141.out 3).trans rfl; have hcz26_4 : w25.cell? ⟨gb141, 4, none⟩ = some (.int .i64 0) := (blk_cell BK141.out 4).trans rfl; have hcz26_5 : w25.cell? ⟨gb141, 5, none⟩ = some (.int .i64 0) := (blk_cell BK141.out 5).trans rfl; have hcz26_6 : w25.cell? ⟨gb141, 6, none⟩ = some (.string (⟨#[]⟩ : ByteArray)) := (blk_cell BK141.out 6).trans rfl; have hfz26_0 := blk_frozen BK141.out 0; have hfz26_1 := blk_frozen BK141.out 1; have hfz26_2 := blk_frozen BK141.out 2; have hfz26_3 := blk_frozen BK141.out 3; have hfz26_4 := blk_frozen BK141.out 4; have hfz26_5 := blk_frozen BK141.out 5; have hfz26_6 := blk_frozen BK141.out 6) | (go_at_call 10; (with_reducible refine (record_Encode.calls t134 t135 t136 t137 t138 t139 t140 t142 t143 _ A12.out (HN.out.below (by repeat (first | (with_reducible first | exact HB.out | apply below_alloc | apply pw_below_drewN | apply below_drew1 | refine below_set ?_ GE141.out) | exact HB.out)) (Nat.lt_of_lt_of_le HN.out.lt (Nat.le_refl _)))).mono ?_); rintro e w27 ⟨rfl, hb⟩; have n0_ := Aside0.mk (Kd.R_below (by (with_reducible repeat (first | apply Kd.R_alloc | apply Kd.R_drewN | apply Kd.R_drew)); exact (Kd.R_mono (Kd.R_far (p := ⟨gb141, 6, none⟩) (Kd.R_far (p := ⟨gb141, 5, none⟩) (Kd.R_far (p := ⟨gb141, 4, none⟩) (Kd.R_far (p := ⟨gb141, 3, none⟩) (Kd.R_far (p := ⟨gb141, 2, none⟩) (Kd.R_far (p := ⟨gb141, 1, none⟩) (Kd.R_far (p := ⟨gb141, 0, none⟩) (Kd.R_types HO_6.out BK141.out (by decide)) (fun _ hk => hk.2) (.int .i64 t134)) (fun _ hk => hk.2) (.int .i64 t135)) (fun _ hk => hk.2) (.int .i64 t136)) (fun _ hk => hk.2) (.int .i64 t137)) (fun _ hk => hk.2) (.int .i64 t138)) (fun _ hk => hk.2) (.int .i64 t139)) (fun _ hk => hk.2) (.string t140)) (fun _ h_ => h_.1))) hb); have n1_ := Aside0.mk (Kd.R_below (by (with_reducible repeat (first | apply Kd.R_alloc | apply Kd.R_drewN | apply Kd.R_drew)); exact (Kd.R_mono (Kd.R_far (p := ⟨gb141, 6, none⟩) (Kd.R_far (p := ⟨gb141, 5, none⟩) (Kd.R_far (p := ⟨gb141, 4, none⟩) (Kd.R_far (p := ⟨gb141, 3, none⟩) (Kd.R_far (p := ⟨gb141, 2, none⟩) (Kd.R_far (p := ⟨gb141, 1, none⟩) (Kd.R_far (p := ⟨gb141, 0, none⟩) (Kd.R_types HO_7.out BK141.out (by decide)) (fun _ hk => hk.2) (.int .i64 t134)) (fun _ hk => hk.2) (.int .i64 t135)) (fun _ hk => hk.2) (.int .i64 t136)) (fun _ hk => hk.2) (.int .i64 t137)) (fun _ hk => hk.2) (.int .i64 t138)) (fun _ hk => hk.2) (.int .i64 t139)) (fun _ hk => hk.2) (.string t140)) (fun _ h_ => h_.1))) hb); have n2_ := Aside0.mk (blk_below (g := gb141) (o := .cells #[.int .i64 t134, .int .i64 t135, .int .i64 t136, .int .i64 t137, .int .i64 t138, .int .i64 t139, .string t140] 23 (0, 0)) (by (with_reducible repeat (first | refine blk_drewN ?_ _ | refine blk_drew ?_ | refine blk_alloc ?_ _)); refine blk_put (cs := #[.int .i64 t134, .int .i64 t135, .int .i64 t136, .int .i64 t137, .int .i64 t138, .int .i64 t139, .string (⟨#[]⟩ : ByteArray)]) ?_ 6 _ rfl; (with_reducible repeat (first | refine blk_drewN ?_ _ | refine blk_drew ?_ | refine blk_alloc ?_ _)); refine blk_put (cs := #[.int .i64 t134, .int .i64 t135, .int .i64 t136, .int .i64 t137, .int .i64 t138, .int .i64 0, .string (⟨#[]⟩ : ByteArray)]) ?_ 5 _ rfl; (with_reducible repeat (first | refine blk_drewN ?_ _ | refine blk_drew ?_ | refine blk_alloc ?_ _)); refine blk_put (cs := #[.int .i64 t134, .int .i64 t135, .int .i64 t136, .int .i64 t137, .int .i64 0, .int .i64 0, .string (⟨#[]⟩ : ByteArray)]) ?_ 4 _ rfl; (with_reducible repeat (first | refine blk_drewN ?_ _ | refine blk_drew ?_ | refine blk_alloc ?_ _)); refine blk_put (cs := #[.int .i64 t134, .int .i64 t135, .int .i64 t136, .int .i64 0, .int .i64 0, .int .i64 0, .string (⟨#[]⟩ : ByteArray)]) ?_ 3 _ rfl; (with_reducible repeat (first | refine blk_drewN ?_ _ | refine blk_drew ?_ | refine blk_alloc ?_ _)); refine blk_put (cs := #[.int .i64 t134, .int .i64 t135, .int .i64 0, .int .i64 0, .int .i64 0, .int .i64 0, .string (⟨#[]⟩ : ByteArray)]) ?_ 2 _ rfl; (with_reducible repeat (first | refine blk_drewN ?_ _ | refine blk_drew ?_ | refine blk_alloc ?_ _)); refine blk_put (cs := #[.int .i64 t134, .int .i64 0, .int .i64 0, .int .i64 0, .int .i64 0, .int .i64 0, .string (⟨#[]⟩ : ByteArray)]) ?_ 1 _ rfl; (with_reducible repeat (first | refine blk_drewN ?_ _ | refine blk_drew ?_ | refine blk_alloc ?_ _)); refine blk_put (cs := #[.int .i64 0, .int .i64 0, .int .i64 0, .int .i64 0, .int .i64 0, .int .i64 0, .string (⟨#[]⟩ : ByteArray)]) ?_ 0 _ rfl; (with_reducible repeat (first | refine blk_drewN ?_ _ | refine blk_drew ?_ | refine blk_alloc ?_ _)); exact BK141.out) hb); have n3_ := Aside0.mk (below_step (by repeat (first | (with_reducible first | exact HB.out | apply below_alloc | apply pw_below_drewN | apply below_drew1 | refine below_set ?_ GE141.out) | exact HB.out)) hb); clear HO_6; clear HO_7; clear BK141; clear HB; have HO_6 := n0_; have HO_7 := n1_; have BK141 := n2_; have HB := n3_; clear n0_ n1_ n2_ n3_; (try clear hb); (try clear hb2); (try clear hk); (try clear hi)))
                    repeat (go_quiet (first | (go_at_call 9; (with_reducible refine (corbellaw06_whole.calls ((rd_T23 l0 x8_1).f0) ((rd_T23 l0 x8_1).f1) ((rd_T23 l0 x8_1).f2) ((rd_T23 l0 x8_1).f3) ((rd_T23 l0 x8_1).f4) ((rd_T23 l0 x8_1).f5) ((rd_T23 l0 x8_1).f6) t134 t135 t136 t137 t138 t139 t140 _ A11.out).mono ?_); rintro e w24 ⟨rfl, hb⟩; have n0_ := Aside0.mk (Kd.R_below (by (with_reducible repeat (first | apply Kd.R_alloc | apply Kd.R_drewN | apply Kd.R_drew)); exact HO_6.out) hb); have n1_ := Aside0.mk (Kd.R_below (by (with_reducible repeat (first | apply Kd.R_alloc | apply Kd.R_drewN | apply Kd.R_drew)); exact HO_7.out) hb); have n2_ := Aside0.mk (below_step (by repeat (first | (with_reducible first | exact HB.out | apply below_alloc | apply pw_below_drewN | apply below_drew1) | exact HB.out)) hb); clear HO_6; clear HO_7; clear HB; have HO_6 := n0_; have HO_7 := n1_; have HB := n2_; clear n0_ n1_ n2_; (try clear hb); (try clear hb2); (try clear hk); (try clear hi)) | ((with_reducible refine gate_dst (N := 9) rfl ?_); refine box_event ?hg (N := 9) ?hd (cs := #[.int .i64 0, .int .i64 0, .int .i64 0, .int .i64 0, .int .i64 0, .int .i64 0, .string (⟨#[]⟩ : ByteArray)]) (t := 23) ?hr ?_; (case hd => rfl); (case hg => rfl); (case hr => first | (go_simp; done) | (go_simp; rfl)); intro gb141 hg w25 hbox hb; have n0_ := Aside0.mk (Kd.R_below (by (with_reducible repeat (first | apply Kd.R_alloc | apply Kd.R_drewN | apply Kd.R_drew)); exact HO_6.out) hb); have n1_ := Aside0.mk (Kd.R_below (by (with_reducible repeat (first | apply Kd.R_alloc | apply Kd.R_drewN | apply Kd.R_drew)); exact HO_7.out) hb); have n2_ := Aside0.mk (below_step (by repeat (first | (with_reducible first | exact HB.out | apply below_alloc | apply pw_below_drewN | apply below_drew1) | exact HB.out)) hb); have n3_ := Aside0.mk (hbox); have n4_ := Aside0.mk ((by rw [hg]; exact (below_size (by repeat (first | (with_reducible first | exact HB.out | apply below_alloc | apply pw_below_drewN | apply below_drew1) | exact HB.out))) : w.heap.size ≤ gb141)); have n5_ := Aside0.mk ((by rw [hg]; exact (below_size (by repeat (first | (with_reducible first | exact HB.out | apply below_alloc | apply pw_below_drewN | apply below_drew1) | exact HB.out))) : w.heap.size ≤ gb141)); clear HO_6; clear HO_7; clear HB; have HO_6 := n0_; have HO_7 := n1_; have HB := n2_; have BK141 := n3_; have GW141 := n4_; have GE141 := n5_; clear n0_ n1_ n2_ n3_ n4_ n5_; clear hb hbox hg; have hcz26_0 : w25.cell? ⟨gb141, 0, none⟩ = some (.int .i64 0) := (blk_cell BK141.out 0).trans rfl; have hcz26_1 : w25.cell? ⟨gb141, 1, none⟩ = some (.int .i64 0) := (blk_cell BK141.out 1).trans rfl; have hcz26_2 : w25.cell? ⟨gb141, 2, none⟩ = some (.int .i64 0) := (blk_cell BK141.out 2).trans rfl; have hcz26_3 : w25.cell? ⟨gb141, 3, none⟩ = some (.int .i64 0) := (blk_cell BK141.out 3).trans rfl; have hcz26_4 : w25.cell? ⟨gb141, 4, none⟩ = some (.int .i64 0) := (blk_cell BK141.out 4).trans rfl; have hcz26_5 : w25.cell? ⟨gb141, 5, none⟩ = some (.int .i64 0) := (blk_cell BK141.out 5).trans rfl; have hcz26_6 : w25.cell? ⟨gb141, 6, none⟩ = some (.string (⟨#[]⟩ : ByteArray)) := (blk_cell BK141.out 6).trans rfl; have hfz26_0 := blk_frozen BK141.out 0; have hfz26_1 := blk_frozen BK141.out 1; have hfz26_2 := blk_frozen BK141.out 2; have hfz26_3 := blk_frozen BK141.out 3; have hfz26_4 := blk_frozen BK141.out 4; have hfz26_5 := blk_frozen BK141.out 5; have hfz26_6 := blk_frozen BK141.out 6) | (go_at_call 10; (with_reducible refine (record_Encode.calls t134 t135 t136 t137 t138 t139 t140 t142 t143 _ A12.out (HN.out.below (by repeat (first | (with_reducible first | exact HB.out | apply below_alloc | apply pw_below_drewN | apply below_drew1 | refine below_set ?_ GE141.out) | exact HB.out)) (Nat.lt_of_lt_of_le HN.out.lt (Nat.le_refl _)))).mono ?_); rintro e w27 ⟨rfl, hb⟩; have n0_ := Aside0.mk (Kd.R_below (by (with_reducible repeat (first | apply Kd.R_alloc | apply Kd.R_drewN | apply Kd.R_drew)); exact (Kd.R_mono (Kd.R_far (p := ⟨gb141, 6, none⟩) (Kd.R_far (p := ⟨gb141, 5, none⟩) (Kd.R_far (p := ⟨gb141, 4, none⟩) (Kd.R_far (p := ⟨gb141, 3, none⟩) (Kd.R_far (p := ⟨gb141, 2, none⟩) (Kd.R_far (p := ⟨gb141, 1, none⟩) (Kd.R_far (p := ⟨gb141, 0, none⟩) (Kd.R_types HO_6.out BK141.out (by decide)) (fun _ hk => hk.2) (.int .i64 t134)) (fun _ hk => hk.2) (.int .i64 t135)) (fun _ hk => hk.2) (.int .i64 t136)) (fun _ hk => hk.2) (.int .i64 t137)) (fun _ hk => hk.2) (.int .i64 t138)) (fun _ hk => hk.2) (.int .i64 t139)) (fun _ hk => hk.2) (.string t140)) (fun _ h_ => h_.1))) hb); have n1_ := Aside0.mk (Kd.R_below (by (with_reducible repeat (first | apply Kd.R_alloc | apply Kd.R_drewN | apply Kd.R_drew)); exact (Kd.R_mono (Kd.R_far (p := ⟨gb141, 6, none⟩) (Kd.R_far (p := ⟨gb141, 5, none⟩) (Kd.R_far (p := ⟨gb141, 4, none⟩) (Kd.R_far (p := ⟨gb141, 3, none⟩) (Kd.R_far (p := ⟨gb141, 2, none⟩) (Kd.R_far (p := ⟨gb141, 1, none⟩) (Kd.R_far (p := ⟨gb141, 0, none⟩) (Kd.R_types HO_7.out BK141.out (by decide)) (fun _ hk => hk.2) (.int .i64 t134)) (fun _ hk => hk.2) (.int .i64 t135)) (fun _ hk => hk.2) (.int .i64 t136)) (fun _ hk => hk.2) (.int .i64 t137)) (fun _ hk => hk.2) (.int .i64 t138)) (fun _ hk => hk.2) (.int .i64 t139)) (fun _ hk => hk.2) (.string t140)) (fun _ h_ => h_.1))) hb); have n2_ := Aside0.mk (blk_below (g := gb141) (o := .cells #[.int .i64 t134, .int .i64 t135, .int .i64 t136, .int .i64 t137, .int .i64 t138, .int .i64 t139, .string t140] 23 (0, 0)) (by (with_reducible repeat (first | refine blk_drewN ?_ _ | refine blk_drew ?_ | refine blk_alloc ?_ _)); refine blk_put (cs := #[.int .i64 t134, .int .i64 t135, .int .i64 t136, .int .i64 t137, .int .i64 t138, .int .i64 t139, .string (⟨#[]⟩ : ByteArray)]) ?_ 6 _ rfl; (with_reducible repeat (first | refine blk_drewN ?_ _ | refine blk_drew ?_ | refine blk_alloc ?_ _)); refine blk_put (cs := #[.int .i64 t134, .int .i64 t135, .int .i64 t136, .int .i64 t137, .int .i64 t138, .int .i64 0, .string (⟨#[]⟩ : ByteArray)]) ?_ 5 _ rfl; (with_reducible repeat (first | refine blk_drewN ?_ _ | refine blk_drew ?_ | refine blk_alloc ?_ _)); refine blk_put (cs := #[.int .i64 t134, .int .i64 t135, .int .i64 t136, .int .i64 t137, .int .i64 0, .int .i64 0, .string (⟨#[]⟩ : ByteArray)]) ?_ 4 _ rfl; (with_reducible repeat (first | refine blk_drewN ?_ _ | refine blk_drew ?_ | refine blk_alloc ?_ _)); refine blk_put (cs := #[.int .i64 t134, .int .i64 t135, .int .i64 t136, .int .i64 0, .int .i64 0, .int .i64 0, .string (⟨#[]⟩ : ByteArray)]) ?_ 3 _ rfl; (with_reducible repeat (first | refine blk_drewN ?_ _ | refine blk_drew ?_ | refine blk_alloc ?_ _)); refine blk_put (cs := #[.int .i64 t134, .int .i64 t135, .int .i64 0, .int .i64 0, .int .i64 0, .int .i64 0, .string (⟨#[]⟩ : ByteArray)]) ?_ 2 _ rfl; (with_reducible repeat (first | refine blk_drewN ?_ _ | refine blk_drew ?_ | refine blk_alloc ?_ _)); refine blk_put (cs := #[.int .i64 t134, .int .i64 0, .int .i64 0, .int .i64 0, .int .i64 0, .int .i64 0, .string (⟨#[]⟩ : ByteArray)]) ?_ 1 _ rfl; (with_reducible repeat (first | refine blk_drewN ?_ _ | refine blk_drew ?_ | refine blk_alloc ?_ _)); refine blk_put (cs := #[.int .i64 0, .int .i64 0, .int .i64 0, .int .i64 0, .int .i64 0, .int .i64 0, .string (⟨#[]⟩ : ByteArray)]) ?_ 0 _ rfl; (with_reducible repeat (first | refine blk_drewN ?_ _ | refine blk_drew ?_ | refine blk_alloc ?_ _)); exact BK141.out) hb); have n3_ := Aside0.mk (below_step (by repeat (first | (with_reducible first | exact HB.out | apply below_alloc | apply pw_below_drewN | apply below_drew1 | refine below_set ?_ GE141.out) | exact HB.out)) hb); clear HO_6; clear HO_7; clear BK141; clear HB; have HO_6 := n0_; have HO_7 := n1_; have BK141 := n2_; have HB := n3_; clear n0_ n1_ n2_ n3_; (try clear hb); (try clear hb2); (try clear hk); (try clear hi))); try go_wp2_with (first | (go_at_call 9; (with_reducible refine (corbellaw06_whole.calls ((rd_T23 l0 x8_1).f0) ((rd_T23 l0 x8_1).f1) ((rd_T23 l0 x8_1).f2) ((rd_T23 l0 x8_1).f3) ((rd_T23 l0 x8_1).f4) ((rd_T23 l0 x8_1).f5) ((rd_T23 l0 x8_1).f6) t134 t135 t136 t137 t138 t139 t140 _ A11.out).mono ?_); rintro e w24 ⟨rfl, hb⟩; have n0_ := Aside0.mk (Kd.R_below (by (with_reducible repeat (first | apply Kd.R_alloc | apply Kd.R_drewN | apply Kd.R_drew)); exact HO_6.out) hb); have n1_ := Aside0.mk (Kd.R_below (by (with_reducible repeat (first | apply Kd.R_alloc | apply Kd.R_drewN | apply Kd.R_drew)); exact HO_7.out) hb); have n2_ := Aside0.mk (below_step (by repeat (first | (with_reducible first | exact HB.out | apply below_alloc | apply pw_below_drewN | apply below_drew1) | exact HB.out)) hb); clear HO_6; clear HO_7; clear HB; have HO_6 := n0_; have HO_7 := n1_; have HB := n2_; clear n0_ n1_ n2_; (try clear hb); (try clear hb2); (try clear hk); (try clear hi)) | ((with_reducible refine gate_dst (N := 9) rfl ?_); refine box_event ?hg (N := 9) ?hd (cs := #[.int .i64 0, .int .i64 0, .int .i64 0, .int .i64 0, .int .i64 0, .int .i64 0, .string (⟨#[]⟩ : ByteArray)]) (t := 23) ?hr ?_; (case hd => rfl); (case hg => rfl); (case hr => first | (go_simp; done) | (go_simp; rfl)); intro gb141 hg w25 hbox hb; have n0_ := Aside0.mk (Kd.R_below (by (with_reducible repeat (first | apply Kd.R_alloc | apply Kd.R_drewN | apply Kd.R_drew)); exact HO_6.out) hb); have n1_ := Aside0.mk (Kd.R_below (by (with_reducible repeat (first | apply Kd.R_alloc | apply Kd.R_drewN | apply Kd.R_drew)); exact HO_7.out) hb); have n2_ := Aside0.mk (below_step (by repeat (first | (with_reducible first | exact HB.out | apply below_alloc | apply pw_below_drewN | apply below_drew1) | exact HB.out)) hb); have n3_ := Aside0.mk (hbox); have n4_ := Aside0.mk ((by rw [hg]; exact (below_size (by repeat (first | (with_reducible first | exact HB.out | apply below_alloc | apply pw_below_drewN | apply below_drew1) | exact HB.out))) : w.heap.size ≤ gb141)); have n5_ := Aside0.mk ((by rw [hg]; exact (below_size (by repeat (first | (with_reducible first | exact HB.out | apply below_alloc | apply pw_below_drewN | apply below_drew1) | exact HB.out))) : w.heap.size ≤ gb141)); clear HO_6; clear HO_7; clear HB; have HO_6 := n0_; have HO_7 := n1_; have HB := n2_; have BK141 := n3_; have GW141 := n4_; have GE141 := n5_; clear n0_ n1_ n2_ n3_ n4_ n5_; clear hb hbox hg; have hcz26_0 : w25.cell? ⟨gb141, 0, none⟩ = some (.int .i64 0) := (blk_cell BK141.out 0).trans rfl; have hcz26_1 : w25.cell? ⟨gb141, 1, none⟩ = some (.int .i64 0) := (blk_cell BK141.out 1).trans rfl; have hcz26_2 : w25.cell? ⟨gb141, 2, none⟩ = some (.int .i64 0) := (blk_cell BK141.out 2).trans rfl; have hcz26_3 : w25.cell? ⟨gb141, 3, none⟩ = some (.int .i64 0) := (blk_cell BK141.out 3).trans rfl; have hcz26_4 : w25.cell? ⟨gb141, 4, none⟩ = some (.int .i64 0) := (blk_cell BK141.out 4).trans rfl; have hcz26_5 : w25.cell? ⟨gb141, 5, none⟩ = some (.int .i64 0) := (blk_cell BK141.out 5).trans rfl; have hcz26_6 : w25.cell? ⟨gb141, 6, none⟩ = some (.string (⟨#[]⟩ : ByteArray)) := (blk_cell BK141.out 6).trans rfl; have hfz26_0 := blk_frozen BK141.out 0; have hfz26_1 := blk_frozen BK141.out 1; have hfz26_2 := blk_frozen BK141.out 2; have hfz26_3 := blk_frozen BK141.out 3; have hfz26_4 := blk_frozen BK141.out 4; have hfz26_5 := blk_frozen BK141.out 5; have hfz26_6 := blk_frozen BK141.out 6) | (go_at_call 10; (with_reducible refine (record_Encode.calls t134 t135 t136 t137 t138 t139 t140 t142 t143 _ A12.out (HN.out.below (by repeat (first | (with_reducible first | exact HB.out | apply below_alloc | apply pw_below_drewN | apply below_drew1 | refine below_set ?_ GE141.out) | exact HB.out)) (Nat.lt_of_lt_of_le HN.out.lt (Nat.le_refl _)))).mono ?_); rintro e w27 ⟨rfl, hb⟩; have n0_ := Aside0.mk (Kd.R_below (by (with_reducible repeat (first | apply Kd.R_alloc | apply Kd.R_drewN | apply Kd.R_drew)); exact (Kd.R_mono (Kd.R_far (p := ⟨gb141, 6, none⟩) (Kd.R_far (p := ⟨gb141, 5, none⟩) (Kd.R_far (p := ⟨gb141, 4, none⟩) (Kd.R_far (p := ⟨gb141, 3, none⟩) (Kd.R_far (p := ⟨gb141, 2, none⟩) (Kd.R_far (p := ⟨gb141, 1, none⟩) (Kd.R_far (p := ⟨gb141, 0, none⟩) (Kd.R_types HO_6.out BK141.out (by decide)) (fun _ hk => hk.2) (.int .i64 t134)) (fun _ hk => hk.2) (.int .i64 t135)) (fun _ hk => hk.2) (.int .i64 t136)) (fun _ hk => hk.2) (.int .i64 t137)) (fun _ hk => hk.2) (.int .i64 t138)) (fun _ hk => hk.2) (.int .i64 t139)) (fun _ hk => hk.2) (.string t140)) (fun _ h_ => h_.1))) hb); have n1_ := Aside0.mk (Kd.R_below (by (with_reducible repeat (first | apply Kd.R_alloc | apply Kd.R_drewN | apply Kd.R_drew)); exact (Kd.R_mono (Kd.R_far (p := ⟨gb141, 6, none⟩) (Kd.R_far (p := ⟨gb141, 5, none⟩) (Kd.R_far (p := ⟨gb141, 4, none⟩) (Kd.R_far (p := ⟨gb141, 3, none⟩) (Kd.R_far (p := ⟨gb141, 2, none⟩) (Kd.R_far (p := ⟨gb141, 1, none⟩) (Kd.R_far (p := ⟨gb141, 0, none⟩) (Kd.R_types HO_7.out BK141.out (by decide)) (fun _ hk => hk.2) (.int .i64 t134)) (fun _ hk => hk.2) (.int .i64 t135)) (fun _ hk => hk.2) (.int .i64 t136)) (fun _ hk => hk.2) (.int .i64 t137)) (fun _ hk => hk.2) (.int .i64 t138)) (fun _ hk => hk.2) (.int .i64 t139)) (fun _ hk => hk.2) (.string t140)) (fun _ h_ => h_.1))) hb); have n2_ := Aside0.mk (blk_below (g := gb141) (o := .cells #[.int .i64 t134, .int .i64 t135, .int .i64 t136, .int .i64 t137, .int .i64 t138, .int .i64 t139, .string t140] 23 (0, 0)) (by (with_reducible repeat (first | refine blk_drewN ?_ _ | refine blk_drew ?_ | refine blk_alloc ?_ _)); refine blk_put (cs := #[.int .i64 t134, .int .i64 t135, .int .i64 t136, .int .i64 t137, .int .i64 t138, .int .i64 t139, .string (⟨#[]⟩ : ByteArray)]) ?_ 6 _ rfl; (with_reducible repeat (first | refine blk_drewN ?_ _ | refine blk_drew ?_ | refine blk_alloc ?_ _)); refine blk_put (cs := #[.int .i64 t134, .int .i64 t135, .int .i64 t136, .int .i64 t137, .int .i64 t138, .int .i64 0, .string (⟨#[]⟩ : ByteArray)]) ?_ 5 _ rfl; (with_reducible repeat (first | refine blk_drewN ?_ _ | refine blk_drew ?_ | refine blk_alloc ?_ _)); refine blk_put (cs := #[.int .i64 t134, .int .i64 t135, .int .i64 t136, .int .i64 t137, .int .i64 0, .int .i64 0, .string (⟨#[]⟩ : ByteArray)]) ?_ 4 _ rfl; (with_reducible repeat (first | refine blk_drewN ?_ _ | refine blk_drew ?_ | refine blk_alloc ?_ _)); refine blk_put (cs := #[.int .i64 t134, .int .i64 t135, .int .i64 t136, .int .i64 0, .int .i64 0, .int .i64 0, .string (⟨#[]⟩ : ByteArray)]) ?_ 3 _ rfl; (with_reducible repeat (first | refine blk_drewN ?_ _ | refine blk_drew ?_ | refine blk_alloc ?_ _)); refine blk_put (cs := #[.int .i64 t134, .int .i64 t135, .int .i64 0, .int .i64 0, .int .i64 0, .int .i64 0, .string (⟨#[]⟩ : ByteArray)]) ?_ 2 _ rfl; (with_reducible repeat (first | refine blk_drewN ?_ _ | refine blk_drew ?_ | refine blk_alloc ?_ _)); refine blk_put (cs := #[.int .i64 t134, .int .i64 0, .int .i64 0, .int .i64 0, .int .i64 0, .int .i64 0, .string (⟨#[]⟩ : ByteArray)]) ?_ 1 _ rfl; (with_reducible repeat (first | refine blk_drewN ?_ _ | refine blk_drew ?_ | refine blk_alloc ?_ _)); refine blk_put (cs := #[.int .i64 0, .int .i64 0, .int .i64 0, .int .i64 0, .int .i64 0, .int .i64 0, .string (⟨#[]⟩ : ByteArray)]) ?_ 0 _ rfl; (with_reducible repeat (first | refine blk_drewN ?_ _ | refine blk_drew ?_ | refine blk_alloc ?_ _)); exact BK141.out) hb); have n3_ := Aside0.mk (below_step (by repeat (first | (with_reducible first | exact HB.out | apply below_alloc | apply pw_below_drewN | apply below_drew1 | refine below_set ?_ GE141.out) | exact HB.out)) hb); clear HO_6; clear HO_7; clear BK141; clear HB; have HO_6 := n0_; have HO_7 := n1_; have BK141 := n2_; have HB := n3_; clear n0_ n1_ n2_ n3_; (try clear hb); (try clear hb2); (try clear hk); (try clear hi))))
                    go_roundg kj5
                    case measure => have := HK1.out; have := HJ5.out; omega
                    case rel => exact ⟨(x5_1), (x6_1), (x7_1), (wrap64 (x8_1 + 1)), (by first | rfl | (simp; done) | (simp [*]; done)), (by first | rfl | (simp; done) | (simp [*]; done)), H', ⟨by have := HK1.out; have := HJ5.out; omega⟩, ⟨by (with_reducible repeat (first | apply Kd.R_alloc | apply Kd.R_drewN | apply Kd.R_drew)); exact HO_6.out⟩, ⟨by (with_reducible repeat (first | apply Kd.R_alloc | apply Kd.R_drewN | apply Kd.R_drew)); exact HO_7.out⟩, ⟨by repeat (first | (with_reducible first | exact HB.out | apply below_alloc | apply pw_below_drewN | apply below_drew1 | refine below_set ?_ GE141.out) | exact HB.out)⟩⟩
                · rw [if_neg c10] at H
                  exact absurd H (by simp)
              · rw [if_neg c9] at H
                exact absurd H (by simp)
            · replace c8 := Bool.eq_false_iff.mpr c8
              subst c8
              have H1 : (if (wrap64 ((x5_1.size : Int) + 1)) = 0 then (none) else (corbellaw06_RecordBack.l1 kj5 (Int.tmod (wrap64 ((wrap64 ((Int.tmod a1 (wrap64 ((x5_1.size : Int) + 1))) + (x5_1.size : Int))) + 1)) (wrap64 ((x5_1.size : Int) + 1))) x5_1 x6_1 x7_1 0)) = some r := by rw [if_neg (show ¬ (false = true) by decide)] at H; exact H
              clear H
              have H := H1
              clear H1
              by_cases c28 : (wrap64 ((x5_1.size : Int) + 1)) = 0
              · rw [if_pos c28] at H
                exact absurd H (by simp)
              · rw [if_neg c28] at H
                have c28b0 : ((wrap64 ((x5_1.size : Int) + 1)) == 0) = false := beq_eq_false_iff_ne.mpr c28
                have c28b1 : ((wrap64 ((x5_1.size : Int) + 1)) != 0) = true := bne_iff_ne.mpr c28
                have HC29 := Aside0.mk H
                clear H
                go_upto_block 2 with (fail)
                repeat (go_quiet (fail); go_upto_block 2 with (fail))
                go_cut [12] (fun v12 wc => ∃ (kq : Nat) (x12_28 : Int), v12 = .int .i64 x12_28 ∧ Aside0 (corbellaw06_RecordBack.j3 kq (Int.tmod (wrap64 ((wrap64 ((Int.tmod a1 (wrap64 ((x5_1.size : Int) + 1))) + (x5_1.size : Int))) + 1)) (wrap64 ((x5_1.size : Int) + 1))) x5_1 x6_1 x7_1 x12_28 = some r) ∧ Aside0 (kq ≤ kj5) ∧ Aside0 (Kd.R k29 29 wc w.heap.size (fun _ => True) u6 x6_1) ∧ Aside0 (Kd.R (Kd.int .i64) 3 wc w.heap.size (fun _ => True) u7 x7_1) ∧ Aside0 (Below w.heap.size w wc))
                case first =>
                  have H := HC29.out
                  clear HC29
                  have H' := Aside0.mk H
                  clear H
                  go_wp2
                  repeat (go_quiet (fail); try go_wp2)
                  go_loopg [12] kj5 (fun kq v12 w' => ∃ (x12_3 : Int), v12 = .int .i64 x12_3 ∧ Aside0 (corbellaw06_RecordBack.l1 kq (Int.tmod (wrap64 ((wrap64 ((Int.tmod a1 (wrap64 ((x5_1.size : Int) + 1))) + (x5_1.size : Int))) + 1)) (wrap64 ((x5_1.size : Int) + 1))) x5_1 x6_1 x7_1 x12_3 = some r) ∧ Aside0 (kq ≤ kj5) ∧ Aside0 (Kd.R k29 29 w' w.heap.size (fun _ => True) u6 x6_1) ∧ Aside0 (Kd.R (Kd.int .i64) 3 w' w.heap.size (fun _ => True) u7 x7_1) ∧ Aside0 (Below w.heap.size w w'))
                  case atStart => exact ⟨(0), (by first | rfl | (simp; done) | (simp [*]; done)), H', ⟨Nat.le_refl _⟩, ⟨by (with_reducible repeat (first | apply Kd.R_alloc | apply Kd.R_drewN | apply Kd.R_drew)); exact HO_6.out⟩, ⟨by (with_reducible repeat (first | apply Kd.R_alloc | apply Kd.R_drewN | apply Kd.R_drew)); exact HO_7.out⟩, ⟨by repeat (first | (with_reducible first | exact HB.out | apply below_alloc | apply pw_below_drewN | apply below_drew1) | exact HB.out)⟩⟩
                  case round =>
                    clear H'
                    try clear c1
                    try clear p1
                    try clear q1
                    try clear hx1
                    try clear c2
                    try clear p2
                    try clear c4
                    try clear p6
                    try clear c7
                    try clear c7b0
                    try clear c8
                    try clear c9
                    try clear c9b0
                    try clear c10
                    try clear c10b0
                    try clear c13
                    try clear c13b0
                    try clear c13b1
                    try clear p13
                    try clear q13
                    try clear hx13
                    try clear c14
                    try clear c14b0
                    try clear c14b1
                    try clear c14b2
                    try clear c15
                    try clear c16
                    try clear c28
                    try clear c28b0
                    try clear c28b1
                    try clear hcz19_0
                    try clear hcz19_1
                    try clear hcz19_2
                    try clear hcz19_3
                    try clear hcz19_4
                    try clear hcz19_5
                    try clear hcz19_6
                    try clear hcz21_0
                    try clear hcz21_1
                    try clear hcz21_2
                    try clear hcz21_3
                    try clear hcz21_4
                    try clear hcz21_5
                    try clear hcz21_6
                    try clear hcz26_0
                    try clear hcz26_1
                    try clear hcz26_2
                    try clear hcz26_3
                    try clear hcz26_4
                    try clear hcz26_5
                    try clear hcz26_6
                    try clear hfz19_0
                    try clear hfz19_1
                    try clear hfz19_2
                    try clear hfz19_3
                    try clear hfz19_4
                    try clear hfz19_5
                    try clear hfz19_6
                    try clear hfz21_0
                    try clear hfz21_1
                    try clear hfz21_2
                    try clear hfz21_3
                    try clear hfz21_4
                    try clear hfz21_5
                    try clear hfz21_6
                    try clear hfz26_0
                    try clear hfz26_1
                    try clear hfz26_2
                    try clear hfz26_3
                    try clear hfz26_4
                    try clear hfz26_5
                    try clear hfz26_6
                    try clear hx133_0
                    try clear hx133_1
                    try clear hx133_2
                    try clear hx133_3
                    try clear hx133_4
                    try clear hx133_5
                    try clear hx133_6
                    try clear p133
                    try clear p2
                    try clear q133
                    obtain ⟨x12_3, rfl, HA, HK3, HO_6, HO_7, HB⟩ := hrel
                    cases gk with
                    | zero => exact absurd HA.out (by simp [corbellaw06_RecordBack.l1])
                    | succ k3 =>
                      have H := HA.out
                      clear HA
                      simp only [corbellaw06_RecordBack.l1] at H
                      by_cases c30 : x12_3 < (x7_1.length : Int)
                      · rw [if_pos c30] at H
                        have c30b0 : decide (x12_3 < (x7_1.length : Int)) = true := decide_eq_true c30
                        clear c30
                        (first | rw [c30b0] | (simp only [i64_w, i32_w]; rw [c30b0]) | skip)
                        by_cases c31 : 0 ≤ x12_3
                        · rw [if_pos c31] at H
                          have c31b0 : decide (0 ≤ x12_3) = true := decide_eq_true c31
                          clear c31
                          by_cases c32 : (rd x7_1 x12_3) ≤ (Int.tmod (wrap64 ((wrap64 ((Int.tmod a1 (wrap64 ((x5_1.size : Int) + 1))) + (x5_1.size : Int))) + 1)) (wrap64 ((x5_1.size : Int) + 1)))
                          · rw [if_pos c32] at H
                            have c32b0 : decide ((rd x7_1 x12_3) ≤ (Int.tmod (wrap64 ((wrap64 ((Int.tmod a1 (wrap64 ((x5_1.size : Int) + 1))) + (x5_1.size : Int))) + 1)) (wrap64 ((x5_1.size : Int) + 1)))) = true := decide_eq_true c32
                            clear c32
                            have H' := Aside0.mk H
                            clear H
                            obtain ⟨Ao33, co33, eo33⟩ := Kd.R_slice HO_7.out
                            subst eo33
                            have p150 : 0 ≤ (x12_3 : Int) := of_decide_eq_true (by first | (with_reducible assumption) | assumption)
                            have q150 : x12_3 < (x7_1.length : Int) := of_decide_eq_true (by first | (with_reducible assumption) | assumption)
                            obtain ⟨ad150, e150, hx150_0⟩ := Kd.at_int (Kd.R_reads' HO_7.out).2.2 x12_3 p150 q150
                            cases e150
                            replace p150 := eq_true p150
                            replace q150 := eq_true q150
                            go_wp2
                            repeat (go_quiet (fail); try go_wp2)
                            go_roundg k3
                            case measure => have := HK1.out; have := HJ5.out; have := HK3.out; omega
                            case rel => exact ⟨(wrap64 (x12_3 + 1)), (by first | rfl | (simp; done) | (simp [*]; done)), H', ⟨by have := HK1.out; have := HJ5.out; have := HK3.out; omega⟩, ⟨by (with_reducible repeat (first | apply Kd.R_alloc | apply Kd.R_drewN | apply Kd.R_drew)); exact HO_6.out⟩, ⟨by (with_reducible repeat (first | apply Kd.R_alloc | apply Kd.R_drewN | apply Kd.R_drew)); exact HO_7.out⟩, ⟨by repeat (first | (with_reducible first | exact HB.out | apply below_alloc | apply pw_below_drewN | apply below_drew1) | exact HB.out)⟩⟩
                          · rw [if_neg c32] at H
                            have c32b0 : decide ((rd x7_1 x12_3) ≤ (Int.tmod (wrap64 ((wrap64 ((Int.tmod a1 (wrap64 ((x5_1.size : Int) + 1))) + (x5_1.size : Int))) + 1)) (wrap64 ((x5_1.size : Int) + 1)))) = false := decide_eq_false c32
                            clear c32
                            have H' := Aside0.mk H
                            clear H
                            obtain ⟨Ao34, co34, eo34⟩ := Kd.R_slice HO_7.out
                            subst eo34
                            have p150 : 0 ≤ (x12_3 : Int) := of_decide_eq_true (by first | (with_reducible assumption) | assumption)
                            have q150 : x12_3 < (x7_1.length : Int) := of_decide_eq_true (by first | (with_reducible assumption) | assumption)
                            obtain ⟨ad150, e150, hx150_0⟩ := Kd.at_int (Kd.R_reads' HO_7.out).2.2 x12_3 p150 q150
                            cases e150
                            replace p150 := eq_true p150
                            replace q150 := eq_true q150
                            go_wp2
                            repeat (go_quiet (fail); try go_wp2)
                            go_meet
                            case rel => exact ⟨_, (x12_3), (by first | rfl | (simp; done) | (simp [*]; done)), H', ⟨by have := HK1.out; have := HJ5.out; have := HK3.out; first | omega | exact Nat.le_refl _⟩, ⟨by (with_reducible repeat (first | apply Kd.R_alloc | apply Kd.R_drewN | apply Kd.R_drew)); exact HO_6.out⟩, ⟨by (with_reducible repeat (first | apply Kd.R_alloc | apply Kd.R_drewN | apply Kd.R_drew)); exact HO_7.out⟩, ⟨by repeat (first | (with_reducible first | exact HB.out | apply below_alloc | apply pw_below_drewN | apply below_drew1) | exact HB.out)⟩⟩
                        · rw [if_neg c31] at H
                          exact absurd H (by simp)
                      · rw [if_neg c30] at H
                        have c30b0 : decide (x12_3 < (x7_1.length : Int)) = false := decide_eq_false c30
                        clear c30
                        (first | rw [c30b0] | (simp only [i64_w, i32_w]; rw [c30b0]) | skip)
                        have H' := Aside0.mk H
                        clear H
                        obtain ⟨Ao35, co35, eo35⟩ := Kd.R_slice HO_7.out
                        subst eo35
                        go_wp2
                        repeat (go_quiet (fail); try go_wp2)
                        go_meet
                        case rel => exact ⟨_, (x12_3), (by first | rfl | (simp; done) | (simp [*]; done)), H', ⟨by have := HK1.out; have := HJ5.out; have := HK3.out; first | omega | exact Nat.le_refl _⟩, ⟨by (with_reducible repeat (first | apply Kd.R_alloc | apply Kd.R_drewN | apply Kd.R_drew)); exact HO_6.out⟩, ⟨by (with_reducible repeat (first | apply Kd.R_alloc | apply Kd.R_drewN | apply Kd.R_drew)); exact HO_7.out⟩, ⟨by repeat (first | (with_reducible first | exact HB.out | apply below_alloc | apply pw_below_drewN | apply below_drew1) | exact HB.out)⟩⟩
                case rest =>
                  clear HC29
                  try clear c1
                  try clear p1
                  try clear q1
                  try clear hx1
                  try clear c2
                  try clear p2
                  try clear c3
                  try clear c4
                  try clear p6
                  try clear c7
                  try clear c7b0
                  try clear c8
                  try clear c9
                  try clear c9b0
                  try clear c10
                  try clear c10b0
                  try clear c13
                  try clear c13b0
                  try clear c13b1
                  try clear p13
                  try clear q13
                  try clear hx13
                  try clear c14
                  try clear c14b0
                  try clear c14b1
                  try clear c14b2
                  try clear c15
                  try clear p15
                  try clear q15
                  try clear hx15
                  try clear c16
                  try clear c28
                  try clear c28b0
                  try clear c28b1
                  try clear c30
                  try clear c30b0
                  try clear c31
                  try clear c31b0
                  try clear c32
                  try clear c32b0
                  try clear hcz19_0
                  try clear hcz19_1
                  try clear hcz19_2
                  try clear hcz19_3
                  try clear hcz19_4
                  try clear hcz19_5
                  try clear hcz19_6
                  try clear hcz21_0
                  try clear hcz21_1
                  try clear hcz21_2
                  try clear hcz21_3
                  try clear hcz21_4
                  try clear hcz21_5
                  try clear hcz21_6
                  try clear hcz26_0
                  try clear hcz26_1
                  try clear hcz26_2
                  try clear hcz26_3
                  try clear hcz26_4
                  try clear hcz26_5
                  try clear hcz26_6
                  try clear hfz19_0
                  try clear hfz19_1
                  try clear hfz19_2
                  try clear hfz19_3
                  try clear hfz19_4
                  try clear hfz19_5
                  try clear hfz19_6
                  try clear hfz21_0
                  try clear hfz21_1
                  try clear hfz21_2
                  try clear hfz21_3
                  try clear hfz21_4
                  try clear hfz21_5
                  try clear hfz21_6
                  try clear hfz26_0
                  try clear hfz26_1
                  try clear hfz26_2
                  try clear hfz26_3
                  try clear hfz26_4
                  try clear hfz26_5
                  try clear hfz26_6
                  try clear hx133_0
                  try clear hx133_1
                  try clear hx133_2
                  try clear hx133_3
                  try clear hx133_4
                  try clear hx133_5
                  try clear hx133_6
                  try clear hx150_0
                  try clear p1
                  try clear p13
                  try clear p133
                  try clear p150
                  try clear p2
                  try clear p6
                  try clear q1
                  try clear q13
                  try clear q133
                  try clear q150
                  obtain ⟨kq, x12_28, rfl, HA, HJ28, HO_6, HO_7, HB⟩ := hcut
                  cases kq with
                  | zero => exact absurd HA.out (by simp [corbellaw06_RecordBack.j3])
                  | succ kj28 =>
                    have H := HA.out
                    clear HA
                    simp only [corbellaw06_RecordBack.j3] at H
                    obtain ⟨ji36, hji36⟩ : ∃ j_ : Int, (Int.tmod (wrap64 ((wrap64 ((Int.tmod a1 (wrap64 ((x5_1.size : Int) + 1))) + (x5_1.size : Int))) + 1)) (wrap64 ((x5_1.size : Int) + 1))) = j_ := ⟨_, rfl⟩
                    replace H : (if 0 ≤ (ji36) then (if (ji36) ≤ (x5_1.size : Int) then ((record_Scan.f kj28 (x5_1.extract 0 ((ji36) : Int).toNat)).bind fun bt151 => (if (bt151.1.length : Int) = x12_28 then (if x12_28 > 0 then (if 0 ≤ (wrap64 (x12_28 - 1)) then (if (wrap64 (x12_28 - 1)) < (x7_1.length : Int) then (if (wrap64 (bt151.2 * 64)) = (rd x7_1 (wrap64 (x12_28 - 1))) then (if x12_28 = 0 then (corbellaw06_RecordBack.j4 kj28 x6_1 x12_28 bt151.1 (bt151.2 != 0)) else (corbellaw06_RecordBack.j4 kj28 x6_1 x12_28 bt151.1 false)) else (corbellaw06_RecordBack.j4 kj28 x6_1 x12_28 bt151.1 true)) else (none)) else (none)) else (if x12_28 = 0 then (corbellaw06_RecordBack.j4 kj28 x6_1 x12_28 bt151.1 (bt151.2 != 0)) else (corbellaw06_RecordBack.j4 kj28 x6_1 x12_28 bt151.1 false))) else (corbellaw06_RecordBack.j4 kj28 x6_1 x12_28 bt151.1 true))) else (none)) else (none)) = some r := by first | (rw [hji36] at H; exact H) | (simp only [hji36] at H ⊢; exact H)
                    by_cases c37 : 0 ≤ (ji36)
                    · rw [if_pos c37] at H
                      have c37b0 := eq_true c37
                      have c37b1 : decide (0 ≤ (ji36)) = true := decide_eq_true c37
                      clear c37
                      by_cases c38 : (ji36) ≤ (x5_1.size : Int)
                      · rw [if_pos c38] at H
                        have c38b0 := eq_true c38
                        have c38b1 : decide ((ji36) ≤ (x5_1.size : Int)) = true := decide_eq_true c38
                        clear c38
                        replace H := Option.bind_eq_some_iff.mp H
                        obtain ⟨⟨t151, t152⟩, A390, H⟩ := H
                        replace H : (if (t151.length : Int) = x12_28 then (if x12_28 > 0 then (if 0 ≤ (wrap64 (x12_28 - 1)) then (if (wrap64 (x12_28 - 1)) < (x7_1.length : Int) then (if (wrap64 (t152 * 64)) = (rd x7_1 (wrap64 (x12_28 - 1))) then (if x12_28 = 0 then (corbellaw06_RecordBack.j4 kj28 x6_1 x12_28 t151 (t152 != 0)) else (corbellaw06_RecordBack.j4 kj28 x6_1 x12_28 t151 false)) else (corbellaw06_RecordBack.j4 kj28 x6_1 x12_28 t151 true)) else (none)) else (none)) else (if x12_28 = 0 then (corbellaw06_RecordBack.j4 kj28 x6_1 x12_28 t151 (t152 != 0)) else (corbellaw06_RecordBack.j4 kj28 x6_1 x12_28 t151 false))) else (corbellaw06_RecordBack.j4 kj28 x6_1 x12_28 t151 true)) = some r := H
                        have A39 := Aside0.mk A390
                        clear A390
                        have HC40 := Aside0.mk H
                        clear H
                        go_upto_region 19 with (first | (go_at_call 15; (with_reducible refine (record_Scan.calls kj28 (x5_1.extract 0 ((ji36) : Int).toNat) t151 t152 _ A39.out (HN.out.below (by repeat (first | (with_reducible first | exact HB.out | apply below_alloc | apply pw_below_drewN | apply below_drew1 | refine below_set ?_ GE141.out) | exact HB.out)) (Nat.lt_of_lt_of_le HN.out.lt (Nat.le_refl _)))).mono ?_); rintro e w41 ⟨v153, rfl, ho0, hb⟩; have n0_ := Aside0.mk (Kd.R_elder' (by (with_reducible repeat (first | apply Kd.R_alloc | apply Kd.R_drewN | apply Kd.R_drew)); exact HO_6.out) (Kd.R_base ho0) hb); have n1_ := Aside0.mk (Kd.R_below (by (with_reducible repeat (first | apply Kd.R_alloc | apply Kd.R_drewN | apply Kd.R_drew)); exact HO_7.out) hb); have n2_ := Aside0.mk (Kd.R_lower (Kd.R_new' ho0 (Kd.R_lt (by (with_reducible repeat (first | apply Kd.R_alloc | apply Kd.R_drewN | apply Kd.R_drew)); exact HO_6.out))) (below_size (by repeat (first | (with_reducible first | exact HB.out | apply below_alloc | apply pw_below_drewN | apply below_drew1) | exact HB.out)))); have n3_ := Aside0.mk (below_step (by repeat (first | (with_reducible first | exact HB.out | apply below_alloc | apply pw_below_drewN | apply below_drew1) | exact HB.out)) hb); clear HO_6; clear HO_7; clear HB; have HO_6 := n0_; have HO_7 := n1_; have HO154 := n2_; have HB := n3_; clear n0_ n1_ n2_ n3_; (try clear hb); (try clear hb2); (try clear hk); (try clear hi); (try clear ho0)))
                        repeat (go_quiet (first | (go_at_call 15; (with_reducible refine (record_Scan.calls kj28 (x5_1.extract 0 ((ji36) : Int).toNat) t151 t152 _ A39.out (HN.out.below (by repeat (first | (with_reducible first | exact HB.out | apply below_alloc | apply pw_below_drewN | apply below_drew1 | refine below_set ?_ GE141.out) | exact HB.out)) (Nat.lt_of_lt_of_le HN.out.lt (Nat.le_refl _)))).mono ?_); rintro e w41 ⟨v153, rfl, ho0, hb⟩; have n0_ := Aside0.mk (Kd.R_elder' (by (with_reducible repeat (first | apply Kd.R_alloc | apply Kd.R_drewN | apply Kd.R_drew)); exact HO_6.out) (Kd.R_base ho0) hb); have n1_ := Aside0.mk (Kd.R_below (by (with_reducible repeat (first | apply Kd.R_alloc | apply Kd.R_drewN | apply Kd.R_drew)); exact HO_7.out) hb); have n2_ := Aside0.mk (Kd.R_lower (Kd.R_new' ho0 (Kd.R_lt (by (with_reducible repeat (first | apply Kd.R_alloc | apply Kd.R_drewN | apply Kd.R_drew)); exact HO_6.out))) (below_size (by repeat (first | (with_reducible first | exact HB.out | apply below_alloc | apply pw_below_drewN | apply below_drew1) | exact HB.out)))); have n3_ := Aside0.mk (below_step (by repeat (first | (with_reducible first | exact HB.out | apply below_alloc | apply pw_below_drewN | apply below_drew1) | exact HB.out)) hb); clear HO_6; clear HO_7; clear HB; have HO_6 := n0_; have HO_7 := n1_; have HO154 := n2_; have HB := n3_; clear n0_ n1_ n2_ n3_; (try clear hb); (try clear hb2); (try clear hk); (try clear hi); (try clear ho0))); go_upto_region 19 with (first | (go_at_call 15; (with_reducible refine (record_Scan.calls kj28 (x5_1.extract 0 ((ji36) : Int).toNat) t151 t152 _ A39.out (HN.out.below (by repeat (first | (with_reducible first | exact HB.out | apply below_alloc | apply pw_below_drewN | apply below_drew1 | refine below_set ?_ GE141.out) | exact HB.out)) (Nat.lt_of_lt_of_le HN.out.lt (Nat.le_refl _)))).mono ?_); rintro e w41 ⟨v153, rfl, ho0, hb⟩; have n0_ := Aside0.mk (Kd.R_elder' (by (with_reducible repeat (first | apply Kd.R_alloc | apply Kd.R_drewN | apply Kd.R_drew)); exact HO_6.out) (Kd.R_base ho0) hb); have n1_ := Aside0.mk (Kd.R_below (by (with_reducible repeat (first | apply Kd.R_alloc | apply Kd.R_drewN | apply Kd.R_drew)); exact HO_7.out) hb); have n2_ := Aside0.mk (Kd.R_lower (Kd.R_new' ho0 (Kd.R_lt (by (with_reducible repeat (first | apply Kd.R_alloc | apply Kd.R_drewN | apply Kd.R_drew)); exact HO_6.out))) (below_size (by repeat (first | (with_reducible first | exact HB.out | apply below_alloc | apply pw_below_drewN | apply below_drew1) | exact HB.out)))); have n3_ := Aside0.mk (below_step (by repeat (first | (with_reducible first | exact HB.out | apply below_alloc | apply pw_below_drewN | apply below_drew1) | exact HB.out)) hb); clear HO_6; clear HO_7; clear HB; have HO_6 := n0_; have HO_7 := n1_; have HO154 := n2_; have HB := n3_; clear n0_ n1_ n2_ n3_; (try clear hb); (try clear hb2); (try clear hk); (try clear hi); (try clear ho0))))
                        (try simp only [Act.put, List.setIfInBounds_toArray, List.set_cons_zero, List.set_cons_succ])
                        go_cut [111] (fun v111 wc => ∃ (kq : Nat) (x111_39 : Bool), v111 = .bool x111_39 ∧ Aside0 (corbellaw06_RecordBack.j4 kq x6_1 x12_28 t151 x111_39 = some r) ∧ Aside0 (kq ≤ kj28) ∧ Aside0 (Kd.R k29 29 wc w.heap.size (fun k_ => some k_ ≠ (v153 : Value).ownBlock) u6 x6_1) ∧ Aside0 (Kd.R k29 29 wc w.heap.size (fun k_ => some k_ ≠ (u6 : Value).ownBlock) v153 t151) ∧ Aside0 (Below w.heap.size w wc))
                        case first =>
                          have H := HC40.out
                          clear HC40
                          by_cases c42 : (t151.length : Int) = x12_28
                          · rw [if_pos c42] at H
                            have c42b0 : ((t151.length : Int) == x12_28) = true := beq_iff_eq.mpr c42
                            have c42b1 : ((t151.length : Int) != x12_28) = false := bne_eq_false_iff_eq.mpr c42
                            clear c42
                            (first | rw [c42b0] | (simp only [i64_w, i32_w]; rw [c42b0]) | skip)
                            (try rw [c42b1])
                            by_cases c43 : x12_28 > 0
                            · rw [if_pos c43] at H
                              have c43b0 : decide (0 < x12_28) = true := decide_eq_true c43
                              clear c43
                              obtain ⟨ji44, hji44⟩ : ∃ j_ : Int, (wrap64 (x12_28 - 1)) = j_ := ⟨_, rfl⟩
                              replace H : (if 0 ≤ (ji44) then (if (ji44) < (x7_1.length : Int) then (if (wrap64 (t152 * 64)) = (rd x7_1 (ji44)) then (if x12_28 = 0 then (corbellaw06_RecordBack.j4 kj28 x6_1 x12_28 t151 (t152 != 0)) else (corbellaw06_RecordBack.j4 kj28 x6_1 x12_28 t151 false)) else (corbellaw06_RecordBack.j4 kj28 x6_1 x12_28 t151 true)) else (none)) else (none)) = some r := by first | (rw [hji44] at H; exact H) | (simp only [hji44] at H ⊢; exact H)
                              have hji44w : (IntKind.i64.wrap (x12_28 - 1)) = ji44 := (i64_w _).trans hji44
                              by_cases c45 : 0 ≤ (ji44)
                              · rw [if_pos c45] at H
                                have c45b0 : decide (0 ≤ (ji44)) = true := decide_eq_true c45
                                clear c45
                                by_cases c46 : (ji44) < (x7_1.length : Int)
                                · rw [if_pos c46] at H
                                  have c46b0 : decide ((ji44) < (x7_1.length : Int)) = true := decide_eq_true c46
                                  clear c46
                                  by_cases c47 : (wrap64 (t152 * 64)) = (rd x7_1 (ji44))
                                  · rw [if_pos c47] at H
                                    have c47b0 : ((wrap64 (t152 * 64)) == (rd x7_1 (ji44))) = true := beq_iff_eq.mpr c47
                                    have c47b1 : ((wrap64 (t152 * 64)) != (rd x7_1 (ji44))) = false := bne_eq_false_iff_eq.mpr c47
                                    clear c47
                                    by_cases c48 : x12_28 = 0
                                    · rw [if_pos c48] at H
                                      have c48b0 : (x12_28 == 0) = true := beq_iff_eq.mpr c48
                                      have c48b1 : (x12_28 != 0) = false := bne_eq_false_iff_eq.mpr c48
                                      clear c48
                                      have H' := Aside0.mk H
                                      clear H
                                      obtain ⟨Ao49, co49, eo49⟩ := Kd.R_slice HO154.out
                                      subst eo49
                                      obtain ⟨Ao50, co50, eo50⟩ := Kd.R_slice HO_7.out
                                      subst eo50
                                      have p155 : 0 ≤ ((ji44) : Int) := of_decide_eq_true (by first | (with_reducible assumption) | assumption)
                                      have q155 : (ji44) < (x7_1.length : Int) := of_decide_eq_true (by first | (with_reducible assumption) | assumption)
                                      obtain ⟨ad155, e155, hx155_0⟩ := Kd.at_int (Kd.R_reads' HO_7.out).2.2 (ji44) p155 q155
                                      cases e155
                                      replace p155 := eq_true p155
                                      replace q155 := eq_true q155
                                      go_wp2
                                      repeat (go_quiet (fail); try go_wp2)
                                      go_meet
                                      case rel => exact ⟨_, ((t152 != 0)), (by first | rfl | (simp; done) | (simp [*]; done)), H', ⟨by have := HK1.out; have := HJ5.out; have := HJ28.out; first | omega | exact Nat.le_refl _⟩, ⟨by (with_reducible repeat (first | apply Kd.R_alloc | apply Kd.R_drewN | apply Kd.R_drew)); exact Kd.R_mono HO_6.out (fun _ hk => hk.2)⟩, ⟨by (with_reducible repeat (first | apply Kd.R_alloc | apply Kd.R_drewN | apply Kd.R_drew)); exact Kd.R_mono HO154.out (fun _ hk => hk.2)⟩, ⟨by repeat (first | (with_reducible first | exact HB.out | apply below_alloc | apply pw_below_drewN | apply below_drew1) | exact HB.out)⟩⟩
                                    · rw [if_neg c48] at H
                                      have c48b0 : (x12_28 == 0) = false := beq_eq_false_iff_ne.mpr c48
                                      have c48b1 : (x12_28 != 0) = true := bne_iff_ne.mpr c48
                                      have H' := Aside0.mk H
                                      clear H
                                      obtain ⟨Ao51, co51, eo51⟩ := Kd.R_slice HO154.out
                                      subst eo51
                                      obtain ⟨Ao52, co52, eo52⟩ := Kd.R_slice HO_7.out
                                      subst eo52
                                      have p155 : 0 ≤ ((ji44) : Int) := of_decide_eq_true (by first | (with_reducible assumption) | assumption)
                                      have q155 : (ji44) < (x7_1.length : Int) := of_decide_eq_true (by first | (with_reducible assumption) | assumption)
                                      obtain ⟨ad155, e155, hx155_0⟩ := Kd.at_int (Kd.R_reads' HO_7.out).2.2 (ji44) p155 q155
                                      cases e155
                                      replace p155 := eq_true p155
                                      replace q155 := eq_true q155
                                      go_wp2
                                      repeat (go_quiet (fail); try go_wp2)
                                      go_meet
                                      case rel => exact ⟨_, (false), (by first | rfl | (simp; done) | (simp [*]; done)), H', ⟨by have := HK1.out; have := HJ5.out; have := HJ28.out; first | omega | exact Nat.le_refl _⟩, ⟨by (with_reducible repeat (first | apply Kd.R_alloc | apply Kd.R_drewN | apply Kd.R_drew)); exact Kd.R_mono HO_6.out (fun _ hk => hk.2)⟩, ⟨by (with_reducible repeat (first | apply Kd.R_alloc | apply Kd.R_drewN | apply Kd.R_drew)); exact Kd.R_mono HO154.out (fun _ hk => hk.2)⟩, ⟨by repeat (first | (with_reducible first | exact HB.out | apply below_alloc | apply pw_below_drewN | apply below_drew1) | exact HB.out)⟩⟩
                                  · rw [if_neg c47] at H
                                    have c47b0 : ((wrap64 (t152 * 64)) == (rd x7_1 (ji44))) = false := beq_eq_false_iff_ne.mpr c47
                                    have c47b1 : ((wrap64 (t152 * 64)) != (rd x7_1 (ji44))) = true := bne_iff_ne.mpr c47
                                    have H' := Aside0.mk H
                                    clear H
                                    obtain ⟨Ao53, co53, eo53⟩ := Kd.R_slice HO154.out
                                    subst eo53
                                    obtain ⟨Ao54, co54, eo54⟩ := Kd.R_slice HO_7.out
                                    subst eo54
                                    have p155 : 0 ≤ ((ji44) : Int) := of_decide_eq_true (by first | (with_reducible assumption) | assumption)
                                    have q155 : (ji44) < (x7_1.length : Int) := of_decide_eq_true (by first | (with_reducible assumption) | assumption)
                                    obtain ⟨ad155, e155, hx155_0⟩ := Kd.at_int (Kd.R_reads' HO_7.out).2.2 (ji44) p155 q155
                                    cases e155
                                    replace p155 := eq_true p155
                                    replace q155 := eq_true q155
                                    go_wp2
                                    repeat (go_quiet (fail); try go_wp2)
                                    go_meet
                                    case rel => exact ⟨_, (true), (by first | rfl | (simp; done) | (simp [*]; done)), H', ⟨by have := HK1.out; have := HJ5.out; have := HJ28.out; first | omega | exact Nat.le_refl _⟩, ⟨by (with_reducible repeat (first | apply Kd.R_alloc | apply Kd.R_drewN | apply Kd.R_drew)); exact Kd.R_mono HO_6.out (fun _ hk => hk.2)⟩, ⟨by (with_reducible repeat (first | apply Kd.R_alloc | apply Kd.R_drewN | apply Kd.R_drew)); exact Kd.R_mono HO154.out (fun _ hk => hk.2)⟩, ⟨by repeat (first | (with_reducible first | exact HB.out | apply below_alloc | apply pw_below_drewN | apply below_drew1) | exact HB.out)⟩⟩
                                · rw [if_neg c46] at H
                                  exact absurd H (by simp)
                              · rw [if_neg c45] at H
                                exact absurd H (by simp)
                            · rw [if_neg c43] at H
                              have c43b0 : decide (0 < x12_28) = false := decide_eq_false c43
                              clear c43
                              by_cases c55 : x12_28 = 0
                              · rw [if_pos c55] at H
                                have c55b0 : (x12_28 == 0) = true := beq_iff_eq.mpr c55
                                have c55b1 : (x12_28 != 0) = false := bne_eq_false_iff_eq.mpr c55
                                clear c55
                                have H' := Aside0.mk H
                                clear H
                                obtain ⟨Ao56, co56, eo56⟩ := Kd.R_slice HO154.out
                                subst eo56
                                go_wp2
                                repeat (go_quiet (fail); try go_wp2)
                                go_meet
                                case rel => exact ⟨_, ((t152 != 0)), (by first | rfl | (simp; done) | (simp [*]; done)), H', ⟨by have := HK1.out; have := HJ5.out; have := HJ28.out; first | omega | exact Nat.le_refl _⟩, ⟨by (with_reducible repeat (first | apply Kd.R_alloc | apply Kd.R_drewN | apply Kd.R_drew)); exact Kd.R_mono HO_6.out (fun _ hk => hk.2)⟩, ⟨by (with_reducible repeat (first | apply Kd.R_alloc | apply Kd.R_drewN | apply Kd.R_drew)); exact Kd.R_mono HO154.out (fun _ hk => hk.2)⟩, ⟨by repeat (first | (with_reducible first | exact HB.out | apply below_alloc | apply pw_below_drewN | apply below_drew1) | exact HB.out)⟩⟩
                              · rw [if_neg c55] at H
                                have c55b0 : (x12_28 == 0) = false := beq_eq_false_iff_ne.mpr c55
                                have c55b1 : (x12_28 != 0) = true := bne_iff_ne.mpr c55
                                have H' := Aside0.mk H
                                clear H
                                obtain ⟨Ao57, co57, eo57⟩ := Kd.R_slice HO154.out
                                subst eo57
                                go_wp2
                                repeat (go_quiet (fail); try go_wp2)
                                go_meet
                                case rel => exact ⟨_, (false), (by first | rfl | (simp; done) | (simp [*]; done)), H', ⟨by have := HK1.out; have := HJ5.out; have := HJ28.out; first | omega | exact Nat.le_refl _⟩, ⟨by (with_reducible repeat (first | apply Kd.R_alloc | apply Kd.R_drewN | apply Kd.R_drew)); exact Kd.R_mono HO_6.out (fun _ hk => hk.2)⟩, ⟨by (with_reducible repeat (first | apply Kd.R_alloc | apply Kd.R_drewN | apply Kd.R_drew)); exact Kd.R_mono HO154.out (fun _ hk => hk.2)⟩, ⟨by repeat (first | (with_reducible first | exact HB.out | apply below_alloc | apply pw_below_drewN | apply below_drew1) | exact HB.out)⟩⟩
                          · rw [if_neg c42] at H
                            have c42b0 : ((t151.length : Int) == x12_28) = false := beq_eq_false_iff_ne.mpr c42
                            have c42b1 : ((t151.length : Int) != x12_28) = true := bne_iff_ne.mpr c42
                            (first | rw [c42b0] | (simp only [i64_w, i32_w]; rw [c42b0]) | skip)
                            (try rw [c42b1])
                            have H' := Aside0.mk H
                            clear H
                            obtain ⟨Ao58, co58, eo58⟩ := Kd.R_slice HO154.out
                            subst eo58
                            go_wp2
                            repeat (go_quiet (fail); try go_wp2)
                            go_meet
                            case rel => exact ⟨_, (true), (by first | rfl | (simp; done) | (simp [*]; done)), H', ⟨by have := HK1.out; have := HJ5.out; have := HJ28.out; first | omega | exact Nat.le_refl _⟩, ⟨by (with_reducible repeat (first | apply Kd.R_alloc | apply Kd.R_drewN | apply Kd.R_drew)); exact Kd.R_mono HO_6.out (fun _ hk => hk.2)⟩, ⟨by (with_reducible repeat (first | apply Kd.R_alloc | apply Kd.R_drewN | apply Kd.R_drew)); exact Kd.R_mono HO154.out (fun _ hk => hk.2)⟩, ⟨by repeat (first | (with_reducible first | exact HB.out | apply below_alloc | apply pw_below_drewN | apply below_drew1) | exact HB.out)⟩⟩
                        case rest =>
                          clear HC40
                          try clear c1
                          try clear p1
                          try clear q1
                          try clear hx1
                          try clear c2
                          try clear p2
                          try clear c3
                          try clear c4
                          try clear c5
                          try clear p6
                          try clear c7
                          try clear c7b0
                          try clear c8
                          try clear c9
                          try clear c9b0
                          try clear c10
                          try clear c10b0
                          try clear c13
                          try clear c13b0
                          try clear c13b1
                          try clear p13
                          try clear q13
                          try clear hx13
                          try clear c14
                          try clear c14b0
                          try clear c14b1
                          try clear c14b2
                          try clear c15
                          try clear p15
                          try clear q15
                          try clear hx15
                          try clear c16
                          try clear c28
                          try clear c28b0
                          try clear c28b1
                          try clear c30
                          try clear c30b0
                          try clear c31
                          try clear c31b0
                          try clear c32
                          try clear c32b0
                          try clear c37
                          try clear c37b0
                          try clear c37b1
                          try clear c38
                          try clear c38b0
                          try clear c38b1
                          try clear c42
                          try clear c42b0
                          try clear c42b1
                          try clear c43
                          try clear c43b0
                          try clear c45
                          try clear c45b0
                          try clear c46
                          try clear c46b0
                          try clear c47
                          try clear c47b0
                          try clear c47b1
                          try clear c48
                          try clear c48b0
                          try clear c48b1
                          try clear c55
                          try clear c55b0
                          try clear c55b1
                          try clear hcz19_0
                          try clear hcz19_1
                          try clear hcz19_2
                          try clear hcz19_3
                          try clear hcz19_4
                          try clear hcz19_5
                          try clear hcz19_6
                          try clear hcz21_0
                          try clear hcz21_1
                          try clear hcz21_2
                          try clear hcz21_3
                          try clear hcz21_4
                          try clear hcz21_5
                          try clear hcz21_6
                          try clear hcz26_0
                          try clear hcz26_1
                          try clear hcz26_2
                          try clear hcz26_3
                          try clear hcz26_4
                          try clear hcz26_5
                          try clear hcz26_6
                          try clear hfz19_0
                          try clear hfz19_1
                          try clear hfz19_2
                          try clear hfz19_3
                          try clear hfz19_4
                          try clear hfz19_5
                          try clear hfz19_6
                          try clear hfz21_0
                          try clear hfz21_1
                          try clear hfz21_2
                          try clear hfz21_3
                          try clear hfz21_4
                          try clear hfz21_5
                          try clear hfz21_6
                          try clear hfz26_0
                          try clear hfz26_1
                          try clear hfz26_2
                          try clear hfz26_3
                          try clear hfz26_4
                          try clear hfz26_5
                          try clear hfz26_6
                          try clear hx133_0
                          try clear hx133_1
                          try clear hx133_2
                          try clear hx133_3
                          try clear hx133_4
                          try clear hx133_5
                          try clear hx133_6
                          try clear hx150_0
                          try clear hx155_0
                          try clear p1
                          try clear p13
                          try clear p133
                          try clear p15
                          try clear p150
                          try clear p155
                          try clear p2
                          try clear p6
                          try clear q1
                          try clear q13
                          try clear q133
                          try clear q15
                          try clear q150
                          try clear q155
                          obtain ⟨kq, x111_39, rfl, HA, HJ39, HO_6, HO_13, HB⟩ := hcut
                          cases kq with
                          | zero => exact absurd HA.out (by simp [corbellaw06_RecordBack.j4])
                          | succ kj39 =>
                            have H := HA.out
                            clear HA
                            simp only [corbellaw06_RecordBack.j4] at H
                            by_cases c59 : x111_39 = true
                            · subst c59
                              have H1 : (some false) = some r := by rw [if_pos rfl] at H; exact H
                              clear H
                              have H := H1
                              clear H1
                              obtain rfl := Option.some.inj H
                              go_wp2
                              repeat (go_quiet (fail); try go_wp2)
                              go_ret
                              exact ⟨by first | rfl | (simp [errW_none, errW_some] <;> rfl) | (simp only [← hji36]; first | rfl | (simp [errW_none, errW_some] <;> rfl)) | (simp [*, errW_none, errW_some] <;> rfl), by repeat (first | (with_reducible first | exact HB.out | apply below_alloc | apply pw_below_drewN | apply below_drew1) | exact HB.out)⟩
                            · replace c59 := Bool.eq_false_iff.mpr c59
                              subst c59
                              have H1 : (corbellaw06_RecordBack.l2 kj39 x6_1 x12_28 t151 0) = some r := by rw [if_neg (show ¬ (false = true) by decide)] at H; exact H
                              clear H
                              have H := H1
                              clear H1
                              have H' := Aside0.mk H
                              clear H
                              go_wp2
                              repeat (go_quiet (fail); try go_wp2)
                              go_loopg [15] kj39 (fun kq v15 w' => ∃ (x15_5 : Int), v15 = .int .i64 x15_5 ∧ Aside0 (corbellaw06_RecordBack.l2 kq x6_1 x12_28 t151 x15_5 = some r) ∧ Aside0 (kq ≤ kj39) ∧ Aside0 (Kd.R k29 29 w' w.heap.size (fun k_ => some k_ ≠ (v153 : Value).ownBlock) u6 x6_1) ∧ Aside0 (Kd.R k29 29 w' w.heap.size (fun k_ => some k_ ≠ (u6 : Value).ownBlock) v153 t151) ∧ Aside0 (Below w.heap.size w w'))
                              case atStart => exact ⟨(0), (by first | rfl | (simp; done) | (simp [*]; done)), H', ⟨Nat.le_refl _⟩, ⟨by (with_reducible repeat (first | apply Kd.R_alloc | apply Kd.R_drewN | apply Kd.R_drew)); exact HO_6.out⟩, ⟨by (with_reducible repeat (first | apply Kd.R_alloc | apply Kd.R_drewN | apply Kd.R_drew)); exact HO_13.out⟩, ⟨by repeat (first | (with_reducible first | exact HB.out | apply below_alloc | apply pw_below_drewN | apply below_drew1) | exact HB.out)⟩⟩
                              case round =>
                                clear H'
                                try clear c1
                                try clear p1
                                try clear q1
                                try clear hx1
                                try clear c2
                                try clear p2
                                try clear c3
                                try clear c4
                                try clear c5
                                try clear p6
                                try clear c7
                                try clear c7b0
                                try clear c8
                                try clear c9
                                try clear c9b0
                                try clear c10
                                try clear c10b0
                                try clear c13
                                try clear c13b0
                                try clear c13b1
                                try clear p13
                                try clear q13
                                try clear hx13
                                try clear c14
                                try clear c14b0
                                try clear c14b1
                                try clear c14b2
                                try clear c15
                                try clear p15
                                try clear q15
                                try clear hx15
                                try clear c16
                                try clear c28
                                try clear c28b0
                                try clear c28b1
                                try clear c30
                                try clear c30b0
                                try clear c31
                                try clear c31b0
                                try clear c32
                                try clear c32b0
                                try clear c37
                                try clear c37b0
                                try clear c37b1
                                try clear c38
                                try clear c38b0
                                try clear c38b1
                                try clear c42
                                try clear c42b0
                                try clear c42b1
                                try clear c43
                                try clear c43b0
                                try clear c45
                                try clear c45b0
                                try clear c46
                                try clear c46b0
                                try clear c47
                                try clear c47b0
                                try clear c47b1
                                try clear c48
                                try clear c48b0
                                try clear c48b1
                                try clear c55
                                try clear c55b0
                                try clear c55b1
                                try clear c59
                                try clear hcz19_0
                                try clear hcz19_1
                                try clear hcz19_2
                                try clear hcz19_3
                                try clear hcz19_4
                                try clear hcz19_5
                                try clear hcz19_6
                                try clear hcz21_0
                                try clear hcz21_1
                                try clear hcz21_2
                                try clear hcz21_3
                                try clear hcz21_4
                                try clear hcz21_5
                                try clear hcz21_6
                                try clear hcz26_0
                                try clear hcz26_1
                                try clear hcz26_2
                                try clear hcz26_3
                                try clear hcz26_4
                                try clear hcz26_5
                                try clear hcz26_6
                                try clear hfz19_0
                                try clear hfz19_1
                                try clear hfz19_2
                                try clear hfz19_3
                                try clear hfz19_4
                                try clear hfz19_5
                                try clear hfz19_6
                                try clear hfz21_0
                                try clear hfz21_1
                                try clear hfz21_2
                                try clear hfz21_3
                                try clear hfz21_4
                                try clear hfz21_5
                                try clear hfz21_6
                                try clear hfz26_0
                                try clear hfz26_1
                                try clear hfz26_2
                                try clear hfz26_3
                                try clear hfz26_4
                                try clear hfz26_5
                                try clear hfz26_6
                                try clear hx133_0
                                try clear hx133_1
                                try clear hx133_2
                                try clear hx133_3
                                try clear hx133_4
                                try clear hx133_5
                                try clear hx133_6
                                try clear hx150_0
                                try clear hx155_0
                                try clear p1
                                try clear p13
                                try clear p133
                                try clear p15
                                try clear p150
                                try clear p155
                                try clear p2
                                try clear p6
                                try clear q1
                                try clear q13
                                try clear q133
                                try clear q15
                                try clear q150
                                try clear q155
                                obtain ⟨x15_5, rfl, HA, HK5, HO_6, HO_13, HB⟩ := hrel
                                cases gk with
                                | zero => exact absurd HA.out (by simp [corbellaw06_RecordBack.l2])
                                | succ k5 =>
                                  have H := HA.out
                                  clear HA
                                  simp only [corbellaw06_RecordBack.l2] at H
                                  by_cases c60 : x15_5 < x12_28
                                  · rw [if_pos c60] at H
                                    have c60b0 : decide (x15_5 < x12_28) = true := decide_eq_true c60
                                    clear c60
                                    by_cases c61 : 0 ≤ x15_5
                                    · rw [if_pos c61] at H
                                      have c61b0 : decide (0 ≤ x15_5) = true := decide_eq_true c61
                                      clear c61
                                      by_cases c62 : x15_5 < (t151.length : Int)
                                      · rw [if_pos c62] at H
                                        have c62b0 : decide (x15_5 < (t151.length : Int)) = true := decide_eq_true c62
                                        clear c62
                                        by_cases c63 : x15_5 < (x6_1.length : Int)
                                        · rw [if_pos c63] at H
                                          have c63b0 : decide (x15_5 < (x6_1.length : Int)) = true := decide_eq_true c63
                                          clear c63
                                          by_cases c64 : (!(((rd_T29 t151 x15_5).f0) == ((rd_T29 x6_1 x15_5).f0)) || (!(((rd_T29 t151 x15_5).f1) == ((rd_T29 x6_1 x15_5).f1)) || (!(((rd_T29 t151 x15_5).f2) == ((rd_T29 x6_1 x15_5).f2)) || (!(((rd_T29 t151 x15_5).f3) == ((rd_T29 x6_1 x15_5).f3)) || (!(((rd_T29 t151 x15_5).f4) == ((rd_T29 x6_1 x15_5).f4)) || (!(((rd_T29 t151 x15_5).f5) == ((rd_T29 x6_1 x15_5).f5)) || (!((((rd_T29 t151 x15_5).f6).toList) == (((rd_T29 x6_1 x15_5).f6).toList))))))))) = true
                                          · rw [if_pos c64] at H
                                            have c64b0 : (!(((rd_T29 t151 x15_5).f0) == ((rd_T29 x6_1 x15_5).f0)) || (!(((rd_T29 t151 x15_5).f1) == ((rd_T29 x6_1 x15_5).f1)) || (!(((rd_T29 t151 x15_5).f2) == ((rd_T29 x6_1 x15_5).f2)) || (!(((rd_T29 t151 x15_5).f3) == ((rd_T29 x6_1 x15_5).f3)) || (!(((rd_T29 t151 x15_5).f4) == ((rd_T29 x6_1 x15_5).f4)) || (!(((rd_T29 t151 x15_5).f5) == ((rd_T29 x6_1 x15_5).f5)) || (!((((rd_T29 t151 x15_5).f6).toList) == (((rd_T29 x6_1 x15_5).f6).toList))))))))) = true := c64
                                            clear c64
                                            obtain rfl := Option.some.inj H
                                            obtain ⟨Ao65, co65, eo65⟩ := Kd.R_slice HO_13.out
                                            subst eo65
                                            have p156 : 0 ≤ (x15_5 : Int) := of_decide_eq_true (by first | (with_reducible assumption) | assumption)
                                            have q156 : x15_5 < (t151.length : Int) := of_decide_eq_true (by first | (with_reducible assumption) | assumption)
                                            obtain ⟨ad156, e156, hx156_0, hx156_1, hx156_2, hx156_3, hx156_4, hx156_5, hx156_6⟩ := at_T29 (Kd.R_reads' HO_13.out).2.2 x15_5 p156 q156
                                            cases e156
                                            replace p156 := eq_true p156
                                            replace q156 := eq_true q156
                                            obtain ⟨Ao66, co66, eo66⟩ := Kd.R_slice HO_6.out
                                            subst eo66
                                            have p157 : 0 ≤ (x15_5 : Int) := of_decide_eq_true (by first | (with_reducible assumption) | assumption)
                                            have q157 : x15_5 < (x6_1.length : Int) := of_decide_eq_true (by first | (with_reducible assumption) | assumption)
                                            obtain ⟨ad157, e157, hx157_0, hx157_1, hx157_2, hx157_3, hx157_4, hx157_5, hx157_6⟩ := at_T29 (Kd.R_reads' HO_6.out).2.2 x15_5 p157 q157
                                            cases e157
                                            replace p157 := eq_true p157
                                            replace q157 := eq_true q157
                                            go_wp2
                                            repeat (go_quiet (fail); try go_wp2)
                                            go_ret
                                            exact ⟨by first | rfl | (simp [errW_none, errW_some] <;> rfl) | (simp only [← hji36]; first | rfl | (simp [errW_none, errW_some] <;> rfl)) | (simp [*, errW_none, errW_some] <;> rfl), by repeat (first | (with_reducible first | exact HB.out | apply below_alloc | apply pw_below_drewN | apply below_drew1) | exact HB.out)⟩
                                          · rw [if_neg c64] at H
                                            have c64b0 : (!(((rd_T29 t151 x15_5).f0) == ((rd_T29 x6_1 x15_5).f0)) || (!(((rd_T29 t151 x15_5).f1) == ((rd_T29 x6_1 x15_5).f1)) || (!(((rd_T29 t151 x15_5).f2) == ((rd_T29 x6_1 x15_5).f2)) || (!(((rd_T29 t151 x15_5).f3) == ((rd_T29 x6_1 x15_5).f3)) || (!(((rd_T29 t151 x15_5).f4) == ((rd_T29 x6_1 x15_5).f4)) || (!(((rd_T29 t151 x15_5).f5) == ((rd_T29 x6_1 x15_5).f5)) || (!((((rd_T29 t151 x15_5).f6).toList) == (((rd_T29 x6_1 x15_5).f6).toList))))))))) = false := by simpa using c64
                                            clear c64
                                            have H' := Aside0.mk H
                                            clear H
                                            obtain ⟨Ao67, co67, eo67⟩ := Kd.R_slice HO_13.out
                                            subst eo67
                                            have p156 : 0 ≤ (x15_5 : Int) := of_decide_eq_true (by first | (with_reducible assumption) | assumption)
                                            have q156 : x15_5 < (t151.length : Int) := of_decide_eq_true (by first | (with_reducible assumption) | assumption)
                                            obtain ⟨ad156, e156, hx156_0, hx156_1, hx156_2, hx156_3, hx156_4, hx156_5, hx156_6⟩ := at_T29 (Kd.R_reads' HO_13.out).2.2 x15_5 p156 q156
                                            cases e156
                                            replace p156 := eq_true p156
                                            replace q156 := eq_true q156
                                            obtain ⟨Ao68, co68, eo68⟩ := Kd.R_slice HO_6.out
                                            subst eo68
                                            have p157 : 0 ≤ (x15_5 : Int) := of_decide_eq_true (by first | (with_reducible assumption) | assumption)
                                            have q157 : x15_5 < (x6_1.length : Int) := of_decide_eq_true (by first | (with_reducible assumption) | assumption)
                                            obtain ⟨ad157, e157, hx157_0, hx157_1, hx157_2, hx157_3, hx157_4, hx157_5, hx157_6⟩ := at_T29 (Kd.R_reads' HO_6.out).2.2 x15_5 p157 q157
                                            cases e157
                                            replace p157 := eq_true p157
                                            replace q157 := eq_true q157
                                            go_wp2
                                            repeat (go_quiet (fail); try go_wp2)
                                            go_roundg k5
                                            case measure => have := HK1.out; have := HJ5.out; have := HJ28.out; have := HJ39.out; have := HK5.out; omega
                                            case rel => exact ⟨(wrap64 (x15_5 + 1)), (by first | rfl | (simp; done) | (simp [*]; done)), H', ⟨by have := HK1.out; have := HJ5.out; have := HJ28.out; have := HJ39.out; have := HK5.out; omega⟩, ⟨by (with_reducible repeat (first | apply Kd.R_alloc | apply Kd.R_drewN | apply Kd.R_drew)); exact HO_6.out⟩, ⟨by (with_reducible repeat (first | apply Kd.R_alloc | apply Kd.R_drewN | apply Kd.R_drew)); exact HO_13.out⟩, ⟨by repeat (first | (with_reducible first | exact HB.out | apply below_alloc | apply pw_below_drewN | apply below_drew1) | exact HB.out)⟩⟩
                                        · rw [if_neg c63] at H
                                          exact absurd H (by simp)
                                      · rw [if_neg c62] at H
                                        exact absurd H (by simp)
                                    · rw [if_neg c61] at H
                                      exact absurd H (by simp)
                                  · rw [if_neg c60] at H
                                    have c60b0 : decide (x15_5 < x12_28) = false := decide_eq_false c60
                                    clear c60
                                    obtain rfl := Option.some.inj H
                                    go_wp2
                                    repeat (go_quiet (fail); try go_wp2)
                                    go_ret
                                    exact ⟨by first | rfl | (simp [errW_none, errW_some] <;> rfl) | (simp only [← hji36]; first | rfl | (simp [errW_none, errW_some] <;> rfl)) | (simp [*, errW_none, errW_some] <;> rfl), by repeat (first | (with_reducible first | exact HB.out | apply below_alloc | apply pw_below_drewN | apply below_drew1) | exact HB.out)⟩
                      · rw [if_neg c38] at H
                        exact absurd H (by simp)
                    · rw [if_neg c37] at H
                      exact absurd H (by simp)
  · replace c4 := Bool.eq_false_iff.mpr c4
    subst c4
    have H1 : (some false) = some r := by rw [if_neg (show ¬ (false = true) by decide)] at H; exact H
    clear H
    have H := H1
    clear H1
    obtain rfl := Option.some.inj H
    go_enter Tryd.func7, Tryd.ntmps7
    go_wp2_with (first | (go_at_call 8; (with_reducible refine (corbellaw06_speaks.calls  false _ A3.out (HN.out.below (by repeat (first | (with_reducible first | exact HB.out | apply below_alloc | apply pw_below_drewN | apply below_drew1 | refine below_set ?_ GE141.out) | exact HB.out)) (Nat.lt_of_lt_of_le HN.out.lt (Nat.le_refl _)))).mono ?_); rintro e w69 ⟨rfl, hb⟩; have n0_ := Aside0.mk (below_step (by repeat (first | (with_reducible first | exact HB.out | apply below_alloc | apply pw_below_drewN | apply below_drew1) | exact HB.out)) hb); clear HB; have HB := n0_; clear n0_; (try clear hb); (try clear hb2); (try clear hk); (try clear hi)))
    repeat (go_quiet (first | (go_at_call 8; (with_reducible refine (corbellaw06_speaks.calls  false _ A3.out (HN.out.below (by repeat (first | (with_reducible first | exact HB.out | apply below_alloc | apply pw_below_drewN | apply below_drew1 | refine below_set ?_ GE141.out) | exact HB.out)) (Nat.lt_of_lt_of_le HN.out.lt (Nat.le_refl _)))).mono ?_); rintro e w69 ⟨rfl, hb⟩; have n0_ := Aside0.mk (below_step (by repeat (first | (with_reducible first | exact HB.out | apply below_alloc | apply pw_below_drewN | apply below_drew1) | exact HB.out)) hb); clear HB; have HB := n0_; clear n0_; (try clear hb); (try clear hb2); (try clear hk); (try clear hi))); try go_wp2_with (first | (go_at_call 8; (with_reducible refine (corbellaw06_speaks.calls  false _ A3.out (HN.out.below (by repeat (first | (with_reducible first | exact HB.out | apply below_alloc | apply pw_below_drewN | apply below_drew1 | refine below_set ?_ GE141.out) | exact HB.out)) (Nat.lt_of_lt_of_le HN.out.lt (Nat.le_refl _)))).mono ?_); rintro e w69 ⟨rfl, hb⟩; have n0_ := Aside0.mk (below_step (by repeat (first | (with_reducible first | exact HB.out | apply below_alloc | apply pw_below_drewN | apply below_drew1) | exact HB.out)) hb); clear HB; have HB := n0_; clear n0_; (try clear hb); (try clear hb2); (try clear hk); (try clear hi))))
    go_ret
    exact ⟨by first | rfl | (simp [errW_none, errW_some] <;> rfl) | (simp [*, errW_none, errW_some] <;> rfl), by repeat (first | (with_reducible first | exact HB.out | apply below_alloc | apply pw_below_drewN | apply below_drew1) | exact HB.out)⟩

end Go.Proofs.YtadpeopbfoppjaaDoor.Y
