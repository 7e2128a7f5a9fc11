-- printed by a program of a session (wip/tools/printx.py) over the kit's print; not typed by hand
import Derived.Test.YticpjnpafmehaaaDoorUx0
import Derived.Test.YticpjnpafmehaaaDoorUM
namespace Go.Proofs.YticpjnpafmehaaaDoor.U
open Go.RowKit Go.Proofs.YticpjnpafmehaaaDoorW.PrintWords Go.Proofs.YticpjnpafmehaaaDoorW.PrintLast Go.Proofs.YticpjnpafmehaaaDoorW.PrintMore
open Go.Proofs.YticpjnpafmehaaaDoorW.PrintWords.Kd renaming R_alloc → rA, R_drewN → rN
open Go.Proofs.YticpjnpafmehaaaDoorW.PrintWords renaming pw_below_drewN → pN, below_alloc → bA, below_drew1 → bD, below_set → bS, blk_drewN → kN, blk_alloc → kA, below_size → bZ, blk_below → kB
attribute [local go_sem] max2_int min2_int max_two min_two max_three min_three max_four min_four   -- for this text's walks alone
set_option linter.unusedVariables false
set_option linter.unusedSimpArgs false

/-! ### corbelref18_Encode: function 25 -/
mutual
def corbelref18_Encode.j0 : Nat → Int → Bool → Int → List Int → List Bool → List ByteArray → Option (ByteArray)
 | 0, _, _, _, _, _, _ => none
 | k + 1, x3, x41, x183000, x183001, x183002, x183003 => if x41 = true then (some (⟨#[]⟩ : ByteArray)) else ((corbelref01_Put.f x183000 6).bind fun t183 => (if 2 + t183.size ≤ 9223372036854775807 then ((corbelref01_Put.f x3 1).bind fun t184 => (if ((⟨#[67, 71]⟩ : ByteArray) ++ t183).size + t184.size ≤ 9223372036854775807 then (corbelref18_Encode.l0 k x3 (((⟨#[67, 71]⟩ : ByteArray) ++ t183) ++ t184) (⟨#[]⟩ : ByteArray) 0 x183000 x183001 x183002 x183003) else (none))) else (none)))
def corbelref18_Encode.l0 : Nat → Int → ByteArray → ByteArray → Int → Int → List Int → List Bool → List ByteArray → Option (ByteArray)
 | 0, _, _, _, _, _, _, _, _ => none
 | k + 1, x3, x4, x5, x6, x183000, x183001, x183002, x183003 => if x6 < x3 then (if 0 ≤ x6 then (if x6 < (x183001.length : Int) then (if (rd x183001 x6) < 0 then (corbelref18_Encode.j2 k x3 x4 x5 x6 (rd x183001 x6) true x183000 x183001 x183002 x183003) else (corbelref18_Encode.j2 k x3 x4 x5 x6 (rd x183001 x6) (decide ((rd x183001 x6) > 2147483647)) x183000 x183001 x183002 x183003)) else (none)) else (none)) else (if x4.size + x5.size ≤ 9223372036854775807 then ((corbelref02_Sum.f (x4 ++ x5)).bind fun t197 => ((corbelref01_Put.f (wrap64 (t197)) 4).bind fun t198 => (if x4.size + t198.size ≤ 9223372036854775807 then (corbelref18_Encode.l1 k (x4 ++ t198) x5) else (none)))) else (none))
def corbelref18_Encode.j2 : Nat → Int → ByteArray → ByteArray → Int → Int → Bool → Int → List Int → List Bool → List ByteArray → Option (ByteArray)
 | 0, _, _, _, _, _, _, _, _, _, _ => none
 | k + 1, x3, x4, x5, x6, x7, x64, x183000, x183001, x183002, x183003 => if x64 = true then (some (⟨#[]⟩ : ByteArray)) else (if 0 ≤ x6 then (if x6 < (x183002.length : Int) then (if rdOf false x183002 x6 = true then (if x6 < (x183003.length : Int) then (if (rdOf ByteArray.empty x183003 x6).toList = ([] : List UInt8) then ((corbelref01_Put.f (wrap64 (x7 + 2147483648)) 4).bind fun t190 => (if x4.size + t190.size ≤ 9223372036854775807 then (if x5.size + (rdOf ByteArray.empty x183003 x6).size ≤ 9223372036854775807 then (corbelref18_Encode.l0 k x3 (x4 ++ t190) (x5 ++ (rdOf ByteArray.empty x183003 x6)) (wrap64 (x6 + 1)) x183000 x183001 x183002 x183003) else (none)) else (none))) else (some (⟨#[]⟩ : ByteArray))) else (none)) else (if x6 < (x183003.length : Int) then (if ((rdOf ByteArray.empty x183003 x6).size : Int) = 64 then ((corbelref01_Put.f x7 4).bind fun t195 => (if x4.size + t195.size ≤ 9223372036854775807 then (if x5.size + (rdOf ByteArray.empty x183003 x6).size ≤ 9223372036854775807 then (corbelref18_Encode.l0 k x3 (x4 ++ t195) (x5 ++ (rdOf ByteArray.empty x183003 x6)) (wrap64 (x6 + 1)) x183000 x183001 x183002 x183003) else (none)) else (none))) else (some (⟨#[]⟩ : ByteArray))) else (none))) else (none)) else (none))
def corbelref18_Encode.l1 : Nat → ByteArray → ByteArray → Option (ByteArray)
 | 0, _, _ => none
 | k + 1, x4, x5 => if (x4.size : Int) < 64 then (if x4.size + 1 ≤ 9223372036854775807 then (corbelref18_Encode.l1 k (x4 ++ (⟨#[0]⟩ : ByteArray)) x5) else (none)) else (if x4.size + x5.size ≤ 9223372036854775807 then (some (x4 ++ x5)) else (none))
end
def corbelref18_Encode.f (k : Nat) (a0_0 : Int) (l0_1 : List Int) (l0_2 : List Bool) (l0_3 : List ByteArray) : Option (ByteArray) := if a0_0 < 0 then (corbelref18_Encode.j0 k (l0_1.length : Int) true a0_0 l0_1 l0_2 l0_3) else (if a0_0 > 1099511627776 then (corbelref18_Encode.j0 k (l0_1.length : Int) true a0_0 l0_1 l0_2 l0_3) else (if (l0_1.length : Int) < 1 then (corbelref18_Encode.j0 k (l0_1.length : Int) true a0_0 l0_1 l0_2 l0_3) else (if (l0_1.length : Int) > 6 then (corbelref18_Encode.j0 k (l0_1.length : Int) true a0_0 l0_1 l0_2 l0_3) else (if (l0_2.length : Int) = (l0_1.length : Int) then (corbelref18_Encode.j0 k (l0_1.length : Int) ((l0_3.length : Int) != (l0_1.length : Int)) a0_0 l0_1 l0_2 l0_3) else (corbelref18_Encode.j0 k (l0_1.length : Int) true a0_0 l0_1 l0_2 l0_3)))))
theorem corbelref18_Encode.mono_l : ∀ k, (∀ y0 y1 y2 y3 y4 y5, LeO (corbelref18_Encode.j0 k y0 y1 y2 y3 y4 y5) (corbelref18_Encode.j0 (k + 1) y0 y1 y2 y3 y4 y5)) ∧ (∀ y0 y1 y2 y3 y4 y5 y6 y7, LeO (corbelref18_Encode.l0 k y0 y1 y2 y3 y4 y5 y6 y7) (corbelref18_Encode.l0 (k + 1) y0 y1 y2 y3 y4 y5 y6 y7)) ∧ (∀ y0 y1 y2 y3 y4 y5 y6 y7 y8 y9, LeO (corbelref18_Encode.j2 k y0 y1 y2 y3 y4 y5 y6 y7 y8 y9) (corbelref18_Encode.j2 (k + 1) y0 y1 y2 y3 y4 y5 y6 y7 y8 y9)) ∧ (∀ y0 y1, LeO (corbelref18_Encode.l1 k y0 y1) (corbelref18_Encode.l1 (k + 1) y0 y1))
 | 0 => ⟨fun _ _ _ _ _ _ r h => by simp [corbelref18_Encode.j0] at h, fun _ _ _ _ _ _ _ _ r h => by simp [corbelref18_Encode.l0] at h, fun _ _ _ _ _ _ _ _ _ _ r h => by simp [corbelref18_Encode.j2] at h, fun _ _ r h => by simp [corbelref18_Encode.l1] at h⟩
 | k + 1 => by
  obtain ⟨ih0, ih1, ih2, ih3⟩ := corbelref18_Encode.mono_l k
  refine ⟨?_, ?_, ?_, ?_⟩
  ·intro y0 y1 y2 y3 y4 y5
   unfold corbelref18_Encode.j0
   repeat' first
   | (with_reducible exact ih0 _ _ _ _ _ _)
   | (with_reducible exact ih1 _ _ _ _ _ _ _ _)
   | (with_reducible exact ih2 _ _ _ _ _ _ _ _ _ _)
   | (with_reducible exact ih3 _ _)
   | (with_reducible exact LeO.refl _)
   | (with_reducible exact LeO.none _)
   | (with_reducible refine LeO.ite ?_ ?_)
   | (with_reducible refine LeO.bind ?_ (fun _ => ?_))
   | exact ih0 _ _ _ _ _ _
   | exact ih1 _ _ _ _ _ _ _ _
   | exact ih2 _ _ _ _ _ _ _ _ _ _
   | exact ih3 _ _
   | exact LeO.none _
   | refine LeO.ite ?_ ?_
   | refine LeO.bind ?_ (fun _ => ?_)
  ·intro y0 y1 y2 y3 y4 y5 y6 y7
   unfold corbelref18_Encode.l0
   repeat' first
   | (with_reducible exact ih0 _ _ _ _ _ _)
   | (with_reducible exact ih1 _ _ _ _ _ _ _ _)
   | (with_reducible exact ih2 _ _ _ _ _ _ _ _ _ _)
   | (with_reducible exact ih3 _ _)
   | (with_reducible exact LeO.refl _)
   | (with_reducible exact LeO.none _)
   | (with_reducible refine LeO.ite ?_ ?_)
   | (with_reducible refine LeO.bind ?_ (fun _ => ?_))
   | exact ih0 _ _ _ _ _ _
   | exact ih1 _ _ _ _ _ _ _ _
   | exact ih2 _ _ _ _ _ _ _ _ _ _
   | exact ih3 _ _
   | exact LeO.none _
   | refine LeO.ite ?_ ?_
   | refine LeO.bind ?_ (fun _ => ?_)
  ·intro y0 y1 y2 y3 y4 y5 y6 y7 y8 y9
   unfold corbelref18_Encode.j2
   repeat' first
   | (with_reducible exact ih0 _ _ _ _ _ _)
   | (with_reducible exact ih1 _ _ _ _ _ _ _ _)
   | (with_reducible exact ih2 _ _ _ _ _ _ _ _ _ _)
   | (with_reducible exact ih3 _ _)
   | (with_reducible exact LeO.refl _)
   | (with_reducible exact LeO.none _)
   | (with_reducible refine LeO.ite ?_ ?_)
   | (with_reducible refine LeO.bind ?_ (fun _ => ?_))
   | exact ih0 _ _ _ _ _ _
   | exact ih1 _ _ _ _ _ _ _ _
   | exact ih2 _ _ _ _ _ _ _ _ _ _
   | exact ih3 _ _
   | exact LeO.none _
   | refine LeO.ite ?_ ?_
   | refine LeO.bind ?_ (fun _ => ?_)
  ·intro y0 y1
   unfold corbelref18_Encode.l1
   repeat' first
   | (with_reducible exact ih0 _ _ _ _ _ _)
   | (with_reducible exact ih1 _ _ _ _ _ _ _ _)
   | (with_reducible exact ih2 _ _ _ _ _ _ _ _ _ _)
   | (with_reducible exact ih3 _ _)
   | (with_reducible exact LeO.refl _)
   | (with_reducible exact LeO.none _)
   | (with_reducible refine LeO.ite ?_ ?_)
   | (with_reducible refine LeO.bind ?_ (fun _ => ?_))
   | exact ih0 _ _ _ _ _ _
   | exact ih1 _ _ _ _ _ _ _ _
   | exact ih2 _ _ _ _ _ _ _ _ _ _
   | exact ih3 _ _
   | exact LeO.none _
   | refine LeO.ite ?_ ?_
   | refine LeO.bind ?_ (fun _ => ?_)
theorem corbelref18_Encode.mono : ∀ a0 a1 a2 a3 k, LeO (corbelref18_Encode.f k a0 a1 a2 a3) (corbelref18_Encode.f (k + 1) a0 a1 a2 a3) := by
 intro a0 a1 a2 a3 k
 obtain ⟨ih0, ih1, ih2, ih3⟩ := corbelref18_Encode.mono_l k
 unfold corbelref18_Encode.f
 repeat' first
   | (with_reducible exact ih0 _ _ _ _ _ _)
   | (with_reducible exact ih1 _ _ _ _ _ _ _ _)
   | (with_reducible exact ih2 _ _ _ _ _ _ _ _ _ _)
   | (with_reducible exact ih3 _ _)
   | (with_reducible exact LeO.refl _)
   | (with_reducible exact LeO.none _)
   | (with_reducible refine LeO.ite ?_ ?_)
   | (with_reducible refine LeO.bind ?_ (fun _ => ?_))
   | exact ih0 _ _ _ _ _ _
   | exact ih1 _ _ _ _ _ _ _ _
   | exact ih2 _ _ _ _ _ _ _ _ _ _
   | exact ih3 _ _
   | exact LeO.none _
   | refine LeO.ite ?_ ?_
   | refine LeO.bind ?_ (fun _ => ?_)
set_option maxHeartbeats 8000000 in
set_option maxRecDepth 100000 in
theorem corbelref18_Encode.calls (k : Nat) (a0_0 : Int) (A0_1 : Option Addr) (c0_1 : Nat) (l0_1 : List Int) (A0_2 : Option Addr) (c0_2 : Nat) (l0_2 : List Bool) (A0_3 : Option Addr) (c0_3 : Nat) (l0_3 : List ByteArray) (r : ByteArray) (w : World) (hr0_1 : Kd.C (Kd.int .i64) w A0_1 l0_1.length l0_1) (hc0_1 : l0_1.length ≤ c0_1) (hr0_2 : Kd.C Kd.bool w A0_2 l0_2.length l0_2) (hc0_2 : l0_2.length ≤ c0_2) (hr0_3 : Kd.C Kd.string w A0_3 l0_3.length l0_3) (hc0_3 : l0_3.length ≤ c0_3) (h : corbelref18_Encode.f k a0_0 l0_1 l0_2 l0_3 = some r) :
  Calls Tryd.prog 25 #[.agg #[.int .i64 a0_0, .slice A0_1 l0_1.length c0_1, .slice A0_2 l0_2.length c0_2, .slice A0_3 l0_3.length c0_3]] w fun e w' => e = .returned (.string r) ∧ Below w.heap.size w w' := by
 have hu43 := Tryd.underlying43
 have HR0_1 := Aside0.mk hr0_1
 have HC0_1 := Aside0.mk hc0_1
 clear hr0_1 hc0_1
 have HR0_2 := Aside0.mk hr0_2
 have HC0_2 := Aside0.mk hc0_2
 clear hr0_2 hc0_2
 have HR0_3 := Aside0.mk hr0_3
 have HC0_3 := Aside0.mk hc0_3
 clear hr0_3 hc0_3
 have HB := Aside0.mk (Below.refl w.heap.size w)
 have H : (if a0_0 < 0 then (corbelref18_Encode.j0 k (l0_1.length : Int) true a0_0 l0_1 l0_2 l0_3) else (if a0_0 > 1099511627776 then (corbelref18_Encode.j0 k (l0_1.length : Int) true a0_0 l0_1 l0_2 l0_3) else (if (l0_1.length : Int) < 1 then (corbelref18_Encode.j0 k (l0_1.length : Int) true a0_0 l0_1 l0_2 l0_3) else (if (l0_1.length : Int) > 6 then (corbelref18_Encode.j0 k (l0_1.length : Int) true a0_0 l0_1 l0_2 l0_3) else (if (l0_2.length : Int) = (l0_1.length : Int) then (corbelref18_Encode.j0 k (l0_1.length : Int) ((l0_3.length : Int) != (l0_1.length : Int)) a0_0 l0_1 l0_2 l0_3) else (corbelref18_Encode.j0 k (l0_1.length : Int) true a0_0 l0_1 l0_2 l0_3)))))) = some r := h
 clear h
 have HC2 := Aside0.mk H
 clear H
 go_enter Tryd.func25, Tryd.ntmps25
 go_upto_region 2 with (first | ((with_reducible refine gate_dst (N := 1) rfl ?_); (try (refine gate_guard (by rfl) ?_; dsimp only)); refine box_event ?hg (N := 1) ?hd (cs := #[.int .i64 a0_0, .slice A0_1 l0_1.length c0_1, .slice A0_2 l0_2.length c0_2, .slice A0_3 l0_3.length c0_3]) (t := 43) ?hr ?_; (case hd => rfl); (case hg => rfl); (case hr => first | (go_simp; done) | (go_simp; rfl)); intro gb182 hg w3 hbox hb; have n0_ := Aside0.mk (below_step (by repeat (first | (with_reducible first | exact HB.out | apply bA | apply pN | apply bD) | exact HB.out)) hb); have n1_ := Aside0.mk (hbox); have n2_ := Aside0.mk ((by rw [hg]; exact (bZ (by repeat (first | (with_reducible first | exact HB.out | apply bA | apply pN | apply bD) | exact HB.out))) : w.heap.size ≤ gb182)); have n3_ := Aside0.mk ((by rw [hg]; exact (bZ (by repeat (first | (with_reducible first | exact HB.out | apply bA | apply pN | apply bD) | exact HB.out))) : w.heap.size ≤ gb182)); clear HB; have HB := n0_; have BK182 := n1_; have GW182 := n2_; have GE182 := n3_; clear n0_ n1_ n2_ n3_; clear hb hbox hg; have hcz4_0 : w3.cell? ⟨gb182, 0, none⟩ = some (.int .i64 a0_0) := (blk_cell BK182.out 0).trans rfl; have hcz4_1 : w3.cell? ⟨gb182, 1, none⟩ = some (.slice A0_1 l0_1.length c0_1) := (blk_cell BK182.out 1).trans rfl; have hcz4_2 : w3.cell? ⟨gb182, 2, none⟩ = some (.slice A0_2 l0_2.length c0_2) := (blk_cell BK182.out 2).trans rfl; have hcz4_3 : w3.cell? ⟨gb182, 3, none⟩ = some (.slice A0_3 l0_3.length c0_3) := (blk_cell BK182.out 3).trans rfl; have hfz4_0 := blk_frozen BK182.out 0; have hfz4_1 := blk_frozen BK182.out 1; have hfz4_2 := blk_frozen BK182.out 2; have hfz4_3 := blk_frozen BK182.out 3))
 (try simp only [Act.put, List.setIfInBounds_toArray, List.set_cons_zero, List.set_cons_succ])
 go_cut [41] (fun v41 wc => ∃ (kq : Nat) (x41_1 : Bool), v41 = .bool x41_1 ∧ Aside0 (corbelref18_Encode.j0 kq (l0_1.length : Int) x41_1 a0_0 l0_1 l0_2 l0_3 = some r) ∧ Aside0 (kq ≤ k) ∧ Aside0 (wc.heap[gb182]? = some (.cells #[.int .i64 a0_0, (.slice A0_1 l0_1.length c0_1), (.slice A0_2 l0_2.length c0_2), (.slice A0_3 l0_3.length c0_3)] 43 (0, 0))) ∧ Aside0 (Below w.heap.size w wc))
 case first =>
  have H := HC2.out
  clear HC2
  by_cases c5 : a0_0 < 0
  ·rw [if_pos c5] at H
   have c5b0 : decide (a0_0 < 0) = true := decide_eq_true c5
   clear c5
   (first | rw [c5b0] | (simp only [i64_w, i32_w]; rw [c5b0]) | skip)
   have H' := Aside0.mk H
   clear H
   have hcz6_0 : w3.cell? ⟨gb182, 0, none⟩ = some (.int .i64 a0_0) := (blk_cell BK182.out 0).trans rfl
   have hcz6_1 : w3.cell? ⟨gb182, 1, none⟩ = some (.slice A0_1 l0_1.length c0_1) := (blk_cell BK182.out 1).trans rfl
   have hcz6_2 : w3.cell? ⟨gb182, 2, none⟩ = some (.slice A0_2 l0_2.length c0_2) := (blk_cell BK182.out 2).trans rfl
   have hcz6_3 : w3.cell? ⟨gb182, 3, none⟩ = some (.slice A0_3 l0_3.length c0_3) := (blk_cell BK182.out 3).trans rfl
   have hfz6_0 := blk_frozen BK182.out 0
   have hfz6_1 := blk_frozen BK182.out 1
   have hfz6_2 := blk_frozen BK182.out 2
   have hfz6_3 := blk_frozen BK182.out 3
   go_wp2
   go_meet
   case rel => exact ⟨_, (true), (by first | rfl | (simp; done) | (simp [*]; done)), H', ⟨by first | omega | exact Nat.le_refl _⟩, ⟨by (with_reducible repeat (first | refine kN ?_ _ | refine blk_drew ?_ | refine kA ?_ _)); exact BK182.out⟩, ⟨by repeat (first | (with_reducible first | exact HB.out | apply bA | apply pN | apply bD | refine bS ?_ GE182.out) | exact HB.out)⟩⟩
  ·rw [if_neg c5] at H
   have c5b0 : decide (a0_0 < 0) = false := decide_eq_false c5
   clear c5
   (first | rw [c5b0] | (simp only [i64_w, i32_w]; rw [c5b0]) | skip)
   by_cases c7 : a0_0 > 1099511627776
   ·rw [if_pos c7] at H
    have c7b0 : decide (1099511627776 < a0_0) = true := decide_eq_true c7
    clear c7
    have H' := Aside0.mk H
    clear H
    have hcz8_0 : w3.cell? ⟨gb182, 0, none⟩ = some (.int .i64 a0_0) := (blk_cell BK182.out 0).trans rfl
    have hcz8_1 : w3.cell? ⟨gb182, 1, none⟩ = some (.slice A0_1 l0_1.length c0_1) := (blk_cell BK182.out 1).trans rfl
    have hcz8_2 : w3.cell? ⟨gb182, 2, none⟩ = some (.slice A0_2 l0_2.length c0_2) := (blk_cell BK182.out 2).trans rfl
    have hcz8_3 : w3.cell? ⟨gb182, 3, none⟩ = some (.slice A0_3 l0_3.length c0_3) := (blk_cell BK182.out 3).trans rfl
    have hfz8_0 := blk_frozen BK182.out 0
    have hfz8_1 := blk_frozen BK182.out 1
    have hfz8_2 := blk_frozen BK182.out 2
    have hfz8_3 := blk_frozen BK182.out 3
    go_wp2
    go_meet
    case rel => exact ⟨_, (true), (by first | rfl | (simp; done) | (simp [*]; done)), H', ⟨by first | omega | exact Nat.le_refl _⟩, ⟨by (with_reducible repeat (first | refine kN ?_ _ | refine blk_drew ?_ | refine kA ?_ _)); exact BK182.out⟩, ⟨by repeat (first | (with_reducible first | exact HB.out | apply bA | apply pN | apply bD | refine bS ?_ GE182.out) | exact HB.out)⟩⟩
   ·rw [if_neg c7] at H
    have c7b0 : decide (1099511627776 < a0_0) = false := decide_eq_false c7
    clear c7
    by_cases c9 : (l0_1.length : Int) < 1
    ·rw [if_pos c9] at H
     have c9b0 : decide ((l0_1.length : Int) < 1) = true := decide_eq_true c9
     have c9b1 : decide (l0_1.length < 1) = true := decide_eq_true (by omega)
     clear c9
     have H' := Aside0.mk H
     clear H
     have hcz10_0 : w3.cell? ⟨gb182, 0, none⟩ = some (.int .i64 a0_0) := (blk_cell BK182.out 0).trans rfl
     have hcz10_1 : w3.cell? ⟨gb182, 1, none⟩ = some (.slice A0_1 l0_1.length c0_1) := (blk_cell BK182.out 1).trans rfl
     have hcz10_2 : w3.cell? ⟨gb182, 2, none⟩ = some (.slice A0_2 l0_2.length c0_2) := (blk_cell BK182.out 2).trans rfl
     have hcz10_3 : w3.cell? ⟨gb182, 3, none⟩ = some (.slice A0_3 l0_3.length c0_3) := (blk_cell BK182.out 3).trans rfl
     have hfz10_0 := blk_frozen BK182.out 0
     have hfz10_1 := blk_frozen BK182.out 1
     have hfz10_2 := blk_frozen BK182.out 2
     have hfz10_3 := blk_frozen BK182.out 3
     go_wp2
     go_meet
     case rel => exact ⟨_, (true), (by first | rfl | (simp; done) | (simp [*]; done)), H', ⟨by first | omega | exact Nat.le_refl _⟩, ⟨by (with_reducible repeat (first | refine kN ?_ _ | refine blk_drew ?_ | refine kA ?_ _)); exact BK182.out⟩, ⟨by repeat (first | (with_reducible first | exact HB.out | apply bA | apply pN | apply bD | refine bS ?_ GE182.out) | exact HB.out)⟩⟩
    ·rw [if_neg c9] at H
     have c9b0 : decide ((l0_1.length : Int) < 1) = false := decide_eq_false c9
     have c9b1 : decide (l0_1.length < 1) = false := decide_eq_false (by omega)
     clear c9
     by_cases c11 : (l0_1.length : Int) > 6
     ·rw [if_pos c11] at H
      have c11b0 : decide (6 < (l0_1.length : Int)) = true := decide_eq_true c11
      have c11b1 : decide (6 < l0_1.length) = true := decide_eq_true (by omega)
      clear c11
      have H' := Aside0.mk H
      clear H
      have hcz12_0 : w3.cell? ⟨gb182, 0, none⟩ = some (.int .i64 a0_0) := (blk_cell BK182.out 0).trans rfl
      have hcz12_1 : w3.cell? ⟨gb182, 1, none⟩ = some (.slice A0_1 l0_1.length c0_1) := (blk_cell BK182.out 1).trans rfl
      have hcz12_2 : w3.cell? ⟨gb182, 2, none⟩ = some (.slice A0_2 l0_2.length c0_2) := (blk_cell BK182.out 2).trans rfl
      have hcz12_3 : w3.cell? ⟨gb182, 3, none⟩ = some (.slice A0_3 l0_3.length c0_3) := (blk_cell BK182.out 3).trans rfl
      have hfz12_0 := blk_frozen BK182.out 0
      have hfz12_1 := blk_frozen BK182.out 1
      have hfz12_2 := blk_frozen BK182.out 2
      have hfz12_3 := blk_frozen BK182.out 3
      go_wp2
      go_meet
      case rel => exact ⟨_, (true), (by first | rfl | (simp; done) | (simp [*]; done)), H', ⟨by first | omega | exact Nat.le_refl _⟩, ⟨by (with_reducible repeat (first | refine kN ?_ _ | refine blk_drew ?_ | refine kA ?_ _)); exact BK182.out⟩, ⟨by repeat (first | (with_reducible first | exact HB.out | apply bA | apply pN | apply bD | refine bS ?_ GE182.out) | exact HB.out)⟩⟩
     ·rw [if_neg c11] at H
      have c11b0 : decide (6 < (l0_1.length : Int)) = false := decide_eq_false c11
      have c11b1 : decide (6 < l0_1.length) = false := decide_eq_false (by omega)
      clear c11
      by_cases c13 : (l0_2.length : Int) = (l0_1.length : Int)
      ·rw [if_pos c13] at H
       have c13b0 : ((l0_2.length : Int) == (l0_1.length : Int)) = true := beq_iff_eq.mpr c13
       have c13b1 : ((l0_2.length : Int) != (l0_1.length : Int)) = false := bne_eq_false_iff_eq.mpr c13
       have c13b2 : (l0_2.length == l0_1.length) = true := by first | simpa using c13 | (simp at c13 ⊢; omega)
       clear c13
       have H' := Aside0.mk H
       clear H
       have hcz14_0 : w3.cell? ⟨gb182, 0, none⟩ = some (.int .i64 a0_0) := (blk_cell BK182.out 0).trans rfl
       have hcz14_1 : w3.cell? ⟨gb182, 1, none⟩ = some (.slice A0_1 l0_1.length c0_1) := (blk_cell BK182.out 1).trans rfl
       have hcz14_2 : w3.cell? ⟨gb182, 2, none⟩ = some (.slice A0_2 l0_2.length c0_2) := (blk_cell BK182.out 2).trans rfl
       have hcz14_3 : w3.cell? ⟨gb182, 3, none⟩ = some (.slice A0_3 l0_3.length c0_3) := (blk_cell BK182.out 3).trans rfl
       have hfz14_0 := blk_frozen BK182.out 0
       have hfz14_1 := blk_frozen BK182.out 1
       have hfz14_2 := blk_frozen BK182.out 2
       have hfz14_3 := blk_frozen BK182.out 3
       go_wp2
       go_meet
       case rel => exact ⟨_, (((l0_3.length : Int) != (l0_1.length : Int))), (by first | rfl | (simp; done) | (simp [*]; done)), H', ⟨by first | omega | exact Nat.le_refl _⟩, ⟨by (with_reducible repeat (first | refine kN ?_ _ | refine blk_drew ?_ | refine kA ?_ _)); exact BK182.out⟩, ⟨by repeat (first | (with_reducible first | exact HB.out | apply bA | apply pN | apply bD | refine bS ?_ GE182.out) | exact HB.out)⟩⟩
      ·rw [if_neg c13] at H
       have c13b0 : ((l0_2.length : Int) == (l0_1.length : Int)) = false := beq_eq_false_iff_ne.mpr c13
       have c13b1 : ((l0_2.length : Int) != (l0_1.length : Int)) = true := bne_iff_ne.mpr c13
       have c13b2 : (l0_2.length == l0_1.length) = false := by first | simpa using c13 | (simp at c13 ⊢; omega)
       have H' := Aside0.mk H
       clear H
       have hcz15_0 : w3.cell? ⟨gb182, 0, none⟩ = some (.int .i64 a0_0) := (blk_cell BK182.out 0).trans rfl
       have hcz15_1 : w3.cell? ⟨gb182, 1, none⟩ = some (.slice A0_1 l0_1.length c0_1) := (blk_cell BK182.out 1).trans rfl
       have hcz15_2 : w3.cell? ⟨gb182, 2, none⟩ = some (.slice A0_2 l0_2.length c0_2) := (blk_cell BK182.out 2).trans rfl
       have hcz15_3 : w3.cell? ⟨gb182, 3, none⟩ = some (.slice A0_3 l0_3.length c0_3) := (blk_cell BK182.out 3).trans rfl
       have hfz15_0 := blk_frozen BK182.out 0
       have hfz15_1 := blk_frozen BK182.out 1
       have hfz15_2 := blk_frozen BK182.out 2
       have hfz15_3 := blk_frozen BK182.out 3
       go_wp2
       go_meet
       case rel => exact ⟨_, (true), (by first | rfl | (simp; done) | (simp [*]; done)), H', ⟨by first | omega | exact Nat.le_refl _⟩, ⟨by (with_reducible repeat (first | refine kN ?_ _ | refine blk_drew ?_ | refine kA ?_ _)); exact BK182.out⟩, ⟨by repeat (first | (with_reducible first | exact HB.out | apply bA | apply pN | apply bD | refine bS ?_ GE182.out) | exact HB.out)⟩⟩
 case rest =>
  clear HC2
  try clear c1
  try clear c2
  try clear p2
  try clear c5
  try clear c5b0
  try clear c7
  try clear c7b0
  try clear c9
  try clear c9b0
  try clear c9b1
  try clear c11
  try clear c11b0
  try clear c11b1
  try clear c13
  try clear c13b0
  try clear c13b1
  try clear c13b2
  try clear hcz10_0
  try clear hcz10_1
  try clear hcz10_2
  try clear hcz10_3
  try clear hcz12_0
  try clear hcz12_1
  try clear hcz12_2
  try clear hcz12_3
  try clear hcz14_0
  try clear hcz14_1
  try clear hcz14_2
  try clear hcz14_3
  try clear hcz15_0
  try clear hcz15_1
  try clear hcz15_2
  try clear hcz15_3
  try clear hcz4_0
  try clear hcz4_1
  try clear hcz4_2
  try clear hcz4_3
  try clear hcz6_0
  try clear hcz6_1
  try clear hcz6_2
  try clear hcz6_3
  try clear hcz8_0
  try clear hcz8_1
  try clear hcz8_2
  try clear hcz8_3
  try clear hfz10_0
  try clear hfz10_1
  try clear hfz10_2
  try clear hfz10_3
  try clear hfz12_0
  try clear hfz12_1
  try clear hfz12_2
  try clear hfz12_3
  try clear hfz14_0
  try clear hfz14_1
  try clear hfz14_2
  try clear hfz14_3
  try clear hfz15_0
  try clear hfz15_1
  try clear hfz15_2
  try clear hfz15_3
  try clear hfz4_0
  try clear hfz4_1
  try clear hfz4_2
  try clear hfz4_3
  try clear hfz6_0
  try clear hfz6_1
  try clear hfz6_2
  try clear hfz6_3
  try clear hfz8_0
  try clear hfz8_1
  try clear hfz8_2
  try clear hfz8_3
  obtain ⟨kq, x41_1, rfl, HA, HJ1, BK182, HB⟩ := hcut
  cases kq with
  | zero => exact absurd HA.out (by simp [corbelref18_Encode.j0])
  | succ kj1 =>
   have H := HA.out
   clear HA
   simp only [corbelref18_Encode.j0] at H
   by_cases c16 : x41_1 = true
   ·subst c16
    have H1 : (some (⟨#[]⟩ : ByteArray)) = some r := by rw [if_pos rfl] at H; exact H
    clear H
    have H := H1
    clear H1
    obtain rfl := Option.some.inj H
    go_wp2
    go_ret
    exact ⟨by first | rfl | (simp [errW_none, errW_some] <;> rfl) | (simp [*, errW_none, errW_some] <;> rfl), by repeat (first | (with_reducible first | exact HB.out | apply bA | apply pN | apply bD | refine bS ?_ GE182.out) | exact HB.out)⟩
   ·replace c16 := Bool.eq_false_iff.mpr c16
    subst c16
    have H1 : ((corbelref01_Put.f a0_0 6).bind fun t183 => (if 2 + t183.size ≤ 9223372036854775807 then ((corbelref01_Put.f (l0_1.length : Int) 1).bind fun t184 => (if ((⟨#[67, 71]⟩ : ByteArray) ++ t183).size + t184.size ≤ 9223372036854775807 then (corbelref18_Encode.l0 kj1 (l0_1.length : Int) (((⟨#[67, 71]⟩ : ByteArray) ++ t183) ++ t184) (⟨#[]⟩ : ByteArray) 0 a0_0 l0_1 l0_2 l0_3) else (none))) else (none))) = some r := by rw [if_neg (show ¬ (false = true) by decide)] at H; exact H
    clear H
    have H := H1
    clear H1
    replace H := Option.bind_eq_some_iff.mp H
    obtain ⟨t183, A170, H⟩ := H
    replace H : (if 2 + t183.size ≤ 9223372036854775807 then ((corbelref01_Put.f (l0_1.length : Int) 1).bind fun t184 => (if ((⟨#[67, 71]⟩ : ByteArray) ++ t183).size + t184.size ≤ 9223372036854775807 then (corbelref18_Encode.l0 kj1 (l0_1.length : Int) (((⟨#[67, 71]⟩ : ByteArray) ++ t183) ++ t184) (⟨#[]⟩ : ByteArray) 0 a0_0 l0_1 l0_2 l0_3) else (none))) else (none)) = some r := H
    have A17 := Aside0.mk A170
    clear A170
    by_cases c18 : 2 + t183.size ≤ 9223372036854775807
    ·rw [if_pos c18] at H
     have c18b0 := eq_true c18
     have c18b1 : decide (2 + t183.size ≤ 9223372036854775807) = true := decide_eq_true c18
     try have c18b2 : (9223372036854775807 < 2 + t183.size) = False := eq_false (Nat.not_lt.2 c18)
     replace H := Option.bind_eq_some_iff.mp H
     obtain ⟨t184, A190, H⟩ := H
     replace H : (if ((⟨#[67, 71]⟩ : ByteArray) ++ t183).size + t184.size ≤ 9223372036854775807 then (corbelref18_Encode.l0 kj1 (l0_1.length : Int) (((⟨#[67, 71]⟩ : ByteArray) ++ t183) ++ t184) (⟨#[]⟩ : ByteArray) 0 a0_0 l0_1 l0_2 l0_3) else (none)) = some r := H
     have A19 := Aside0.mk A190
     clear A190
     by_cases c20 : ((⟨#[67, 71]⟩ : ByteArray) ++ t183).size + t184.size ≤ 9223372036854775807
     ·rw [if_pos c20] at H
      have c20b0 := eq_true c20
      have c20b1 : decide (((⟨#[67, 71]⟩ : ByteArray) ++ t183).size + t184.size ≤ 9223372036854775807) = true := decide_eq_true c20
      try have c20b2 : (9223372036854775807 < ((⟨#[67, 71]⟩ : ByteArray) ++ t183).size + t184.size) = False := eq_false (Nat.not_lt.2 c20)
      have c20b3 : (9223372036854775807 < 2 + t183.size + t184.size) = False := eq_false (by have h_ := c20; (try simp only [ByteArray.size_append] at h_); have e0_ : (⟨#[67, 71]⟩ : ByteArray).size = 2 := rfl; omega)
      have H' := Aside0.mk H
      clear H
      have hcz21_0 : wc.cell? ⟨gb182, 0, none⟩ = some (.int .i64 a0_0) := (blk_cell BK182.out 0).trans rfl
      have hcz21_1 : wc.cell? ⟨gb182, 1, none⟩ = some (.slice A0_1 l0_1.length c0_1) := (blk_cell BK182.out 1).trans rfl
      have hcz21_2 : wc.cell? ⟨gb182, 2, none⟩ = some (.slice A0_2 l0_2.length c0_2) := (blk_cell BK182.out 2).trans rfl
      have hcz21_3 : wc.cell? ⟨gb182, 3, none⟩ = some (.slice A0_3 l0_3.length c0_3) := (blk_cell BK182.out 3).trans rfl
      have hfz21_0 := blk_frozen BK182.out 0
      have hfz21_1 := blk_frozen BK182.out 1
      have hfz21_2 := blk_frozen BK182.out 2
      have hfz21_3 := blk_frozen BK182.out 3
      go_wp2_with (first | ((with_reducible refine gate_callee (f := 37) rfl ?_); refine goesL_ (some 44) rfl rfl Tryd.func37 (by kernel_rfl) rfl #[.int .i64 a0_0, .int .i64 6] rfl (by (try simp only [List.map_toArray, List.map_cons, List.map_nil]); first | done | rfl | (simp only [List.length_drop, List.length_take]; rfl)) ?_; (with_reducible refine (corbelref01_Put.calls a0_0 6 t183 _ A17.out).mono ?_); rintro e w22 ⟨rfl, hb⟩; refine ⟨_, rfl, ?_⟩; have n0_ := Aside0.mk (kB (g := gb182) (o := .cells #[.int .i64 a0_0, .slice A0_1 l0_1.length c0_1, .slice A0_2 l0_2.length c0_2, .slice A0_3 l0_3.length c0_3] 43 (0, 0)) (by (with_reducible repeat (first | refine kN ?_ _ | refine blk_drew ?_ | refine kA ?_ _)); exact BK182.out) hb); have n1_ := Aside0.mk (below_step (by repeat (first | (with_reducible first | exact HB.out | apply bA | apply pN | apply bD | refine bS ?_ GE182.out) | exact HB.out)) hb); clear BK182; clear HB; have BK182 := n0_; have HB := n1_; clear n0_ n1_; (try clear hb); (try clear hb2); (try clear hk); (try clear hi)) | ((with_reducible refine gate_callee (f := 37) rfl ?_); refine goesL_ (some 47) rfl rfl Tryd.func37 (by kernel_rfl) rfl #[.int .i64 (l0_1.length : Int), .int .i64 1] rfl (by (try simp only [List.map_toArray, List.map_cons, List.map_nil]); first | done | rfl | (simp only [List.length_drop, List.length_take]; rfl)) ?_; (with_reducible refine (corbelref01_Put.calls (l0_1.length : Int) 1 t184 _ A19.out).mono ?_); rintro e w23 ⟨rfl, hb⟩; refine ⟨_, rfl, ?_⟩; have n0_ := Aside0.mk (kB (g := gb182) (o := .cells #[.int .i64 a0_0, .slice A0_1 l0_1.length c0_1, .slice A0_2 l0_2.length c0_2, .slice A0_3 l0_3.length c0_3] 43 (0, 0)) (by (with_reducible repeat (first | refine kN ?_ _ | refine blk_drew ?_ | refine kA ?_ _)); exact BK182.out) hb); have n1_ := Aside0.mk (below_step (by repeat (first | (with_reducible first | exact HB.out | apply bA | apply pN | apply bD | refine bS ?_ GE182.out) | exact HB.out)) hb); clear BK182; clear HB; have BK182 := n0_; have HB := n1_; clear n0_ n1_; (try clear hb); (try clear hb2); (try clear hk); (try clear hi)))
      go_loopg [4, 5, 6] kj1 (fun kq v4 v5 v6 w' => ∃ (x4_2 : ByteArray) (x5_2 : ByteArray) (x6_2 : Int), v4 = .string x4_2 ∧ v5 = .string x5_2 ∧ v6 = .int .i64 x6_2 ∧ Aside0 (corbelref18_Encode.l0 kq (l0_1.length : Int) x4_2 x5_2 x6_2 a0_0 l0_1 l0_2 l0_3 = some r) ∧ Aside0 (kq ≤ kj1) ∧ Aside0 (w'.heap[gb182]? = some (.cells #[.int .i64 a0_0, (.slice A0_1 l0_1.length c0_1), (.slice A0_2 l0_2.length c0_2), (.slice A0_3 l0_3.length c0_3)] 43 (0, 0))) ∧ Aside0 (Below w.heap.size w w'))
      case atStart => exact ⟨(((⟨#[67, 71]⟩ : ByteArray) ++ t183) ++ t184), ((⟨#[]⟩ : ByteArray)), (0), (by first | rfl | (simp; done) | (simp [*]; done)), (by first | rfl | (simp; done) | (simp [*]; done)), (by first | rfl | (simp; done) | (simp [*]; done)), H', ⟨Nat.le_refl _⟩, ⟨by (with_reducible repeat (first | refine kN ?_ _ | refine blk_drew ?_ | refine kA ?_ _)); exact BK182.out⟩, ⟨by repeat (first | (with_reducible first | exact HB.out | apply bA | apply pN | apply bD | refine bS ?_ GE182.out) | exact HB.out)⟩⟩
      case round =>
       clear H'
       try clear c1
       try clear c2
       try clear p2
       try clear c3
       try clear c5
       try clear c5b0
       try clear c7
       try clear c7b0
       try clear c9
       try clear c9b0
       try clear c9b1
       try clear c11
       try clear c11b0
       try clear c11b1
       try clear c13
       try clear c13b0
       try clear c13b1
       try clear c13b2
       try clear c16
       try clear c18
       try clear c18b0
       try clear c18b1
       try clear c18b2
       try clear c20
       try clear c20b0
       try clear c20b1
       try clear c20b2
       try clear hcz10_0
       try clear hcz10_1
       try clear hcz10_2
       try clear hcz10_3
       try clear hcz12_0
       try clear hcz12_1
       try clear hcz12_2
       try clear hcz12_3
       try clear hcz14_0
       try clear hcz14_1
       try clear hcz14_2
       try clear hcz14_3
       try clear hcz15_0
       try clear hcz15_1
       try clear hcz15_2
       try clear hcz15_3
       try clear hcz21_0
       try clear hcz21_1
       try clear hcz21_2
       try clear hcz21_3
       try clear hcz4_0
       try clear hcz4_1
       try clear hcz4_2
       try clear hcz4_3
       try clear hcz6_0
       try clear hcz6_1
       try clear hcz6_2
       try clear hcz6_3
       try clear hcz8_0
       try clear hcz8_1
       try clear hcz8_2
       try clear hcz8_3
       try clear hfz10_0
       try clear hfz10_1
       try clear hfz10_2
       try clear hfz10_3
       try clear hfz12_0
       try clear hfz12_1
       try clear hfz12_2
       try clear hfz12_3
       try clear hfz14_0
       try clear hfz14_1
       try clear hfz14_2
       try clear hfz14_3
       try clear hfz15_0
       try clear hfz15_1
       try clear hfz15_2
       try clear hfz15_3
       try clear hfz21_0
       try clear hfz21_1
       try clear hfz21_2
       try clear hfz21_3
       try clear hfz4_0
       try clear hfz4_1
       try clear hfz4_2
       try clear hfz4_3
       try clear hfz6_0
       try clear hfz6_1
       try clear hfz6_2
       try clear hfz6_3
       try clear hfz8_0
       try clear hfz8_1
       try clear hfz8_2
       try clear hfz8_3
       try clear p2
       obtain ⟨x4_2, x5_2, x6_2, rfl, rfl, rfl, HA, HK2, BK182, HB⟩ := hrel
       cases gk with
       | zero => exact absurd HA.out (by simp [corbelref18_Encode.l0])
       | succ k2 =>
        have H := HA.out
        clear HA
        simp only [corbelref18_Encode.l0] at H
        by_cases c24 : x6_2 < (l0_1.length : Int)
        ·rw [if_pos c24] at H
         have c24b0 : decide (x6_2 < (l0_1.length : Int)) = true := decide_eq_true c24
         clear c24
         by_cases c25 : 0 ≤ x6_2
         ·rw [if_pos c25] at H
          have c25b0 : decide (0 ≤ x6_2) = true := decide_eq_true c25
          clear c25
          by_cases c26 : x6_2 < (l0_1.length : Int)
          ·rw [if_pos c26] at H
           have c26b0 : decide (x6_2 < (l0_1.length : Int)) = true := decide_eq_true c26
           clear c26
           have HC27 := Aside0.mk H
           clear H
           have hcz28_0 : wr.cell? ⟨gb182, 0, none⟩ = some (.int .i64 a0_0) := (blk_cell BK182.out 0).trans rfl
           have hcz28_1 : wr.cell? ⟨gb182, 1, none⟩ = some (.slice A0_1 l0_1.length c0_1) := (blk_cell BK182.out 1).trans rfl
           have hcz28_2 : wr.cell? ⟨gb182, 2, none⟩ = some (.slice A0_2 l0_2.length c0_2) := (blk_cell BK182.out 2).trans rfl
           have hcz28_3 : wr.cell? ⟨gb182, 3, none⟩ = some (.slice A0_3 l0_3.length c0_3) := (blk_cell BK182.out 3).trans rfl
           have hfz28_0 := blk_frozen BK182.out 0
           have hfz28_1 := blk_frozen BK182.out 1
           have hfz28_2 := blk_frozen BK182.out 2
           have hfz28_3 := blk_frozen BK182.out 3
           have p185 : 0 ≤ (x6_2 : Int) := of_decide_eq_true (by first | (with_reducible assumption) | assumption)
           have q185 : x6_2 < (l0_1.length : Int) := of_decide_eq_true (by first | (with_reducible assumption) | assumption)
           obtain ⟨ad185, e185, hx185_0⟩ := Kd.at_int HR0_1.out x6_2 p185 q185
           cases e185
           replace hx185_0 := (HB.out.cell (World.block_lt_of_cell? w _ hx185_0)).trans hx185_0
           replace p185 := eq_true p185
           replace q185 := eq_true q185
           go_upto_region 10 with (fail)
           go_cut [64] (fun v64 wc => ∃ (kq : Nat) (x64_26 : Bool), v64 = .bool x64_26 ∧ Aside0 (corbelref18_Encode.j2 kq (l0_1.length : Int) x4_2 x5_2 x6_2 (rd l0_1 x6_2) x64_26 a0_0 l0_1 l0_2 l0_3 = some r) ∧ Aside0 (kq ≤ k2) ∧ Aside0 (wc.heap[gb182]? = some (.cells #[.int .i64 a0_0, (.slice (some ad185) l0_1.length c0_1), (.slice A0_2 l0_2.length c0_2), (.slice A0_3 l0_3.length c0_3)] 43 (0, 0))) ∧ Aside0 (Below w.heap.size w wc))
           case first =>
            have H := HC27.out
            clear HC27
            by_cases c29 : (rd l0_1 x6_2) < 0
            ·rw [if_pos c29] at H
             have c29b0 : decide ((rd l0_1 x6_2) < 0) = true := decide_eq_true c29
             clear c29
             (first | rw [c29b0] | (simp only [i64_w, i32_w]; rw [c29b0]) | skip)
             have H' := Aside0.mk H
             clear H
             go_wp2
             go_meet
             case rel => exact ⟨_, (true), (by first | rfl | (simp; done) | (simp [*]; done)), H', ⟨by have := HJ1.out; have := HK2.out; first | omega | exact Nat.le_refl _⟩, ⟨by (with_reducible repeat (first | refine kN ?_ _ | refine blk_drew ?_ | refine kA ?_ _)); exact BK182.out⟩, ⟨by repeat (first | (with_reducible first | exact HB.out | apply bA | apply pN | apply bD | refine bS ?_ GE182.out) | exact HB.out)⟩⟩
            ·rw [if_neg c29] at H
             have c29b0 : decide ((rd l0_1 x6_2) < 0) = false := decide_eq_false c29
             clear c29
             (first | rw [c29b0] | (simp only [i64_w, i32_w]; rw [c29b0]) | skip)
             have H' := Aside0.mk H
             clear H
             go_wp2
             go_meet
             case rel => exact ⟨_, (decide ((rd l0_1 x6_2) > 2147483647)), (by first | rfl | (simp; done) | (simp [*]; done)), H', ⟨by have := HJ1.out; have := HK2.out; first | omega | exact Nat.le_refl _⟩, ⟨by (with_reducible repeat (first | refine kN ?_ _ | refine blk_drew ?_ | refine kA ?_ _)); exact BK182.out⟩, ⟨by repeat (first | (with_reducible first | exact HB.out | apply bA | apply pN | apply bD | refine bS ?_ GE182.out) | exact HB.out)⟩⟩
           case rest =>
            clear HC27
            try clear c1
            try clear p1
            try clear q1
            try clear hx1
            try clear c2
            try clear p2
            try clear c3
            try clear c5
            try clear c5b0
            try clear c7
            try clear c7b0
            try clear c9
            try clear c9b0
            try clear c9b1
            try clear c11
            try clear c11b0
            try clear c11b1
            try clear c13
            try clear c13b0
            try clear c13b1
            try clear c13b2
            try clear c16
            try clear c18
            try clear c18b0
            try clear c18b1
            try clear c18b2
            try clear p18
            try clear q18
            try clear hx18
            try clear c20
            try clear c20b0
            try clear c20b1
            try clear c20b2
            try clear c24
            try clear c24b0
            try clear c25
            try clear c25b0
            try clear c26
            try clear c26b0
            try clear c29
            try clear c29b0
            try clear hcz10_0
            try clear hcz10_1
            try clear hcz10_2
            try clear hcz10_3
            try clear hcz12_0
            try clear hcz12_1
            try clear hcz12_2
            try clear hcz12_3
            try clear hcz14_0
            try clear hcz14_1
            try clear hcz14_2
            try clear hcz14_3
            try clear hcz15_0
            try clear hcz15_1
            try clear hcz15_2
            try clear hcz15_3
            try clear hcz21_0
            try clear hcz21_1
            try clear hcz21_2
            try clear hcz21_3
            try clear hcz28_0
            try clear hcz28_1
            try clear hcz28_2
            try clear hcz28_3
            try clear hcz4_0
            try clear hcz4_1
            try clear hcz4_2
            try clear hcz4_3
            try clear hcz6_0
            try clear hcz6_1
            try clear hcz6_2
            try clear hcz6_3
            try clear hcz8_0
            try clear hcz8_1
            try clear hcz8_2
            try clear hcz8_3
            try clear hfz10_0
            try clear hfz10_1
            try clear hfz10_2
            try clear hfz10_3
            try clear hfz12_0
            try clear hfz12_1
            try clear hfz12_2
            try clear hfz12_3
            try clear hfz14_0
            try clear hfz14_1
            try clear hfz14_2
            try clear hfz14_3
            try clear hfz15_0
            try clear hfz15_1
            try clear hfz15_2
            try clear hfz15_3
            try clear hfz21_0
            try clear hfz21_1
            try clear hfz21_2
            try clear hfz21_3
            try clear hfz28_0
            try clear hfz28_1
            try clear hfz28_2
            try clear hfz28_3
            try clear hfz4_0
            try clear hfz4_1
            try clear hfz4_2
            try clear hfz4_3
            try clear hfz6_0
            try clear hfz6_1
            try clear hfz6_2
            try clear hfz6_3
            try clear hfz8_0
            try clear hfz8_1
            try clear hfz8_2
            try clear hfz8_3
            try clear hx185_0
            try clear p185
            try clear p2
            try clear q185
            obtain ⟨kq, x64_26, rfl, HA, HJ26, BK182, HB⟩ := hcut
            cases kq with
            | zero => exact absurd HA.out (by simp [corbelref18_Encode.j2])
            | succ kj26 =>
             have H := HA.out
             clear HA
             simp only [corbelref18_Encode.j2] at H
             by_cases c30 : x64_26 = true
             ·subst c30
              have H1 : (some (⟨#[]⟩ : ByteArray)) = some r := by rw [if_pos rfl] at H; exact H
              clear H
              have H := H1
              clear H1
              obtain rfl := Option.some.inj H
              go_wp2
              go_ret
              exact ⟨by first | rfl | (simp [errW_none, errW_some] <;> rfl) | (simp [*, errW_none, errW_some] <;> rfl), by repeat (first | (with_reducible first | exact HB.out | apply bA | apply pN | apply bD | refine bS ?_ GE182.out) | exact HB.out)⟩
             ·replace c30 := Bool.eq_false_iff.mpr c30
              subst c30
              have H1 : (if 0 ≤ x6_2 then (if x6_2 < (l0_2.length : Int) then (if rdOf false l0_2 x6_2 = true then (if x6_2 < (l0_3.length : Int) then (if (rdOf ByteArray.empty l0_3 x6_2).toList = ([] : List UInt8) then ((corbelref01_Put.f (wrap64 ((rd l0_1 x6_2) + 2147483648)) 4).bind fun t190 => (if x4_2.size + t190.size ≤ 9223372036854775807 then (if x5_2.size + (rdOf ByteArray.empty l0_3 x6_2).size ≤ 9223372036854775807 then (corbelref18_Encode.l0 kj26 (l0_1.length : Int) (x4_2 ++ t190) (x5_2 ++ (rdOf ByteArray.empty l0_3 x6_2)) (wrap64 (x6_2 + 1)) a0_0 l0_1 l0_2 l0_3) else (none)) else (none))) else (some (⟨#[]⟩ : ByteArray))) else (none)) else (if x6_2 < (l0_3.length : Int) then (if ((rdOf ByteArray.empty l0_3 x6_2).size : Int) = 64 then ((corbelref01_Put.f (rd l0_1 x6_2) 4).bind fun t195 => (if x4_2.size + t195.size ≤ 9223372036854775807 then (if x5_2.size + (rdOf ByteArray.empty l0_3 x6_2).size ≤ 9223372036854775807 then (corbelref18_Encode.l0 kj26 (l0_1.length : Int) (x4_2 ++ t195) (x5_2 ++ (rdOf ByteArray.empty l0_3 x6_2)) (wrap64 (x6_2 + 1)) a0_0 l0_1 l0_2 l0_3) else (none)) else (none))) else (some (⟨#[]⟩ : ByteArray))) else (none))) else (none)) else (none)) = some r := by rw [if_neg (show ¬ (false = true) by decide)] at H; exact H
              clear H
              have H := H1
              clear H1
              by_cases c31 : 0 ≤ x6_2
              ·rw [if_pos c31] at H
               have c31b0 : decide (0 ≤ x6_2) = true := decide_eq_true c31
               clear c31
               by_cases c32 : x6_2 < (l0_2.length : Int)
               ·rw [if_pos c32] at H
                have c32b0 : decide (x6_2 < (l0_2.length : Int)) = true := decide_eq_true c32
                clear c32
                obtain ⟨bq33, hbq33⟩ : ∃ b_ : Bool, b_ = (rdOf false l0_2 x6_2) := ⟨_, rfl⟩
                replace H : (if bq33 = true then (if x6_2 < (l0_3.length : Int) then (if (rdOf ByteArray.empty l0_3 x6_2).toList = ([] : List UInt8) then ((corbelref01_Put.f (wrap64 ((rd l0_1 x6_2) + 2147483648)) 4).bind fun t190 => (if x4_2.size + t190.size ≤ 9223372036854775807 then (if x5_2.size + (rdOf ByteArray.empty l0_3 x6_2).size ≤ 9223372036854775807 then (corbelref18_Encode.l0 kj26 (l0_1.length : Int) (x4_2 ++ t190) (x5_2 ++ (rdOf ByteArray.empty l0_3 x6_2)) (wrap64 (x6_2 + 1)) a0_0 l0_1 l0_2 l0_3) else (none)) else (none))) else (some (⟨#[]⟩ : ByteArray))) else (none)) else (if x6_2 < (l0_3.length : Int) then (if ((rdOf ByteArray.empty l0_3 x6_2).size : Int) = 64 then ((corbelref01_Put.f (rd l0_1 x6_2) 4).bind fun t195 => (if x4_2.size + t195.size ≤ 9223372036854775807 then (if x5_2.size + (rdOf ByteArray.empty l0_3 x6_2).size ≤ 9223372036854775807 then (corbelref18_Encode.l0 kj26 (l0_1.length : Int) (x4_2 ++ t195) (x5_2 ++ (rdOf ByteArray.empty l0_3 x6_2)) (wrap64 (x6_2 + 1)) a0_0 l0_1 l0_2 l0_3) else (none)) else (none))) else (some (⟨#[]⟩ : ByteArray))) else (none))) = some r := by rw [← hbq33] at H; exact H
                have Nbq33 := Aside0.mk hbq33
                clear hbq33
                by_cases c34 : bq33 = true
                ·subst c34
                 have H1 : (if x6_2 < (l0_3.length : Int) then (if (rdOf ByteArray.empty l0_3 x6_2).toList = ([] : List UInt8) then ((corbelref01_Put.f (wrap64 ((rd l0_1 x6_2) + 2147483648)) 4).bind fun t190 => (if x4_2.size + t190.size ≤ 9223372036854775807 then (if x5_2.size + (rdOf ByteArray.empty l0_3 x6_2).size ≤ 9223372036854775807 then (corbelref18_Encode.l0 kj26 (l0_1.length : Int) (x4_2 ++ t190) (x5_2 ++ (rdOf ByteArray.empty l0_3 x6_2)) (wrap64 (x6_2 + 1)) a0_0 l0_1 l0_2 l0_3) else (none)) else (none))) else (some (⟨#[]⟩ : ByteArray))) else (none)) = some r := by rw [if_pos rfl] at H; exact H
                 clear H
                 have H := H1
                 clear H1
                 by_cases c35 : x6_2 < (l0_3.length : Int)
                 ·rw [if_pos c35] at H
                  have c35b0 : decide (x6_2 < (l0_3.length : Int)) = true := decide_eq_true c35
                  clear c35
                  by_cases c36 : (rdOf ByteArray.empty l0_3 x6_2).toList = ([] : List UInt8)
                  ·rw [if_pos c36] at H
                   have c36b0 : ((rdOf ByteArray.empty l0_3 x6_2).toList == ([] : List UInt8)) = true := beq_iff_eq.mpr c36
                   have c36b1 : ((rdOf ByteArray.empty l0_3 x6_2).toList != ([] : List UInt8)) = false := bne_eq_false_iff_eq.mpr c36
                   clear c36
                   replace H := Option.bind_eq_some_iff.mp H
                   obtain ⟨t190, A370, H⟩ := H
                   replace H : (if x4_2.size + t190.size ≤ 9223372036854775807 then (if x5_2.size + (rdOf ByteArray.empty l0_3 x6_2).size ≤ 9223372036854775807 then (corbelref18_Encode.l0 kj26 (l0_1.length : Int) (x4_2 ++ t190) (x5_2 ++ (rdOf ByteArray.empty l0_3 x6_2)) (wrap64 (x6_2 + 1)) a0_0 l0_1 l0_2 l0_3) else (none)) else (none)) = some r := H
                   have A37 := Aside0.mk A370
                   clear A370
                   by_cases c38 : x4_2.size + t190.size ≤ 9223372036854775807
                   ·rw [if_pos c38] at H
                    have c38b0 := eq_true c38
                    have c38b1 : decide (x4_2.size + t190.size ≤ 9223372036854775807) = true := decide_eq_true c38
                    try have c38b2 : (9223372036854775807 < x4_2.size + t190.size) = False := eq_false (Nat.not_lt.2 c38)
                    by_cases c39 : x5_2.size + (rdOf ByteArray.empty l0_3 x6_2).size ≤ 9223372036854775807
                    ·rw [if_pos c39] at H
                     have c39b0 := eq_true c39
                     have c39b1 : decide (x5_2.size + (rdOf ByteArray.empty l0_3 x6_2).size ≤ 9223372036854775807) = true := decide_eq_true c39
                     try have c39b2 : (9223372036854775807 < x5_2.size + (rdOf ByteArray.empty l0_3 x6_2).size) = False := eq_false (Nat.not_lt.2 c39)
                     have H' := Aside0.mk H
                     clear H
                     have hcz40_0 : wc.cell? ⟨gb182, 0, none⟩ = some (.int .i64 a0_0) := (blk_cell BK182.out 0).trans rfl
                     have hcz40_1 : wc.cell? ⟨gb182, 1, none⟩ = some (.slice (some ad185) l0_1.length c0_1) := (blk_cell BK182.out 1).trans rfl
                     have hcz40_2 : wc.cell? ⟨gb182, 2, none⟩ = some (.slice A0_2 l0_2.length c0_2) := (blk_cell BK182.out 2).trans rfl
                     have hcz40_3 : wc.cell? ⟨gb182, 3, none⟩ = some (.slice A0_3 l0_3.length c0_3) := (blk_cell BK182.out 3).trans rfl
                     have hfz40_0 := blk_frozen BK182.out 0
                     have hfz40_1 := blk_frozen BK182.out 1
                     have hfz40_2 := blk_frozen BK182.out 2
                     have hfz40_3 := blk_frozen BK182.out 3
                     have p186 : 0 ≤ (x6_2 : Int) := of_decide_eq_true (by first | (with_reducible assumption) | assumption)
                     have q186 : x6_2 < (l0_2.length : Int) := of_decide_eq_true (by first | (with_reducible assumption) | assumption)
                     obtain ⟨ad186, e186, hx186_0⟩ := Kd.at_bool HR0_2.out x6_2 p186 q186
                     (try rw [← Nbq33.out] at hx186_0)
                     cases e186
                     replace hx186_0 := (HB.out.cell (World.block_lt_of_cell? w _ hx186_0)).trans hx186_0
                     replace p186 := eq_true p186
                     replace q186 := eq_true q186
                     have p187 : 0 ≤ (x6_2 : Int) := of_decide_eq_true (by first | (with_reducible assumption) | assumption)
                     have q187 : x6_2 < (l0_2.length : Int) := of_decide_eq_true (by first | (with_reducible assumption) | assumption)
                     obtain ⟨ad187, e187, hx187_0⟩ := Kd.at_bool HR0_2.out x6_2 p187 q187
                     (try rw [← Nbq33.out] at hx187_0)
                     obtain rfl : ad186 = ad187 := (by injection e187)
                     replace hx187_0 := (HB.out.cell (World.block_lt_of_cell? w _ hx187_0)).trans hx187_0
                     replace p187 := eq_true p187
                     replace q187 := eq_true q187
                     have p188 : 0 ≤ (x6_2 : Int) := of_decide_eq_true (by first | (with_reducible assumption) | assumption)
                     have q188 : x6_2 < (l0_3.length : Int) := of_decide_eq_true (by first | (with_reducible assumption) | assumption)
                     obtain ⟨ad188, e188, hx188_0⟩ := Kd.at_string HR0_3.out x6_2 p188 q188
                     cases e188
                     replace hx188_0 := (HB.out.cell (World.block_lt_of_cell? w _ hx188_0)).trans hx188_0
                     replace p188 := eq_true p188
                     replace q188 := eq_true q188
                     have p189 : 0 ≤ (x6_2 : Int) := of_decide_eq_true (by first | (with_reducible assumption) | assumption)
                     have q189 : x6_2 < (l0_2.length : Int) := of_decide_eq_true (by first | (with_reducible assumption) | assumption)
                     obtain ⟨ad189, e189, hx189_0⟩ := Kd.at_bool HR0_2.out x6_2 p189 q189
                     (try rw [← Nbq33.out] at hx189_0)
                     obtain rfl : ad186 = ad189 := (by injection e189)
                     replace hx189_0 := (HB.out.cell (World.block_lt_of_cell? w _ hx189_0)).trans hx189_0
                     replace p189 := eq_true p189
                     replace q189 := eq_true q189
                     go_wp2_with (first | ((with_reducible refine gate_callee (f := 37) rfl ?_); refine goesL_ (some 104) rfl rfl Tryd.func37 (by kernel_rfl) rfl #[.int .i64 (wrap64 ((rd l0_1 x6_2) + 2147483648)), .int .i64 4] rfl (by (try simp only [List.map_toArray, List.map_cons, List.map_nil]); first | done | rfl | (simp only [List.length_drop, List.length_take]; rfl)) ?_; (with_reducible refine (corbelref01_Put.calls (wrap64 ((rd l0_1 x6_2) + 2147483648)) 4 t190 _ A37.out).mono ?_); rintro e w41 ⟨rfl, hb⟩; refine ⟨_, rfl, ?_⟩; have n0_ := Aside0.mk (kB (g := gb182) (o := .cells #[.int .i64 a0_0, .slice (some ad185) l0_1.length c0_1, .slice (some ad186) l0_2.length c0_2, .slice (some ad188) l0_3.length c0_3] 43 (0, 0)) (by (with_reducible repeat (first | refine kN ?_ _ | refine blk_drew ?_ | refine kA ?_ _)); exact BK182.out) hb); have n1_ := Aside0.mk (below_step (by repeat (first | (with_reducible first | exact HB.out | apply bA | apply pN | apply bD | refine bS ?_ GE182.out) | exact HB.out)) hb); clear BK182; clear HB; have BK182 := n0_; have HB := n1_; clear n0_ n1_; (try clear hb); (try clear hb2); (try clear hk); (try clear hi); have hcz42_0 : w41.cell? ⟨gb182, 0, none⟩ = some (.int .i64 a0_0) := (blk_cell BK182.out 0).trans rfl; have hcz42_1 : w41.cell? ⟨gb182, 1, none⟩ = some (.slice (some ad185) l0_1.length c0_1) := (blk_cell BK182.out 1).trans rfl; have hcz42_2 : w41.cell? ⟨gb182, 2, none⟩ = some (.slice (some ad186) l0_2.length c0_2) := (blk_cell BK182.out 2).trans rfl; have hcz42_3 : w41.cell? ⟨gb182, 3, none⟩ = some (.slice (some ad188) l0_3.length c0_3) := (blk_cell BK182.out 3).trans rfl; have hfz42_0 := blk_frozen BK182.out 0; have hfz42_1 := blk_frozen BK182.out 1; have hfz42_2 := blk_frozen BK182.out 2; have hfz42_3 := blk_frozen BK182.out 3; have p191 : 0 ≤ (x6_2 : Int) := of_decide_eq_true (by first | (with_reducible assumption) | assumption); have q191 : x6_2 < (l0_3.length : Int) := of_decide_eq_true (by first | (with_reducible assumption) | assumption); obtain ⟨ad191, e191, hx191_0⟩ := Kd.at_string HR0_3.out x6_2 p191 q191; obtain rfl : ad188 = ad191 := (by injection e191); replace hx191_0 := (HB.out.cell (World.block_lt_of_cell? w _ hx191_0)).trans hx191_0; replace p191 := eq_true p191; replace q191 := eq_true q191))
                     go_roundg kj26
                     case measure => have := HJ1.out; have := HK2.out; have := HJ26.out; omega
                     case rel => exact ⟨(x4_2 ++ t190), (x5_2 ++ (rdOf ByteArray.empty l0_3 x6_2)), (wrap64 (x6_2 + 1)), (by first | rfl | (simp; done) | (simp [*]; done)), (by first | rfl | (simp; done) | (simp [*]; done)), (by first | rfl | (simp; done) | (simp [*]; done)), H', ⟨by have := HJ1.out; have := HK2.out; have := HJ26.out; omega⟩, ⟨by (with_reducible repeat (first | refine kN ?_ _ | refine blk_drew ?_ | refine kA ?_ _)); exact BK182.out⟩, ⟨by repeat (first | (with_reducible first | exact HB.out | apply bA | apply pN | apply bD | refine bS ?_ GE182.out) | exact HB.out)⟩⟩
                    ·rw [if_neg c39] at H
                     exact absurd H (by simp)
                   ·rw [if_neg c38] at H
                    exact absurd H (by simp)
                  ·rw [if_neg c36] at H
                   have c36b0 : ((rdOf ByteArray.empty l0_3 x6_2).toList == ([] : List UInt8)) = false := beq_eq_false_iff_ne.mpr c36
                   have c36b1 : ((rdOf ByteArray.empty l0_3 x6_2).toList != ([] : List UInt8)) = true := bne_iff_ne.mpr c36
                   obtain rfl := Option.some.inj H
                   have hcz43_0 : wc.cell? ⟨gb182, 0, none⟩ = some (.int .i64 a0_0) := (blk_cell BK182.out 0).trans rfl
                   have hcz43_1 : wc.cell? ⟨gb182, 1, none⟩ = some (.slice (some ad185) l0_1.length c0_1) := (blk_cell BK182.out 1).trans rfl
                   have hcz43_2 : wc.cell? ⟨gb182, 2, none⟩ = some (.slice A0_2 l0_2.length c0_2) := (blk_cell BK182.out 2).trans rfl
                   have hcz43_3 : wc.cell? ⟨gb182, 3, none⟩ = some (.slice A0_3 l0_3.length c0_3) := (blk_cell BK182.out 3).trans rfl
                   have hfz43_0 := blk_frozen BK182.out 0
                   have hfz43_1 := blk_frozen BK182.out 1
                   have hfz43_2 := blk_frozen BK182.out 2
                   have hfz43_3 := blk_frozen BK182.out 3
                   have p186 : 0 ≤ (x6_2 : Int) := of_decide_eq_true (by first | (with_reducible assumption) | assumption)
                   have q186 : x6_2 < (l0_2.length : Int) := of_decide_eq_true (by first | (with_reducible assumption) | assumption)
                   obtain ⟨ad186, e186, hx186_0⟩ := Kd.at_bool HR0_2.out x6_2 p186 q186
                   (try rw [← Nbq33.out] at hx186_0)
                   cases e186
                   replace hx186_0 := (HB.out.cell (World.block_lt_of_cell? w _ hx186_0)).trans hx186_0
                   replace p186 := eq_true p186
                   replace q186 := eq_true q186
                   have p187 : 0 ≤ (x6_2 : Int) := of_decide_eq_true (by first | (with_reducible assumption) | assumption)
                   have q187 : x6_2 < (l0_2.length : Int) := of_decide_eq_true (by first | (with_reducible assumption) | assumption)
                   obtain ⟨ad187, e187, hx187_0⟩ := Kd.at_bool HR0_2.out x6_2 p187 q187
                   (try rw [← Nbq33.out] at hx187_0)
                   obtain rfl : ad186 = ad187 := (by injection e187)
                   replace hx187_0 := (HB.out.cell (World.block_lt_of_cell? w _ hx187_0)).trans hx187_0
                   replace p187 := eq_true p187
                   replace q187 := eq_true q187
                   have p188 : 0 ≤ (x6_2 : Int) := of_decide_eq_true (by first | (with_reducible assumption) | assumption)
                   have q188 : x6_2 < (l0_3.length : Int) := of_decide_eq_true (by first | (with_reducible assumption) | assumption)
                   obtain ⟨ad188, e188, hx188_0⟩ := Kd.at_string HR0_3.out x6_2 p188 q188
                   cases e188
                   replace hx188_0 := (HB.out.cell (World.block_lt_of_cell? w _ hx188_0)).trans hx188_0
                   replace p188 := eq_true p188
                   replace q188 := eq_true q188
                   go_wp2
                   go_ret
                   exact ⟨by first | rfl | (simp [errW_none, errW_some] <;> rfl) | (simp [*, errW_none, errW_some] <;> rfl), by repeat (first | (with_reducible first | exact HB.out | apply bA | apply pN | apply bD | refine bS ?_ GE182.out) | exact HB.out)⟩
                 ·rw [if_neg c35] at H
                  exact absurd H (by simp)
                ·replace c34 := Bool.eq_false_iff.mpr c34
                 subst c34
                 have H1 : (if x6_2 < (l0_3.length : Int) then (if ((rdOf ByteArray.empty l0_3 x6_2).size : Int) = 64 then ((corbelref01_Put.f (rd l0_1 x6_2) 4).bind fun t195 => (if x4_2.size + t195.size ≤ 9223372036854775807 then (if x5_2.size + (rdOf ByteArray.empty l0_3 x6_2).size ≤ 9223372036854775807 then (corbelref18_Encode.l0 kj26 (l0_1.length : Int) (x4_2 ++ t195) (x5_2 ++ (rdOf ByteArray.empty l0_3 x6_2)) (wrap64 (x6_2 + 1)) a0_0 l0_1 l0_2 l0_3) else (none)) else (none))) else (some (⟨#[]⟩ : ByteArray))) else (none)) = some r := by rw [if_neg (show ¬ (false = true) by decide)] at H; exact H
                 clear H
                 have H := H1
                 clear H1
                 by_cases c44 : x6_2 < (l0_3.length : Int)
                 ·rw [if_pos c44] at H
                  have c44b0 : decide (x6_2 < (l0_3.length : Int)) = true := decide_eq_true c44
                  clear c44
                  by_cases c45 : ((rdOf ByteArray.empty l0_3 x6_2).size : Int) = 64
                  ·rw [if_pos c45] at H
                   have c45b0 : (((rdOf ByteArray.empty l0_3 x6_2).size : Int) == 64) = true := beq_iff_eq.mpr c45
                   have c45b1 : (((rdOf ByteArray.empty l0_3 x6_2).size : Int) != 64) = false := bne_eq_false_iff_eq.mpr c45
                   clear c45
                   replace H := Option.bind_eq_some_iff.mp H
                   obtain ⟨t195, A460, H⟩ := H
                   replace H : (if x4_2.size + t195.size ≤ 9223372036854775807 then (if x5_2.size + (rdOf ByteArray.empty l0_3 x6_2).size ≤ 9223372036854775807 then (corbelref18_Encode.l0 kj26 (l0_1.length : Int) (x4_2 ++ t195) (x5_2 ++ (rdOf ByteArray.empty l0_3 x6_2)) (wrap64 (x6_2 + 1)) a0_0 l0_1 l0_2 l0_3) else (none)) else (none)) = some r := H
                   have A46 := Aside0.mk A460
                   clear A460
                   by_cases c47 : x4_2.size + t195.size ≤ 9223372036854775807
                   ·rw [if_pos c47] at H
                    have c47b0 := eq_true c47
                    have c47b1 : decide (x4_2.size + t195.size ≤ 9223372036854775807) = true := decide_eq_true c47
                    try have c47b2 : (9223372036854775807 < x4_2.size + t195.size) = False := eq_false (Nat.not_lt.2 c47)
                    by_cases c48 : x5_2.size + (rdOf ByteArray.empty l0_3 x6_2).size ≤ 9223372036854775807
                    ·rw [if_pos c48] at H
                     have c48b0 := eq_true c48
                     have c48b1 : decide (x5_2.size + (rdOf ByteArray.empty l0_3 x6_2).size ≤ 9223372036854775807) = true := decide_eq_true c48
                     try have c48b2 : (9223372036854775807 < x5_2.size + (rdOf ByteArray.empty l0_3 x6_2).size) = False := eq_false (Nat.not_lt.2 c48)
                     have H' := Aside0.mk H
                     clear H
                     have hcz49_0 : wc.cell? ⟨gb182, 0, none⟩ = some (.int .i64 a0_0) := (blk_cell BK182.out 0).trans rfl
                     have hcz49_1 : wc.cell? ⟨gb182, 1, none⟩ = some (.slice (some ad185) l0_1.length c0_1) := (blk_cell BK182.out 1).trans rfl
                     have hcz49_2 : wc.cell? ⟨gb182, 2, none⟩ = some (.slice A0_2 l0_2.length c0_2) := (blk_cell BK182.out 2).trans rfl
                     have hcz49_3 : wc.cell? ⟨gb182, 3, none⟩ = some (.slice A0_3 l0_3.length c0_3) := (blk_cell BK182.out 3).trans rfl
                     have hfz49_0 := blk_frozen BK182.out 0
                     have hfz49_1 := blk_frozen BK182.out 1
                     have hfz49_2 := blk_frozen BK182.out 2
                     have hfz49_3 := blk_frozen BK182.out 3
                     have p186 : 0 ≤ (x6_2 : Int) := of_decide_eq_true (by first | (with_reducible assumption) | assumption)
                     have q186 : x6_2 < (l0_2.length : Int) := of_decide_eq_true (by first | (with_reducible assumption) | assumption)
                     obtain ⟨ad186, e186, hx186_0⟩ := Kd.at_bool HR0_2.out x6_2 p186 q186
                     (try rw [← Nbq33.out] at hx186_0)
                     cases e186
                     replace hx186_0 := (HB.out.cell (World.block_lt_of_cell? w _ hx186_0)).trans hx186_0
                     replace p186 := eq_true p186
                     replace q186 := eq_true q186
                     have p192 : 0 ≤ (x6_2 : Int) := of_decide_eq_true (by first | (with_reducible assumption) | assumption)
                     have q192 : x6_2 < (l0_2.length : Int) := of_decide_eq_true (by first | (with_reducible assumption) | assumption)
                     obtain ⟨ad192, e192, hx192_0⟩ := Kd.at_bool HR0_2.out x6_2 p192 q192
                     (try rw [← Nbq33.out] at hx192_0)
                     obtain rfl : ad186 = ad192 := (by injection e192)
                     replace hx192_0 := (HB.out.cell (World.block_lt_of_cell? w _ hx192_0)).trans hx192_0
                     replace p192 := eq_true p192
                     replace q192 := eq_true q192
                     have p193 : 0 ≤ (x6_2 : Int) := of_decide_eq_true (by first | (with_reducible assumption) | assumption)
                     have q193 : x6_2 < (l0_2.length : Int) := of_decide_eq_true (by first | (with_reducible assumption) | assumption)
                     obtain ⟨ad193, e193, hx193_0⟩ := Kd.at_bool HR0_2.out x6_2 p193 q193
                     (try rw [← Nbq33.out] at hx193_0)
                     obtain rfl : ad186 = ad193 := (by injection e193)
                     replace hx193_0 := (HB.out.cell (World.block_lt_of_cell? w _ hx193_0)).trans hx193_0
                     replace p193 := eq_true p193
                     replace q193 := eq_true q193
                     have p194 : 0 ≤ (x6_2 : Int) := of_decide_eq_true (by first | (with_reducible assumption) | assumption)
                     have q194 : x6_2 < (l0_3.length : Int) := of_decide_eq_true (by first | (with_reducible assumption) | assumption)
                     obtain ⟨ad194, e194, hx194_0⟩ := Kd.at_string HR0_3.out x6_2 p194 q194
                     cases e194
                     replace hx194_0 := (HB.out.cell (World.block_lt_of_cell? w _ hx194_0)).trans hx194_0
                     replace p194 := eq_true p194
                     replace q194 := eq_true q194
                     go_wp2_with (first | ((with_reducible refine gate_callee (f := 37) rfl ?_); refine goesL_ (some 104) rfl rfl Tryd.func37 (by kernel_rfl) rfl #[.int .i64 (rd l0_1 x6_2), .int .i64 4] rfl (by (try simp only [List.map_toArray, List.map_cons, List.map_nil]); first | done | rfl | (simp only [List.length_drop, List.length_take]; rfl)) ?_; (with_reducible refine (corbelref01_Put.calls (rd l0_1 x6_2) 4 t195 _ A46.out).mono ?_); rintro e w50 ⟨rfl, hb⟩; refine ⟨_, rfl, ?_⟩; have n0_ := Aside0.mk (kB (g := gb182) (o := .cells #[.int .i64 a0_0, .slice (some ad185) l0_1.length c0_1, .slice (some ad186) l0_2.length c0_2, .slice (some ad194) l0_3.length c0_3] 43 (0, 0)) (by (with_reducible repeat (first | refine kN ?_ _ | refine blk_drew ?_ | refine kA ?_ _)); exact BK182.out) hb); have n1_ := Aside0.mk (below_step (by repeat (first | (with_reducible first | exact HB.out | apply bA | apply pN | apply bD | refine bS ?_ GE182.out) | exact HB.out)) hb); clear BK182; clear HB; have BK182 := n0_; have HB := n1_; clear n0_ n1_; (try clear hb); (try clear hb2); (try clear hk); (try clear hi); have hcz51_0 : w50.cell? ⟨gb182, 0, none⟩ = some (.int .i64 a0_0) := (blk_cell BK182.out 0).trans rfl; have hcz51_1 : w50.cell? ⟨gb182, 1, none⟩ = some (.slice (some ad185) l0_1.length c0_1) := (blk_cell BK182.out 1).trans rfl; have hcz51_2 : w50.cell? ⟨gb182, 2, none⟩ = some (.slice (some ad186) l0_2.length c0_2) := (blk_cell BK182.out 2).trans rfl; have hcz51_3 : w50.cell? ⟨gb182, 3, none⟩ = some (.slice (some ad194) l0_3.length c0_3) := (blk_cell BK182.out 3).trans rfl; have hfz51_0 := blk_frozen BK182.out 0; have hfz51_1 := blk_frozen BK182.out 1; have hfz51_2 := blk_frozen BK182.out 2; have hfz51_3 := blk_frozen BK182.out 3; have p196 : 0 ≤ (x6_2 : Int) := of_decide_eq_true (by first | (with_reducible assumption) | assumption); have q196 : x6_2 < (l0_3.length : Int) := of_decide_eq_true (by first | (with_reducible assumption) | assumption); obtain ⟨ad196, e196, hx196_0⟩ := Kd.at_string HR0_3.out x6_2 p196 q196; obtain rfl : ad194 = ad196 := (by injection e196); replace hx196_0 := (HB.out.cell (World.block_lt_of_cell? w _ hx196_0)).trans hx196_0; replace p196 := eq_true p196; replace q196 := eq_true q196))
                     go_roundg kj26
                     case measure => have := HJ1.out; have := HK2.out; have := HJ26.out; omega
                     case rel => exact ⟨(x4_2 ++ t195), (x5_2 ++ (rdOf ByteArray.empty l0_3 x6_2)), (wrap64 (x6_2 + 1)), (by first | rfl | (simp; done) | (simp [*]; done)), (by first | rfl | (simp; done) | (simp [*]; done)), (by first | rfl | (simp; done) | (simp [*]; done)), H', ⟨by have := HJ1.out; have := HK2.out; have := HJ26.out; omega⟩, ⟨by (with_reducible repeat (first | refine kN ?_ _ | refine blk_drew ?_ | refine kA ?_ _)); exact BK182.out⟩, ⟨by repeat (first | (with_reducible first | exact HB.out | apply bA | apply pN | apply bD | refine bS ?_ GE182.out) | exact HB.out)⟩⟩
                    ·rw [if_neg c48] at H
                     exact absurd H (by simp)
                   ·rw [if_neg c47] at H
                    exact absurd H (by simp)
                  ·rw [if_neg c45] at H
                   have c45b0 : (((rdOf ByteArray.empty l0_3 x6_2).size : Int) == 64) = false := beq_eq_false_iff_ne.mpr c45
                   have c45b1 : (((rdOf ByteArray.empty l0_3 x6_2).size : Int) != 64) = true := bne_iff_ne.mpr c45
                   obtain rfl := Option.some.inj H
                   have hcz52_0 : wc.cell? ⟨gb182, 0, none⟩ = some (.int .i64 a0_0) := (blk_cell BK182.out 0).trans rfl
                   have hcz52_1 : wc.cell? ⟨gb182, 1, none⟩ = some (.slice (some ad185) l0_1.length c0_1) := (blk_cell BK182.out 1).trans rfl
                   have hcz52_2 : wc.cell? ⟨gb182, 2, none⟩ = some (.slice A0_2 l0_2.length c0_2) := (blk_cell BK182.out 2).trans rfl
                   have hcz52_3 : wc.cell? ⟨gb182, 3, none⟩ = some (.slice A0_3 l0_3.length c0_3) := (blk_cell BK182.out 3).trans rfl
                   have hfz52_0 := blk_frozen BK182.out 0
                   have hfz52_1 := blk_frozen BK182.out 1
                   have hfz52_2 := blk_frozen BK182.out 2
                   have hfz52_3 := blk_frozen BK182.out 3
                   have p186 : 0 ≤ (x6_2 : Int) := of_decide_eq_true (by first | (with_reducible assumption) | assumption)
                   have q186 : x6_2 < (l0_2.length : Int) := of_decide_eq_true (by first | (with_reducible assumption) | assumption)
                   obtain ⟨ad186, e186, hx186_0⟩ := Kd.at_bool HR0_2.out x6_2 p186 q186
                   (try rw [← Nbq33.out] at hx186_0)
                   cases e186
                   replace hx186_0 := (HB.out.cell (World.block_lt_of_cell? w _ hx186_0)).trans hx186_0
                   replace p186 := eq_true p186
                   replace q186 := eq_true q186
                   have p192 : 0 ≤ (x6_2 : Int) := of_decide_eq_true (by first | (with_reducible assumption) | assumption)
                   have q192 : x6_2 < (l0_2.length : Int) := of_decide_eq_true (by first | (with_reducible assumption) | assumption)
                   obtain ⟨ad192, e192, hx192_0⟩ := Kd.at_bool HR0_2.out x6_2 p192 q192
                   (try rw [← Nbq33.out] at hx192_0)
                   obtain rfl : ad186 = ad192 := (by injection e192)
                   replace hx192_0 := (HB.out.cell (World.block_lt_of_cell? w _ hx192_0)).trans hx192_0
                   replace p192 := eq_true p192
                   replace q192 := eq_true q192
                   have p193 : 0 ≤ (x6_2 : Int) := of_decide_eq_true (by first | (with_reducible assumption) | assumption)
                   have q193 : x6_2 < (l0_2.length : Int) := of_decide_eq_true (by first | (with_reducible assumption) | assumption)
                   obtain ⟨ad193, e193, hx193_0⟩ := Kd.at_bool HR0_2.out x6_2 p193 q193
                   (try rw [← Nbq33.out] at hx193_0)
                   obtain rfl : ad186 = ad193 := (by injection e193)
                   replace hx193_0 := (HB.out.cell (World.block_lt_of_cell? w _ hx193_0)).trans hx193_0
                   replace p193 := eq_true p193
                   replace q193 := eq_true q193
                   have p194 : 0 ≤ (x6_2 : Int) := of_decide_eq_true (by first | (with_reducible assumption) | assumption)
                   have q194 : x6_2 < (l0_3.length : Int) := of_decide_eq_true (by first | (with_reducible assumption) | assumption)
                   obtain ⟨ad194, e194, hx194_0⟩ := Kd.at_string HR0_3.out x6_2 p194 q194
                   cases e194
                   replace hx194_0 := (HB.out.cell (World.block_lt_of_cell? w _ hx194_0)).trans hx194_0
                   replace p194 := eq_true p194
                   replace q194 := eq_true q194
                   go_wp2
                   go_ret
                   exact ⟨by first | rfl | (simp [errW_none, errW_some] <;> rfl) | (simp [*, errW_none, errW_some] <;> rfl), by repeat (first | (with_reducible first | exact HB.out | apply bA | apply pN | apply bD | refine bS ?_ GE182.out) | exact HB.out)⟩
                 ·rw [if_neg c44] at H
                  exact absurd H (by simp)
               ·rw [if_neg c32] at H
                exact absurd H (by simp)
              ·rw [if_neg c31] at H
               exact absurd H (by simp)
          ·rw [if_neg c26] at H
           exact absurd H (by simp)
         ·rw [if_neg c25] at H
          exact absurd H (by simp)
        ·rw [if_neg c24] at H
         have c24b0 : decide (x6_2 < (l0_1.length : Int)) = false := decide_eq_false c24
         clear c24
         by_cases c53 : x4_2.size + x5_2.size ≤ 9223372036854775807
         ·rw [if_pos c53] at H
          have c53b0 := eq_true c53
          have c53b1 : decide (x4_2.size + x5_2.size ≤ 9223372036854775807) = true := decide_eq_true c53
          try have c53b2 : (9223372036854775807 < x4_2.size + x5_2.size) = False := eq_false (Nat.not_lt.2 c53)
          replace H := Option.bind_eq_some_iff.mp H
          obtain ⟨t197, A540, H⟩ := H
          replace H : ((corbelref01_Put.f (wrap64 (t197)) 4).bind fun t198 => (if x4_2.size + t198.size ≤ 9223372036854775807 then (corbelref18_Encode.l1 k2 (x4_2 ++ t198) x5_2) else (none))) = some r := H
          have A54 := Aside0.mk A540
          clear A540
          replace H := Option.bind_eq_some_iff.mp H
          obtain ⟨t198, A550, H⟩ := H
          replace H : (if x4_2.size + t198.size ≤ 9223372036854775807 then (corbelref18_Encode.l1 k2 (x4_2 ++ t198) x5_2) else (none)) = some r := H
          have A55 := Aside0.mk A550
          clear A550
          by_cases c56 : x4_2.size + t198.size ≤ 9223372036854775807
          ·rw [if_pos c56] at H
           have c56b0 := eq_true c56
           have c56b1 : decide (x4_2.size + t198.size ≤ 9223372036854775807) = true := decide_eq_true c56
           try have c56b2 : (9223372036854775807 < x4_2.size + t198.size) = False := eq_false (Nat.not_lt.2 c56)
           have H' := Aside0.mk H
           clear H
           go_wp2_with (first | ((with_reducible refine gate_callee (f := 38) rfl ?_); refine goesL_ (some 116) rfl rfl Tryd.func38 (by kernel_rfl) rfl #[.string (x4_2 ++ x5_2)] rfl (by (try simp only [List.map_toArray, List.map_cons, List.map_nil]); first | done | rfl | (simp only [List.length_drop, List.length_take]; rfl)) ?_; (with_reducible refine (corbelref02_Sum.calls (x4_2 ++ x5_2) t197 _ A54.out).mono ?_); rintro e w' ⟨rfl, ⟨nd, rfl⟩⟩; refine ⟨_, rfl, ?_⟩) | ((with_reducible refine gate_callee (f := 37) rfl ?_); refine goesL_ (some 120) rfl rfl Tryd.func37 (by kernel_rfl) rfl #[.int .i64 (wrap64 (t197)), .int .i64 4] rfl (by (try simp only [List.map_toArray, List.map_cons, List.map_nil]); first | done | rfl | (simp only [List.length_drop, List.length_take]; rfl)) ?_; (with_reducible refine (corbelref01_Put.calls (wrap64 (t197)) 4 t198 _ A55.out).mono ?_); rintro e w57 ⟨rfl, hb⟩; refine ⟨_, rfl, ?_⟩; have n0_ := Aside0.mk (kB (g := gb182) (o := .cells #[.int .i64 a0_0, .slice A0_1 l0_1.length c0_1, .slice A0_2 l0_2.length c0_2, .slice A0_3 l0_3.length c0_3] 43 (0, 0)) (by (with_reducible repeat (first | refine kN ?_ _ | refine blk_drew ?_ | refine kA ?_ _)); exact BK182.out) hb); have n1_ := Aside0.mk (below_step (by repeat (first | (with_reducible first | exact HB.out | apply bA | apply pN | apply bD | refine bS ?_ GE182.out) | exact HB.out)) hb); clear BK182; clear HB; have BK182 := n0_; have HB := n1_; clear n0_ n1_; (try clear hb); (try clear hb2); (try clear hk); (try clear hi)))
           go_loopg [4] k2 (fun kq v4 w' => ∃ (x4_3 : ByteArray), v4 = .string x4_3 ∧ Aside0 (corbelref18_Encode.l1 kq x4_3 x5_2 = some r) ∧ Aside0 (kq ≤ k2) ∧ Aside0 (w'.heap[gb182]? = some (.cells #[.int .i64 a0_0, (.slice A0_1 l0_1.length c0_1), (.slice A0_2 l0_2.length c0_2), (.slice A0_3 l0_3.length c0_3)] 43 (0, 0))) ∧ Aside0 (Below w.heap.size w w'))
           case atStart => exact ⟨(x4_2 ++ t198), (by first | rfl | (simp; done) | (simp [*]; done)), H', ⟨Nat.le_refl _⟩, ⟨by (with_reducible repeat (first | refine kN ?_ _ | refine blk_drew ?_ | refine kA ?_ _)); exact BK182.out⟩, ⟨by repeat (first | (with_reducible first | exact HB.out | apply bA | apply pN | apply bD | refine bS ?_ GE182.out) | exact HB.out)⟩⟩
           case round =>
            clear H'
            try clear c1
            try clear p1
            try clear q1
            try clear hx1
            try clear c2
            try clear p2
            try clear c3
            try clear q3
            try clear c4
            try clear c5
            try clear c5b0
            try clear p6
            try clear c7
            try clear c7b0
            try clear c9
            try clear c9b0
            try clear c9b1
            try clear c11
            try clear c11b0
            try clear c11b1
            try clear c13
            try clear c13b0
            try clear c13b1
            try clear c13b2
            try clear c16
            try clear c18
            try clear c18b0
            try clear c18b1
            try clear c18b2
            try clear p18
            try clear q18
            try clear hx18
            try clear p19
            try clear q19
            try clear hx19
            try clear c20
            try clear c20b0
            try clear c20b1
            try clear c20b2
            try clear c24
            try clear c24b0
            try clear c25
            try clear c25b0
            try clear c26
            try clear c26b0
            try clear c29
            try clear c29b0
            try clear c30
            try clear c31
            try clear c31b0
            try clear c32
            try clear c32b0
            try clear q33
            try clear c34
            try clear c35
            try clear c35b0
            try clear c36
            try clear c36b0
            try clear c36b1
            try clear c37
            try clear c38
            try clear c38b0
            try clear c38b1
            try clear c38b2
            try clear c39
            try clear c39b0
            try clear c39b1
            try clear c39b2
            try clear c44
            try clear c44b0
            try clear c45
            try clear c45b0
            try clear c45b1
            try clear c47
            try clear c47b0
            try clear c47b1
            try clear c47b2
            try clear c48
            try clear c48b0
            try clear c48b1
            try clear c48b2
            try clear c53
            try clear c53b0
            try clear c53b1
            try clear c53b2
            try clear c56
            try clear c56b0
            try clear c56b1
            try clear c56b2
            try clear hcz10_0
            try clear hcz10_1
            try clear hcz10_2
            try clear hcz10_3
            try clear hcz12_0
            try clear hcz12_1
            try clear hcz12_2
            try clear hcz12_3
            try clear hcz14_0
            try clear hcz14_1
            try clear hcz14_2
            try clear hcz14_3
            try clear hcz15_0
            try clear hcz15_1
            try clear hcz15_2
            try clear hcz15_3
            try clear hcz21_0
            try clear hcz21_1
            try clear hcz21_2
            try clear hcz21_3
            try clear hcz28_0
            try clear hcz28_1
            try clear hcz28_2
            try clear hcz28_3
            try clear hcz40_0
            try clear hcz40_1
            try clear hcz40_2
            try clear hcz40_3
            try clear hcz42_0
            try clear hcz42_1
            try clear hcz42_2
            try clear hcz42_3
            try clear hcz43_0
            try clear hcz43_1
            try clear hcz43_2
            try clear hcz43_3
            try clear hcz49_0
            try clear hcz49_1
            try clear hcz49_2
            try clear hcz49_3
            try clear hcz4_0
            try clear hcz4_1
            try clear hcz4_2
            try clear hcz4_3
            try clear hcz51_0
            try clear hcz51_1
            try clear hcz51_2
            try clear hcz51_3
            try clear hcz52_0
            try clear hcz52_1
            try clear hcz52_2
            try clear hcz52_3
            try clear hcz6_0
            try clear hcz6_1
            try clear hcz6_2
            try clear hcz6_3
            try clear hcz8_0
            try clear hcz8_1
            try clear hcz8_2
            try clear hcz8_3
            try clear hfz10_0
            try clear hfz10_1
            try clear hfz10_2
            try clear hfz10_3
            try clear hfz12_0
            try clear hfz12_1
            try clear hfz12_2
            try clear hfz12_3
            try clear hfz14_0
            try clear hfz14_1
            try clear hfz14_2
            try clear hfz14_3
            try clear hfz15_0
            try clear hfz15_1
            try clear hfz15_2
            try clear hfz15_3
            try clear hfz21_0
            try clear hfz21_1
            try clear hfz21_2
            try clear hfz21_3
            try clear hfz28_0
            try clear hfz28_1
            try clear hfz28_2
            try clear hfz28_3
            try clear hfz40_0
            try clear hfz40_1
            try clear hfz40_2
            try clear hfz40_3
            try clear hfz42_0
            try clear hfz42_1
            try clear hfz42_2
            try clear hfz42_3
            try clear hfz43_0
            try clear hfz43_1
            try clear hfz43_2
            try clear hfz43_3
            try clear hfz49_0
            try clear hfz49_1
            try clear hfz49_2
            try clear hfz49_3
            try clear hfz4_0
            try clear hfz4_1
            try clear hfz4_2
            try clear hfz4_3
            try clear hfz51_0
            try clear hfz51_1
            try clear hfz51_2
            try clear hfz51_3
            try clear hfz52_0
            try clear hfz52_1
            try clear hfz52_2
            try clear hfz52_3
            try clear hfz6_0
            try clear hfz6_1
            try clear hfz6_2
            try clear hfz6_3
            try clear hfz8_0
            try clear hfz8_1
            try clear hfz8_2
            try clear hfz8_3
            try clear hx185_0
            try clear hx186_0
            try clear hx187_0
            try clear hx188_0
            try clear hx189_0
            try clear hx191_0
            try clear hx192_0
            try clear hx193_0
            try clear hx194_0
            try clear hx196_0
            try clear p1
            try clear p18
            try clear p185
            try clear p186
            try clear p187
            try clear p188
            try clear p189
            try clear p191
            try clear p192
            try clear p193
            try clear p194
            try clear p196
            try clear p2
            try clear q1
            try clear q18
            try clear q185
            try clear q186
            try clear q187
            try clear q188
            try clear q189
            try clear q191
            try clear q192
            try clear q193
            try clear q194
            try clear q196
            obtain ⟨x4_3, rfl, HA, HK3, BK182, HB⟩ := hrel
            cases gk with
            | zero => exact absurd HA.out (by simp [corbelref18_Encode.l1])
            | succ k3 =>
             have H := HA.out
             clear HA
             simp only [corbelref18_Encode.l1] at H
             by_cases c58 : (x4_3.size : Int) < 64
             ·rw [if_pos c58] at H
              have c58b0 : decide ((x4_3.size : Int) < 64) = true := decide_eq_true c58
              have c58b1 : decide (x4_3.size < 64) = true := decide_eq_true (by omega)
              clear c58
              by_cases c59 : x4_3.size + 1 ≤ 9223372036854775807
              ·rw [if_pos c59] at H
               have c59b0 := eq_true c59
               have c59b1 : decide (x4_3.size + 1 ≤ 9223372036854775807) = true := decide_eq_true c59
               try have c59b2 : (9223372036854775807 < x4_3.size + 1) = False := eq_false (Nat.not_lt.2 c59)
               have H' := Aside0.mk H
               clear H
               go_wp2
               go_roundg k3
               case measure => have := HJ1.out; have := HK2.out; have := HK3.out; omega
               case rel => exact ⟨(x4_3 ++ (⟨#[0]⟩ : ByteArray)), (by first | rfl | (simp; done) | (simp [*]; done)), H', ⟨by have := HJ1.out; have := HK2.out; have := HK3.out; omega⟩, ⟨by (with_reducible repeat (first | refine kN ?_ _ | refine blk_drew ?_ | refine kA ?_ _)); exact BK182.out⟩, ⟨by repeat (first | (with_reducible first | exact HB.out | apply bA | apply pN | apply bD | refine bS ?_ GE182.out) | exact HB.out)⟩⟩
              ·rw [if_neg c59] at H
               exact absurd H (by simp)
             ·rw [if_neg c58] at H
              have c58b0 : decide ((x4_3.size : Int) < 64) = false := decide_eq_false c58
              have c58b1 : decide (x4_3.size < 64) = false := decide_eq_false (by omega)
              clear c58
              by_cases c60 : x4_3.size + x5_2.size ≤ 9223372036854775807
              ·rw [if_pos c60] at H
               have c60b0 := eq_true c60
               have c60b1 : decide (x4_3.size + x5_2.size ≤ 9223372036854775807) = true := decide_eq_true c60
               try have c60b2 : (9223372036854775807 < x4_3.size + x5_2.size) = False := eq_false (Nat.not_lt.2 c60)
               obtain rfl := Option.some.inj H
               go_wp2
               go_ret
               exact ⟨by first | rfl | (simp [errW_none, errW_some] <;> rfl) | (simp [*, errW_none, errW_some] <;> rfl), by repeat (first | (with_reducible first | exact HB.out | apply bA | apply pN | apply bD | refine bS ?_ GE182.out) | exact HB.out)⟩
              ·rw [if_neg c60] at H
               exact absurd H (by simp)
          ·rw [if_neg c56] at H
           exact absurd H (by simp)
         ·rw [if_neg c53] at H
          exact absurd H (by simp)
     ·rw [if_neg c20] at H
      exact absurd H (by simp)
    ·rw [if_neg c18] at H
     exact absurd H (by simp)

end Go.Proofs.YticpjnpafmehaaaDoor.U
