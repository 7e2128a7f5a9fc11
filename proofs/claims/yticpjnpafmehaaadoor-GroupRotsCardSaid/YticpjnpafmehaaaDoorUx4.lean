-- printed by a program of a session (wip/tools/printx.py) over the kit's print; not typed by hand
import Derived.Test.YticpjnpafmehaaaDoorUx0
import Derived.Test.YticpjnpafmehaaaDoorUx3
namespace Go.Proofs.YticpjnpafmehaaaDoor.U
open Go.RowKit Go.Proofs.YticpjnpafmehaaaDoorW.PrintWords Go.Proofs.YticpjnpafmehaaaDoorW.PrintLast Go.Proofs.YticpjnpafmehaaaDoorW.PrintMore
open Go.Proofs.YticpjnpafmehaaaDoorW.PrintWords.Kd renaming R_alloc → rA, R_drewN → rN
open Go.Proofs.YticpjnpafmehaaaDoorW.PrintWords renaming pw_below_drewN → pN, below_alloc → bA, below_drew1 → bD, below_set → bS, blk_drewN → kN, blk_alloc → kA, below_size → bZ, blk_below → kB
attribute [local go_sem] max2_int min2_int max_two min_two max_three min_three max_four min_four   -- for this text's walks alone
set_option linter.unusedVariables false
set_option linter.unusedSimpArgs false

/-! ### strings_Join: given (function 33) -/
theorem join_empty (l : List (List UInt8)) : Lib.join l [] = l.flatten := by
 induction l with
 | nil => rfl
 | cons a l ih =>
  cases l with
  | nil => simp [Lib.join]
  | cons b l => simp [Lib.join] at ih ⊢; exact ih
def strings_Join.f (l0 : List ByteArray) (a1 : ByteArray) : Option ByteArray := if a1.size = 0 ∧ (cat l0).length ≤ 140737488355328 ∧ l0.length ≤ 140737488355328 then some ⟨(cat l0).toArray⟩ else none
theorem strings_Join.calls (A0 : Option Addr) (c0 : Nat) (l0 : List ByteArray) (a1 : ByteArray) (r : ByteArray) (w : World) (hr0 : Kd.C Kd.string w A0 l0.length l0) (hc0 : l0.length ≤ c0) (h : strings_Join.f l0 a1 = some r) :
  Calls Tryd.prog 33 #[.slice A0 l0.length c0, .string a1] w fun e w' => e = .returned (.string r) ∧ Below w.heap.size w w' := by
 unfold strings_Join.f at h
 split at h
 ·rename_i hs
  obtain ⟨h1, h2, h3⟩ := hs
  obtain rfl : (⟨(cat l0).toArray⟩ : ByteArray) = r := Option.some.inj h
  have ha : a1 = ⟨#[]⟩ := ByteArray.ext (Array.eq_empty_of_size_eq_zero h1)
  subst ha
  by_cases h0 : l0.length = 0
  ·have hl : l0 = [] := List.eq_nil_of_length_eq_zero h0
   subst hl
   exact (Tryd.strings_Join_none A0 c0 _ w).mono fun _ _ ⟨he, hw⟩ => ⟨he, by rw [hw]; exact Below.refl _ _⟩
  ·obtain ⟨ad, c, rfl, _, _, _⟩ := Kd.C_get hr0 ⟨#[]⟩ 0 (by omega) (by omega)
   have key : ∀ j, j < l0.length → w.cell? (ad.add j) = some (.string (l0.getD j ⟨#[]⟩)) := fun j hj => by
    obtain ⟨ad', c', e1, _, e3, e4⟩ := Kd.C_get hr0 ⟨#[]⟩ (j : Int) (by omega) (by omega)
    injection e1 with e1
    subst e1
    rw [Int.toNat_natCast] at e3 e4
    have hc : c' = [.string (l0.getD j ⟨#[]⟩)] := by simpa [Kd.string, Kd.scalar] using e3
    subst hc
    have := e4 0 _ rfl
    simpa [Kd.string, Kd.scalar] using this
   obtain ⟨b, off, spot⟩ := ad
   have h4 := key 0 (by omega)
   have hspot : spot = none := by simpa [Addr.add] using World.cell?_spot h4
   subst hspot
   have hblt : b < w.heap.size := World.block_lt_of_cell? _ _ h4
   have e : Lib.join (l0.map (·.data.toList)) [] = cat l0 := by rw [join_empty]; simp [cat, List.flatMap]
   have hj := Tryd.strings_Join b off c0 l0 ⟨#[]⟩ w (fun j x hx => by
    have hjl := (List.getElem?_eq_some_iff.1 hx).1
    have := key j hjl
    rw [Addr.add_lit, List.getD_eq_getElem?_getD, hx] at this
    exact this) hblt h3 hc0 (by
    show (Lib.join (l0.map (·.data.toList)) []).length ≤ _
    rw [e]; exact h2)
   have e2 : (Lib.join (l0.map (·.data.toList)) (⟨#[]⟩ : ByteArray).data.toList) = cat l0 := e
   rw [e2] at hj
   exact hj
 ·cases h

/-! ### nums_Put: given (function 35) -/
def nums_Put.f (a0 a1 : Int) : Option ByteArray := if 1 ≤ a1 ∧ a1 ≤ 6 ∧ 0 ≤ a0 ∧ a0.toNat < 256 ^ a1.toNat ∧ a0 ≤ 1099511627776 then some (str (be a1.toNat a0.toNat)) else none
theorem nums_Put.calls (a0 a1 : Int) (r : ByteArray) (w : World) (h : nums_Put.f a0 a1 = some r) :
  Calls Tryd.prog 35 #[.int .i64 a0, .int .i64 a1] w fun e w' => e = .returned (.string r) ∧ Below w.heap.size w w' := by
 unfold nums_Put.f at h
 split at h
 ·rename_i hs
  obtain ⟨h1, h2, h3, h4, h5⟩ := hs
  obtain rfl := Option.some.inj h
  obtain ⟨n, rfl⟩ := Int.eq_ofNat_of_zero_le h3
  obtain ⟨m, rfl⟩ := Int.eq_ofNat_of_zero_le (show 0 ≤ a1 by omega)
  rw [Int.toNat_natCast, Int.toNat_natCast] at *
  exact put_any n m w (by omega) (by omega) h4 (by omega)
 ·cases h
def nums_Get.f (a0 : ByteArray) : Option (Int × Bool) := if 1 ≤ a0.size ∧ a0.size ≤ 6 then some ((nb a0.data.toList : Int), true) else none
theorem nums_Get.calls (a0 : ByteArray) (r1 : Int) (r2 : Bool) (w : World) (h : nums_Get.f a0 = some (r1, r2)) :
  Calls Tryd.prog 40 #[.string a0] w fun e w' => e = .returned (.tuple #[.int .i64 r1, .bool r2]) ∧ Drawn0 w w' := by
 unfold nums_Get.f at h
 split at h
 ·rename_i hs
  simp only [Option.some.injEq, Prod.mk.injEq] at h
  obtain ⟨rfl, rfl⟩ := h
  exact (get_any a0 w hs.1 hs.2).mono fun _ _ ⟨he, hw⟩ => ⟨he, ⟨0, by rw [← hw]; rfl⟩⟩
 ·cases h

/-! ### group_Group_head: function 34 -/
def group_Group_head.l0 : Nat → ByteArray → List (S62) → Int → Int → Option (ByteArray)
 | 0, _, _, _, _ => none
 | k + 1, x3, x17, x18, x19 => if x19 < x18 then (if 0 ≤ x19 then (if x19 < (x17.length : Int) then (if (rd_T62 x17 x19).f1 = true then ((nums_Put.f (Go.bits .or .i64 ((rd_T62 x17 x19).f0) 2147483648) 4).bind fun t115 => (if x3.size + t115.size ≤ 9223372036854775807 then (group_Group_head.l0 k (x3 ++ t115) x17 x18 (wrap64 (x19 + 1))) else (none))) else ((nums_Put.f ((rd_T62 x17 x19).f0) 4).bind fun t116 => (if x3.size + t116.size ≤ 9223372036854775807 then (group_Group_head.l0 k (x3 ++ t116) x17 x18 (wrap64 (x19 + 1))) else (none)))) else (none)) else (none)) else (some x3)
def group_Group_head.f (k : Nat) (a0_0 : Int) (l0_1 : List (S62)) (l0_2 : List ByteArray) : Option (ByteArray) := (nums_Put.f a0_0 6).bind fun t111 => (if 2 + t111.size ≤ 9223372036854775807 then ((nums_Put.f (l0_1.length : Int) 1).bind fun t112 => (if ((⟨#[67, 71]⟩ : ByteArray) ++ t111).size + t112.size ≤ 9223372036854775807 then (group_Group_head.l0 k (((⟨#[67, 71]⟩ : ByteArray) ++ t111) ++ t112) l0_1 (l0_1.length : Int) 0) else (none))) else (none))
theorem group_Group_head.mono_l : ∀ k, (∀ y0 y1 y2 y3, LeO (group_Group_head.l0 k y0 y1 y2 y3) (group_Group_head.l0 (k + 1) y0 y1 y2 y3))
 | 0 => fun _ _ _ _ r h => by simp [group_Group_head.l0] at h
 | k + 1 => by
  have ih0 := group_Group_head.mono_l k
  ·intro y0 y1 y2 y3
   unfold group_Group_head.l0
   repeat' first
   | (with_reducible exact ih0 _ _ _ _)
   | (with_reducible exact LeO.refl _)
   | (with_reducible exact LeO.none _)
   | (with_reducible refine LeO.ite ?_ ?_)
   | (with_reducible refine LeO.bind ?_ (fun _ => ?_))
   | exact ih0 _ _ _ _
   | exact LeO.none _
   | refine LeO.ite ?_ ?_
   | refine LeO.bind ?_ (fun _ => ?_)
theorem group_Group_head.mono : ∀ a0 a1 a2 k, LeO (group_Group_head.f k a0 a1 a2) (group_Group_head.f (k + 1) a0 a1 a2) := by
 intro a0 a1 a2 k
 have ih0 := group_Group_head.mono_l k
 unfold group_Group_head.f
 repeat' first
   | (with_reducible exact ih0 _ _ _ _)
   | (with_reducible exact LeO.refl _)
   | (with_reducible exact LeO.none _)
   | (with_reducible refine LeO.ite ?_ ?_)
   | (with_reducible refine LeO.bind ?_ (fun _ => ?_))
   | exact ih0 _ _ _ _
   | exact LeO.none _
   | refine LeO.ite ?_ ?_
   | refine LeO.bind ?_ (fun _ => ?_)
def group_Group_head.T1 : Bool × List (List Nat × List Nat) := (true, [([], []), ([0], [0]), ([1], [1]), ([2], [2]), ([], []), ([4], [4]), ([5], [5]), ([6, 2], [6]), ([3, 7], [3, 7]), ([8, 7, 0, 1, 2, 3, 4, 5, 6, 7, 8], [8])])
def group_Group_head.B1 : List Nat := [0, 1, 3, 7, 0, 16, 48, 119, 255, 511]
theorem group_Group_head.tab1 : rtab .any (opsOf Tryd.f34 1) = group_Group_head.T1 := by kernel_rfl
theorem group_Group_head.bits1 : waitsOk group_Group_head.T1.2 group_Group_head.B1 = true := by kernel_rfl
set_option maxHeartbeats 8000000 in
set_option maxRecDepth 100000 in
theorem group_Group_head.calls (k : Nat) (a0_0 : Int) (A0_1 : Option Addr) (c0_1 : Nat) (l0_1 : List (S62)) (A0_2 : Option Addr) (c0_2 : Nat) (l0_2 : List ByteArray) (r : ByteArray) (w : World) (hr0_1 : Kd.C k62 w A0_1 l0_1.length l0_1) (hc0_1 : l0_1.length ≤ c0_1) (hr0_2 : Kd.C Kd.string w A0_2 l0_2.length l0_2) (hc0_2 : l0_2.length ≤ c0_2) (h : group_Group_head.f k a0_0 l0_1 l0_2 = some r) :
  Calls Tryd.prog 34 #[.agg #[.int .i64 a0_0, .slice A0_1 l0_1.length c0_1, .slice A0_2 l0_2.length c0_2]] w fun e w' => e = .returned (.string r) ∧ Below w.heap.size w w' := by
 have hu42 := Tryd.underlying42
 have hu62 := Tryd.underlying62
 have HR0_1 := Aside0.mk hr0_1
 have HC0_1 := Aside0.mk hc0_1
 clear hr0_1 hc0_1
 have HR0_2 := Aside0.mk hr0_2
 have HC0_2 := Aside0.mk hc0_2
 clear hr0_2 hc0_2
 have HB := Aside0.mk (Below.refl w.heap.size w)
 have H : ((nums_Put.f a0_0 6).bind fun t111 => (if 2 + t111.size ≤ 9223372036854775807 then ((nums_Put.f (l0_1.length : Int) 1).bind fun t112 => (if ((⟨#[67, 71]⟩ : ByteArray) ++ t111).size + t112.size ≤ 9223372036854775807 then (group_Group_head.l0 k (((⟨#[67, 71]⟩ : ByteArray) ++ t111) ++ t112) l0_1 (l0_1.length : Int) 0) else (none))) else (none))) = some r := h
 clear h
 replace H := Option.bind_eq_some_iff.mp H
 obtain ⟨t111, A20, H⟩ := H
 replace H : (if 2 + t111.size ≤ 9223372036854775807 then ((nums_Put.f (l0_1.length : Int) 1).bind fun t112 => (if ((⟨#[67, 71]⟩ : ByteArray) ++ t111).size + t112.size ≤ 9223372036854775807 then (group_Group_head.l0 k (((⟨#[67, 71]⟩ : ByteArray) ++ t111) ++ t112) l0_1 (l0_1.length : Int) 0) else (none))) else (none)) = some r := H
 have A2 := Aside0.mk A20
 clear A20
 by_cases c3 : 2 + t111.size ≤ 9223372036854775807
 ·rw [if_pos c3] at H
  have c3b0 := eq_true c3
  have c3b1 : decide (2 + t111.size ≤ 9223372036854775807) = true := decide_eq_true c3
  try have c3b2 : (9223372036854775807 < 2 + t111.size) = False := eq_false (Nat.not_lt.2 c3)
  replace H := Option.bind_eq_some_iff.mp H
  obtain ⟨t112, A40, H⟩ := H
  replace H : (if ((⟨#[67, 71]⟩ : ByteArray) ++ t111).size + t112.size ≤ 9223372036854775807 then (group_Group_head.l0 k (((⟨#[67, 71]⟩ : ByteArray) ++ t111) ++ t112) l0_1 (l0_1.length : Int) 0) else (none)) = some r := H
  have A4 := Aside0.mk A40
  clear A40
  by_cases c5 : ((⟨#[67, 71]⟩ : ByteArray) ++ t111).size + t112.size ≤ 9223372036854775807
  ·rw [if_pos c5] at H
   have c5b0 := eq_true c5
   have c5b1 : decide (((⟨#[67, 71]⟩ : ByteArray) ++ t111).size + t112.size ≤ 9223372036854775807) = true := decide_eq_true c5
   try have c5b2 : (9223372036854775807 < ((⟨#[67, 71]⟩ : ByteArray) ++ t111).size + t112.size) = False := eq_false (Nat.not_lt.2 c5)
   have c5b3 : (9223372036854775807 < 2 + t111.size + t112.size) = False := eq_false (by have h_ := c5; (try simp only [ByteArray.size_append] at h_); have e0_ : (⟨#[67, 71]⟩ : ByteArray).size = 2 := rfl; omega)
   have H' := Aside0.mk H
   clear H
   go_enter Tryd.func34, Tryd.ntmps34
   try go_wp2_with (first | ((with_reducible refine gate_dst (N := 1) rfl ?_); refine box_event ?hg (N := 1) ?hd (cs := #[.int .i64 a0_0, .slice A0_1 l0_1.length c0_1, .slice A0_2 l0_2.length c0_2]) (t := 42) ?hr ?_; (case hd => rfl); (case hg => rfl); (case hr => first | (go_simp; done) | (go_simp; rfl)); intro gb110 hg w6 hbox hb; have n0_ := Aside0.mk (below_step (by repeat (first | (with_reducible first | exact HB.out | apply bA | apply pN | apply bD) | exact HB.out)) hb); have n1_ := Aside0.mk (hbox); have n2_ := Aside0.mk ((by rw [hg]; exact (bZ (by repeat (first | (with_reducible first | exact HB.out | apply bA | apply pN | apply bD) | exact HB.out))) : w.heap.size ≤ gb110)); have n3_ := Aside0.mk ((by rw [hg]; exact (bZ (by repeat (first | (with_reducible first | exact HB.out | apply bA | apply pN | apply bD) | exact HB.out))) : w.heap.size ≤ gb110)); clear HB; have HB := n0_; have BK110 := n1_; have GW110 := n2_; have GE110 := n3_; clear n0_ n1_ n2_ n3_; clear hb hbox hg))
   have n0_ := Aside0.mk (blk_drew BK110.out)
   have n1_ := Aside0.mk (bD HB.out)
   clear BK110
   clear HB
   have BK110 := n0_
   have HB := n1_
   clear n0_ n1_
   refine start_ (n := 10) (S := fun w' => w'.cell? ⟨gb110, 0, none⟩ = some (.int .i64 a0_0) ∧ w'.cell? ⟨gb110, 1, none⟩ = some (.slice A0_1 l0_1.length c0_1) ∧ w'.cell? ⟨gb110, 2, none⟩ = some (.slice A0_2 l0_2.length c0_2)) (ds := []) #[false, false, false, false, false, false, false, false, false, false] (by kernel_rfl) rfl rfl ⟨(blk_cell BK110.out 0).trans rfl, (blk_cell BK110.out 1).trans rfl, (blk_cell BK110.out 2).trans rfl⟩ (fun hHeld => ?_); refine with_tabW group_Group_head.tab1 group_Group_head.bits1 (fun HT_ HW_ => ?_)
   generalize w6.drew = w7 at BK110 HB hHeld ⊢
   refine pure_ (i := 0) (N := some 7) (v := ?_) (a' := ?_) #[true, false, false, false, false, false, false, false, false, false] rfl rfl (any_of HT_.out (by kernel_rfl)) (fun _ _ _ h => h) (Or.inl ⟨by rfl, ?_⟩) ?_ ?_
   rotate_left
   ·intro w'
    go_simp
    with_reducible rfl
   rotate_left
   ·simp only [Act.put, List.setIfInBounds_toArray, List.set_cons_zero, List.set_cons_succ, i64_w, i32_w]
    rfl
   refine pure_ (i := 4) (N := some 11) (v := ?_) (a' := ?_) #[true, false, false, false, true, false, false, false, false, false] rfl rfl (any_of HT_.out (by kernel_rfl)) (fun _ _ _ h => h) (Or.inl ⟨by rfl, ?_⟩) ?_ ?_
   rotate_left
   ·intro w'
    go_simp
    with_reducible rfl
   rotate_left
   ·simp only [Act.put, List.setIfInBounds_toArray, List.set_cons_zero, List.set_cons_succ, i64_w, i32_w]
    rfl
   refine take_ (i := 1) (N := some 8) (v := ?_) (a' := ?_) #[true, true, false, false, true, false, false, false, false, false] rfl rfl (take_ofW HT_.out HW_.out (by kernel_rfl)) (fun _ _ _ h => h) (Or.inl ⟨by rfl, ?_⟩) hHeld ?_ ?_
   rotate_left
   ·rintro w' ⟨s0, s1, s2⟩
    go_simp
    with_reducible rfl
   rotate_left
   ·simp only [Act.put, List.setIfInBounds_toArray, List.set_cons_zero, List.set_cons_succ, i64_w, i32_w]
    rfl
   refine take_ (i := 5) (N := some 12) (v := ?_) (a' := ?_) #[true, true, false, false, true, true, false, false, false, false] rfl rfl (take_ofW HT_.out HW_.out (by kernel_rfl)) (fun _ _ _ h => h) (Or.inl ⟨by rfl, ?_⟩) hHeld ?_ ?_
   rotate_left
   ·rintro w' ⟨s0, s1, s2⟩
    go_simp
    with_reducible rfl
   rotate_left
   ·simp only [Act.put, List.setIfInBounds_toArray, List.set_cons_zero, List.set_cons_succ, i64_w, i32_w]
    rfl
   refine pure_ (i := 6) (N := some 13) (v := ?_) (a' := ?_) #[true, true, false, false, true, true, true, false, false, false] rfl rfl (any_of HT_.out (by kernel_rfl)) (fun _ _ _ h => h) (Or.inl ⟨by rfl, ?_⟩) ?_ ?_
   rotate_left
   ·intro w'
    go_simp
    with_reducible rfl
   rotate_left
   ·simp only [Act.put, List.setIfInBounds_toArray, List.set_cons_zero, List.set_cons_succ, i64_w, i32_w]
    rfl
   refine one_ (i := 2) (N := some 9) #[true, true, true, false, true, true, true, false, false, false] rfl rfl (one_of HT_.out (by kernel_rfl)) (by decide) (fun K hK => ?_)
   refine goes_ Tryd.func35 (by kernel_rfl) rfl #[.int .i64 a0_0, .int .i64 6] (by rfl) rfl rfl (by (try simp only [List.map_toArray, List.map_cons, List.map_nil]); first | done | rfl | (simp only [List.length_drop, List.length_take]; rfl)) ?_
   with_reducible refine (nums_Put.calls a0_0 6 t111 _ A2.out).mono ?_
   rintro e w8 ⟨rfl, hb⟩
   refine ⟨_, rfl, ?_⟩
   have n0_ := Aside0.mk (kB (g := gb110) (o := .cells #[.int .i64 a0_0, .slice A0_1 l0_1.length c0_1, .slice A0_2 l0_2.length c0_2] 42 (0, 0)) (by (with_reducible repeat (first | refine kN ?_ _ | refine blk_drew ?_ | refine kA ?_ _)); exact BK110.out) hb)
   have n1_ := Aside0.mk (below_step (by repeat (first | (with_reducible first | exact HB.out | apply bA | apply pN | apply bD | refine bS ?_ GE110.out) | exact HB.out)) hb)
   clear BK110
   clear HB
   have BK110 := n0_
   have HB := n1_
   clear n0_ n1_
   (try clear hb)
   (try clear hb2)
   (try clear hk)
   (try clear hi)
   refine hK.out _ _ ⟨(blk_cell BK110.out 0).trans rfl, (blk_cell BK110.out 1).trans rfl, (blk_cell BK110.out 2).trans rfl⟩ (fun hHeld => ?_)
   clear hK K
   refine norm_ (a' := ?_) ?_ ?_
   rotate_left
   ·show Act.put _ (some 9) _ = _
    simp only [Act.put, List.setIfInBounds_toArray, List.set_cons_zero, List.set_cons_succ, i64_w, i32_w]
    rfl
   refine pure_ (i := 3) (N := some 10) (v := ?_) (a' := ?_) #[true, true, true, true, true, true, true, false, false, false] rfl rfl (any_of HT_.out (by kernel_rfl)) (fun _ _ _ h => h) (Or.inl ⟨by rfl, ?_⟩) ?_ ?_
   rotate_left
   ·intro w'
    go_simp
    with_reducible rfl
   rotate_left
   ·simp only [Act.put, List.setIfInBounds_toArray, List.set_cons_zero, List.set_cons_succ, i64_w, i32_w]
    rfl
   refine one_ (i := 7) (N := some 14) #[true, true, true, true, true, true, true, true, false, false] rfl rfl (one_of HT_.out (by kernel_rfl)) (by decide) (fun K hK => ?_)
   refine goes_ Tryd.func35 (by kernel_rfl) rfl #[.int .i64 (l0_1.length : Int), .int .i64 1] (by rfl) rfl rfl (by (try simp only [List.map_toArray, List.map_cons, List.map_nil]); first | done | rfl | (simp only [List.length_drop, List.length_take]; rfl)) ?_
   with_reducible refine (nums_Put.calls (l0_1.length : Int) 1 t112 _ A4.out).mono ?_
   rintro e w9 ⟨rfl, hb⟩
   refine ⟨_, rfl, ?_⟩
   have n0_ := Aside0.mk (kB (g := gb110) (o := .cells #[.int .i64 a0_0, .slice A0_1 l0_1.length c0_1, .slice A0_2 l0_2.length c0_2] 42 (0, 0)) (by (with_reducible repeat (first | refine kN ?_ _ | refine blk_drew ?_ | refine kA ?_ _)); exact BK110.out) hb)
   have n1_ := Aside0.mk (below_step (by repeat (first | (with_reducible first | exact HB.out | apply bA | apply pN | apply bD | refine bS ?_ GE110.out) | exact HB.out)) hb)
   clear BK110
   clear HB
   have BK110 := n0_
   have HB := n1_
   clear n0_ n1_
   (try clear hb)
   (try clear hb2)
   (try clear hk)
   (try clear hi)
   refine hK.out _ _ ⟨(blk_cell BK110.out 0).trans rfl, (blk_cell BK110.out 1).trans rfl, (blk_cell BK110.out 2).trans rfl⟩ (fun hHeld => ?_)
   clear hK K
   refine norm_ (a' := ?_) ?_ ?_
   rotate_left
   ·show Act.put _ (some 14) _ = _
    simp only [Act.put, List.setIfInBounds_toArray, List.set_cons_zero, List.set_cons_succ, i64_w, i32_w]
    rfl
   refine pure_ (i := 8) (N := some 15) (v := ?_) (a' := ?_) #[true, true, true, true, true, true, true, true, true, false] rfl rfl (any_of HT_.out (by kernel_rfl)) (fun _ _ _ h => h) (Or.inl ⟨by rfl, ?_⟩) ?_ ?_
   rotate_left
   ·intro w'
    go_simp
    with_reducible rfl
   rotate_left
   ·simp only [Act.put, List.setIfInBounds_toArray, List.set_cons_zero, List.set_cons_succ, i64_w, i32_w]
    rfl
   refine pure_ (i := 9) (N := some 3) (v := ?_) (a' := ?_) #[true, true, true, true, true, true, true, true, true, true] rfl rfl (any_of HT_.out (by kernel_rfl)) (fun _ _ _ h => h) (Or.inl ⟨by rfl, ?_⟩) ?_ ?_
   rotate_left
   ·intro w'
    go_simp
    with_reducible rfl
   rotate_left
   ·simp only [Act.put, List.setIfInBounds_toArray, List.set_cons_zero, List.set_cons_succ, i64_w, i32_w]
    rfl
   refine done_ (done_of HT_.out (by kernel_rfl)) ?_
   have hcz10_0 : w9.cell? ⟨gb110, 0, none⟩ = some (.int .i64 a0_0) := (blk_cell BK110.out 0).trans rfl
   have hcz10_1 : w9.cell? ⟨gb110, 1, none⟩ = some (.slice A0_1 l0_1.length c0_1) := (blk_cell BK110.out 1).trans rfl
   have hcz10_2 : w9.cell? ⟨gb110, 2, none⟩ = some (.slice A0_2 l0_2.length c0_2) := (blk_cell BK110.out 2).trans rfl
   have hfz10_0 := blk_frozen BK110.out 0
   have hfz10_1 := blk_frozen BK110.out 1
   have hfz10_2 := blk_frozen BK110.out 2
   try go_wp2
   go_loopg [3, 19] k (fun kq v3 v19 w' => ∃ (x3_1 : ByteArray) (x19_1 : Int), v3 = .string x3_1 ∧ v19 = .int .i64 x19_1 ∧ Aside0 (group_Group_head.l0 kq x3_1 l0_1 (l0_1.length : Int) x19_1 = some r) ∧ Aside0 (kq ≤ k) ∧ Aside0 (w'.heap[gb110]? = some (.cells #[.int .i64 a0_0, (.slice A0_1 l0_1.length c0_1), (.slice A0_2 l0_2.length c0_2)] 42 (0, 0))) ∧ Aside0 (Below w.heap.size w w'))
   case atStart => exact ⟨(((⟨#[67, 71]⟩ : ByteArray) ++ t111) ++ t112), (0), (by first | rfl | (simp; done) | (simp [*]; done)), (by first | rfl | (simp; done) | (simp [*]; done)), H', ⟨Nat.le_refl _⟩, ⟨by (with_reducible repeat (first | refine kN ?_ _ | refine blk_drew ?_ | refine kA ?_ _)); exact BK110.out⟩, ⟨by repeat (first | (with_reducible first | exact HB.out | apply bA | apply pN | apply bD | refine bS ?_ GE110.out) | exact HB.out)⟩⟩
   case round =>
    clear H'
    try clear p2
    try clear c3
    try clear c3b0
    try clear c3b1
    try clear c3b2
    try clear c5
    try clear c5b0
    try clear c5b1
    try clear c5b2
    try clear hcz10_0
    try clear hcz10_1
    try clear hcz10_2
    try clear hfz10_0
    try clear hfz10_1
    try clear hfz10_2
    obtain ⟨x3_1, x19_1, rfl, rfl, HA, HK1, BK110, HB⟩ := hrel
    cases gk with
    | zero => exact absurd HA.out (by simp [group_Group_head.l0])
    | succ k1 =>
     have H := HA.out
     clear HA
     simp only [group_Group_head.l0] at H
     by_cases c11 : x19_1 < (l0_1.length : Int)
     ·rw [if_pos c11] at H
      have c11b0 : decide (x19_1 < (l0_1.length : Int)) = true := decide_eq_true c11
      clear c11
      by_cases c12 : 0 ≤ x19_1
      ·rw [if_pos c12] at H
       have c12b0 : decide (0 ≤ x19_1) = true := decide_eq_true c12
       clear c12
       by_cases c13 : x19_1 < (l0_1.length : Int)
       ·rw [if_pos c13] at H
        have c13b0 : decide (x19_1 < (l0_1.length : Int)) = true := decide_eq_true c13
        clear c13
        obtain ⟨bq14, hbq14⟩ : ∃ b_ : Bool, b_ = ((rd_T62 l0_1 x19_1).f1) := ⟨_, rfl⟩
        replace H : (if bq14 = true then ((nums_Put.f (Go.bits .or .i64 ((rd_T62 l0_1 x19_1).f0) 2147483648) 4).bind fun t115 => (if x3_1.size + t115.size ≤ 9223372036854775807 then (group_Group_head.l0 k1 (x3_1 ++ t115) l0_1 (l0_1.length : Int) (wrap64 (x19_1 + 1))) else (none))) else ((nums_Put.f ((rd_T62 l0_1 x19_1).f0) 4).bind fun t116 => (if x3_1.size + t116.size ≤ 9223372036854775807 then (group_Group_head.l0 k1 (x3_1 ++ t116) l0_1 (l0_1.length : Int) (wrap64 (x19_1 + 1))) else (none)))) = some r := by rw [← hbq14] at H; exact H
        have Nbq14 := Aside0.mk hbq14
        clear hbq14
        by_cases c15 : bq14 = true
        ·subst c15
         have H1 : ((nums_Put.f (Go.bits .or .i64 ((rd_T62 l0_1 x19_1).f0) 2147483648) 4).bind fun t115 => (if x3_1.size + t115.size ≤ 9223372036854775807 then (group_Group_head.l0 k1 (x3_1 ++ t115) l0_1 (l0_1.length : Int) (wrap64 (x19_1 + 1))) else (none))) = some r := by rw [if_pos rfl] at H; exact H
         clear H
         have H := H1
         clear H1
         replace H := Option.bind_eq_some_iff.mp H
         obtain ⟨t115, A160, H⟩ := H
         replace H : (if x3_1.size + t115.size ≤ 9223372036854775807 then (group_Group_head.l0 k1 (x3_1 ++ t115) l0_1 (l0_1.length : Int) (wrap64 (x19_1 + 1))) else (none)) = some r := H
         have A16 := Aside0.mk A160
         clear A160
         by_cases c17 : x3_1.size + t115.size ≤ 9223372036854775807
         ·rw [if_pos c17] at H
          have c17b0 := eq_true c17
          have c17b1 : decide (x3_1.size + t115.size ≤ 9223372036854775807) = true := decide_eq_true c17
          try have c17b2 : (9223372036854775807 < x3_1.size + t115.size) = False := eq_false (Nat.not_lt.2 c17)
          have H' := Aside0.mk H
          clear H
          have p113 : 0 ≤ (x19_1 : Int) := of_decide_eq_true (by first | (with_reducible assumption) | assumption)
          have q113 : x19_1 < (l0_1.length : Int) := of_decide_eq_true (by first | (with_reducible assumption) | assumption)
          obtain ⟨ad113, e113, hx113_0, hx113_1⟩ := at_T62 HR0_1.out x19_1 p113 q113
          (try rw [← Nbq14.out] at hx113_1)
          cases e113
          replace hx113_0 := (HB.out.cell (World.block_lt_of_cell? w _ hx113_0)).trans hx113_0
          replace hx113_1 := (HB.out.cell (World.block_lt_of_cell? w _ hx113_1)).trans hx113_1
          replace p113 := eq_true p113
          replace q113 := eq_true q113
          go_wp2_with (first | ((with_reducible refine gate_dst (N := 5) rfl ?_); refine box_event ?hg (N := 5) ?hd (cs := #[.int .i64 0, .bool false]) (t := 62) ?hr ?_; (case hd => rfl); (case hg => rfl); (case hr => first | (go_simp; done) | (go_simp; rfl)); intro gb114 hg w18 hbox hb; have n0_ := Aside0.mk (kB (g := gb110) (o := .cells #[.int .i64 a0_0, .slice (some ad113) l0_1.length c0_1, .slice A0_2 l0_2.length c0_2] 42 (0, 0)) (by (with_reducible repeat (first | refine kN ?_ _ | refine blk_drew ?_ | refine kA ?_ _)); exact BK110.out) hb); have n1_ := Aside0.mk (below_step (by repeat (first | (with_reducible first | exact HB.out | apply bA | apply pN | apply bD | refine bS ?_ GE110.out) | exact HB.out)) hb); have n2_ := Aside0.mk (hbox); have n3_ := Aside0.mk ((by rw [hg]; exact (bZ (by repeat (first | (with_reducible first | exact HB.out | apply bA | apply pN | apply bD | refine bS ?_ GE110.out) | exact HB.out))) : w.heap.size ≤ gb114)); have n4_ := Aside0.mk ((by rw [hg]; exact (bZ (by repeat (first | (with_reducible first | exact HB.out | apply bA | apply pN | apply bD | refine bS ?_ GE110.out) | exact HB.out))) : w.heap.size ≤ gb114)); have n5_ := Aside0.mk ((by rw [hg]; exact Nat.ne_of_lt (blk_lt (g := gb110) (o := .cells #[.int .i64 a0_0, .slice (some ad113) l0_1.length c0_1, .slice A0_2 l0_2.length c0_2] 42 (0, 0)) (by (with_reducible repeat (first | refine kN ?_ _ | refine blk_drew ?_ | refine kA ?_ _)); exact BK110.out)) : gb110 ≠ gb114)); have n6_ := Aside0.mk ((by rw [hg]; exact Nat.ne_of_gt (blk_lt (g := gb110) (o := .cells #[.int .i64 a0_0, .slice (some ad113) l0_1.length c0_1, .slice A0_2 l0_2.length c0_2] 42 (0, 0)) (by (with_reducible repeat (first | refine kN ?_ _ | refine blk_drew ?_ | refine kA ?_ _)); exact BK110.out)) : gb114 ≠ gb110)); clear BK110; clear HB; have BK110 := n0_; have HB := n1_; have BK114 := n2_; have GW114 := n3_; have GE114 := n4_; have NB110_114 := n5_; have NB114_110 := n6_; clear n0_ n1_ n2_ n3_ n4_ n5_ n6_; clear hb hbox hg; have hnb19 := NB114_110.out; have hnc19 := NB110_114.out; have hcz20_0 : w18.cell? ⟨gb114, 0, none⟩ = some (.int .i64 0) := (blk_cell BK114.out 0).trans rfl; have hcz20_1 : w18.cell? ⟨gb114, 1, none⟩ = some (.bool false) := (blk_cell BK114.out 1).trans rfl; have hfz20_0 := blk_frozen BK114.out 0; have hfz20_1 := blk_frozen BK114.out 1) | ((with_reducible refine gate_callee (f := 35) rfl ?_); refine goesL_ (some 31) rfl rfl Tryd.func35 (by kernel_rfl) rfl #[.int .i64 (Go.bits .or .i64 ((rd_T62 l0_1 x19_1).f0) 2147483648), .int .i64 4] rfl (by (try simp only [List.map_toArray, List.map_cons, List.map_nil]); first | done | rfl | (simp only [List.length_drop, List.length_take]; rfl)) ?_; (with_reducible refine (nums_Put.calls (Go.bits .or .i64 ((rd_T62 l0_1 x19_1).f0) 2147483648) 4 t115 _ A16.out).mono ?_); rintro e w21 ⟨rfl, hb⟩; refine ⟨_, rfl, ?_⟩; have n0_ := Aside0.mk (kB (g := gb110) (o := .cells #[.int .i64 a0_0, .slice (some ad113) l0_1.length c0_1, .slice A0_2 l0_2.length c0_2] 42 (0, 0)) (by (with_reducible repeat (first | refine kN ?_ _ | refine blk_drew ?_ | refine kA ?_ _)); refine blk_far ?_ NB110_114.out _; (with_reducible repeat (first | refine kN ?_ _ | refine blk_drew ?_ | refine kA ?_ _)); refine blk_far ?_ NB110_114.out _; (with_reducible repeat (first | refine kN ?_ _ | refine blk_drew ?_ | refine kA ?_ _)); exact BK110.out) hb); have n1_ := Aside0.mk (kB (g := gb114) (o := .cells #[.int .i64 ((rd_T62 l0_1 x19_1).f0), .bool true] 62 (0, 0)) (by (with_reducible repeat (first | refine kN ?_ _ | refine blk_drew ?_ | refine kA ?_ _)); refine blk_put (cs := #[.int .i64 ((rd_T62 l0_1 x19_1).f0), .bool false]) ?_ 1 _ rfl; (with_reducible repeat (first | refine kN ?_ _ | refine blk_drew ?_ | refine kA ?_ _)); refine blk_put (cs := #[.int .i64 0, .bool false]) ?_ 0 _ rfl; (with_reducible repeat (first | refine kN ?_ _ | refine blk_drew ?_ | refine kA ?_ _)); exact BK114.out) hb); have n2_ := Aside0.mk (below_step (by repeat (first | (with_reducible first | exact HB.out | apply bA | apply pN | apply bD | refine bS ?_ GE110.out | refine bS ?_ GE114.out) | exact HB.out)) hb); clear BK110; clear BK114; clear HB; have BK110 := n0_; have BK114 := n1_; have HB := n2_; clear n0_ n1_ n2_; (try clear hb); (try clear hb2); (try clear hk); (try clear hi)))
          go_roundg k1
          case measure => have := HK1.out; omega
          case rel => exact ⟨(x3_1 ++ t115), (wrap64 (x19_1 + 1)), (by first | rfl | (simp; done) | (simp [*]; done)), (by first | rfl | (simp; done) | (simp [*]; done)), H', ⟨by have := HK1.out; omega⟩, ⟨by (with_reducible repeat (first | refine kN ?_ _ | refine blk_drew ?_ | refine kA ?_ _)); exact BK110.out⟩, ⟨by repeat (first | (with_reducible first | exact HB.out | apply bA | apply pN | apply bD | refine bS ?_ GE110.out | refine bS ?_ GE114.out) | exact HB.out)⟩⟩
         ·rw [if_neg c17] at H
          exact absurd H (by simp)
        ·replace c15 := Bool.eq_false_iff.mpr c15
         subst c15
         have H1 : ((nums_Put.f ((rd_T62 l0_1 x19_1).f0) 4).bind fun t116 => (if x3_1.size + t116.size ≤ 9223372036854775807 then (group_Group_head.l0 k1 (x3_1 ++ t116) l0_1 (l0_1.length : Int) (wrap64 (x19_1 + 1))) else (none))) = some r := by rw [if_neg (show ¬ (false = true) by decide)] at H; exact H
         clear H
         have H := H1
         clear H1
         replace H := Option.bind_eq_some_iff.mp H
         obtain ⟨t116, A220, H⟩ := H
         replace H : (if x3_1.size + t116.size ≤ 9223372036854775807 then (group_Group_head.l0 k1 (x3_1 ++ t116) l0_1 (l0_1.length : Int) (wrap64 (x19_1 + 1))) else (none)) = some r := H
         have A22 := Aside0.mk A220
         clear A220
         by_cases c23 : x3_1.size + t116.size ≤ 9223372036854775807
         ·rw [if_pos c23] at H
          have c23b0 := eq_true c23
          have c23b1 : decide (x3_1.size + t116.size ≤ 9223372036854775807) = true := decide_eq_true c23
          try have c23b2 : (9223372036854775807 < x3_1.size + t116.size) = False := eq_false (Nat.not_lt.2 c23)
          have H' := Aside0.mk H
          clear H
          have p113 : 0 ≤ (x19_1 : Int) := of_decide_eq_true (by first | (with_reducible assumption) | assumption)
          have q113 : x19_1 < (l0_1.length : Int) := of_decide_eq_true (by first | (with_reducible assumption) | assumption)
          obtain ⟨ad113, e113, hx113_0, hx113_1⟩ := at_T62 HR0_1.out x19_1 p113 q113
          (try rw [← Nbq14.out] at hx113_1)
          cases e113
          replace hx113_0 := (HB.out.cell (World.block_lt_of_cell? w _ hx113_0)).trans hx113_0
          replace hx113_1 := (HB.out.cell (World.block_lt_of_cell? w _ hx113_1)).trans hx113_1
          replace p113 := eq_true p113
          replace q113 := eq_true q113
          go_wp2_with (first | ((with_reducible refine gate_dst (N := 5) rfl ?_); refine box_event ?hg (N := 5) ?hd (cs := #[.int .i64 0, .bool false]) (t := 62) ?hr ?_; (case hd => rfl); (case hg => rfl); (case hr => first | (go_simp; done) | (go_simp; rfl)); intro gb114 hg w24 hbox hb; have n0_ := Aside0.mk (kB (g := gb110) (o := .cells #[.int .i64 a0_0, .slice (some ad113) l0_1.length c0_1, .slice A0_2 l0_2.length c0_2] 42 (0, 0)) (by (with_reducible repeat (first | refine kN ?_ _ | refine blk_drew ?_ | refine kA ?_ _)); exact BK110.out) hb); have n1_ := Aside0.mk (below_step (by repeat (first | (with_reducible first | exact HB.out | apply bA | apply pN | apply bD | refine bS ?_ GE110.out) | exact HB.out)) hb); have n2_ := Aside0.mk (hbox); have n3_ := Aside0.mk ((by rw [hg]; exact (bZ (by repeat (first | (with_reducible first | exact HB.out | apply bA | apply pN | apply bD | refine bS ?_ GE110.out) | exact HB.out))) : w.heap.size ≤ gb114)); have n4_ := Aside0.mk ((by rw [hg]; exact (bZ (by repeat (first | (with_reducible first | exact HB.out | apply bA | apply pN | apply bD | refine bS ?_ GE110.out) | exact HB.out))) : w.heap.size ≤ gb114)); have n5_ := Aside0.mk ((by rw [hg]; exact Nat.ne_of_lt (blk_lt (g := gb110) (o := .cells #[.int .i64 a0_0, .slice (some ad113) l0_1.length c0_1, .slice A0_2 l0_2.length c0_2] 42 (0, 0)) (by (with_reducible repeat (first | refine kN ?_ _ | refine blk_drew ?_ | refine kA ?_ _)); exact BK110.out)) : gb110 ≠ gb114)); have n6_ := Aside0.mk ((by rw [hg]; exact Nat.ne_of_gt (blk_lt (g := gb110) (o := .cells #[.int .i64 a0_0, .slice (some ad113) l0_1.length c0_1, .slice A0_2 l0_2.length c0_2] 42 (0, 0)) (by (with_reducible repeat (first | refine kN ?_ _ | refine blk_drew ?_ | refine kA ?_ _)); exact BK110.out)) : gb114 ≠ gb110)); clear BK110; clear HB; have BK110 := n0_; have HB := n1_; have BK114 := n2_; have GW114 := n3_; have GE114 := n4_; have NB110_114 := n5_; have NB114_110 := n6_; clear n0_ n1_ n2_ n3_ n4_ n5_ n6_; clear hb hbox hg; have hnb25 := NB114_110.out; have hnc25 := NB110_114.out; have hcz26_0 : w24.cell? ⟨gb114, 0, none⟩ = some (.int .i64 0) := (blk_cell BK114.out 0).trans rfl; have hcz26_1 : w24.cell? ⟨gb114, 1, none⟩ = some (.bool false) := (blk_cell BK114.out 1).trans rfl; have hfz26_0 := blk_frozen BK114.out 0; have hfz26_1 := blk_frozen BK114.out 1) | ((with_reducible refine gate_callee (f := 35) rfl ?_); refine goesL_ (some 31) rfl rfl Tryd.func35 (by kernel_rfl) rfl #[.int .i64 ((rd_T62 l0_1 x19_1).f0), .int .i64 4] rfl (by (try simp only [List.map_toArray, List.map_cons, List.map_nil]); first | done | rfl | (simp only [List.length_drop, List.length_take]; rfl)) ?_; (with_reducible refine (nums_Put.calls ((rd_T62 l0_1 x19_1).f0) 4 t116 _ A22.out).mono ?_); rintro e w27 ⟨rfl, hb⟩; refine ⟨_, rfl, ?_⟩; have n0_ := Aside0.mk (kB (g := gb110) (o := .cells #[.int .i64 a0_0, .slice (some ad113) l0_1.length c0_1, .slice A0_2 l0_2.length c0_2] 42 (0, 0)) (by (with_reducible repeat (first | refine kN ?_ _ | refine blk_drew ?_ | refine kA ?_ _)); refine blk_far ?_ NB110_114.out _; (with_reducible repeat (first | refine kN ?_ _ | refine blk_drew ?_ | refine kA ?_ _)); refine blk_far ?_ NB110_114.out _; (with_reducible repeat (first | refine kN ?_ _ | refine blk_drew ?_ | refine kA ?_ _)); exact BK110.out) hb); have n1_ := Aside0.mk (kB (g := gb114) (o := .cells #[.int .i64 ((rd_T62 l0_1 x19_1).f0), .bool false] 62 (0, 0)) (by (with_reducible repeat (first | refine kN ?_ _ | refine blk_drew ?_ | refine kA ?_ _)); refine blk_put (cs := #[.int .i64 ((rd_T62 l0_1 x19_1).f0), .bool false]) ?_ 1 _ rfl; (with_reducible repeat (first | refine kN ?_ _ | refine blk_drew ?_ | refine kA ?_ _)); refine blk_put (cs := #[.int .i64 0, .bool false]) ?_ 0 _ rfl; (with_reducible repeat (first | refine kN ?_ _ | refine blk_drew ?_ | refine kA ?_ _)); exact BK114.out) hb); have n2_ := Aside0.mk (below_step (by repeat (first | (with_reducible first | exact HB.out | apply bA | apply pN | apply bD | refine bS ?_ GE110.out | refine bS ?_ GE114.out) | exact HB.out)) hb); clear BK110; clear BK114; clear HB; have BK110 := n0_; have BK114 := n1_; have HB := n2_; clear n0_ n1_ n2_; (try clear hb); (try clear hb2); (try clear hk); (try clear hi)))
          go_roundg k1
          case measure => have := HK1.out; omega
          case rel => exact ⟨(x3_1 ++ t116), (wrap64 (x19_1 + 1)), (by first | rfl | (simp; done) | (simp [*]; done)), (by first | rfl | (simp; done) | (simp [*]; done)), H', ⟨by have := HK1.out; omega⟩, ⟨by (with_reducible repeat (first | refine kN ?_ _ | refine blk_drew ?_ | refine kA ?_ _)); exact BK110.out⟩, ⟨by repeat (first | (with_reducible first | exact HB.out | apply bA | apply pN | apply bD | refine bS ?_ GE110.out | refine bS ?_ GE114.out) | exact HB.out)⟩⟩
         ·rw [if_neg c23] at H
          exact absurd H (by simp)
       ·rw [if_neg c13] at H
        exact absurd H (by simp)
      ·rw [if_neg c12] at H
       exact absurd H (by simp)
     ·rw [if_neg c11] at H
      have c11b0 : decide (x19_1 < (l0_1.length : Int)) = false := decide_eq_false c11
      clear c11
      obtain rfl := Option.some.inj H
      go_wp2
      go_ret
      exact ⟨by first | rfl | (simp [errW_none, errW_some] <;> rfl) | (simp [*, errW_none, errW_some] <;> rfl), by repeat (first | (with_reducible first | exact HB.out | apply bA | apply pN | apply bD | refine bS ?_ GE110.out) | exact HB.out)⟩
  ·rw [if_neg c5] at H
   exact absurd H (by simp)
 ·rw [if_neg c3] at H
  exact absurd H (by simp)

-- NOT PRINTED: function 56 (crc_step)

/-! ### crc_Sum: given (function 36) -/
def crc_Sum.f (l0 : List ByteArray) : Option Int := if l0.all (fun s => decide (s.size ≤ 140737488355328)) = true then some ((crcL (cat l0)).toNat : Int) else none
theorem crc_Sum.calls (A0 : Option Addr) (c0 : Nat) (l0 : List ByteArray) (r : Int) (w : World) (hr0 : Kd.C Kd.string w A0 l0.length l0) (hc0 : l0.length ≤ c0) (h : crc_Sum.f l0 = some r) (hN : TabIn w) :
  Calls Tryd.prog 36 #[.slice A0 l0.length c0] w fun e w' => e = .returned (.int .u32 r) ∧ Drawn0 w w' := by
 unfold crc_Sum.f at h
 split at h
 ·rename_i hs
  obtain rfl : ((crcL (cat l0)).toNat : Int) = r := Option.some.inj h
  refine (crcSum_any (.slice A0 l0.length c0) l0 w hN ⟨A0, c0, rfl, fun h0 => ?_⟩ (Kd.C_max hr0) (fun j => ?_)).mono fun _ _ ⟨he, hw⟩ => ⟨he, ⟨0, by rw [← hw]; rfl⟩⟩
  ·obtain ⟨ad, c, rfl, _, _, _⟩ := Kd.C_get hr0 ⟨#[]⟩ 0 (by omega) (by omega)
   have key : ∀ j, j < l0.length → w.cell? (ad.add j) = some (.string (l0.getD j ⟨#[]⟩)) := fun j hj => by
    obtain ⟨ad', c', e1, _, e3, e4⟩ := Kd.C_get hr0 ⟨#[]⟩ (j : Int) (by omega) (by omega)
    injection e1 with e1
    subst e1
    rw [Int.toNat_natCast] at e3 e4
    have hc : c' = [.string (l0.getD j ⟨#[]⟩)] := by simpa [Kd.string, Kd.scalar] using e3
    subst hc
    have := e4 0 _ rfl
    simpa [Kd.string, Kd.scalar] using this
   obtain ⟨b, off, spot⟩ := ad
   have h1 := key 0 h0
   have hspot : spot = none := by simpa [Addr.add] using World.cell?_spot h1
   subst hspot
   exact ⟨b, off, rfl, fun j hj => by have := key j hj; rwa [Addr.add_lit] at this⟩
  ·by_cases hj : j < l0.length
   ·have := List.all_eq_true.1 hs _ (List.getElem_mem hj)
    rw [List.getD_eq_getElem?_getD, List.getElem?_eq_getElem hj]
    have := of_decide_eq_true this
    show l0[j].size ≤ _
    omega
   ·rw [List.getD_eq_getElem?_getD, List.getElem?_eq_none (by omega)]
    show 0 ≤ _
    omega
 ·cases h

/-! ### group_Encode: function 24 -/
def group_Encode.f (k : Nat) (a0_0 : Int) (l0_1 : List (S62)) (l0_2 : List ByteArray) : Option (ByteArray × Int) := (group_Group_right.f k a0_0 l0_1 l0_2).bind fun t118 => (if t118 = true then ((strings_Join.f l0_2 (⟨#[]⟩ : ByteArray)).bind fun t119 => ((group_Group_head.f k a0_0 l0_1 l0_2).bind fun t120 => ((crc_Sum.f (([t120, t119] : List ByteArray))).bind fun t124 => ((nums_Put.f (wrap64 (t124)) 4).bind fun t125 => (if t120.size + t125.size ≤ 9223372036854775807 then ((xor_Zero.f (wrap64 (64 - ((t120 ++ t125).size : Int)))).bind fun t126 => (if (t120 ++ t125).size + t126.size ≤ 9223372036854775807 then (if ((t120 ++ t125) ++ t126).size + t119.size ≤ 9223372036854775807 then (some (((t120 ++ t125) ++ t126) ++ t119, 0)) else (none)) else (none))) else (none)))))) else (some ((⟨#[]⟩ : ByteArray), 1)))
theorem group_Encode.mono : ∀ a0 a1 a2 k, LeO (group_Encode.f k a0 a1 a2) (group_Encode.f (k + 1) a0 a1 a2) := by
 intro a0 a1 a2 k
 unfold group_Encode.f
 repeat' first
   | (with_reducible exact group_Group_head.mono _ _ _ _)
   | (with_reducible exact group_Group_right.mono _ _ _ _)
   | (with_reducible exact LeO.refl _)
   | (with_reducible exact LeO.none _)
   | (with_reducible refine LeO.ite ?_ ?_)
   | (with_reducible refine LeO.bind ?_ (fun _ => ?_))
   | exact group_Group_head.mono _ _ _ _
   | exact group_Group_right.mono _ _ _ _
   | exact LeO.none _
   | refine LeO.ite ?_ ?_
   | refine LeO.bind ?_ (fun _ => ?_)
set_option maxHeartbeats 8000000 in
set_option maxRecDepth 100000 in
theorem group_Encode.calls (k : Nat) (a0_0 : Int) (A0_1 : Option Addr) (c0_1 : Nat) (l0_1 : List (S62)) (A0_2 : Option Addr) (c0_2 : Nat) (l0_2 : List ByteArray) (r1 : ByteArray) (r2 : Int) (w : World) (hr0_1 : Kd.C k62 w A0_1 l0_1.length l0_1) (hc0_1 : l0_1.length ≤ c0_1) (hr0_2 : Kd.C Kd.string w A0_2 l0_2.length l0_2) (hc0_2 : l0_2.length ≤ c0_2) (h : group_Encode.f k a0_0 l0_1 l0_2 = some (r1, r2)) (hN : TabIn w) :
  Calls Tryd.prog 24 #[.agg #[.int .i64 a0_0, .slice A0_1 l0_1.length c0_1, .slice A0_2 l0_2.length c0_2]] w fun e w' => e = .returned (.tuple #[.string r1, .int .i64 r2]) ∧ Below w.heap.size w w' := by
 have hu42 := Tryd.underlying42
 have HR0_1 := Aside0.mk hr0_1
 have HC0_1 := Aside0.mk hc0_1
 clear hr0_1 hc0_1
 have HR0_2 := Aside0.mk hr0_2
 have HC0_2 := Aside0.mk hc0_2
 clear hr0_2 hc0_2
 have HB := Aside0.mk (Below.refl w.heap.size w)
 have HN := Aside0.mk hN
 clear hN
 have H : ((group_Group_right.f k a0_0 l0_1 l0_2).bind fun t118 => (if t118 = true then ((strings_Join.f l0_2 (⟨#[]⟩ : ByteArray)).bind fun t119 => ((group_Group_head.f k a0_0 l0_1 l0_2).bind fun t120 => ((crc_Sum.f (([t120, t119] : List ByteArray))).bind fun t124 => ((nums_Put.f (wrap64 (t124)) 4).bind fun t125 => (if t120.size + t125.size ≤ 9223372036854775807 then ((xor_Zero.f (wrap64 (64 - ((t120 ++ t125).size : Int)))).bind fun t126 => (if (t120 ++ t125).size + t126.size ≤ 9223372036854775807 then (if ((t120 ++ t125) ++ t126).size + t119.size ≤ 9223372036854775807 then (some (((t120 ++ t125) ++ t126) ++ t119, 0)) else (none)) else (none))) else (none)))))) else (some ((⟨#[]⟩ : ByteArray), 1)))) = some (r1, r2) := h
 clear h
 replace H := Option.bind_eq_some_iff.mp H
 obtain ⟨t118, A20, H⟩ := H
 replace H : (if t118 = true then ((strings_Join.f l0_2 (⟨#[]⟩ : ByteArray)).bind fun t119 => ((group_Group_head.f k a0_0 l0_1 l0_2).bind fun t120 => ((crc_Sum.f (([t120, t119] : List ByteArray))).bind fun t124 => ((nums_Put.f (wrap64 (t124)) 4).bind fun t125 => (if t120.size + t125.size ≤ 9223372036854775807 then ((xor_Zero.f (wrap64 (64 - ((t120 ++ t125).size : Int)))).bind fun t126 => (if (t120 ++ t125).size + t126.size ≤ 9223372036854775807 then (if ((t120 ++ t125) ++ t126).size + t119.size ≤ 9223372036854775807 then (some (((t120 ++ t125) ++ t126) ++ t119, 0)) else (none)) else (none))) else (none)))))) else (some ((⟨#[]⟩ : ByteArray), 1))) = some (r1, r2) := H
 have A2 := Aside0.mk A20
 clear A20
 by_cases c3 : t118 = true
 ·subst c3
  have H1 : ((strings_Join.f l0_2 (⟨#[]⟩ : ByteArray)).bind fun t119 => ((group_Group_head.f k a0_0 l0_1 l0_2).bind fun t120 => ((crc_Sum.f (([t120, t119] : List ByteArray))).bind fun t124 => ((nums_Put.f (wrap64 (t124)) 4).bind fun t125 => (if t120.size + t125.size ≤ 9223372036854775807 then ((xor_Zero.f (wrap64 (64 - ((t120 ++ t125).size : Int)))).bind fun t126 => (if (t120 ++ t125).size + t126.size ≤ 9223372036854775807 then (if ((t120 ++ t125) ++ t126).size + t119.size ≤ 9223372036854775807 then (some (((t120 ++ t125) ++ t126) ++ t119, 0)) else (none)) else (none))) else (none)))))) = some (r1, r2) := by rw [if_pos rfl] at H; exact H
  clear H
  have H := H1
  clear H1
  replace H := Option.bind_eq_some_iff.mp H
  obtain ⟨t119, A40, H⟩ := H
  replace H : ((group_Group_head.f k a0_0 l0_1 l0_2).bind fun t120 => ((crc_Sum.f (([t120, t119] : List ByteArray))).bind fun t124 => ((nums_Put.f (wrap64 (t124)) 4).bind fun t125 => (if t120.size + t125.size ≤ 9223372036854775807 then ((xor_Zero.f (wrap64 (64 - ((t120 ++ t125).size : Int)))).bind fun t126 => (if (t120 ++ t125).size + t126.size ≤ 9223372036854775807 then (if ((t120 ++ t125) ++ t126).size + t119.size ≤ 9223372036854775807 then (some (((t120 ++ t125) ++ t126) ++ t119, 0)) else (none)) else (none))) else (none))))) = some (r1, r2) := H
  have A4 := Aside0.mk A40
  clear A40
  replace H := Option.bind_eq_some_iff.mp H
  obtain ⟨t120, A50, H⟩ := H
  replace H : ((crc_Sum.f (([t120, t119] : List ByteArray))).bind fun t124 => ((nums_Put.f (wrap64 (t124)) 4).bind fun t125 => (if t120.size + t125.size ≤ 9223372036854775807 then ((xor_Zero.f (wrap64 (64 - ((t120 ++ t125).size : Int)))).bind fun t126 => (if (t120 ++ t125).size + t126.size ≤ 9223372036854775807 then (if ((t120 ++ t125) ++ t126).size + t119.size ≤ 9223372036854775807 then (some (((t120 ++ t125) ++ t126) ++ t119, 0)) else (none)) else (none))) else (none)))) = some (r1, r2) := H
  have A5 := Aside0.mk A50
  clear A50
  obtain ⟨y121, hy121⟩ : ∃ y_ : List ByteArray, y_ = (([t120, t119] : List ByteArray)) := ⟨_, rfl⟩
  replace H : ((crc_Sum.f y121).bind fun t124 => ((nums_Put.f (wrap64 (t124)) 4).bind fun t125 => (if t120.size + t125.size ≤ 9223372036854775807 then ((xor_Zero.f (wrap64 (64 - ((t120 ++ t125).size : Int)))).bind fun t126 => (if (t120 ++ t125).size + t126.size ≤ 9223372036854775807 then (if ((t120 ++ t125) ++ t126).size + t119.size ≤ 9223372036854775807 then (some (((t120 ++ t125) ++ t126) ++ t119, 0)) else (none)) else (none))) else (none)))) = some (r1, r2) := by first | (rw [hy121]; with_reducible exact H) | (have H2_ := (Option.bind_some _ _).symm.trans H; rw [hy121]; with_reducible exact H2_) | (have H2_ := (Option.bind_some _ _).symm.trans H; with_reducible exact H2_) | with_reducible exact H | (rw [hy121]; exact H) | exact H
  have Ny121 := Aside0.mk hy121
  clear hy121
  replace H := Option.bind_eq_some_iff.mp H
  obtain ⟨t124, A60, H⟩ := H
  replace H : ((nums_Put.f (wrap64 (t124)) 4).bind fun t125 => (if t120.size + t125.size ≤ 9223372036854775807 then ((xor_Zero.f (wrap64 (64 - ((t120 ++ t125).size : Int)))).bind fun t126 => (if (t120 ++ t125).size + t126.size ≤ 9223372036854775807 then (if ((t120 ++ t125) ++ t126).size + t119.size ≤ 9223372036854775807 then (some (((t120 ++ t125) ++ t126) ++ t119, 0)) else (none)) else (none))) else (none))) = some (r1, r2) := H
  have A6 := Aside0.mk A60
  clear A60
  replace H := Option.bind_eq_some_iff.mp H
  obtain ⟨t125, A70, H⟩ := H
  replace H : (if t120.size + t125.size ≤ 9223372036854775807 then ((xor_Zero.f (wrap64 (64 - ((t120 ++ t125).size : Int)))).bind fun t126 => (if (t120 ++ t125).size + t126.size ≤ 9223372036854775807 then (if ((t120 ++ t125) ++ t126).size + t119.size ≤ 9223372036854775807 then (some (((t120 ++ t125) ++ t126) ++ t119, 0)) else (none)) else (none))) else (none)) = some (r1, r2) := H
  have A7 := Aside0.mk A70
  clear A70
  by_cases c8 : t120.size + t125.size ≤ 9223372036854775807
  ·rw [if_pos c8] at H
   have c8b0 := eq_true c8
   have c8b1 : decide (t120.size + t125.size ≤ 9223372036854775807) = true := decide_eq_true c8
   try have c8b2 : (9223372036854775807 < t120.size + t125.size) = False := eq_false (Nat.not_lt.2 c8)
   replace H := Option.bind_eq_some_iff.mp H
   obtain ⟨t126, A90, H⟩ := H
   replace H : (if (t120 ++ t125).size + t126.size ≤ 9223372036854775807 then (if ((t120 ++ t125) ++ t126).size + t119.size ≤ 9223372036854775807 then (some (((t120 ++ t125) ++ t126) ++ t119, 0)) else (none)) else (none)) = some (r1, r2) := H
   have A9 := Aside0.mk A90
   clear A90
   by_cases c10 : (t120 ++ t125).size + t126.size ≤ 9223372036854775807
   ·rw [if_pos c10] at H
    have c10b0 := eq_true c10
    have c10b1 : decide ((t120 ++ t125).size + t126.size ≤ 9223372036854775807) = true := decide_eq_true c10
    try have c10b2 : (9223372036854775807 < (t120 ++ t125).size + t126.size) = False := eq_false (Nat.not_lt.2 c10)
    have c10b3 : (9223372036854775807 < t120.size + t125.size + t126.size) = False := eq_false (by have h_ := c10; (try simp only [ByteArray.size_append] at h_); omega)
    by_cases c11 : ((t120 ++ t125) ++ t126).size + t119.size ≤ 9223372036854775807
    ·rw [if_pos c11] at H
     have c11b0 := eq_true c11
     have c11b1 : decide (((t120 ++ t125) ++ t126).size + t119.size ≤ 9223372036854775807) = true := decide_eq_true c11
     try have c11b2 : (9223372036854775807 < ((t120 ++ t125) ++ t126).size + t119.size) = False := eq_false (Nat.not_lt.2 c11)
     have c11b3 : (9223372036854775807 < t120.size + t125.size + t126.size + t119.size) = False := eq_false (by have h_ := c11; (try simp only [ByteArray.size_append] at h_); omega)
     simp only [Option.some.injEq, Prod.mk.injEq] at H
     obtain ⟨rfl, rfl⟩ := H
     go_enter Tryd.func24, Tryd.ntmps24
     go_wp2_with (first | ((with_reducible refine gate_dst (N := 1) rfl ?_); refine box_event ?hg (N := 1) ?hd (cs := #[.int .i64 a0_0, .slice A0_1 l0_1.length c0_1, .slice A0_2 l0_2.length c0_2]) (t := 42) ?hr ?_; (case hd => rfl); (case hg => rfl); (case hr => first | (go_simp; done) | (go_simp; rfl)); intro gb117 hg w12 hbox hb; have n0_ := Aside0.mk (below_step (by repeat (first | (with_reducible first | exact HB.out | apply bA | apply pN | apply bD) | exact HB.out)) hb); have n1_ := Aside0.mk (hbox); have n2_ := Aside0.mk ((by rw [hg]; exact (bZ (by repeat (first | (with_reducible first | exact HB.out | apply bA | apply pN | apply bD) | exact HB.out))) : w.heap.size ≤ gb117)); have n3_ := Aside0.mk ((by rw [hg]; exact (bZ (by repeat (first | (with_reducible first | exact HB.out | apply bA | apply pN | apply bD) | exact HB.out))) : w.heap.size ≤ gb117)); clear HB; have HB := n0_; have BK117 := n1_; have GW117 := n2_; have GE117 := n3_; clear n0_ n1_ n2_ n3_; clear hb hbox hg; have hcz13_0 : w12.cell? ⟨gb117, 0, none⟩ = some (.int .i64 a0_0) := (blk_cell BK117.out 0).trans rfl; have hcz13_1 : w12.cell? ⟨gb117, 1, none⟩ = some (.slice A0_1 l0_1.length c0_1) := (blk_cell BK117.out 1).trans rfl; have hcz13_2 : w12.cell? ⟨gb117, 2, none⟩ = some (.slice A0_2 l0_2.length c0_2) := (blk_cell BK117.out 2).trans rfl; have hfz13_0 := blk_frozen BK117.out 0; have hfz13_1 := blk_frozen BK117.out 1; have hfz13_2 := blk_frozen BK117.out 2) | ((with_reducible refine gate_callee (f := 32) rfl ?_); refine goesL_ (some 7) rfl rfl Tryd.func32 (by kernel_rfl) rfl #[.agg #[.int .i64 a0_0, .slice A0_1 l0_1.length c0_1, .slice A0_2 l0_2.length c0_2]] rfl (by (try simp only [List.map_toArray, List.map_cons, List.map_nil]); first | done | rfl | (simp only [List.length_drop, List.length_take]; rfl)) ?_; (with_reducible refine (group_Group_right.calls k a0_0 _ _ l0_1 _ _ l0_2 true _ ?side1 ?side2 ?side3 ?side4 A2.out).mono ?_); (case side1 => repeat (first | exact (Kd.C_below HR0_1.out HB.out) | (with_reducible refine Kd.C_alloc ?_ _) | (with_reducible refine Kd.C_drewN ?_ _) | (with_reducible refine Kd.C_drew ?_))); (case side2 => exact HC0_1.out); (case side3 => repeat (first | exact (Kd.C_below HR0_2.out HB.out) | (with_reducible refine Kd.C_alloc ?_ _) | (with_reducible refine Kd.C_drewN ?_ _) | (with_reducible refine Kd.C_drew ?_))); (case side4 => exact HC0_2.out); rintro e w14 ⟨rfl, hb⟩; refine ⟨_, rfl, ?_⟩; have n0_ := Aside0.mk (kB (g := gb117) (o := .cells #[.int .i64 a0_0, .slice A0_1 l0_1.length c0_1, .slice A0_2 l0_2.length c0_2] 42 (0, 0)) (by (with_reducible repeat (first | refine kN ?_ _ | refine blk_drew ?_ | refine kA ?_ _)); exact BK117.out) hb); have n1_ := Aside0.mk (below_step (by repeat (first | (with_reducible first | exact HB.out | apply bA | apply pN | apply bD | refine bS ?_ GE117.out) | exact HB.out)) hb); clear BK117; clear HB; have BK117 := n0_; have HB := n1_; clear n0_ n1_; (try clear hb); (try clear hb2); (try clear hk); (try clear hi); have hcz15_0 : w14.cell? ⟨gb117, 0, none⟩ = some (.int .i64 a0_0) := (blk_cell BK117.out 0).trans rfl; have hcz15_1 : w14.cell? ⟨gb117, 1, none⟩ = some (.slice A0_1 l0_1.length c0_1) := (blk_cell BK117.out 1).trans rfl; have hcz15_2 : w14.cell? ⟨gb117, 2, none⟩ = some (.slice A0_2 l0_2.length c0_2) := (blk_cell BK117.out 2).trans rfl; have hfz15_0 := blk_frozen BK117.out 0; have hfz15_1 := blk_frozen BK117.out 1; have hfz15_2 := blk_frozen BK117.out 2) | ((with_reducible refine gate_callee (f := 33) rfl ?_); refine goesL_ (some 11) rfl rfl Tryd.func33 (by kernel_rfl) rfl #[.slice A0_2 l0_2.length c0_2, .string (⟨#[]⟩ : ByteArray)] rfl (by (try simp only [List.map_toArray, List.map_cons, List.map_nil]); first | done | rfl | (simp only [List.length_drop, List.length_take]; rfl)) ?_; (with_reducible refine (strings_Join.calls _ _ l0_2 (⟨#[]⟩ : ByteArray) t119 _ ?side1 ?side2 A4.out).mono ?_); (case side1 => repeat (first | exact (Kd.C_below HR0_2.out HB.out) | (with_reducible refine Kd.C_alloc ?_ _) | (with_reducible refine Kd.C_drewN ?_ _) | (with_reducible refine Kd.C_drew ?_))); (case side2 => exact HC0_2.out); rintro e w16 ⟨rfl, hb⟩; refine ⟨_, rfl, ?_⟩; have n0_ := Aside0.mk (kB (g := gb117) (o := .cells #[.int .i64 a0_0, .slice A0_1 l0_1.length c0_1, .slice A0_2 l0_2.length c0_2] 42 (0, 0)) (by (with_reducible repeat (first | refine kN ?_ _ | refine blk_drew ?_ | refine kA ?_ _)); exact BK117.out) hb); have n1_ := Aside0.mk (below_step (by repeat (first | (with_reducible first | exact HB.out | apply bA | apply pN | apply bD | refine bS ?_ GE117.out) | exact HB.out)) hb); clear BK117; clear HB; have BK117 := n0_; have HB := n1_; clear n0_ n1_; (try clear hb); (try clear hb2); (try clear hk); (try clear hi); have hcz17_0 : w16.cell? ⟨gb117, 0, none⟩ = some (.int .i64 a0_0) := (blk_cell BK117.out 0).trans rfl; have hcz17_1 : w16.cell? ⟨gb117, 1, none⟩ = some (.slice A0_1 l0_1.length c0_1) := (blk_cell BK117.out 1).trans rfl; have hcz17_2 : w16.cell? ⟨gb117, 2, none⟩ = some (.slice A0_2 l0_2.length c0_2) := (blk_cell BK117.out 2).trans rfl; have hfz17_0 := blk_frozen BK117.out 0; have hfz17_1 := blk_frozen BK117.out 1; have hfz17_2 := blk_frozen BK117.out 2) | ((with_reducible refine gate_callee (f := 34) rfl ?_); refine goesL_ (some 13) rfl rfl Tryd.func34 (by kernel_rfl) rfl #[.agg #[.int .i64 a0_0, .slice A0_1 l0_1.length c0_1, .slice A0_2 l0_2.length c0_2]] rfl (by (try simp only [List.map_toArray, List.map_cons, List.map_nil]); first | done | rfl | (simp only [List.length_drop, List.length_take]; rfl)) ?_; (with_reducible refine (group_Group_head.calls k a0_0 _ _ l0_1 _ _ l0_2 t120 _ ?side1 ?side2 ?side3 ?side4 A5.out).mono ?_); (case side1 => repeat (first | exact (Kd.C_below HR0_1.out HB.out) | (with_reducible refine Kd.C_alloc ?_ _) | (with_reducible refine Kd.C_drewN ?_ _) | (with_reducible refine Kd.C_drew ?_))); (case side2 => exact HC0_1.out); (case side3 => repeat (first | exact (Kd.C_below HR0_2.out HB.out) | (with_reducible refine Kd.C_alloc ?_ _) | (with_reducible refine Kd.C_drewN ?_ _) | (with_reducible refine Kd.C_drew ?_))); (case side4 => exact HC0_2.out); rintro e w18 ⟨rfl, hb⟩; refine ⟨_, rfl, ?_⟩; have n0_ := Aside0.mk (kB (g := gb117) (o := .cells #[.int .i64 a0_0, .slice A0_1 l0_1.length c0_1, .slice A0_2 l0_2.length c0_2] 42 (0, 0)) (by (with_reducible repeat (first | refine kN ?_ _ | refine blk_drew ?_ | refine kA ?_ _)); exact BK117.out) hb); have n1_ := Aside0.mk (below_step (by repeat (first | (with_reducible first | exact HB.out | apply bA | apply pN | apply bD | refine bS ?_ GE117.out) | exact HB.out)) hb); clear BK117; clear HB; have BK117 := n0_; have HB := n1_; clear n0_ n1_; (try clear hb); (try clear hb2); (try clear hk); (try clear hi)) | ((with_reducible refine gate_dst (N := 17) rfl ?_); refine Kd.R_lit Kd.string _ 9 ?hg (N := 17) ?hd (xs := ([t120, t119] : List ByteArray)) (inner := [.string t120, .string t119]) (ok := fun _ => True) (okp := fun _ => True) ?hr ?hp (fun _ hk => hk) trivial (Below.refl _ _) (Nat.le_refl _) (by simp) ?_; (case hd => rfl); (case hg => rfl); (case hr => first | (go_simp; done) | (go_simp; rfl)); (case hp => exact (Reps.one (show Kd.M Kd.string _ _ _ t120 [.string t120] from rfl) (Reps.one (show Kd.M Kd.string _ _ _ t119 [.string t119] from rfl) (Reps.none _ _)))); intro v122 w19 ho20 hb hg_ hnew_; clear hg_ hnew_; (first | rw [← Ny121.out] at ho20 | (simp only [Int.reduceToNat] at ho20; rw [← Ny121.out] at ho20)); have n0_ := Aside0.mk (Kd.R_lower ho20 (bZ (by repeat (first | (with_reducible first | exact HB.out | apply bA | apply pN | apply bD | refine bS ?_ GE117.out) | exact HB.out)))); have n1_ := Aside0.mk (kB (g := gb117) (o := .cells #[.int .i64 a0_0, .slice A0_1 l0_1.length c0_1, .slice A0_2 l0_2.length c0_2] 42 (0, 0)) (by (with_reducible repeat (first | refine kN ?_ _ | refine blk_drew ?_ | refine kA ?_ _)); exact BK117.out) hb); have n2_ := Aside0.mk (below_step (by repeat (first | (with_reducible first | exact HB.out | apply bA | apply pN | apply bD | refine bS ?_ GE117.out) | exact HB.out)) hb); clear BK117; clear HB; have HO123 := n0_; have BK117 := n1_; have HB := n2_; clear n0_ n1_ n2_; clear hb ho20; obtain ⟨Ao21, co21, eo21⟩ := Kd.R_slice HO123.out; subst eo21) | ((with_reducible refine gate_callee (f := 36) rfl ?_); refine goesL_ (some 18) rfl rfl Tryd.func36 (by kernel_rfl) rfl #[.slice Ao21 y121.length co21] rfl (by (try simp only [List.map_toArray, List.map_cons, List.map_nil]); first | done | rfl | (simp only [List.length_drop, List.length_take]; rfl)) ?_; (with_reducible refine (crc_Sum.calls _ _ y121 t124 _ ?side1 ?side2 A6.out (HN.out.below (by repeat (first | (with_reducible first | exact HB.out | apply bA | apply pN | apply bD | refine bS ?_ GE117.out) | exact HB.out)) (Nat.lt_of_lt_of_le HN.out.lt (Nat.le_refl _)))).mono ?_); (case side1 => repeat (first | exact (Kd.R_reads' HO123.out).2.2 | (with_reducible refine Kd.C_alloc ?_ _) | (with_reducible refine Kd.C_drewN ?_ _) | (with_reducible refine Kd.C_drew ?_))); (case side2 => exact (Kd.R_reads' HO123.out).2.1); rintro e w' ⟨rfl, ⟨nd, rfl⟩⟩; refine ⟨_, rfl, ?_⟩) | ((with_reducible refine gate_callee (f := 35) rfl ?_); refine goesL_ (some 20) rfl rfl Tryd.func35 (by kernel_rfl) rfl #[.int .i64 (wrap64 (t124)), .int .i64 4] rfl (by (try simp only [List.map_toArray, List.map_cons, List.map_nil]); first | done | rfl | (simp only [List.length_drop, List.length_take]; rfl)) ?_; (with_reducible refine (nums_Put.calls (wrap64 (t124)) 4 t125 _ A7.out).mono ?_); rintro e w22 ⟨rfl, hb⟩; refine ⟨_, rfl, ?_⟩; have n0_ := Aside0.mk (Kd.R_below (by (with_reducible repeat (first | apply rA | apply rN | apply Kd.R_drew)); exact HO123.out) hb); have n1_ := Aside0.mk (kB (g := gb117) (o := .cells #[.int .i64 a0_0, .slice A0_1 l0_1.length c0_1, .slice A0_2 l0_2.length c0_2] 42 (0, 0)) (by (with_reducible repeat (first | refine kN ?_ _ | refine blk_drew ?_ | refine kA ?_ _)); exact BK117.out) hb); have n2_ := Aside0.mk (below_step (by repeat (first | (with_reducible first | exact HB.out | apply bA | apply pN | apply bD | refine bS ?_ GE117.out) | exact HB.out)) hb); clear HO123; clear BK117; clear HB; have HO123 := n0_; have BK117 := n1_; have HB := n2_; clear n0_ n1_ n2_; (try clear hb); (try clear hb2); (try clear hk); (try clear hi)) | ((with_reducible refine gate_callee (f := 21) rfl ?_); refine goesL_ (some 26) rfl rfl Tryd.func21 (by kernel_rfl) rfl #[.int .i64 (64 - ((t120.size : Int) + (t125.size : Int)))] rfl (by (try simp only [List.map_toArray, List.map_cons, List.map_nil]); first | done | rfl | (simp only [List.length_drop, List.length_take]; rfl)) ?_; (with_reducible refine (xor_Zero.calls (64 - ((t120.size : Int) + (t125.size : Int))) t126 _ (by have h_ := A9.out; rwa [show wrap64 (64 - ((t120 ++ t125).size : Int)) = 64 - ((t120.size : Int) + (t125.size : Int)) from by rw [ByteArray.size_append]; unfold wrap64; omega] at h_)).mono ?_); rintro e w23 ⟨rfl, hb⟩; refine ⟨_, rfl, ?_⟩; have n0_ := Aside0.mk (Kd.R_below (by (with_reducible repeat (first | apply rA | apply rN | apply Kd.R_drew)); exact HO123.out) hb); have n1_ := Aside0.mk (kB (g := gb117) (o := .cells #[.int .i64 a0_0, .slice A0_1 l0_1.length c0_1, .slice A0_2 l0_2.length c0_2] 42 (0, 0)) (by (with_reducible repeat (first | refine kN ?_ _ | refine blk_drew ?_ | refine kA ?_ _)); exact BK117.out) hb); have n2_ := Aside0.mk (below_step (by repeat (first | (with_reducible first | exact HB.out | apply bA | apply pN | apply bD | refine bS ?_ GE117.out) | exact HB.out)) hb); clear HO123; clear BK117; clear HB; have HO123 := n0_; have BK117 := n1_; have HB := n2_; clear n0_ n1_ n2_; (try clear hb); (try clear hb2); (try clear hk); (try clear hi)))
     go_ret2
     exact ⟨by first | rfl | (simp [errW_none, errW_some] <;> rfl) | (simp [*, errW_none, errW_some] <;> rfl), by repeat (first | (with_reducible first | exact HB.out | apply bA | apply pN | apply bD | refine bS ?_ GE117.out) | exact HB.out)⟩
    ·rw [if_neg c11] at H
     exact absurd H (by simp)
   ·rw [if_neg c10] at H
    exact absurd H (by simp)
  ·rw [if_neg c8] at H
   exact absurd H (by simp)
 ·replace c3 := Bool.eq_false_iff.mpr c3
  subst c3
  have H1 : (some ((⟨#[]⟩ : ByteArray), 1)) = some (r1, r2) := by rw [if_neg (show ¬ (false = true) by decide)] at H; exact H
  clear H
  have H := H1
  clear H1
  simp only [Option.some.injEq, Prod.mk.injEq] at H
  obtain ⟨rfl, rfl⟩ := H
  go_enter Tryd.func24, Tryd.ntmps24
  go_wp2_with (first | ((with_reducible refine gate_dst (N := 1) rfl ?_); refine box_event ?hg (N := 1) ?hd (cs := #[.int .i64 a0_0, .slice A0_1 l0_1.length c0_1, .slice A0_2 l0_2.length c0_2]) (t := 42) ?hr ?_; (case hd => rfl); (case hg => rfl); (case hr => first | (go_simp; done) | (go_simp; rfl)); intro gb117 hg w24 hbox hb; have n0_ := Aside0.mk (below_step (by repeat (first | (with_reducible first | exact HB.out | apply bA | apply pN | apply bD) | exact HB.out)) hb); have n1_ := Aside0.mk (hbox); have n2_ := Aside0.mk ((by rw [hg]; exact (bZ (by repeat (first | (with_reducible first | exact HB.out | apply bA | apply pN | apply bD) | exact HB.out))) : w.heap.size ≤ gb117)); have n3_ := Aside0.mk ((by rw [hg]; exact (bZ (by repeat (first | (with_reducible first | exact HB.out | apply bA | apply pN | apply bD) | exact HB.out))) : w.heap.size ≤ gb117)); clear HB; have HB := n0_; have BK117 := n1_; have GW117 := n2_; have GE117 := n3_; clear n0_ n1_ n2_ n3_; clear hb hbox hg; have hcz25_0 : w24.cell? ⟨gb117, 0, none⟩ = some (.int .i64 a0_0) := (blk_cell BK117.out 0).trans rfl; have hcz25_1 : w24.cell? ⟨gb117, 1, none⟩ = some (.slice A0_1 l0_1.length c0_1) := (blk_cell BK117.out 1).trans rfl; have hcz25_2 : w24.cell? ⟨gb117, 2, none⟩ = some (.slice A0_2 l0_2.length c0_2) := (blk_cell BK117.out 2).trans rfl; have hfz25_0 := blk_frozen BK117.out 0; have hfz25_1 := blk_frozen BK117.out 1; have hfz25_2 := blk_frozen BK117.out 2) | ((with_reducible refine gate_callee (f := 32) rfl ?_); refine goesL_ (some 7) rfl rfl Tryd.func32 (by kernel_rfl) rfl #[.agg #[.int .i64 a0_0, .slice A0_1 l0_1.length c0_1, .slice A0_2 l0_2.length c0_2]] rfl (by (try simp only [List.map_toArray, List.map_cons, List.map_nil]); first | done | rfl | (simp only [List.length_drop, List.length_take]; rfl)) ?_; (with_reducible refine (group_Group_right.calls k a0_0 _ _ l0_1 _ _ l0_2 false _ ?side1 ?side2 ?side3 ?side4 A2.out).mono ?_); (case side1 => repeat (first | exact (Kd.C_below HR0_1.out HB.out) | (with_reducible refine Kd.C_alloc ?_ _) | (with_reducible refine Kd.C_drewN ?_ _) | (with_reducible refine Kd.C_drew ?_))); (case side2 => exact HC0_1.out); (case side3 => repeat (first | exact (Kd.C_below HR0_2.out HB.out) | (with_reducible refine Kd.C_alloc ?_ _) | (with_reducible refine Kd.C_drewN ?_ _) | (with_reducible refine Kd.C_drew ?_))); (case side4 => exact HC0_2.out); rintro e w26 ⟨rfl, hb⟩; refine ⟨_, rfl, ?_⟩; have n0_ := Aside0.mk (kB (g := gb117) (o := .cells #[.int .i64 a0_0, .slice A0_1 l0_1.length c0_1, .slice A0_2 l0_2.length c0_2] 42 (0, 0)) (by (with_reducible repeat (first | refine kN ?_ _ | refine blk_drew ?_ | refine kA ?_ _)); exact BK117.out) hb); have n1_ := Aside0.mk (below_step (by repeat (first | (with_reducible first | exact HB.out | apply bA | apply pN | apply bD | refine bS ?_ GE117.out) | exact HB.out)) hb); clear BK117; clear HB; have BK117 := n0_; have HB := n1_; clear n0_ n1_; (try clear hb); (try clear hb2); (try clear hk); (try clear hi)))
  go_ret2
  exact ⟨by first | rfl | (simp [errW_none, errW_some] <;> rfl) | (simp [*, errW_none, errW_some] <;> rfl), by repeat (first | (with_reducible first | exact HB.out | apply bA | apply pN | apply bD | refine bS ?_ GE117.out) | exact HB.out)⟩

/-! ### strings_trimLeftByte: function 43 -/
def strings_trimLeftByte.l0 : Nat → ByteArray → Int → Option (ByteArray)
 | 0, _, _ => none
 | k + 1, x0, x1 => if (x0.size : Int) > 0 then (if 0 < (x0.size : Int) then (if (bt x0 0) = x1 then (if 1 ≤ (x0.size : Int) then (strings_trimLeftByte.l0 k (x0.extract 1 x0.size) x1) else (none)) else (some x0)) else (none)) else (some x0)
def strings_trimLeftByte.f (k : Nat) (a0 : ByteArray) (a1 : Int) : Option (ByteArray) := strings_trimLeftByte.l0 k a0 a1
theorem strings_trimLeftByte.mono_l : ∀ k, (∀ y0 y1, LeO (strings_trimLeftByte.l0 k y0 y1) (strings_trimLeftByte.l0 (k + 1) y0 y1))
 | 0 => fun _ _ r h => by simp [strings_trimLeftByte.l0] at h
 | k + 1 => by
  have ih0 := strings_trimLeftByte.mono_l k
  ·intro y0 y1
   unfold strings_trimLeftByte.l0
   repeat' first
   | (with_reducible exact ih0 _ _)
   | (with_reducible exact LeO.refl _)
   | (with_reducible exact LeO.none _)
   | (with_reducible refine LeO.ite ?_ ?_)
   | (with_reducible refine LeO.bind ?_ (fun _ => ?_))
   | exact ih0 _ _
   | exact LeO.none _
   | refine LeO.ite ?_ ?_
   | refine LeO.bind ?_ (fun _ => ?_)
theorem strings_trimLeftByte.mono : ∀ a0 a1 k, LeO (strings_trimLeftByte.f k a0 a1) (strings_trimLeftByte.f (k + 1) a0 a1) := by
 intro a0 a1 k
 have ih0 := strings_trimLeftByte.mono_l k
 unfold strings_trimLeftByte.f
 repeat' first
   | (with_reducible exact ih0 _ _)
   | (with_reducible exact LeO.refl _)
   | (with_reducible exact LeO.none _)
   | (with_reducible refine LeO.ite ?_ ?_)
   | (with_reducible refine LeO.bind ?_ (fun _ => ?_))
   | exact ih0 _ _
   | exact LeO.none _
   | refine LeO.ite ?_ ?_
   | refine LeO.bind ?_ (fun _ => ?_)
set_option maxHeartbeats 8000000 in
set_option maxRecDepth 100000 in
theorem strings_trimLeftByte.calls (k : Nat) (a0 : ByteArray) (a1 : Int) (r : ByteArray) (w : World) (h : strings_trimLeftByte.f k a0 a1 = some r) :
  Calls Tryd.prog 43 #[.string a0, .int .u8 a1] w fun e w' => e = .returned (.string r) ∧ Drawn0 w w' := by
 have H : (strings_trimLeftByte.l0 k a0 a1) = some r := h
 clear h
 have H' := Aside0.mk H
 clear H
 go_enter Tryd.func43, Tryd.ntmps43
 go_wp2
 go_loopg [0] k (fun kq v0 w' => ∃ (x0_1 : ByteArray), v0 = .string x0_1 ∧ Aside0 (strings_trimLeftByte.l0 kq x0_1 a1 = some r) ∧ Aside0 (kq ≤ k) ∧ Drawn0 w w')
 case atStart => exact ⟨(a0), (by first | rfl | (simp; done) | (simp [*]; done)), H', ⟨Nat.le_refl _⟩, by repeat (first | exact Drawn0.refl _ | apply Drawn0.step)⟩
 case round =>
  clear H'
  try clear p2
  obtain ⟨x0_1, rfl, HA, HK1, ⟨m1, rfl⟩⟩ := hrel
  cases gk with
  | zero => exact absurd HA.out (by simp [strings_trimLeftByte.l0])
  | succ k1 =>
   have H := HA.out
   clear HA
   simp only [strings_trimLeftByte.l0] at H
   by_cases c3 : (x0_1.size : Int) > 0
   ·rw [if_pos c3] at H
    have c3b0 : decide (0 < (x0_1.size : Int)) = true := decide_eq_true c3
    have c3b1 : decide (0 < x0_1.size) = true := decide_eq_true (by omega)
    clear c3
    by_cases c4 : 0 < (x0_1.size : Int)
    ·rw [if_pos c4] at H
     have c4b0 : decide (0 < (x0_1.size : Int)) = true := decide_eq_true c4
     have c4b1 : decide (0 < x0_1.size) = true := decide_eq_true (by omega)
     clear c4
     by_cases c6 : (bt x0_1 0) = a1
     ·rw [if_pos c6] at H
      have c6b0 : ((bt x0_1 0) == a1) = true := beq_iff_eq.mpr c6
      have c6b1 : ((bt x0_1 0) != a1) = false := bne_eq_false_iff_eq.mpr c6
      clear c6
      by_cases c7 : 1 ≤ (x0_1.size : Int)
      ·rw [if_pos c7] at H
       have c7b0 := eq_true c7
       have c7b1 : decide (1 ≤ (x0_1.size : Int)) = true := decide_eq_true c7
       clear c7
       have H' := Aside0.mk H
       clear H
       have p5 : 0 ≤ (0 : Int) := (by omega)
       have q5 : 0 < x0_1.size := (by have : (0 : Int) < (x0_1.size : Int) := of_decide_eq_true (by first | (with_reducible assumption) | assumption); omega)
       have hx5 : ∀ h : 0 < x0_1.size, ((x0_1[0]'h).toNat : Int) = bt x0_1 0 := bt_at x0_1 0
       clear p5
       have qi5 : (0 < (x0_1.size : Int)) = True := eq_true (of_decide_eq_true (by first | (with_reducible assumption) | assumption))
       replace q5 := eq_true q5
       go_wp2
       go_roundg k1
       case measure => have := HK1.out; omega
       case rel => exact ⟨(x0_1.extract 1 x0_1.size), (by first | rfl | (simp; done) | (simp [*]; done)), H', ⟨by have := HK1.out; omega⟩, by repeat (first | exact Drawn0.refl _ | apply Drawn0.step)⟩
      ·rw [if_neg c7] at H
       exact absurd H (by simp)
     ·rw [if_neg c6] at H
      have c6b0 : ((bt x0_1 0) == a1) = false := beq_eq_false_iff_ne.mpr c6
      have c6b1 : ((bt x0_1 0) != a1) = true := bne_iff_ne.mpr c6
      obtain rfl := Option.some.inj H
      have p5 : 0 ≤ (0 : Int) := (by omega)
      have q5 : 0 < x0_1.size := (by have : (0 : Int) < (x0_1.size : Int) := of_decide_eq_true (by first | (with_reducible assumption) | assumption); omega)
      have hx5 : ∀ h : 0 < x0_1.size, ((x0_1[0]'h).toNat : Int) = bt x0_1 0 := bt_at x0_1 0
      clear p5
      have qi5 : (0 < (x0_1.size : Int)) = True := eq_true (of_decide_eq_true (by first | (with_reducible assumption) | assumption))
      replace q5 := eq_true q5
      go_wp2
      go_ret
      exact ⟨by first | rfl | (simp; done) | (simp [*]; done), by repeat (first | exact Drawn0.refl _ | apply Drawn0.step)⟩
    ·rw [if_neg c4] at H
     exact absurd H (by simp)
   ·rw [if_neg c3] at H
    have c3b0 : decide (0 < (x0_1.size : Int)) = false := decide_eq_false c3
    have c3b1 : decide (0 < x0_1.size) = false := decide_eq_false (by omega)
    clear c3
    obtain rfl := Option.some.inj H
    go_wp2
    go_ret
    exact ⟨by first | rfl | (simp; done) | (simp [*]; done), by repeat (first | exact Drawn0.refl _ | apply Drawn0.step)⟩

/-! ### strings_trimRightByte: function 44 -/
def strings_trimRightByte.l0 : Nat → ByteArray → Int → Option (ByteArray)
 | 0, _, _ => none
 | k + 1, x0, x1 => if (x0.size : Int) > 0 then (if 0 ≤ (wrap64 ((x0.size : Int) - 1)) then (if (wrap64 ((x0.size : Int) - 1)) < (x0.size : Int) then (if (bt x0 (wrap64 ((x0.size : Int) - 1))) = x1 then (if (wrap64 ((x0.size : Int) - 1)) ≤ (x0.size : Int) then (strings_trimRightByte.l0 k (x0.extract 0 ((wrap64 ((x0.size : Int) - 1)) : Int).toNat) x1) else (none)) else (some x0)) else (none)) else (none)) else (some x0)
def strings_trimRightByte.f (k : Nat) (a0 : ByteArray) (a1 : Int) : Option (ByteArray) := strings_trimRightByte.l0 k a0 a1
theorem strings_trimRightByte.mono_l : ∀ k, (∀ y0 y1, LeO (strings_trimRightByte.l0 k y0 y1) (strings_trimRightByte.l0 (k + 1) y0 y1))
 | 0 => fun _ _ r h => by simp [strings_trimRightByte.l0] at h
 | k + 1 => by
  have ih0 := strings_trimRightByte.mono_l k
  ·intro y0 y1
   unfold strings_trimRightByte.l0
   repeat' first
   | (with_reducible exact ih0 _ _)
   | (with_reducible exact LeO.refl _)
   | (with_reducible exact LeO.none _)
   | (with_reducible refine LeO.ite ?_ ?_)
   | (with_reducible refine LeO.bind ?_ (fun _ => ?_))
   | exact ih0 _ _
   | exact LeO.none _
   | refine LeO.ite ?_ ?_
   | refine LeO.bind ?_ (fun _ => ?_)
theorem strings_trimRightByte.mono : ∀ a0 a1 k, LeO (strings_trimRightByte.f k a0 a1) (strings_trimRightByte.f (k + 1) a0 a1) := by
 intro a0 a1 k
 have ih0 := strings_trimRightByte.mono_l k
 unfold strings_trimRightByte.f
 repeat' first
   | (with_reducible exact ih0 _ _)
   | (with_reducible exact LeO.refl _)
   | (with_reducible exact LeO.none _)
   | (with_reducible refine LeO.ite ?_ ?_)
   | (with_reducible refine LeO.bind ?_ (fun _ => ?_))
   | exact ih0 _ _
   | exact LeO.none _
   | refine LeO.ite ?_ ?_
   | refine LeO.bind ?_ (fun _ => ?_)
set_option maxHeartbeats 8000000 in
set_option maxRecDepth 100000 in
theorem strings_trimRightByte.calls (k : Nat) (a0 : ByteArray) (a1 : Int) (r : ByteArray) (w : World) (h : strings_trimRightByte.f k a0 a1 = some r) :
  Calls Tryd.prog 44 #[.string a0, .int .u8 a1] w fun e w' => e = .returned (.string r) ∧ Drawn0 w w' := by
 have H : (strings_trimRightByte.l0 k a0 a1) = some r := h
 clear h
 have H' := Aside0.mk H
 clear H
 go_enter Tryd.func44, Tryd.ntmps44
 go_wp2
 go_loopg [0] k (fun kq v0 w' => ∃ (x0_1 : ByteArray), v0 = .string x0_1 ∧ Aside0 (strings_trimRightByte.l0 kq x0_1 a1 = some r) ∧ Aside0 (kq ≤ k) ∧ Drawn0 w w')
 case atStart => exact ⟨(a0), (by first | rfl | (simp; done) | (simp [*]; done)), H', ⟨Nat.le_refl _⟩, by repeat (first | exact Drawn0.refl _ | apply Drawn0.step)⟩
 case round =>
  clear H'
  try clear p2
  obtain ⟨x0_1, rfl, HA, HK1, ⟨m1, rfl⟩⟩ := hrel
  cases gk with
  | zero => exact absurd HA.out (by simp [strings_trimRightByte.l0])
  | succ k1 =>
   have H := HA.out
   clear HA
   simp only [strings_trimRightByte.l0] at H
   by_cases c3 : (x0_1.size : Int) > 0
   ·rw [if_pos c3] at H
    have c3b0 : decide (0 < (x0_1.size : Int)) = true := decide_eq_true c3
    have c3b1 : decide (0 < x0_1.size) = true := decide_eq_true (by omega)
    clear c3
    obtain ⟨ji4, hji4⟩ : ∃ j_ : Int, (wrap64 ((x0_1.size : Int) - 1)) = j_ := ⟨_, rfl⟩
    replace H : (if 0 ≤ (ji4) then (if (ji4) < (x0_1.size : Int) then (if (bt x0_1 (ji4)) = a1 then (if (ji4) ≤ (x0_1.size : Int) then (strings_trimRightByte.l0 k1 (x0_1.extract 0 ((ji4) : Int).toNat) a1) else (none)) else (some x0_1)) else (none)) else (none)) = some r := by first | (rw [hji4] at H; exact H) | (simp only [hji4] at H ⊢; exact H)
    have hji4w : (IntKind.i64.wrap ((x0_1.size : Int) - 1)) = ji4 := (i64_w _).trans hji4
    by_cases c5 : 0 ≤ (ji4)
    ·rw [if_pos c5] at H
     have c5b0 : decide (0 ≤ (ji4)) = true := decide_eq_true c5
     clear c5
     by_cases c6 : (ji4) < (x0_1.size : Int)
     ·rw [if_pos c6] at H
      have c6b0 : decide ((ji4) < (x0_1.size : Int)) = true := decide_eq_true c6
      clear c6
      by_cases c8 : (bt x0_1 (ji4)) = a1
      ·rw [if_pos c8] at H
       have c8b0 : ((bt x0_1 (ji4)) == a1) = true := beq_iff_eq.mpr c8
       have c8b1 : ((bt x0_1 (ji4)) != a1) = false := bne_eq_false_iff_eq.mpr c8
       clear c8
       have c9b0 := eq_true (of_decide_eq_true (by first | (with_reducible assumption) | assumption) : 0 ≤ (ji4))
       by_cases c10 : (ji4) ≤ (x0_1.size : Int)
       ·rw [if_pos c10] at H
        have c10b0 := eq_true c10
        have c10b1 : decide ((ji4) ≤ (x0_1.size : Int)) = true := decide_eq_true c10
        clear c10
        have H' := Aside0.mk H
        clear H
        have p7 : 0 ≤ ((ji4) : Int) := of_decide_eq_true (by first | (with_reducible assumption) | assumption)
        have q7 : (ji4) < (x0_1.size : Int) := of_decide_eq_true (by first | (with_reducible assumption) | assumption)
        have hx7 := bt_at x0_1 (ji4)
        replace p7 := eq_true p7
        replace q7 := eq_true q7
        go_wp2
        go_roundg k1
        case measure => have := HK1.out; omega
        case rel => exact ⟨(x0_1.extract 0 ((ji4) : Int).toNat), (by first | rfl | (simp; done) | (simp only [← hji4] <;> (first | rfl | simp)) | (simp [*]; done)), H', ⟨by have := HK1.out; omega⟩, by repeat (first | exact Drawn0.refl _ | apply Drawn0.step)⟩
       ·rw [if_neg c10] at H
        exact absurd H (by simp)
      ·rw [if_neg c8] at H
       have c8b0 : ((bt x0_1 (ji4)) == a1) = false := beq_eq_false_iff_ne.mpr c8
       have c8b1 : ((bt x0_1 (ji4)) != a1) = true := bne_iff_ne.mpr c8
       obtain rfl := Option.some.inj H
       have p7 : 0 ≤ ((ji4) : Int) := of_decide_eq_true (by first | (with_reducible assumption) | assumption)
       have q7 : (ji4) < (x0_1.size : Int) := of_decide_eq_true (by first | (with_reducible assumption) | assumption)
       have hx7 := bt_at x0_1 (ji4)
       replace p7 := eq_true p7
       replace q7 := eq_true q7
       go_wp2
       go_ret
       exact ⟨by first | rfl | (simp; done) | (simp only [← hji4] <;> (first | rfl | simp)) | (simp [*]; done), by repeat (first | exact Drawn0.refl _ | apply Drawn0.step)⟩
     ·rw [if_neg c6] at H
      exact absurd H (by simp)
    ·rw [if_neg c5] at H
     exact absurd H (by simp)
   ·rw [if_neg c3] at H
    have c3b0 : decide (0 < (x0_1.size : Int)) = false := decide_eq_false c3
    have c3b1 : decide (0 < x0_1.size) = false := decide_eq_false (by omega)
    clear c3
    obtain rfl := Option.some.inj H
    go_wp2
    go_ret
    exact ⟨by first | rfl | (simp; done) | (simp [*]; done), by repeat (first | exact Drawn0.refl _ | apply Drawn0.step)⟩

-- NOT PRINTED: function 45 (strings_makeASCIISet)

-- NOT PRINTED: function 57 (strings_asciiSet_contains)

-- NOT PRINTED: function 46 (strings_trimLeftASCII)

-- NOT PRINTED: function 47 (strings_trimRightASCII)

-- NOT PRINTED: function 66 (utf8_decodeRuneInStringSlow)

-- NOT PRINTED: function 58 (utf8_DecodeRuneInString)

-- NOT PRINTED: function 76 (bytealg_IndexByteString)

-- NOT PRINTED: function 75 (stringslite_IndexByte)

-- NOT PRINTED: function 71 (strings_IndexByte)

end Go.Proofs.YticpjnpafmehaaaDoor.U
