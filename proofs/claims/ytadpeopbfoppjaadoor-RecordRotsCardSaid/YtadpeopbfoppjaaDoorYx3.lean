-- printed by a program of a session (wip/tools/printx.py) over the kit's print; not typed by hand
import Derived.Test.YtadpeopbfoppjaaDoorYx0
import Derived.Test.YtadpeopbfoppjaaDoorYx1
import Derived.Test.YtadpeopbfoppjaaDoorYx2
namespace Go.Proofs.YtadpeopbfoppjaaDoor.Y
open Go.RowKit Go.Proofs.YtadpeopbfoppjaaDoorW.PrintWords Go.Proofs.YtadpeopbfoppjaaDoorW.PrintLast Go.Proofs.YtadpeopbfoppjaaDoorW.PrintMore
attribute [local go_sem] max2_int min2_int max_two min_two max_three min_three max_four min_four   -- for this text's walks alone
set_option linter.unusedVariables false
set_option linter.unusedSimpArgs false

attribute [local go_sem high] eqA29
/-! ### xor_Empty: given (function 25) -/
/-- Nothing but noughts. -/
def allz (a : ByteArray) : Bool := a.data.toList.all (· == 0)

theorem bt_last (a : ByteArray) (i : Nat) (h : i < a.size) : bt a (i : Int) = ((a.data.toList[i]'h).toNat : Int) := by
  unfold bt
  rw [dif_pos (by simpa using h)]
  rfl

theorem u8_zero_iff (b : UInt8) : (b.toNat : Int) = 0 ↔ b = 0 := by
  constructor
  · intro h
    have : b.toNat = 0 := by omega
    exact UInt8.toNat_inj.1 this
  · rintro rfl; rfl

theorem right_ex (n : Nat) : ∀ (a : ByteArray), a.size = n → n ≤ 140737488351232 → ∃ r, (∀ k, n < k → strings_trimRightByte.l0 k a 0 = some r) ∧ (r.size = 0 ↔ allz a = true) ∧ (r.size ≠ 0 → allz r = false) ∧ r.size ≤ n := by
  induction n with
  | zero =>
    intro a ha _
    have hl : a.data.toList = [] := List.eq_nil_of_length_eq_zero ha
    refine ⟨a, fun k hk => ?_, ?_, fun h => absurd ha h, by omega⟩
    · obtain ⟨k, rfl⟩ : ∃ m, k = m + 1 := ⟨k - 1, by omega⟩
      simp only [strings_trimRightByte.l0]
      rw [if_neg (by omega)]
    · simp [ha, allz, hl]
  | succ n ih =>
    intro a ha hn
    have hw : wrap64 ((a.size : Int) - 1) = (n : Int) := by unfold wrap64; omega
    have hb := bt_last a n (by omega)
    have hlen : a.data.toList.length = n + 1 := ha
    by_cases h0 : a.data.toList[n] = 0
    · have hb0 : bt a (n : Int) = 0 := by rw [hb, h0]; rfl
      have hs : (a.extract 0 n).size = n := by rw [ByteArray.size_extract]; omega
      obtain ⟨r, hr, h1, h2, h3⟩ := ih (a.extract 0 n) hs (by omega)
      refine ⟨r, fun k hk => ?_, ?_, h2, by omega⟩
      · obtain ⟨k, rfl⟩ : ∃ m, k = m + 1 := ⟨k - 1, by omega⟩
        simp only [strings_trimRightByte.l0]
        rw [hw, if_pos (by omega), if_pos (by omega), if_pos (by omega), if_pos hb0, if_pos (by omega), Int.toNat_natCast]
        exact hr k (by omega)
      · rw [h1]
        have e : a.data.toList = (a.extract 0 n).data.toList ++ [0] := by
          have e1 : (a.extract 0 n).data.toList = a.data.toList.take n := by
            rw [ByteArray.data_extract, Array.toList_extract, List.extract_eq_take_drop]; simp
          rw [e1, ← h0]
          conv => lhs; rw [← List.take_append_drop n a.data.toList]
          congr 1
          rw [List.drop_eq_getElem_cons (by omega), List.drop_of_length_le (by omega)]
        unfold allz
        rw [e]
        simp
    · have hb0 : bt a (n : Int) ≠ 0 := by rw [hb]; exact fun h => h0 ((u8_zero_iff _).1 h)
      have hz : allz a = false := by
        unfold allz
        rw [List.all_eq_false]
        exact ⟨_, List.getElem_mem (by omega : n < a.data.toList.length), by simpa using h0⟩
      refine ⟨a, fun k hk => ?_, ?_, fun _ => hz, by omega⟩
      · obtain ⟨k, rfl⟩ : ∃ m, k = m + 1 := ⟨k - 1, by omega⟩
        simp only [strings_trimRightByte.l0]
        rw [hw, if_pos (by omega), if_pos (by omega), if_pos (by omega), if_neg hb0]
      · rw [hz]; exact ⟨fun h => absurd h (by omega), fun h => by cases h⟩

theorem left_ex (n : Nat) : ∀ (a : ByteArray), a.size = n → ∃ r, (∀ k, n < k → strings_trimLeftByte.l0 k a 0 = some r) ∧ (r.size = 0 ↔ allz a = true) := by
  induction n with
  | zero =>
    intro a ha
    have hl : a.data.toList = [] := List.eq_nil_of_length_eq_zero ha
    refine ⟨a, fun k hk => ?_, ?_⟩
    · obtain ⟨k, rfl⟩ : ∃ m, k = m + 1 := ⟨k - 1, by omega⟩
      simp only [strings_trimLeftByte.l0]
      rw [if_neg (by omega)]
    · simp [ha, allz, hl]
  | succ n ih =>
    intro a ha
    have hlen : a.data.toList.length = n + 1 := ha
    have hb := bt_last a 0 (by omega)
    by_cases h0 : a.data.toList[0] = 0
    · have hb0 : bt a 0 = 0 := by
        have : bt a ((0 : Nat) : Int) = 0 := by rw [hb, h0]; rfl
        exact this
      have hs : (a.extract 1 a.size).size = n := by rw [ByteArray.size_extract]; omega
      obtain ⟨r, hr, h1⟩ := ih (a.extract 1 a.size) hs
      refine ⟨r, fun k hk => ?_, ?_⟩
      · obtain ⟨k, rfl⟩ : ∃ m, k = m + 1 := ⟨k - 1, by omega⟩
        simp only [strings_trimLeftByte.l0]
        rw [if_pos (by omega), if_pos (by omega), if_pos hb0, if_pos (by omega)]
        exact hr k (by omega)
      · rw [h1]
        have e : a.data.toList = 0 :: (a.extract 1 a.size).data.toList := by
          have e1 : (a.extract 1 a.size).data.toList = a.data.toList.drop 1 := by
            rw [ByteArray.data_extract, Array.toList_extract, List.extract_eq_take_drop, List.take_of_length_le (by rw [List.length_drop, hlen]; omega)]
          rw [e1, ← h0, ← List.drop_eq_getElem_cons (by omega), List.drop_zero]
        unfold allz
        rw [e]
        simp
    · have hb0 : bt a 0 ≠ 0 := by
        have : bt a ((0 : Nat) : Int) ≠ 0 := by rw [hb]; exact fun h => h0 ((u8_zero_iff _).1 h)
        exact this
      have hz : allz a = false := by
        unfold allz
        rw [List.all_eq_false]
        exact ⟨_, List.getElem_mem (by omega : 0 < a.data.toList.length), by simpa using h0⟩
      refine ⟨a, fun k hk => ?_, ?_⟩
      · obtain ⟨k, rfl⟩ : ∃ m, k = m + 1 := ⟨k - 1, by omega⟩
        simp only [strings_trimLeftByte.l0]
        rw [if_pos (by omega), if_pos (by omega), if_neg hb0]
      · rw [hz]; exact ⟨fun h => absurd h (by omega), fun h => by cases h⟩

theorem quietD {P : Program} {f : FuncId} {args : Array Value} {w : World} {n : Nat} {v : Value}
    (h : Calls P f args (w.drewN n) fun e w' => e = .returned v ∧ Drawn0 (w.drewN n) w') : Calls P f args (w.drewN n) fun e w'' => e = .returned v ∧ ∃ m, w'' = w.drewN m :=
  h.mono fun _ _ ⟨he, ⟨m, hm⟩⟩ => ⟨he, n + m, by rw [hm]; simp [World.drewN, Nat.add_assoc]⟩

theorem toList_empty (a : ByteArray) : a.toList.isEmpty = decide (a.size = 0) := by
  rw [ByteArray.toList_eq, Bool.eq_iff_iff, List.isEmpty_iff, decide_eq_true_iff]
  constructor
  · intro h
    show a.data.toList.length = 0
    rw [h]; rfl
  · intro h
    exact List.eq_nil_of_length_eq_zero h

set_option maxRecDepth 100000 in
theorem trim_calls (a0 : ByteArray) (w : World) (ha : a0.size ≤ 140737488351232) :
    Calls Tryd.prog 36 #[.string a0, .string ⟨#[0]⟩] w fun e w' => ∃ r : ByteArray, e = .returned (.string r) ∧ (r.size = 0 ↔ allz a0 = true) ∧ Drawn0 w w' := by
  by_cases h0 : a0.size = 0
  · have hl : a0 = ⟨#[]⟩ := ByteArray.ext (Array.eq_empty_of_size_eq_zero h0)
    subst hl
    go_enter Tryd.func36, Tryd.ntmps36
    go_wp2_with fail
    go_ret
    exact ⟨_, rfl, by simp [allz, ByteArray.size], ⟨0, rfl⟩⟩
  · obtain ⟨r1, hr1, h1, h2, h3⟩ := right_ex a0.size a0 rfl ha
    obtain ⟨r2, hr2, h4⟩ := left_ex r1.size r1 rfl
    have H1 := fun u => strings_trimRightByte.calls (a0.size + 1) a0 0 r1 u (hr1 _ (by omega))
    have H2 := fun u => strings_trimLeftByte.calls (r1.size + 1) r1 0 r2 u (hr2 _ (by omega))
    have hne : a0.toList.isEmpty = false := by rw [toList_empty]; simpa using h0
    have hz : r2.size = 0 ↔ allz a0 = true := by
      rw [h4]
      constructor
      · intro h
        by_cases hr : r1.size = 0
        · exact h1.1 hr
        · rw [h2 hr] at h; cases h
      · intro h
        have := h1.2 h
        have hl : r1.data.toList = [] := List.eq_nil_of_length_eq_zero this
        simp [allz, hl]
    have HH1 := Lib.hid H1
    have HH2 := Lib.hid H2
    have Hz := Lib.hid hz
    clear H1 H2 h1 h2 h3 h4 hr1 hr2 hz
    go_enter Tryd.func36, Tryd.ntmps36
    go_wp2_with fail
    go_quiet (first | (go_at_call 45; exact quietD (HH1.out _)) | (go_at_call 44; exact quietD (HH2.out _)))
    go_wp2_with fail
    go_ret
    exact ⟨_, rfl, Hz.out, ⟨_, rfl⟩⟩

def xor_Empty.f (a0 : ByteArray) : Option Bool := if a0.size ≤ 140737488351232 then some (allz a0) else none
theorem xor_Empty.calls (a0 : ByteArray) (r : Bool) (w : World) (h : xor_Empty.f a0 = some r) :
    Calls Tryd.prog 25 #[.string a0] w fun e w' => e = .returned (.bool r) ∧ Drawn0 w w' := by
  unfold xor_Empty.f at h
  split at h
  · rename_i ha
    have hr : r = allz a0 := by simpa using h.symm
    subst hr
    clear h
    go_enter Tryd.func25, Tryd.ntmps25
    go_wp2_with fail
    refine (trim_calls a0 _ ha).mono ?_
    rintro e w1 ⟨r, rfl, hz, ⟨n, rfl⟩⟩
    have he : r.toList.isEmpty = allz a0 := by
      rw [toList_empty, Bool.eq_iff_iff]
      simpa using hz
    go_wp2_with fail
    go_ret
    exact ⟨by first | rfl | rw [he], ⟨n, rfl⟩⟩
  · cases h

/-! ### nums_Get: given (function 26) -/

/-! ### record_Decode: given (function 13) -/
def record_Decode.f (a0 : ByteArray) : Option (Int × Int × Int × Int × Int × Int × ByteArray × Int × Int) := some ((decF a0).1.kind, (decF a0).1.seq, (decF a0).1.a, (decF a0).1.b, (decF a0).1.c, (decF a0).1.d, (decF a0).1.body, (decF a0).2.1, (decF a0).2.2)
theorem record_Decode.calls (a0 : ByteArray) (r1 r2 r3 r4 r5 r6 : Int) (r7 : ByteArray) (r8 r9 : Int) (w : World) (h : record_Decode.f a0 = some (r1, r2, r3, r4, r5, r6, r7, r8, r9)) (hN : TabIn w) :
    Calls Tryd.prog 13 #[.string a0] w fun e w' => e = .returned (.tuple #[.agg #[.int .i64 r1, .int .i64 r2, .int .i64 r3, .int .i64 r4, .int .i64 r5, .int .i64 r6, .string r7], .int .i64 r8, .int .i64 r9]) ∧ Below w.heap.size w w' := by
  have h2 := decode_any a0 w hN (Nat.lt_of_le_of_lt (Nat.zero_le _) hN.lt)
  unfold record_Decode.f at h
  simp only [Option.some.injEq, Prod.mk.injEq] at h
  obtain ⟨rfl, rfl, rfl, rfl, rfl, rfl, rfl, rfl, rfl⟩ := h
  exact h2

/-! ### corbellaw06_speaks: function 8 -/
def corbellaw06_speaks.f  : Option (Bool) := (record_Encode.f 3 7 1 0 9 0 (⟨#[]⟩ : ByteArray)).bind fun bt107 => ((record_Decode.f bt107.1).bind fun bt109 => (if bt107.2 = 0 then (if (bt107.1.size : Int) = 64 then (if 0 ≤ 3 then (if 3 ≤ (bt107.1.size : Int) then (if (bt107.1.extract 0 3).toList = ([67, 66, 3] : List UInt8) then (if bt109.2.2.2.2.2.2.2.2 = 0 then (if bt109.2.2.2.2.2.2.2.1 = 1 then (some (bt109.1 == 3 && (bt109.2.1 == 7 && (bt109.2.2.1 == 1 && (bt109.2.2.2.1 == 0 && (bt109.2.2.2.2.1 == 9 && (bt109.2.2.2.2.2.1 == 0 && (bt109.2.2.2.2.2.2.1.toList == ([] : List UInt8))))))))) else (some false)) else (some false)) else (some false)) else (none)) else (none)) else (some false)) else (some false)))
set_option maxHeartbeats 8000000 in
set_option maxRecDepth 100000 in
theorem corbellaw06_speaks.calls  (r : Bool) (w : World) (h : corbellaw06_speaks.f  = some r) (hN : TabIn w) :
    Calls Tryd.prog 8 #[] w fun e w' => e = .returned (.bool r) ∧ Below w.heap.size w w' := by
  have hu29 := Tryd.underlying29
  have HB := Aside0.mk (Below.refl w.heap.size w)
  have HN := Aside0.mk hN
  clear hN
  have H : ((record_Encode.f 3 7 1 0 9 0 (⟨#[]⟩ : ByteArray)).bind fun bt107 => ((record_Decode.f bt107.1).bind fun bt109 => (if bt107.2 = 0 then (if (bt107.1.size : Int) = 64 then (if 0 ≤ 3 then (if 3 ≤ (bt107.1.size : Int) then (if (bt107.1.extract 0 3).toList = ([67, 66, 3] : List UInt8) then (if bt109.2.2.2.2.2.2.2.2 = 0 then (if bt109.2.2.2.2.2.2.2.1 = 1 then (some (bt109.1 == 3 && (bt109.2.1 == 7 && (bt109.2.2.1 == 1 && (bt109.2.2.2.1 == 0 && (bt109.2.2.2.2.1 == 9 && (bt109.2.2.2.2.2.1 == 0 && (bt109.2.2.2.2.2.2.1.toList == ([] : List UInt8))))))))) else (some false)) else (some false)) else (some false)) else (none)) else (none)) else (some false)) else (some false)))) = some r := h
  clear h
  replace H := Option.bind_eq_some_iff.mp H
  obtain ⟨⟨t107, t108⟩, A10, H⟩ := H
  replace H : ((record_Decode.f t107).bind fun bt109 => (if t108 = 0 then (if (t107.size : Int) = 64 then (if 0 ≤ 3 then (if 3 ≤ (t107.size : Int) then (if (t107.extract 0 3).toList = ([67, 66, 3] : List UInt8) then (if bt109.2.2.2.2.2.2.2.2 = 0 then (if bt109.2.2.2.2.2.2.2.1 = 1 then (some (bt109.1 == 3 && (bt109.2.1 == 7 && (bt109.2.2.1 == 1 && (bt109.2.2.2.1 == 0 && (bt109.2.2.2.2.1 == 9 && (bt109.2.2.2.2.2.1 == 0 && (bt109.2.2.2.2.2.2.1.toList == ([] : List UInt8))))))))) else (some false)) else (some false)) else (some false)) else (none)) else (none)) else (some false)) else (some false))) = some r := H
  have A1 := Aside0.mk A10
  clear A10
  replace H := Option.bind_eq_some_iff.mp H
  obtain ⟨⟨t109, t110, t111, t112, t113, t114, t115, t116, t117⟩, A20, H⟩ := H
  replace H : (if t108 = 0 then (if (t107.size : Int) = 64 then (if 0 ≤ 3 then (if 3 ≤ (t107.size : Int) then (if (t107.extract 0 3).toList = ([67, 66, 3] : List UInt8) then (if t117 = 0 then (if t116 = 1 then (some (t109 == 3 && (t110 == 7 && (t111 == 1 && (t112 == 0 && (t113 == 9 && (t114 == 0 && (t115.toList == ([] : List UInt8))))))))) else (some false)) else (some false)) else (some false)) else (none)) else (none)) else (some false)) else (some false)) = some r := H
  have A2 := Aside0.mk A20
  clear A20
  by_cases c3 : t108 = 0
  · rw [if_pos c3] at H
    have c3b0 : (t108 == 0) = true := beq_iff_eq.mpr c3
    have c3b1 : (t108 != 0) = false := bne_eq_false_iff_eq.mpr c3
    clear c3
    by_cases c4 : (t107.size : Int) = 64
    · rw [if_pos c4] at H
      have c4b0 : ((t107.size : Int) == 64) = true := beq_iff_eq.mpr c4
      have c4b1 : ((t107.size : Int) != 64) = false := bne_eq_false_iff_eq.mpr c4
      clear c4
      by_cases c5 : 0 ≤ 3
      · rw [if_pos c5] at H
        have c5b0 := eq_true c5
        have c5b1 : decide (0 ≤ 3) = true := decide_eq_true c5
        clear c5
        by_cases c6 : 3 ≤ (t107.size : Int)
        · rw [if_pos c6] at H
          have c6b0 := eq_true c6
          have c6b1 : decide (3 ≤ (t107.size : Int)) = true := decide_eq_true c6
          clear c6
          by_cases c7 : (t107.extract 0 3).toList = ([67, 66, 3] : List UInt8)
          · rw [if_pos c7] at H
            have c7b0 : ((t107.extract 0 3).toList == ([67, 66, 3] : List UInt8)) = true := beq_iff_eq.mpr c7
            have c7b1 : ((t107.extract 0 3).toList != ([67, 66, 3] : List UInt8)) = false := bne_eq_false_iff_eq.mpr c7
            clear c7
            by_cases c8 : t117 = 0
            · rw [if_pos c8] at H
              have c8b0 : (t117 == 0) = true := beq_iff_eq.mpr c8
              have c8b1 : (t117 != 0) = false := bne_eq_false_iff_eq.mpr c8
              clear c8
              by_cases c9 : t116 = 1
              · rw [if_pos c9] at H
                have c9b0 : (t116 == 1) = true := beq_iff_eq.mpr c9
                have c9b1 : (t116 != 1) = false := bne_eq_false_iff_eq.mpr c9
                clear c9
                obtain rfl := Option.some.inj H
                go_enter Tryd.func8, Tryd.ntmps8
                go_wp2_with (first | ((with_reducible refine gate_callee (f := 10) rfl ?_); refine goesL_ (some 8) rfl rfl Tryd.func10 (by kernel_rfl) rfl #[.agg #[.int .i64 3, .int .i64 7, .int .i64 1, .int .i64 0, .int .i64 9, .int .i64 0, .string (⟨#[]⟩ : ByteArray)]] rfl (by (try simp only [List.map_toArray, List.map_cons, List.map_nil]); first | done | rfl | (simp only [List.length_drop, List.length_take]; rfl)) ?_; (with_reducible refine (record_Encode.calls 3 7 1 0 9 0 (⟨#[]⟩ : ByteArray) t107 t108 _ A1.out (HN.out.below (by repeat (first | (with_reducible first | exact HB.out | apply below_alloc | apply pw_below_drewN | apply below_drew1 | refine below_set ?_ GE118.out) | exact HB.out)) (Nat.lt_of_lt_of_le HN.out.lt (Nat.le_refl _)))).mono ?_); rintro e w10 ⟨rfl, hb⟩; refine ⟨_, rfl, ?_⟩; have n0_ := Aside0.mk (below_step (by repeat (first | (with_reducible first | exact HB.out | apply below_alloc | apply pw_below_drewN | apply below_drew1) | exact HB.out)) hb); clear HB; have HB := n0_; clear n0_; (try clear hb); (try clear hb2); (try clear hk); (try clear hi)) | ((with_reducible refine gate_callee (f := 13) rfl ?_); refine goesL_ (some 13) rfl rfl Tryd.func13 (by kernel_rfl) rfl #[.string t107] rfl (by (try simp only [List.map_toArray, List.map_cons, List.map_nil]); first | done | rfl | (simp only [List.length_drop, List.length_take]; rfl)) ?_; (with_reducible refine (record_Decode.calls t107 t109 t110 t111 t112 t113 t114 t115 t116 t117 _ A2.out (HN.out.below (by repeat (first | (with_reducible first | exact HB.out | apply below_alloc | apply pw_below_drewN | apply below_drew1 | refine below_set ?_ GE118.out) | exact HB.out)) (Nat.lt_of_lt_of_le HN.out.lt (Nat.le_refl _)))).mono ?_); rintro e w11 ⟨rfl, hb⟩; refine ⟨_, rfl, ?_⟩; have n0_ := Aside0.mk (below_step (by repeat (first | (with_reducible first | exact HB.out | apply below_alloc | apply pw_below_drewN | apply below_drew1) | exact HB.out)) hb); clear HB; have HB := n0_; clear n0_; (try clear hb); (try clear hb2); (try clear hk); (try clear hi)) | ((with_reducible refine gate_dst (N := 3) rfl ?_); (try (refine gate_guard (by rfl) ?_; dsimp only)); refine box_event ?hg (N := 3) ?hd (cs := #[.int .i64 0, .int .i64 0, .int .i64 0, .int .i64 0, .int .i64 0, .int .i64 0, .string (⟨#[]⟩ : ByteArray)]) (t := 29) ?hr ?_; (case hd => rfl); (case hg => rfl); (case hr => first | (go_simp; done) | (go_simp; rfl)); intro gb118 hg w12 hbox hb; have n0_ := Aside0.mk (below_step (by repeat (first | (with_reducible first | exact HB.out | apply below_alloc | apply pw_below_drewN | apply below_drew1) | exact HB.out)) hb); have n1_ := Aside0.mk (hbox); have n2_ := Aside0.mk ((by rw [hg]; exact (below_size (by repeat (first | (with_reducible first | exact HB.out | apply below_alloc | apply pw_below_drewN | apply below_drew1) | exact HB.out))) : w.heap.size ≤ gb118)); have n3_ := Aside0.mk ((by rw [hg]; exact (below_size (by repeat (first | (with_reducible first | exact HB.out | apply below_alloc | apply pw_below_drewN | apply below_drew1) | exact HB.out))) : w.heap.size ≤ gb118)); clear HB; have HB := n0_; have BK118 := n1_; have GW118 := n2_; have GE118 := n3_; clear n0_ n1_ n2_ n3_; clear hb hbox hg; have hcz13_0 : w12.cell? ⟨gb118, 0, none⟩ = some (.int .i64 0) := (blk_cell BK118.out 0).trans rfl; have hcz13_1 : w12.cell? ⟨gb118, 1, none⟩ = some (.int .i64 0) := (blk_cell BK118.out 1).trans rfl; have hcz13_2 : w12.cell? ⟨gb118, 2, none⟩ = some (.int .i64 0) := (blk_cell BK118.out 2).trans rfl; have hcz13_3 : w12.cell? ⟨gb118, 3, none⟩ = some (.int .i64 0) := (blk_cell BK118.out 3).trans rfl; have hcz13_4 : w12.cell? ⟨gb118, 4, none⟩ = some (.int .i64 0) := (blk_cell BK118.out 4).trans rfl; have hcz13_5 : w12.cell? ⟨gb118, 5, none⟩ = some (.int .i64 0) := (blk_cell BK118.out 5).trans rfl; have hcz13_6 : w12.cell? ⟨gb118, 6, none⟩ = some (.string (⟨#[]⟩ : ByteArray)) := (blk_cell BK118.out 6).trans rfl; have hfz13_0 := blk_frozen BK118.out 0; have hfz13_1 := blk_frozen BK118.out 1; have hfz13_2 := blk_frozen BK118.out 2; have hfz13_3 := blk_frozen BK118.out 3; have hfz13_4 := blk_frozen BK118.out 4; have hfz13_5 := blk_frozen BK118.out 5; have hfz13_6 := blk_frozen BK118.out 6))
                go_ret
                exact ⟨by first | rfl | (simp [errW_none, errW_some] <;> rfl) | (simp [*, errW_none, errW_some] <;> rfl), by repeat (first | (with_reducible first | exact HB.out | apply below_alloc | apply pw_below_drewN | apply below_drew1 | refine below_set ?_ GE118.out) | exact HB.out)⟩
              · rw [if_neg c9] at H
                have c9b0 : (t116 == 1) = false := beq_eq_false_iff_ne.mpr c9
                have c9b1 : (t116 != 1) = true := bne_iff_ne.mpr c9
                obtain rfl := Option.some.inj H
                go_enter Tryd.func8, Tryd.ntmps8
                go_wp2_with (first | ((with_reducible refine gate_callee (f := 10) rfl ?_); refine goesL_ (some 8) rfl rfl Tryd.func10 (by kernel_rfl) rfl #[.agg #[.int .i64 3, .int .i64 7, .int .i64 1, .int .i64 0, .int .i64 9, .int .i64 0, .string (⟨#[]⟩ : ByteArray)]] rfl (by (try simp only [List.map_toArray, List.map_cons, List.map_nil]); first | done | rfl | (simp only [List.length_drop, List.length_take]; rfl)) ?_; (with_reducible refine (record_Encode.calls 3 7 1 0 9 0 (⟨#[]⟩ : ByteArray) t107 t108 _ A1.out (HN.out.below (by repeat (first | (with_reducible first | exact HB.out | apply below_alloc | apply pw_below_drewN | apply below_drew1 | refine below_set ?_ GE118.out) | exact HB.out)) (Nat.lt_of_lt_of_le HN.out.lt (Nat.le_refl _)))).mono ?_); rintro e w14 ⟨rfl, hb⟩; refine ⟨_, rfl, ?_⟩; have n0_ := Aside0.mk (below_step (by repeat (first | (with_reducible first | exact HB.out | apply below_alloc | apply pw_below_drewN | apply below_drew1) | exact HB.out)) hb); clear HB; have HB := n0_; clear n0_; (try clear hb); (try clear hb2); (try clear hk); (try clear hi)) | ((with_reducible refine gate_callee (f := 13) rfl ?_); refine goesL_ (some 13) rfl rfl Tryd.func13 (by kernel_rfl) rfl #[.string t107] rfl (by (try simp only [List.map_toArray, List.map_cons, List.map_nil]); first | done | rfl | (simp only [List.length_drop, List.length_take]; rfl)) ?_; (with_reducible refine (record_Decode.calls t107 t109 t110 t111 t112 t113 t114 t115 t116 t117 _ A2.out (HN.out.below (by repeat (first | (with_reducible first | exact HB.out | apply below_alloc | apply pw_below_drewN | apply below_drew1 | refine below_set ?_ GE118.out) | exact HB.out)) (Nat.lt_of_lt_of_le HN.out.lt (Nat.le_refl _)))).mono ?_); rintro e w15 ⟨rfl, hb⟩; refine ⟨_, rfl, ?_⟩; have n0_ := Aside0.mk (below_step (by repeat (first | (with_reducible first | exact HB.out | apply below_alloc | apply pw_below_drewN | apply below_drew1) | exact HB.out)) hb); clear HB; have HB := n0_; clear n0_; (try clear hb); (try clear hb2); (try clear hk); (try clear hi)) | ((with_reducible refine gate_dst (N := 3) rfl ?_); (try (refine gate_guard (by rfl) ?_; dsimp only)); refine box_event ?hg (N := 3) ?hd (cs := #[.int .i64 0, .int .i64 0, .int .i64 0, .int .i64 0, .int .i64 0, .int .i64 0, .string (⟨#[]⟩ : ByteArray)]) (t := 29) ?hr ?_; (case hd => rfl); (case hg => rfl); (case hr => first | (go_simp; done) | (go_simp; rfl)); intro gb118 hg w16 hbox hb; have n0_ := Aside0.mk (below_step (by repeat (first | (with_reducible first | exact HB.out | apply below_alloc | apply pw_below_drewN | apply below_drew1) | exact HB.out)) hb); have n1_ := Aside0.mk (hbox); have n2_ := Aside0.mk ((by rw [hg]; exact (below_size (by repeat (first | (with_reducible first | exact HB.out | apply below_alloc | apply pw_below_drewN | apply below_drew1) | exact HB.out))) : w.heap.size ≤ gb118)); have n3_ := Aside0.mk ((by rw [hg]; exact (below_size (by repeat (first | (with_reducible first | exact HB.out | apply below_alloc | apply pw_below_drewN | apply below_drew1) | exact HB.out))) : w.heap.size ≤ gb118)); clear HB; have HB := n0_; have BK118 := n1_; have GW118 := n2_; have GE118 := n3_; clear n0_ n1_ n2_ n3_; clear hb hbox hg; have hcz17_0 : w16.cell? ⟨gb118, 0, none⟩ = some (.int .i64 0) := (blk_cell BK118.out 0).trans rfl; have hcz17_1 : w16.cell? ⟨gb118, 1, none⟩ = some (.int .i64 0) := (blk_cell BK118.out 1).trans rfl; have hcz17_2 : w16.cell? ⟨gb118, 2, none⟩ = some (.int .i64 0) := (blk_cell BK118.out 2).trans rfl; have hcz17_3 : w16.cell? ⟨gb118, 3, none⟩ = some (.int .i64 0) := (blk_cell BK118.out 3).trans rfl; have hcz17_4 : w16.cell? ⟨gb118, 4, none⟩ = some (.int .i64 0) := (blk_cell BK118.out 4).trans rfl; have hcz17_5 : w16.cell? ⟨gb118, 5, none⟩ = some (.int .i64 0) := (blk_cell BK118.out 5).trans rfl; have hcz17_6 : w16.cell? ⟨gb118, 6, none⟩ = some (.string (⟨#[]⟩ : ByteArray)) := (blk_cell BK118.out 6).trans rfl; have hfz17_0 := blk_frozen BK118.out 0; have hfz17_1 := blk_frozen BK118.out 1; have hfz17_2 := blk_frozen BK118.out 2; have hfz17_3 := blk_frozen BK118.out 3; have hfz17_4 := blk_frozen BK118.out 4; have hfz17_5 := blk_frozen BK118.out 5; have hfz17_6 := blk_frozen BK118.out 6))
                go_ret
                exact ⟨by first | rfl | (simp [errW_none, errW_some] <;> rfl) | (simp [*, errW_none, errW_some] <;> rfl), by repeat (first | (with_reducible first | exact HB.out | apply below_alloc | apply pw_below_drewN | apply below_drew1 | refine below_set ?_ GE118.out) | exact HB.out)⟩
            · rw [if_neg c8] at H
              have c8b0 : (t117 == 0) = false := beq_eq_false_iff_ne.mpr c8
              have c8b1 : (t117 != 0) = true := bne_iff_ne.mpr c8
              obtain rfl := Option.some.inj H
              go_enter Tryd.func8, Tryd.ntmps8
              go_wp2_with (first | ((with_reducible refine gate_callee (f := 10) rfl ?_); refine goesL_ (some 8) rfl rfl Tryd.func10 (by kernel_rfl) rfl #[.agg #[.int .i64 3, .int .i64 7, .int .i64 1, .int .i64 0, .int .i64 9, .int .i64 0, .string (⟨#[]⟩ : ByteArray)]] rfl (by (try simp only [List.map_toArray, List.map_cons, List.map_nil]); first | done | rfl | (simp only [List.length_drop, List.length_take]; rfl)) ?_; (with_reducible refine (record_Encode.calls 3 7 1 0 9 0 (⟨#[]⟩ : ByteArray) t107 t108 _ A1.out (HN.out.below (by repeat (first | (with_reducible first | exact HB.out | apply below_alloc | apply pw_below_drewN | apply below_drew1 | refine below_set ?_ GE118.out) | exact HB.out)) (Nat.lt_of_lt_of_le HN.out.lt (Nat.le_refl _)))).mono ?_); rintro e w18 ⟨rfl, hb⟩; refine ⟨_, rfl, ?_⟩; have n0_ := Aside0.mk (below_step (by repeat (first | (with_reducible first | exact HB.out | apply below_alloc | apply pw_below_drewN | apply below_drew1) | exact HB.out)) hb); clear HB; have HB := n0_; clear n0_; (try clear hb); (try clear hb2); (try clear hk); (try clear hi)) | ((with_reducible refine gate_callee (f := 13) rfl ?_); refine goesL_ (some 13) rfl rfl Tryd.func13 (by kernel_rfl) rfl #[.string t107] rfl (by (try simp only [List.map_toArray, List.map_cons, List.map_nil]); first | done | rfl | (simp only [List.length_drop, List.length_take]; rfl)) ?_; (with_reducible refine (record_Decode.calls t107 t109 t110 t111 t112 t113 t114 t115 t116 t117 _ A2.out (HN.out.below (by repeat (first | (with_reducible first | exact HB.out | apply below_alloc | apply pw_below_drewN | apply below_drew1 | refine below_set ?_ GE118.out) | exact HB.out)) (Nat.lt_of_lt_of_le HN.out.lt (Nat.le_refl _)))).mono ?_); rintro e w19 ⟨rfl, hb⟩; refine ⟨_, rfl, ?_⟩; have n0_ := Aside0.mk (below_step (by repeat (first | (with_reducible first | exact HB.out | apply below_alloc | apply pw_below_drewN | apply below_drew1) | exact HB.out)) hb); clear HB; have HB := n0_; clear n0_; (try clear hb); (try clear hb2); (try clear hk); (try clear hi)) | ((with_reducible refine gate_dst (N := 3) rfl ?_); (try (refine gate_guard (by rfl) ?_; dsimp only)); refine box_event ?hg (N := 3) ?hd (cs := #[.int .i64 0, .int .i64 0, .int .i64 0, .int .i64 0, .int .i64 0, .int .i64 0, .string (⟨#[]⟩ : ByteArray)]) (t := 29) ?hr ?_; (case hd => rfl); (case hg => rfl); (case hr => first | (go_simp; done) | (go_simp; rfl)); intro gb118 hg w20 hbox hb; have n0_ := Aside0.mk (below_step (by repeat (first | (with_reducible first | exact HB.out | apply below_alloc | apply pw_below_drewN | apply below_drew1) | exact HB.out)) hb); have n1_ := Aside0.mk (hbox); have n2_ := Aside0.mk ((by rw [hg]; exact (below_size (by repeat (first | (with_reducible first | exact HB.out | apply below_alloc | apply pw_below_drewN | apply below_drew1) | exact HB.out))) : w.heap.size ≤ gb118)); have n3_ := Aside0.mk ((by rw [hg]; exact (below_size (by repeat (first | (with_reducible first | exact HB.out | apply below_alloc | apply pw_below_drewN | apply below_drew1) | exact HB.out))) : w.heap.size ≤ gb118)); clear HB; have HB := n0_; have BK118 := n1_; have GW118 := n2_; have GE118 := n3_; clear n0_ n1_ n2_ n3_; clear hb hbox hg; have hcz21_0 : w20.cell? ⟨gb118, 0, none⟩ = some (.int .i64 0) := (blk_cell BK118.out 0).trans rfl; have hcz21_1 : w20.cell? ⟨gb118, 1, none⟩ = some (.int .i64 0) := (blk_cell BK118.out 1).trans rfl; have hcz21_2 : w20.cell? ⟨gb118, 2, none⟩ = some (.int .i64 0) := (blk_cell BK118.out 2).trans rfl; have hcz21_3 : w20.cell? ⟨gb118, 3, none⟩ = some (.int .i64 0) := (blk_cell BK118.out 3).trans rfl; have hcz21_4 : w20.cell? ⟨gb118, 4, none⟩ = some (.int .i64 0) := (blk_cell BK118.out 4).trans rfl; have hcz21_5 : w20.cell? ⟨gb118, 5, none⟩ = some (.int .i64 0) := (blk_cell BK118.out 5).trans rfl; have hcz21_6 : w20.cell? ⟨gb118, 6, none⟩ = some (.string (⟨#[]⟩ : ByteArray)) := (blk_cell BK118.out 6).trans rfl; have hfz21_0 := blk_frozen BK118.out 0; have hfz21_1 := blk_frozen BK118.out 1; have hfz21_2 := blk_frozen BK118.out 2; have hfz21_3 := blk_frozen BK118.out 3; have hfz21_4 := blk_frozen BK118.out 4; have hfz21_5 := blk_frozen BK118.out 5; have hfz21_6 := blk_frozen BK118.out 6))
              go_ret
              exact ⟨by first | rfl | (simp [errW_none, errW_some] <;> rfl) | (simp [*, errW_none, errW_some] <;> rfl), by repeat (first | (with_reducible first | exact HB.out | apply below_alloc | apply pw_below_drewN | apply below_drew1 | refine below_set ?_ GE118.out) | exact HB.out)⟩
          · rw [if_neg c7] at H
            have c7b0 : ((t107.extract 0 3).toList == ([67, 66, 3] : List UInt8)) = false := beq_eq_false_iff_ne.mpr c7
            have c7b1 : ((t107.extract 0 3).toList != ([67, 66, 3] : List UInt8)) = true := bne_iff_ne.mpr c7
            obtain rfl := Option.some.inj H
            go_enter Tryd.func8, Tryd.ntmps8
            go_wp2_with (first | ((with_reducible refine gate_callee (f := 10) rfl ?_); refine goesL_ (some 8) rfl rfl Tryd.func10 (by kernel_rfl) rfl #[.agg #[.int .i64 3, .int .i64 7, .int .i64 1, .int .i64 0, .int .i64 9, .int .i64 0, .string (⟨#[]⟩ : ByteArray)]] rfl (by (try simp only [List.map_toArray, List.map_cons, List.map_nil]); first | done | rfl | (simp only [List.length_drop, List.length_take]; rfl)) ?_; (with_reducible refine (record_Encode.calls 3 7 1 0 9 0 (⟨#[]⟩ : ByteArray) t107 t108 _ A1.out (HN.out.below (by repeat (first | (with_reducible first | exact HB.out | apply below_alloc | apply pw_below_drewN | apply below_drew1 | refine below_set ?_ GE118.out) | exact HB.out)) (Nat.lt_of_lt_of_le HN.out.lt (Nat.le_refl _)))).mono ?_); rintro e w22 ⟨rfl, hb⟩; refine ⟨_, rfl, ?_⟩; have n0_ := Aside0.mk (below_step (by repeat (first | (with_reducible first | exact HB.out | apply below_alloc | apply pw_below_drewN | apply below_drew1) | exact HB.out)) hb); clear HB; have HB := n0_; clear n0_; (try clear hb); (try clear hb2); (try clear hk); (try clear hi)) | ((with_reducible refine gate_callee (f := 13) rfl ?_); refine goesL_ (some 13) rfl rfl Tryd.func13 (by kernel_rfl) rfl #[.string t107] rfl (by (try simp only [List.map_toArray, List.map_cons, List.map_nil]); first | done | rfl | (simp only [List.length_drop, List.length_take]; rfl)) ?_; (with_reducible refine (record_Decode.calls t107 t109 t110 t111 t112 t113 t114 t115 t116 t117 _ A2.out (HN.out.below (by repeat (first | (with_reducible first | exact HB.out | apply below_alloc | apply pw_below_drewN | apply below_drew1 | refine below_set ?_ GE118.out) | exact HB.out)) (Nat.lt_of_lt_of_le HN.out.lt (Nat.le_refl _)))).mono ?_); rintro e w23 ⟨rfl, hb⟩; refine ⟨_, rfl, ?_⟩; have n0_ := Aside0.mk (below_step (by repeat (first | (with_reducible first | exact HB.out | apply below_alloc | apply pw_below_drewN | apply below_drew1) | exact HB.out)) hb); clear HB; have HB := n0_; clear n0_; (try clear hb); (try clear hb2); (try clear hk); (try clear hi)) | ((with_reducible refine gate_dst (N := 3) rfl ?_); (try (refine gate_guard (by rfl) ?_; dsimp only)); refine box_event ?hg (N := 3) ?hd (cs := #[.int .i64 0, .int .i64 0, .int .i64 0, .int .i64 0, .int .i64 0, .int .i64 0, .string (⟨#[]⟩ : ByteArray)]) (t := 29) ?hr ?_; (case hd => rfl); (case hg => rfl); (case hr => first | (go_simp; done) | (go_simp; rfl)); intro gb118 hg w24 hbox hb; have n0_ := Aside0.mk (below_step (by repeat (first | (with_reducible first | exact HB.out | apply below_alloc | apply pw_below_drewN | apply below_drew1) | exact HB.out)) hb); have n1_ := Aside0.mk (hbox); have n2_ := Aside0.mk ((by rw [hg]; exact (below_size (by repeat (first | (with_reducible first | exact HB.out | apply below_alloc | apply pw_below_drewN | apply below_drew1) | exact HB.out))) : w.heap.size ≤ gb118)); have n3_ := Aside0.mk ((by rw [hg]; exact (below_size (by repeat (first | (with_reducible first | exact HB.out | apply below_alloc | apply pw_below_drewN | apply below_drew1) | exact HB.out))) : w.heap.size ≤ gb118)); clear HB; have HB := n0_; have BK118 := n1_; have GW118 := n2_; have GE118 := n3_; clear n0_ n1_ n2_ n3_; clear hb hbox hg; have hcz25_0 : w24.cell? ⟨gb118, 0, none⟩ = some (.int .i64 0) := (blk_cell BK118.out 0).trans rfl; have hcz25_1 : w24.cell? ⟨gb118, 1, none⟩ = some (.int .i64 0) := (blk_cell BK118.out 1).trans rfl; have hcz25_2 : w24.cell? ⟨gb118, 2, none⟩ = some (.int .i64 0) := (blk_cell BK118.out 2).trans rfl; have hcz25_3 : w24.cell? ⟨gb118, 3, none⟩ = some (.int .i64 0) := (blk_cell BK118.out 3).trans rfl; have hcz25_4 : w24.cell? ⟨gb118, 4, none⟩ = some (.int .i64 0) := (blk_cell BK118.out 4).trans rfl; have hcz25_5 : w24.cell? ⟨gb118, 5, none⟩ = some (.int .i64 0) := (blk_cell BK118.out 5).trans rfl; have hcz25_6 : w24.cell? ⟨gb118, 6, none⟩ = some (.string (⟨#[]⟩ : ByteArray)) := (blk_cell BK118.out 6).trans rfl; have hfz25_0 := blk_frozen BK118.out 0; have hfz25_1 := blk_frozen BK118.out 1; have hfz25_2 := blk_frozen BK118.out 2; have hfz25_3 := blk_frozen BK118.out 3; have hfz25_4 := blk_frozen BK118.out 4; have hfz25_5 := blk_frozen BK118.out 5; have hfz25_6 := blk_frozen BK118.out 6))
            go_ret
            exact ⟨by first | rfl | (simp [errW_none, errW_some] <;> rfl) | (simp [*, errW_none, errW_some] <;> rfl), by repeat (first | (with_reducible first | exact HB.out | apply below_alloc | apply pw_below_drewN | apply below_drew1 | refine below_set ?_ GE118.out) | exact HB.out)⟩
        · rw [if_neg c6] at H
          exact absurd H (by simp)
      · rw [if_neg c5] at H
        exact absurd H (by simp)
    · rw [if_neg c4] at H
      have c4b0 : ((t107.size : Int) == 64) = false := beq_eq_false_iff_ne.mpr c4
      have c4b1 : ((t107.size : Int) != 64) = true := bne_iff_ne.mpr c4
      obtain rfl := Option.some.inj H
      go_enter Tryd.func8, Tryd.ntmps8
      go_wp2_with (first | ((with_reducible refine gate_callee (f := 10) rfl ?_); refine goesL_ (some 8) rfl rfl Tryd.func10 (by kernel_rfl) rfl #[.agg #[.int .i64 3, .int .i64 7, .int .i64 1, .int .i64 0, .int .i64 9, .int .i64 0, .string (⟨#[]⟩ : ByteArray)]] rfl (by (try simp only [List.map_toArray, List.map_cons, List.map_nil]); first | done | rfl | (simp only [List.length_drop, List.length_take]; rfl)) ?_; (with_reducible refine (record_Encode.calls 3 7 1 0 9 0 (⟨#[]⟩ : ByteArray) t107 t108 _ A1.out (HN.out.below (by repeat (first | (with_reducible first | exact HB.out | apply below_alloc | apply pw_below_drewN | apply below_drew1 | refine below_set ?_ GE118.out) | exact HB.out)) (Nat.lt_of_lt_of_le HN.out.lt (Nat.le_refl _)))).mono ?_); rintro e w26 ⟨rfl, hb⟩; refine ⟨_, rfl, ?_⟩; have n0_ := Aside0.mk (below_step (by repeat (first | (with_reducible first | exact HB.out | apply below_alloc | apply pw_below_drewN | apply below_drew1) | exact HB.out)) hb); clear HB; have HB := n0_; clear n0_; (try clear hb); (try clear hb2); (try clear hk); (try clear hi)) | ((with_reducible refine gate_callee (f := 13) rfl ?_); refine goesL_ (some 13) rfl rfl Tryd.func13 (by kernel_rfl) rfl #[.string t107] rfl (by (try simp only [List.map_toArray, List.map_cons, List.map_nil]); first | done | rfl | (simp only [List.length_drop, List.length_take]; rfl)) ?_; (with_reducible refine (record_Decode.calls t107 t109 t110 t111 t112 t113 t114 t115 t116 t117 _ A2.out (HN.out.below (by repeat (first | (with_reducible first | exact HB.out | apply below_alloc | apply pw_below_drewN | apply below_drew1 | refine below_set ?_ GE118.out) | exact HB.out)) (Nat.lt_of_lt_of_le HN.out.lt (Nat.le_refl _)))).mono ?_); rintro e w27 ⟨rfl, hb⟩; refine ⟨_, rfl, ?_⟩; have n0_ := Aside0.mk (below_step (by repeat (first | (with_reducible first | exact HB.out | apply below_alloc | apply pw_below_drewN | apply below_drew1) | exact HB.out)) hb); clear HB; have HB := n0_; clear n0_; (try clear hb); (try clear hb2); (try clear hk); (try clear hi)) | ((with_reducible refine gate_dst (N := 3) rfl ?_); (try (refine gate_guard (by rfl) ?_; dsimp only)); refine box_event ?hg (N := 3) ?hd (cs := #[.int .i64 0, .int .i64 0, .int .i64 0, .int .i64 0, .int .i64 0, .int .i64 0, .string (⟨#[]⟩ : ByteArray)]) (t := 29) ?hr ?_; (case hd => rfl); (case hg => rfl); (case hr => first | (go_simp; done) | (go_simp; rfl)); intro gb118 hg w28 hbox hb; have n0_ := Aside0.mk (below_step (by repeat (first | (with_reducible first | exact HB.out | apply below_alloc | apply pw_below_drewN | apply below_drew1) | exact HB.out)) hb); have n1_ := Aside0.mk (hbox); have n2_ := Aside0.mk ((by rw [hg]; exact (below_size (by repeat (first | (with_reducible first | exact HB.out | apply below_alloc | apply pw_below_drewN | apply below_drew1) | exact HB.out))) : w.heap.size ≤ gb118)); have n3_ := Aside0.mk ((by rw [hg]; exact (below_size (by repeat (first | (with_reducible first | exact HB.out | apply below_alloc | apply pw_below_drewN | apply below_drew1) | exact HB.out))) : w.heap.size ≤ gb118)); clear HB; have HB := n0_; have BK118 := n1_; have GW118 := n2_; have GE118 := n3_; clear n0_ n1_ n2_ n3_; clear hb hbox hg; have hcz29_0 : w28.cell? ⟨gb118, 0, none⟩ = some (.int .i64 0) := (blk_cell BK118.out 0).trans rfl; have hcz29_1 : w28.cell? ⟨gb118, 1, none⟩ = some (.int .i64 0) := (blk_cell BK118.out 1).trans rfl; have hcz29_2 : w28.cell? ⟨gb118, 2, none⟩ = some (.int .i64 0) := (blk_cell BK118.out 2).trans rfl; have hcz29_3 : w28.cell? ⟨gb118, 3, none⟩ = some (.int .i64 0) := (blk_cell BK118.out 3).trans rfl; have hcz29_4 : w28.cell? ⟨gb118, 4, none⟩ = some (.int .i64 0) := (blk_cell BK118.out 4).trans rfl; have hcz29_5 : w28.cell? ⟨gb118, 5, none⟩ = some (.int .i64 0) := (blk_cell BK118.out 5).trans rfl; have hcz29_6 : w28.cell? ⟨gb118, 6, none⟩ = some (.string (⟨#[]⟩ : ByteArray)) := (blk_cell BK118.out 6).trans rfl; have hfz29_0 := blk_frozen BK118.out 0; have hfz29_1 := blk_frozen BK118.out 1; have hfz29_2 := blk_frozen BK118.out 2; have hfz29_3 := blk_frozen BK118.out 3; have hfz29_4 := blk_frozen BK118.out 4; have hfz29_5 := blk_frozen BK118.out 5; have hfz29_6 := blk_frozen BK118.out 6))
      go_ret
      exact ⟨by first | rfl | (simp [errW_none, errW_some] <;> rfl) | (simp [*, errW_none, errW_some] <;> rfl), by repeat (first | (with_reducible first | exact HB.out | apply below_alloc | apply pw_below_drewN | apply below_drew1 | refine below_set ?_ GE118.out) | exact HB.out)⟩
  · rw [if_neg c3] at H
    have c3b0 : (t108 == 0) = false := beq_eq_false_iff_ne.mpr c3
    have c3b1 : (t108 != 0) = true := bne_iff_ne.mpr c3
    obtain rfl := Option.some.inj H
    go_enter Tryd.func8, Tryd.ntmps8
    go_wp2_with (first | ((with_reducible refine gate_callee (f := 10) rfl ?_); refine goesL_ (some 8) rfl rfl Tryd.func10 (by kernel_rfl) rfl #[.agg #[.int .i64 3, .int .i64 7, .int .i64 1, .int .i64 0, .int .i64 9, .int .i64 0, .string (⟨#[]⟩ : ByteArray)]] rfl (by (try simp only [List.map_toArray, List.map_cons, List.map_nil]); first | done | rfl | (simp only [List.length_drop, List.length_take]; rfl)) ?_; (with_reducible refine (record_Encode.calls 3 7 1 0 9 0 (⟨#[]⟩ : ByteArray) t107 t108 _ A1.out (HN.out.below (by repeat (first | (with_reducible first | exact HB.out | apply below_alloc | apply pw_below_drewN | apply below_drew1 | refine below_set ?_ GE118.out) | exact HB.out)) (Nat.lt_of_lt_of_le HN.out.lt (Nat.le_refl _)))).mono ?_); rintro e w30 ⟨rfl, hb⟩; refine ⟨_, rfl, ?_⟩; have n0_ := Aside0.mk (below_step (by repeat (first | (with_reducible first | exact HB.out | apply below_alloc | apply pw_below_drewN | apply below_drew1) | exact HB.out)) hb); clear HB; have HB := n0_; clear n0_; (try clear hb); (try clear hb2); (try clear hk); (try clear hi)) | ((with_reducible refine gate_callee (f := 13) rfl ?_); refine goesL_ (some 13) rfl rfl Tryd.func13 (by kernel_rfl) rfl #[.string t107] rfl (by (try simp only [List.map_toArray, List.map_cons, List.map_nil]); first | done | rfl | (simp only [List.length_drop, List.length_take]; rfl)) ?_; (with_reducible refine (record_Decode.calls t107 t109 t110 t111 t112 t113 t114 t115 t116 t117 _ A2.out (HN.out.below (by repeat (first | (with_reducible first | exact HB.out | apply below_alloc | apply pw_below_drewN | apply below_drew1 | refine below_set ?_ GE118.out) | exact HB.out)) (Nat.lt_of_lt_of_le HN.out.lt (Nat.le_refl _)))).mono ?_); rintro e w31 ⟨rfl, hb⟩; refine ⟨_, rfl, ?_⟩; have n0_ := Aside0.mk (below_step (by repeat (first | (with_reducible first | exact HB.out | apply below_alloc | apply pw_below_drewN | apply below_drew1) | exact HB.out)) hb); clear HB; have HB := n0_; clear n0_; (try clear hb); (try clear hb2); (try clear hk); (try clear hi)) | ((with_reducible refine gate_dst (N := 3) rfl ?_); (try (refine gate_guard (by rfl) ?_; dsimp only)); refine box_event ?hg (N := 3) ?hd (cs := #[.int .i64 0, .int .i64 0, .int .i64 0, .int .i64 0, .int .i64 0, .int .i64 0, .string (⟨#[]⟩ : ByteArray)]) (t := 29) ?hr ?_; (case hd => rfl); (case hg => rfl); (case hr => first | (go_simp; done) | (go_simp; rfl)); intro gb118 hg w32 hbox hb; have n0_ := Aside0.mk (below_step (by repeat (first | (with_reducible first | exact HB.out | apply below_alloc | apply pw_below_drewN | apply below_drew1) | exact HB.out)) hb); have n1_ := Aside0.mk (hbox); have n2_ := Aside0.mk ((by rw [hg]; exact (below_size (by repeat (first | (with_reducible first | exact HB.out | apply below_alloc | apply pw_below_drewN | apply below_drew1) | exact HB.out))) : w.heap.size ≤ gb118)); have n3_ := Aside0.mk ((by rw [hg]; exact (below_size (by repeat (first | (with_reducible first | exact HB.out | apply below_alloc | apply pw_below_drewN | apply below_drew1) | exact HB.out))) : w.heap.size ≤ gb118)); clear HB; have HB := n0_; have BK118 := n1_; have GW118 := n2_; have GE118 := n3_; clear n0_ n1_ n2_ n3_; clear hb hbox hg; have hcz33_0 : w32.cell? ⟨gb118, 0, none⟩ = some (.int .i64 0) := (blk_cell BK118.out 0).trans rfl; have hcz33_1 : w32.cell? ⟨gb118, 1, none⟩ = some (.int .i64 0) := (blk_cell BK118.out 1).trans rfl; have hcz33_2 : w32.cell? ⟨gb118, 2, none⟩ = some (.int .i64 0) := (blk_cell BK118.out 2).trans rfl; have hcz33_3 : w32.cell? ⟨gb118, 3, none⟩ = some (.int .i64 0) := (blk_cell BK118.out 3).trans rfl; have hcz33_4 : w32.cell? ⟨gb118, 4, none⟩ = some (.int .i64 0) := (blk_cell BK118.out 4).trans rfl; have hcz33_5 : w32.cell? ⟨gb118, 5, none⟩ = some (.int .i64 0) := (blk_cell BK118.out 5).trans rfl; have hcz33_6 : w32.cell? ⟨gb118, 6, none⟩ = some (.string (⟨#[]⟩ : ByteArray)) := (blk_cell BK118.out 6).trans rfl; have hfz33_0 := blk_frozen BK118.out 0; have hfz33_1 := blk_frozen BK118.out 1; have hfz33_2 := blk_frozen BK118.out 2; have hfz33_3 := blk_frozen BK118.out 3; have hfz33_4 := blk_frozen BK118.out 4; have hfz33_5 := blk_frozen BK118.out 5; have hfz33_6 := blk_frozen BK118.out 6))
    go_ret
    exact ⟨by first | rfl | (simp [errW_none, errW_some] <;> rfl) | (simp [*, errW_none, errW_some] <;> rfl), by repeat (first | (with_reducible first | exact HB.out | apply below_alloc | apply pw_below_drewN | apply below_drew1 | refine below_set ?_ GE118.out) | exact HB.out)⟩

/-! ### corbellaw06_whole: given (function 9) -/
def corbellaw06_whole.f (a0_0 a0_1 a0_2 a0_3 a0_4 a0_5 : Int) (a0_6 : ByteArray) : Option (Int × Int × Int × Int × Int × Int × ByteArray) := if a0_6.size ≤ 140737488355328 then some (a0_0, a0_1, a0_2, a0_3, a0_4, a0_5, wholeB a0_0 a0_6) else none
theorem corbellaw06_whole.calls (a0_0 a0_1 a0_2 a0_3 a0_4 a0_5 : Int) (a0_6 : ByteArray) (r1 r2 r3 r4 r5 r6 : Int) (r7 : ByteArray) (w : World) (h : corbellaw06_whole.f a0_0 a0_1 a0_2 a0_3 a0_4 a0_5 a0_6 = some (r1, r2, r3, r4, r5, r6, r7)) :
    Calls Tryd.prog 9 #[.agg #[.int .i64 a0_0, .int .i64 a0_1, .int .i64 a0_2, .int .i64 a0_3, .int .i64 a0_4, .int .i64 a0_5, .string a0_6]] w fun e w' => e = .returned (.agg #[.int .i64 r1, .int .i64 r2, .int .i64 r3, .int .i64 r4, .int .i64 r5, .int .i64 r6, .string r7]) ∧ Below w.heap.size w w' := by
  unfold corbellaw06_whole.f at h
  split at h
  · rename_i hs
    simp only [Option.some.injEq, Prod.mk.injEq] at h
    obtain ⟨rfl, rfl, rfl, rfl, rfl, rfl, rfl⟩ := h
    exact whole_any _ _ _ _ _ _ _ w hs
  · cases h

/-! ### record_Scan: function 15 -/
def record_Scan.l0 : Nat → ByteArray → List (S29) → Int → Option ((List (S29)) × Int)
  | 0, _, _, _ => none
  | k + 1, x0, x4, x5 => if 0 ≤ (wrap64 (x5 * 64)) then (if (wrap64 (x5 * 64)) ≤ (x0.size : Int) then ((record_Decode.f (x0.extract ((wrap64 (x5 * 64)) : Int).toNat x0.size)).bind fun bt119 => (if bt119.2.2.2.2.2.2.2.2 = 0 then (if x4.length < 2199023255552 then (record_Scan.l0 k x0 (x4 ++ [(⟨bt119.1, bt119.2.1, bt119.2.2.1, bt119.2.2.2.1, bt119.2.2.2.2.1, bt119.2.2.2.2.2.1, bt119.2.2.2.2.2.2.1⟩ : S29)]) (wrap64 (x5 + bt119.2.2.2.2.2.2.2.1))) else (none)) else (some (x4, x5)))) else (none)) else (none)
def record_Scan.f (k : Nat) (a0 : ByteArray) : Option ((List (S29)) × Int) := record_Scan.l0 k a0 ([] : List (S29)) 0
theorem record_Scan.mono_l : ∀ k, (∀ y0 y1 y2, LeO (record_Scan.l0 k y0 y1 y2) (record_Scan.l0 (k + 1) y0 y1 y2))
  | 0 => fun _ _ _ r h => by simp [record_Scan.l0] at h
  | k + 1 => by
    have ih0 := record_Scan.mono_l k
    · intro y0 y1 y2
      unfold record_Scan.l0
      repeat' first
      | (with_reducible exact ih0 _ _ _)
      | (with_reducible exact LeO.refl _)
      | (with_reducible exact LeO.none _)
      | (with_reducible refine LeO.ite ?_ ?_)
      | (with_reducible refine LeO.bind ?_ (fun _ => ?_))
      | exact ih0 _ _ _
      | exact LeO.none _
      | refine LeO.ite ?_ ?_
      | refine LeO.bind ?_ (fun _ => ?_)
theorem record_Scan.mono : ∀ a0 k, LeO (record_Scan.f k a0) (record_Scan.f (k + 1) a0) := by
  intro a0 k
  have ih0 := record_Scan.mono_l k
  unfold record_Scan.f
  repeat' first
      | (with_reducible exact ih0 _ _ _)
      | (with_reducible exact LeO.refl _)
      | (with_reducible exact LeO.none _)
      | (with_reducible refine LeO.ite ?_ ?_)
      | (with_reducible refine LeO.bind ?_ (fun _ => ?_))
      | exact ih0 _ _ _
      | exact LeO.none _
      | refine LeO.ite ?_ ?_
      | refine LeO.bind ?_ (fun _ => ?_)
set_option maxHeartbeats 8000000 in
set_option maxRecDepth 100000 in
theorem record_Scan.calls (k : Nat) (a0 : ByteArray) (r1 : List (S29)) (r2 : Int) (w : World) (h : record_Scan.f k a0 = some (r1, r2)) (hN : TabIn w) :
    Calls Tryd.prog 15 #[.string a0] w fun e w' => ∃ v0_ : Value, e = .returned (.tuple #[v0_, .int .i64 r2]) ∧ Kd.R k29 29 w' w.heap.size (fun _ => True) v0_ r1 ∧ Below w.heap.size w w' := by
  have hu29 := Tryd.underlying29
  have HB := Aside0.mk (Below.refl w.heap.size w)
  have HN := Aside0.mk hN
  clear hN
  have H : (record_Scan.l0 k a0 ([] : List (S29)) 0) = some (r1, r2) := h
  clear h
  have H' := Aside0.mk H
  clear H
  go_enter Tryd.func15, Tryd.ntmps15
  go_wp2
  go_loopg [4, 5] k (fun kq v4 v5 w' => ∃ (x4_1 : List (S29)) (x5_1 : Int), v5 = .int .i64 x5_1 ∧ Aside0 (record_Scan.l0 kq a0 x4_1 x5_1 = some (r1, r2)) ∧ Aside0 (kq ≤ k) ∧ Aside0 (Kd.R k29 29 w' w.heap.size (fun _ => True) v4 x4_1) ∧ Aside0 (Below w.heap.size w w'))
  case atStart => exact ⟨(([] : List (S29))), (0), (by first | rfl | (simp; done) | (simp [*]; done)), H', ⟨Nat.le_refl _⟩, ⟨by first | exact Kd.R_nil _ _ _ _ _ | exact Kd.N_nil _ _ _ _ _ | exact Kd.V_nil _ _ _ _ _ | exact Kd.Q_nil _ _ _ _ _ | exact Kd.S_nil _ _ _ _ _⟩, ⟨by repeat (first | (with_reducible first | exact HB.out | apply below_alloc | apply pw_below_drewN | apply below_drew1) | exact HB.out)⟩⟩
  case round =>
    clear H'
    try clear c1
    obtain ⟨x4_1, x5_1, rfl, HA, HK1, HO_4, HB⟩ := hrel
    cases gk with
    | zero => exact absurd HA.out (by simp [record_Scan.l0])
    | succ k1 =>
      have H := HA.out
      clear HA
      simp only [record_Scan.l0] at H
      obtain ⟨ji2, hji2⟩ : ∃ j_ : Int, (wrap64 (x5_1 * 64)) = j_ := ⟨_, rfl⟩
      replace H : (if 0 ≤ (ji2) then (if (ji2) ≤ (a0.size : Int) then ((record_Decode.f (a0.extract ((ji2) : Int).toNat a0.size)).bind fun bt119 => (if bt119.2.2.2.2.2.2.2.2 = 0 then (if x4_1.length < 2199023255552 then (record_Scan.l0 k1 a0 (x4_1 ++ [(⟨bt119.1, bt119.2.1, bt119.2.2.1, bt119.2.2.2.1, bt119.2.2.2.2.1, bt119.2.2.2.2.2.1, bt119.2.2.2.2.2.2.1⟩ : S29)]) (wrap64 (x5_1 + bt119.2.2.2.2.2.2.2.1))) else (none)) else (some (x4_1, x5_1)))) else (none)) else (none)) = some (r1, r2) := by first | (rw [hji2] at H; exact H) | (simp only [hji2] at H ⊢; exact H)
      have hji2w : (IntKind.i64.wrap (x5_1 * 64)) = ji2 := (i64_w _).trans hji2
      by_cases c3 : 0 ≤ (ji2)
      · rw [if_pos c3] at H
        have c3b0 := eq_true c3
        have c3b1 : decide (0 ≤ (ji2)) = true := decide_eq_true c3
        clear c3
        by_cases c4 : (ji2) ≤ (a0.size : Int)
        · rw [if_pos c4] at H
          have c4b0 := eq_true c4
          have c4b1 : decide ((ji2) ≤ (a0.size : Int)) = true := decide_eq_true c4
          clear c4
          replace H := Option.bind_eq_some_iff.mp H
          obtain ⟨⟨t119, t120, t121, t122, t123, t124, t125, t126, t127⟩, A50, H⟩ := H
          replace H : (if t127 = 0 then (if x4_1.length < 2199023255552 then (record_Scan.l0 k1 a0 (x4_1 ++ [(⟨t119, t120, t121, t122, t123, t124, t125⟩ : S29)]) (wrap64 (x5_1 + t126))) else (none)) else (some (x4_1, x5_1))) = some (r1, r2) := H
          have A5 := Aside0.mk A50
          clear A50
          by_cases c6 : t127 = 0
          · rw [if_pos c6] at H
            have c6b0 : (t127 == 0) = true := beq_iff_eq.mpr c6
            have c6b1 : (t127 != 0) = false := bne_eq_false_iff_eq.mpr c6
            clear c6
            by_cases c7 : x4_1.length < 2199023255552
            · rw [if_pos c7] at H
              have LMc7 := Aside0.mk c7
              clear c7
              obtain ⟨y129, hy129⟩ : ∃ y_ : List (S29), y_ = (x4_1 ++ [(⟨t119, t120, t121, t122, t123, t124, t125⟩ : S29)]) := ⟨_, rfl⟩
              replace H : (record_Scan.l0 k1 a0 y129 (wrap64 (x5_1 + t126))) = some (r1, r2) := by first | (rw [hy129]; with_reducible exact H) | (have H2_ := (Option.bind_some _ _).symm.trans H; rw [hy129]; with_reducible exact H2_) | (have H2_ := (Option.bind_some _ _).symm.trans H; with_reducible exact H2_) | with_reducible exact H | (rw [hy129]; exact H) | exact H
              have Ny129 := Aside0.mk hy129
              clear hy129
              have H' := Aside0.mk H
              clear H
              go_wp2_with (first | ((with_reducible refine gate_callee (f := 13) rfl ?_); refine goesL_ (some 14) rfl rfl Tryd.func13 (by kernel_rfl) rfl #[.string (a0.extract ((ji2) : Int).toNat a0.size)] rfl (by (try simp only [List.map_toArray, List.map_cons, List.map_nil]); first | done | (simp only [hji2]; rfl) | rfl | (simp only [List.length_drop, List.length_take]; rfl)) ?_; (with_reducible refine (record_Decode.calls (a0.extract ((ji2) : Int).toNat a0.size) t119 t120 t121 t122 t123 t124 t125 t126 t127 _ A5.out (HN.out.below (by repeat (first | (with_reducible first | exact HB.out | apply below_alloc | apply pw_below_drewN | apply below_drew1 | refine below_set ?_ GE128.out) | exact HB.out)) (Nat.lt_of_lt_of_le HN.out.lt (Nat.le_refl _)))).mono ?_); rintro e w8 ⟨rfl, hb⟩; refine ⟨_, rfl, ?_⟩; have n0_ := Aside0.mk (Kd.R_below (by (with_reducible repeat (first | apply Kd.R_alloc | apply Kd.R_drewN | apply Kd.R_drew)); exact HO_4.out) hb); have n1_ := Aside0.mk (below_step (by repeat (first | (with_reducible first | exact HB.out | apply below_alloc | apply pw_below_drewN | apply below_drew1) | exact HB.out)) hb); clear HO_4; clear HB; have HO_4 := n0_; have HB := n1_; clear n0_ n1_; (try clear hb); (try clear hb2); (try clear hk); (try clear hi)) | ((with_reducible refine gate_dst (N := 6) rfl ?_); refine box_event ?hg (N := 6) ?hd (cs := #[.int .i64 0, .int .i64 0, .int .i64 0, .int .i64 0, .int .i64 0, .int .i64 0, .string (⟨#[]⟩ : ByteArray)]) (t := 29) ?hr ?_; (case hd => rfl); (case hg => rfl); (case hr => first | (go_simp; done) | (go_simp; rfl)); intro gb128 hg w9 hbox hb; have n0_ := Aside0.mk (Kd.R_below (Kd.R_elderB (by (with_reducible repeat (first | apply Kd.R_alloc | apply Kd.R_drewN | apply Kd.R_drew)); exact HO_4.out) gb128 (Nat.le_of_eq hg.symm)) hb); have n1_ := Aside0.mk (below_step (by repeat (first | (with_reducible first | exact HB.out | apply below_alloc | apply pw_below_drewN | apply below_drew1) | exact HB.out)) hb); have n2_ := Aside0.mk (hbox); have n3_ := Aside0.mk ((by rw [hg]; exact (below_size (by repeat (first | (with_reducible first | exact HB.out | apply below_alloc | apply pw_below_drewN | apply below_drew1) | exact HB.out))) : w.heap.size ≤ gb128)); have n4_ := Aside0.mk ((by rw [hg]; exact (below_size (by repeat (first | (with_reducible first | exact HB.out | apply below_alloc | apply pw_below_drewN | apply below_drew1) | exact HB.out))) : w.heap.size ≤ gb128)); clear HO_4; clear HB; have HO_4 := n0_; have HB := n1_; have BK128 := n2_; have GW128 := n3_; have GE128 := n4_; clear n0_ n1_ n2_ n3_ n4_; clear hb hbox hg; have hcz10_0 : w9.cell? ⟨gb128, 0, none⟩ = some (.int .i64 0) := (blk_cell BK128.out 0).trans rfl; have hcz10_1 : w9.cell? ⟨gb128, 1, none⟩ = some (.int .i64 0) := (blk_cell BK128.out 1).trans rfl; have hcz10_2 : w9.cell? ⟨gb128, 2, none⟩ = some (.int .i64 0) := (blk_cell BK128.out 2).trans rfl; have hcz10_3 : w9.cell? ⟨gb128, 3, none⟩ = some (.int .i64 0) := (blk_cell BK128.out 3).trans rfl; have hcz10_4 : w9.cell? ⟨gb128, 4, none⟩ = some (.int .i64 0) := (blk_cell BK128.out 4).trans rfl; have hcz10_5 : w9.cell? ⟨gb128, 5, none⟩ = some (.int .i64 0) := (blk_cell BK128.out 5).trans rfl; have hcz10_6 : w9.cell? ⟨gb128, 6, none⟩ = some (.string (⟨#[]⟩ : ByteArray)) := (blk_cell BK128.out 6).trans rfl; have hfz10_0 := blk_frozen BK128.out 0; have hfz10_1 := blk_frozen BK128.out 1; have hfz10_2 := blk_frozen BK128.out 2; have hfz10_3 := blk_frozen BK128.out 3; have hfz10_4 := blk_frozen BK128.out 4; have hfz10_5 := blk_frozen BK128.out 5; have hfz10_6 := blk_frozen BK128.out 6) | ((with_reducible refine gate_builtin (b := .append) (xs := #[.tmp 22, .tmp 24]) rfl ?_); at_builtin; refine Kd.R_append k29 (w0 := w) w.heap.size rfl (.tmp 22) (.tmp 24) 42 29 (.agg #[(.int .i64 0), (.int .i64 0), (.int .i64 0), (.int .i64 0), (.int .i64 0), (.int .i64 0), (.string ⟨#[]⟩)]) 64 rfl Tryd.underlying42 info29 rfl (by decide) (by omega) u4 x4_1 (⟨t119, t120, t121, t122, t123, t124, t125⟩ : S29) [.int .i64 t119, .int .i64 t120, .int .i64 t121, .int .i64 t122, .int .i64 t123, .int .i64 t124, .string t125] (fun k_ => k_ ≠ gb128) (fun _ => False) rfl (by first | (go_simp; done) | (go_simp; rfl)) ?aP (fun _ hk => hk.elim) ?aF ?aO ?aB ?aS ?aL ?_; (case aP => exact k29_mkM _ _ _ (⟨t119, t120, t121, t122, t123, t124, t125⟩ : S29)); (case aB => exact (by repeat (first | (with_reducible first | exact HB.out | apply below_alloc | apply pw_below_drewN | apply below_drew1 | refine below_set ?_ GE128.out) | exact HB.out))); (case aF => exact (fun k_ hk => Kd.freshB (g := gb128) (o := .cells #[.int .i64 t119, .int .i64 t120, .int .i64 t121, .int .i64 t122, .int .i64 t123, .int .i64 t124, .string t125] 29 (0, 0)) (by (with_reducible repeat (first | refine blk_drewN ?_ _ | refine blk_drew ?_ | refine blk_alloc ?_ _)); refine blk_put (cs := #[.int .i64 t119, .int .i64 t120, .int .i64 t121, .int .i64 t122, .int .i64 t123, .int .i64 t124, .string (⟨#[]⟩ : ByteArray)]) ?_ 6 _ rfl; (with_reducible repeat (first | refine blk_drewN ?_ _ | refine blk_drew ?_ | refine blk_alloc ?_ _)); refine blk_put (cs := #[.int .i64 t119, .int .i64 t120, .int .i64 t121, .int .i64 t122, .int .i64 t123, .int .i64 0, .string (⟨#[]⟩ : ByteArray)]) ?_ 5 _ rfl; (with_reducible repeat (first | refine blk_drewN ?_ _ | refine blk_drew ?_ | refine blk_alloc ?_ _)); refine blk_put (cs := #[.int .i64 t119, .int .i64 t120, .int .i64 t121, .int .i64 t122, .int .i64 0, .int .i64 0, .string (⟨#[]⟩ : ByteArray)]) ?_ 4 _ rfl; (with_reducible repeat (first | refine blk_drewN ?_ _ | refine blk_drew ?_ | refine blk_alloc ?_ _)); refine blk_put (cs := #[.int .i64 t119, .int .i64 t120, .int .i64 t121, .int .i64 0, .int .i64 0, .int .i64 0, .string (⟨#[]⟩ : ByteArray)]) ?_ 3 _ rfl; (with_reducible repeat (first | refine blk_drewN ?_ _ | refine blk_drew ?_ | refine blk_alloc ?_ _)); refine blk_put (cs := #[.int .i64 t119, .int .i64 t120, .int .i64 0, .int .i64 0, .int .i64 0, .int .i64 0, .string (⟨#[]⟩ : ByteArray)]) ?_ 2 _ rfl; (with_reducible repeat (first | refine blk_drewN ?_ _ | refine blk_drew ?_ | refine blk_alloc ?_ _)); refine blk_put (cs := #[.int .i64 t119, .int .i64 0, .int .i64 0, .int .i64 0, .int .i64 0, .int .i64 0, .string (⟨#[]⟩ : ByteArray)]) ?_ 1 _ rfl; (with_reducible repeat (first | refine blk_drewN ?_ _ | refine blk_drew ?_ | refine blk_alloc ?_ _)); refine blk_put (cs := #[.int .i64 0, .int .i64 0, .int .i64 0, .int .i64 0, .int .i64 0, .int .i64 0, .string (⟨#[]⟩ : ByteArray)]) ?_ 0 _ rfl; (with_reducible repeat (first | refine blk_drewN ?_ _ | refine blk_drew ?_ | refine blk_alloc ?_ _)); exact BK128.out) k_ hk)); (case aO => exact (by (with_reducible repeat (first | apply Kd.R_alloc | apply Kd.R_drewN | apply Kd.R_drew)); exact Kd.R_mono (Kd.R_far (p := ⟨gb128, 6, none⟩) (Kd.R_far (p := ⟨gb128, 5, none⟩) (Kd.R_far (p := ⟨gb128, 4, none⟩) (Kd.R_far (p := ⟨gb128, 3, none⟩) (Kd.R_far (p := ⟨gb128, 2, none⟩) (Kd.R_far (p := ⟨gb128, 1, none⟩) (Kd.R_far (p := ⟨gb128, 0, none⟩) (Kd.R_mono HO_4.out (fun k_ hk => (⟨hk, hk.2⟩ : _ ∧ k_ ≠ gb128))) (fun _ hk => hk.2) (.int .i64 t119)) (fun _ hk => hk.2) (.int .i64 t120)) (fun _ hk => hk.2) (.int .i64 t121)) (fun _ hk => hk.2) (.int .i64 t122)) (fun _ hk => hk.2) (.int .i64 t123)) (fun _ hk => hk.2) (.int .i64 t124)) (fun _ hk => hk.2) (.string t125)) (fun _ hk => hk.1.2))); (case aS => exact (below_size (by repeat (first | (with_reducible first | exact HB.out | apply below_alloc | apply pw_below_drewN | apply below_drew1 | refine below_set ?_ GE128.out) | exact HB.out)))); (case aL => have := LMc7.out; omega); intro v130 w11 ho hb hg hat; rw [← Ny129.out] at ho; have n0_ := Aside0.mk (blk_grown (g := gb128) (o := .cells #[.int .i64 t119, .int .i64 t120, .int .i64 t121, .int .i64 t122, .int .i64 t123, .int .i64 t124, .string t125] 29 (0, 0)) (by (with_reducible repeat (first | refine blk_drewN ?_ _ | refine blk_drew ?_ | refine blk_alloc ?_ _)); refine blk_put (cs := #[.int .i64 t119, .int .i64 t120, .int .i64 t121, .int .i64 t122, .int .i64 t123, .int .i64 t124, .string (⟨#[]⟩ : ByteArray)]) ?_ 6 _ rfl; (with_reducible repeat (first | refine blk_drewN ?_ _ | refine blk_drew ?_ | refine blk_alloc ?_ _)); refine blk_put (cs := #[.int .i64 t119, .int .i64 t120, .int .i64 t121, .int .i64 t122, .int .i64 t123, .int .i64 0, .string (⟨#[]⟩ : ByteArray)]) ?_ 5 _ rfl; (with_reducible repeat (first | refine blk_drewN ?_ _ | refine blk_drew ?_ | refine blk_alloc ?_ _)); refine blk_put (cs := #[.int .i64 t119, .int .i64 t120, .int .i64 t121, .int .i64 t122, .int .i64 0, .int .i64 0, .string (⟨#[]⟩ : ByteArray)]) ?_ 4 _ rfl; (with_reducible repeat (first | refine blk_drewN ?_ _ | refine blk_drew ?_ | refine blk_alloc ?_ _)); refine blk_put (cs := #[.int .i64 t119, .int .i64 t120, .int .i64 t121, .int .i64 0, .int .i64 0, .int .i64 0, .string (⟨#[]⟩ : ByteArray)]) ?_ 3 _ rfl; (with_reducible repeat (first | refine blk_drewN ?_ _ | refine blk_drew ?_ | refine blk_alloc ?_ _)); refine blk_put (cs := #[.int .i64 t119, .int .i64 t120, .int .i64 0, .int .i64 0, .int .i64 0, .int .i64 0, .string (⟨#[]⟩ : ByteArray)]) ?_ 2 _ rfl; (with_reducible repeat (first | refine blk_drewN ?_ _ | refine blk_drew ?_ | refine blk_alloc ?_ _)); refine blk_put (cs := #[.int .i64 t119, .int .i64 0, .int .i64 0, .int .i64 0, .int .i64 0, .int .i64 0, .string (⟨#[]⟩ : ByteArray)]) ?_ 1 _ rfl; (with_reducible repeat (first | refine blk_drewN ?_ _ | refine blk_drew ?_ | refine blk_alloc ?_ _)); refine blk_put (cs := #[.int .i64 0, .int .i64 0, .int .i64 0, .int .i64 0, .int .i64 0, .int .i64 0, .string (⟨#[]⟩ : ByteArray)]) ?_ 0 _ rfl; (with_reducible repeat (first | refine blk_drewN ?_ _ | refine blk_drew ?_ | refine blk_alloc ?_ _)); exact BK128.out) hg (Kd.R_away HO_4.out (fun _ hk => hk.2))); have n1_ := Aside0.mk (hb); have n2_ := Aside0.mk (ho); clear BK128; clear HB; clear HO_4; have BK128 := n0_; have HB := n1_; have HO131 := n2_; clear n0_ n1_ n2_; clear ho hb hg hat))
              go_roundg k1
              case measure => have := HK1.out; omega
              case rel => exact ⟨(y129), (wrap64 (x5_1 + t126)), (by first | rfl | (simp; done) | (simp [*]; done)), H', ⟨by have := HK1.out; omega⟩, ⟨by (with_reducible repeat (first | apply Kd.R_alloc | apply Kd.R_drewN | apply Kd.R_drew)); exact Kd.R_mono HO131.out (fun _ hk => trivial)⟩, ⟨by repeat (first | (with_reducible first | exact HB.out | apply below_alloc | apply pw_below_drewN | apply below_drew1 | refine below_set ?_ GE128.out) | exact HB.out)⟩⟩
            · rw [if_neg c7] at H
              exact absurd H (by simp)
          · rw [if_neg c6] at H
            have c6b0 : (t127 == 0) = false := beq_eq_false_iff_ne.mpr c6
            have c6b1 : (t127 != 0) = true := bne_iff_ne.mpr c6
            simp only [Option.some.injEq, Prod.mk.injEq] at H
            obtain ⟨rfl, rfl⟩ := H
            go_wp2_with (first | ((with_reducible refine gate_callee (f := 13) rfl ?_); refine goesL_ (some 14) rfl rfl Tryd.func13 (by kernel_rfl) rfl #[.string (a0.extract ((ji2) : Int).toNat a0.size)] rfl (by (try simp only [List.map_toArray, List.map_cons, List.map_nil]); first | done | (simp only [hji2]; rfl) | rfl | (simp only [List.length_drop, List.length_take]; rfl)) ?_; (with_reducible refine (record_Decode.calls (a0.extract ((ji2) : Int).toNat a0.size) t119 t120 t121 t122 t123 t124 t125 t126 t127 _ A5.out (HN.out.below (by repeat (first | (with_reducible first | exact HB.out | apply below_alloc | apply pw_below_drewN | apply below_drew1 | refine below_set ?_ GE128.out) | exact HB.out)) (Nat.lt_of_lt_of_le HN.out.lt (Nat.le_refl _)))).mono ?_); rintro e w12 ⟨rfl, hb⟩; refine ⟨_, rfl, ?_⟩; have n0_ := Aside0.mk (Kd.R_below (by (with_reducible repeat (first | apply Kd.R_alloc | apply Kd.R_drewN | apply Kd.R_drew)); exact HO_4.out) hb); have n1_ := Aside0.mk (below_step (by repeat (first | (with_reducible first | exact HB.out | apply below_alloc | apply pw_below_drewN | apply below_drew1) | exact HB.out)) hb); clear HO_4; clear HB; have HO_4 := n0_; have HB := n1_; clear n0_ n1_; (try clear hb); (try clear hb2); (try clear hk); (try clear hi)) | ((with_reducible refine gate_dst (N := 6) rfl ?_); refine box_event ?hg (N := 6) ?hd (cs := #[.int .i64 0, .int .i64 0, .int .i64 0, .int .i64 0, .int .i64 0, .int .i64 0, .string (⟨#[]⟩ : ByteArray)]) (t := 29) ?hr ?_; (case hd => rfl); (case hg => rfl); (case hr => first | (go_simp; done) | (go_simp; rfl)); intro gb128 hg w13 hbox hb; have n0_ := Aside0.mk (Kd.R_below (Kd.R_elderB (by (with_reducible repeat (first | apply Kd.R_alloc | apply Kd.R_drewN | apply Kd.R_drew)); exact HO_4.out) gb128 (Nat.le_of_eq hg.symm)) hb); have n1_ := Aside0.mk (below_step (by repeat (first | (with_reducible first | exact HB.out | apply below_alloc | apply pw_below_drewN | apply below_drew1) | exact HB.out)) hb); have n2_ := Aside0.mk (hbox); have n3_ := Aside0.mk ((by rw [hg]; exact (below_size (by repeat (first | (with_reducible first | exact HB.out | apply below_alloc | apply pw_below_drewN | apply below_drew1) | exact HB.out))) : w.heap.size ≤ gb128)); have n4_ := Aside0.mk ((by rw [hg]; exact (below_size (by repeat (first | (with_reducible first | exact HB.out | apply below_alloc | apply pw_below_drewN | apply below_drew1) | exact HB.out))) : w.heap.size ≤ gb128)); clear HO_4; clear HB; have HO_4 := n0_; have HB := n1_; have BK128 := n2_; have GW128 := n3_; have GE128 := n4_; clear n0_ n1_ n2_ n3_ n4_; clear hb hbox hg; have hcz14_0 : w13.cell? ⟨gb128, 0, none⟩ = some (.int .i64 0) := (blk_cell BK128.out 0).trans rfl; have hcz14_1 : w13.cell? ⟨gb128, 1, none⟩ = some (.int .i64 0) := (blk_cell BK128.out 1).trans rfl; have hcz14_2 : w13.cell? ⟨gb128, 2, none⟩ = some (.int .i64 0) := (blk_cell BK128.out 2).trans rfl; have hcz14_3 : w13.cell? ⟨gb128, 3, none⟩ = some (.int .i64 0) := (blk_cell BK128.out 3).trans rfl; have hcz14_4 : w13.cell? ⟨gb128, 4, none⟩ = some (.int .i64 0) := (blk_cell BK128.out 4).trans rfl; have hcz14_5 : w13.cell? ⟨gb128, 5, none⟩ = some (.int .i64 0) := (blk_cell BK128.out 5).trans rfl; have hcz14_6 : w13.cell? ⟨gb128, 6, none⟩ = some (.string (⟨#[]⟩ : ByteArray)) := (blk_cell BK128.out 6).trans rfl; have hfz14_0 := blk_frozen BK128.out 0; have hfz14_1 := blk_frozen BK128.out 1; have hfz14_2 := blk_frozen BK128.out 2; have hfz14_3 := blk_frozen BK128.out 3; have hfz14_4 := blk_frozen BK128.out 4; have hfz14_5 := blk_frozen BK128.out 5; have hfz14_6 := blk_frozen BK128.out 6))
            go_ret2
            exact ⟨_, by first | rfl | (simp [errW_none, errW_some] <;> rfl) | (simp only [← hji2]; first | rfl | (simp [errW_none, errW_some] <;> rfl)) | (simp [*, errW_none, errW_some] <;> rfl), by (with_reducible repeat (first | apply Kd.R_alloc | apply Kd.R_drewN | apply Kd.R_drew)); exact Kd.R_mono (Kd.R_far (p := ⟨gb128, 6, none⟩) (Kd.R_far (p := ⟨gb128, 5, none⟩) (Kd.R_far (p := ⟨gb128, 4, none⟩) (Kd.R_far (p := ⟨gb128, 3, none⟩) (Kd.R_far (p := ⟨gb128, 2, none⟩) (Kd.R_far (p := ⟨gb128, 1, none⟩) (Kd.R_far (p := ⟨gb128, 0, none⟩) (Kd.R_mono HO_4.out (fun k_ hk => (⟨hk, hk.2⟩ : _ ∧ k_ ≠ gb128))) (fun _ hk => hk.2) (.int .i64 t119)) (fun _ hk => hk.2) (.int .i64 t120)) (fun _ hk => hk.2) (.int .i64 t121)) (fun _ hk => hk.2) (.int .i64 t122)) (fun _ hk => hk.2) (.int .i64 t123)) (fun _ hk => hk.2) (.int .i64 t124)) (fun _ hk => hk.2) (.string t125)) (fun _ hk => trivial), by repeat (first | (with_reducible first | exact HB.out | apply below_alloc | apply pw_below_drewN | apply below_drew1 | refine below_set ?_ GE128.out) | exact HB.out)⟩
        · rw [if_neg c4] at H
          exact absurd H (by simp)
      · rw [if_neg c3] at H
        exact absurd H (by simp)

end Go.Proofs.YtadpeopbfoppjaaDoor.Y
