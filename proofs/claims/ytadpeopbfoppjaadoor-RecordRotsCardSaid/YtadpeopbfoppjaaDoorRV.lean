/-
  xor.Empty: by the kit's print of strings.trimLeftByte, trimRightByte and a contract of mine.
-/
import Derived.Test.YtadpeopbfoppjaaDoorVx0
import Derived.Test.YtadpeopbfoppjaaDoorB0
import Derived.Lib.Hide
namespace Go.Proofs.YtadpeopbfoppjaaDoor.V
open Go.RowKit Go.Proofs.YtadpeopbfoppjaaDoorW.PrintWords Go.Proofs.YtadpeopbfoppjaaDoorW.PrintLast Go.Proofs.YtadpeopbfoppjaaDoorW.PrintMore
attribute [local go_sem] max2_int min2_int max_two min_two max_three min_three max_four min_four
set_option linter.unusedVariables false
set_option linter.unusedSimpArgs false

/-! ### strings_trimLeftByte: function 44 -/
def strings_trimLeftByte.l0 : Nat → ByteArray → Int → Option (ByteArray)
  | 0, _, _ => none
  | k + 1, x0, x1 => if (x0.size : Int) > 0 then (if 0 < (x0.size : Int) then (if (bt x0 0) = x1 then (if 1 ≤ (x0.size : Int) then (strings_trimLeftByte.l0 k (x0.extract 1 x0.size) x1) else (none)) else (some x0)) else (none)) else (some x0)
def strings_trimLeftByte.f (k : Nat) (a0 : ByteArray) (a1 : Int) : Option (ByteArray) := strings_trimLeftByte.l0 k a0 a1
theorem strings_trimLeftByte.mono_l : ∀ k, (∀ y0 y1, LeO (strings_trimLeftByte.l0 k y0 y1) (strings_trimLeftByte.l0 (k + 1) y0 y1))
  | 0 => fun _ _ r h => by simp [strings_trimLeftByte.l0] at h
  | k + 1 => by
    have ih0 := strings_trimLeftByte.mono_l k
    · intro y0 y1
      unfold strings_trimLeftByte.l0
      repeat' first
      | (with_reducible exact ih0 _ _)
      | (with_reducible exact LeO.refl _)
      | (with_reducible exact LeO.none _)
      | (with_reducible refine LeO.ite ?_ ?_)
      | (with_reducible refine LeO.bind ?_ (fun _ => ?_))
      | exact ih0 _ _
      | exact LeO.none _
      | refine LeO.ite ?_ ?_
      | refine LeO.bind ?_ (fun _ => ?_)
theorem strings_trimLeftByte.mono : ∀ a0 a1 k, LeO (strings_trimLeftByte.f k a0 a1) (strings_trimLeftByte.f (k + 1) a0 a1) := by
  intro a0 a1 k
  have ih0 := strings_trimLeftByte.mono_l k
  unfold strings_trimLeftByte.f
  repeat' first
      | (with_reducible exact ih0 _ _)
      | (with_reducible exact LeO.refl _)
      | (with_reducible exact LeO.none _)
      | (with_reducible refine LeO.ite ?_ ?_)
      | (with_reducible refine LeO.bind ?_ (fun _ => ?_))
      | exact ih0 _ _
      | exact LeO.none _
      | refine LeO.ite ?_ ?_
      | refine LeO.bind ?_ (fun _ => ?_)
set_option maxHeartbeats 8000000 in
set_option maxRecDepth 100000 in
theorem strings_trimLeftByte.calls (k : Nat) (a0 : ByteArray) (a1 : Int) (r : ByteArray) (w : World) (h : strings_trimLeftByte.f k a0 a1 = some r) :
    Calls Tryd.prog 44 #[.string a0, .int .u8 a1] w fun e w' => e = .returned (.string r) ∧ Drawn0 w w' := by
  have H : (strings_trimLeftByte.l0 k a0 a1) = some r := h
  clear h
  have H' := Aside0.mk H
  clear H
  go_enter Tryd.func44, Tryd.ntmps44
  go_wp2
  go_loopg [0] k (fun kq v0 w' => ∃ (x0_1 : ByteArray), v0 = .string x0_1 ∧ Aside0 (strings_trimLeftByte.l0 kq x0_1 a1 = some r) ∧ Aside0 (kq ≤ k) ∧ Drawn0 w w')
  case atStart => exact ⟨(a0), (by first | rfl | (simp; done) | (simp [*]; done)), H', ⟨Nat.le_refl _⟩, by repeat (first | exact Drawn0.refl _ | apply Drawn0.step)⟩
  case round =>
    clear H'
    try clear p2
    obtain ⟨x0_1, rfl, HA, HK1, ⟨m1, rfl⟩⟩ := hrel
    cases gk with
    | zero => exact absurd HA.out (by simp [strings_trimLeftByte.l0])
    | succ k1 =>
      have H := HA.out
      clear HA
      simp only [strings_trimLeftByte.l0] at H
      by_cases c3 : (x0_1.size : Int) > 0
      · rw [if_pos c3] at H
        have c3b0 : decide (0 < (x0_1.size : Int)) = true := decide_eq_true c3
        have c3b1 : decide (0 < x0_1.size) = true := decide_eq_true (by omega)
        clear c3
        by_cases c4 : 0 < (x0_1.size : Int)
        · rw [if_pos c4] at H
          have c4b0 : decide (0 < (x0_1.size : Int)) = true := decide_eq_true c4
          have c4b1 : decide (0 < x0_1.size) = true := decide_eq_true (by omega)
          clear c4
          by_cases c6 : (bt x0_1 0) = a1
          · rw [if_pos c6] at H
            have c6b0 : ((bt x0_1 0) == a1) = true := beq_iff_eq.mpr c6
            have c6b1 : ((bt x0_1 0) != a1) = false := bne_eq_false_iff_eq.mpr c6
            clear c6
            by_cases c7 : 1 ≤ (x0_1.size : Int)
            · rw [if_pos c7] at H
              have c7b0 := eq_true c7
              have c7b1 : decide (1 ≤ (x0_1.size : Int)) = true := decide_eq_true c7
              clear c7
              have H' := Aside0.mk H
              clear H
              have p5 : 0 ≤ (0 : Int) := (by omega)
              have q5 : 0 < x0_1.size := (by have : (0 : Int) < (x0_1.size : Int) := of_decide_eq_true (by first | (with_reducible assumption) | assumption); omega)
              have hx5 : ∀ h : 0 < x0_1.size, ((x0_1[0]'h).toNat : Int) = bt x0_1 0 := bt_at x0_1 0
              clear p5
              have qi5 : (0 < (x0_1.size : Int)) = True := eq_true (of_decide_eq_true (by first | (with_reducible assumption) | assumption))
              replace q5 := eq_true q5
              go_wp2
              go_roundg k1
              case measure => have := HK1.out; omega
              case rel => exact ⟨(x0_1.extract 1 x0_1.size), (by first | rfl | (simp; done) | (simp [*]; done)), H', ⟨by have := HK1.out; omega⟩, by repeat (first | exact Drawn0.refl _ | apply Drawn0.step)⟩
            · rw [if_neg c7] at H
              exact absurd H (by simp)
          · rw [if_neg c6] at H
            have c6b0 : ((bt x0_1 0) == a1) = false := beq_eq_false_iff_ne.mpr c6
            have c6b1 : ((bt x0_1 0) != a1) = true := bne_iff_ne.mpr c6
            obtain rfl := Option.some.inj H
            have p5 : 0 ≤ (0 : Int) := (by omega)
            have q5 : 0 < x0_1.size := (by have : (0 : Int) < (x0_1.size : Int) := of_decide_eq_true (by first | (with_reducible assumption) | assumption); omega)
            have hx5 : ∀ h : 0 < x0_1.size, ((x0_1[0]'h).toNat : Int) = bt x0_1 0 := bt_at x0_1 0
            clear p5
            have qi5 : (0 < (x0_1.size : Int)) = True := eq_true (of_decide_eq_true (by first | (with_reducible assumption) | assumption))
            replace q5 := eq_true q5
            go_wp2
            go_ret
            exact ⟨by first | rfl | (simp; done) | (simp [*]; done), by repeat (first | exact Drawn0.refl _ | apply Drawn0.step)⟩
        · rw [if_neg c4] at H
          exact absurd H (by simp)
      · rw [if_neg c3] at H
        have c3b0 : decide (0 < (x0_1.size : Int)) = false := decide_eq_false c3
        have c3b1 : decide (0 < x0_1.size) = false := decide_eq_false (by omega)
        clear c3
        obtain rfl := Option.some.inj H
        go_wp2
        go_ret
        exact ⟨by first | rfl | (simp; done) | (simp [*]; done), by repeat (first | exact Drawn0.refl _ | apply Drawn0.step)⟩

/-! ### strings_trimRightByte: function 45 -/
def strings_trimRightByte.l0 : Nat → ByteArray → Int → Option (ByteArray)
  | 0, _, _ => none
  | k + 1, x0, x1 => if (x0.size : Int) > 0 then (if 0 ≤ (wrap64 ((x0.size : Int) - 1)) then (if (wrap64 ((x0.size : Int) - 1)) < (x0.size : Int) then (if (bt x0 (wrap64 ((x0.size : Int) - 1))) = x1 then (if (wrap64 ((x0.size : Int) - 1)) ≤ (x0.size : Int) then (strings_trimRightByte.l0 k (x0.extract 0 ((wrap64 ((x0.size : Int) - 1)) : Int).toNat) x1) else (none)) else (some x0)) else (none)) else (none)) else (some x0)
def strings_trimRightByte.f (k : Nat) (a0 : ByteArray) (a1 : Int) : Option (ByteArray) := strings_trimRightByte.l0 k a0 a1
theorem strings_trimRightByte.mono_l : ∀ k, (∀ y0 y1, LeO (strings_trimRightByte.l0 k y0 y1) (strings_trimRightByte.l0 (k + 1) y0 y1))
  | 0 => fun _ _ r h => by simp [strings_trimRightByte.l0] at h
  | k + 1 => by
    have ih0 := strings_trimRightByte.mono_l k
    · intro y0 y1
      unfold strings_trimRightByte.l0
      repeat' first
      | (with_reducible exact ih0 _ _)
      | (with_reducible exact LeO.refl _)
      | (with_reducible exact LeO.none _)
      | (with_reducible refine LeO.ite ?_ ?_)
      | (with_reducible refine LeO.bind ?_ (fun _ => ?_))
      | exact ih0 _ _
      | exact LeO.none _
      | refine LeO.ite ?_ ?_
      | refine LeO.bind ?_ (fun _ => ?_)
theorem strings_trimRightByte.mono : ∀ a0 a1 k, LeO (strings_trimRightByte.f k a0 a1) (strings_trimRightByte.f (k + 1) a0 a1) := by
  intro a0 a1 k
  have ih0 := strings_trimRightByte.mono_l k
  unfold strings_trimRightByte.f
  repeat' first
      | (with_reducible exact ih0 _ _)
      | (with_reducible exact LeO.refl _)
      | (with_reducible exact LeO.none _)
      | (with_reducible refine LeO.ite ?_ ?_)
      | (with_reducible refine LeO.bind ?_ (fun _ => ?_))
      | exact ih0 _ _
      | exact LeO.none _
      | refine LeO.ite ?_ ?_
      | refine LeO.bind ?_ (fun _ => ?_)
set_option maxHeartbeats 8000000 in
set_option maxRecDepth 100000 in
theorem strings_trimRightByte.calls (k : Nat) (a0 : ByteArray) (a1 : Int) (r : ByteArray) (w : World) (h : strings_trimRightByte.f k a0 a1 = some r) :
    Calls Tryd.prog 45 #[.string a0, .int .u8 a1] w fun e w' => e = .returned (.string r) ∧ Drawn0 w w' := by
  have H : (strings_trimRightByte.l0 k a0 a1) = some r := h
  clear h
  have H' := Aside0.mk H
  clear H
  go_enter Tryd.func45, Tryd.ntmps45
  go_wp2
  go_loopg [0] k (fun kq v0 w' => ∃ (x0_1 : ByteArray), v0 = .string x0_1 ∧ Aside0 (strings_trimRightByte.l0 kq x0_1 a1 = some r) ∧ Aside0 (kq ≤ k) ∧ Drawn0 w w')
  case atStart => exact ⟨(a0), (by first | rfl | (simp; done) | (simp [*]; done)), H', ⟨Nat.le_refl _⟩, by repeat (first | exact Drawn0.refl _ | apply Drawn0.step)⟩
  case round =>
    clear H'
    try clear p2
    obtain ⟨x0_1, rfl, HA, HK1, ⟨m1, rfl⟩⟩ := hrel
    cases gk with
    | zero => exact absurd HA.out (by simp [strings_trimRightByte.l0])
    | succ k1 =>
      have H := HA.out
      clear HA
      simp only [strings_trimRightByte.l0] at H
      by_cases c3 : (x0_1.size : Int) > 0
      · rw [if_pos c3] at H
        have c3b0 : decide (0 < (x0_1.size : Int)) = true := decide_eq_true c3
        have c3b1 : decide (0 < x0_1.size) = true := decide_eq_true (by omega)
        clear c3
        obtain ⟨ji4, hji4⟩ : ∃ j_ : Int, (wrap64 ((x0_1.size : Int) - 1)) = j_ := ⟨_, rfl⟩
        replace H : (if 0 ≤ (ji4) then (if (ji4) < (x0_1.size : Int) then (if (bt x0_1 (ji4)) = a1 then (if (ji4) ≤ (x0_1.size : Int) then (strings_trimRightByte.l0 k1 (x0_1.extract 0 ((ji4) : Int).toNat) a1) else (none)) else (some x0_1)) else (none)) else (none)) = some r := by first | (rw [hji4] at H; exact H) | (simp only [hji4] at H ⊢; exact H)
        have hji4w : (IntKind.i64.wrap ((x0_1.size : Int) - 1)) = ji4 := (i64_w _).trans hji4
        by_cases c5 : 0 ≤ (ji4)
        · rw [if_pos c5] at H
          have c5b0 : decide (0 ≤ (ji4)) = true := decide_eq_true c5
          clear c5
          by_cases c6 : (ji4) < (x0_1.size : Int)
          · rw [if_pos c6] at H
            have c6b0 : decide ((ji4) < (x0_1.size : Int)) = true := decide_eq_true c6
            clear c6
            by_cases c8 : (bt x0_1 (ji4)) = a1
            · rw [if_pos c8] at H
              have c8b0 : ((bt x0_1 (ji4)) == a1) = true := beq_iff_eq.mpr c8
              have c8b1 : ((bt x0_1 (ji4)) != a1) = false := bne_eq_false_iff_eq.mpr c8
              clear c8
              have c9b0 := eq_true (of_decide_eq_true (by first | (with_reducible assumption) | assumption) : 0 ≤ (ji4))
              by_cases c10 : (ji4) ≤ (x0_1.size : Int)
              · rw [if_pos c10] at H
                have c10b0 := eq_true c10
                have c10b1 : decide ((ji4) ≤ (x0_1.size : Int)) = true := decide_eq_true c10
                clear c10
                have H' := Aside0.mk H
                clear H
                have p7 : 0 ≤ ((ji4) : Int) := of_decide_eq_true (by first | (with_reducible assumption) | assumption)
                have q7 : (ji4) < (x0_1.size : Int) := of_decide_eq_true (by first | (with_reducible assumption) | assumption)
                have hx7 := bt_at x0_1 (ji4)
                replace p7 := eq_true p7
                replace q7 := eq_true q7
                go_wp2
                go_roundg k1
                case measure => have := HK1.out; omega
                case rel => exact ⟨(x0_1.extract 0 ((ji4) : Int).toNat), (by first | rfl | (simp; done) | (simp only [← hji4] <;> (first | rfl | simp)) | (simp [*]; done)), H', ⟨by have := HK1.out; omega⟩, by repeat (first | exact Drawn0.refl _ | apply Drawn0.step)⟩
              · rw [if_neg c10] at H
                exact absurd H (by simp)
            · rw [if_neg c8] at H
              have c8b0 : ((bt x0_1 (ji4)) == a1) = false := beq_eq_false_iff_ne.mpr c8
              have c8b1 : ((bt x0_1 (ji4)) != a1) = true := bne_iff_ne.mpr c8
              obtain rfl := Option.some.inj H
              have p7 : 0 ≤ ((ji4) : Int) := of_decide_eq_true (by first | (with_reducible assumption) | assumption)
              have q7 : (ji4) < (x0_1.size : Int) := of_decide_eq_true (by first | (with_reducible assumption) | assumption)
              have hx7 := bt_at x0_1 (ji4)
              replace p7 := eq_true p7
              replace q7 := eq_true q7
              go_wp2
              go_ret
              exact ⟨by first | rfl | (simp; done) | (simp only [← hji4] <;> (first | rfl | simp)) | (simp [*]; done), by repeat (first | exact Drawn0.refl _ | apply Drawn0.step)⟩
          · rw [if_neg c6] at H
            exact absurd H (by simp)
        · rw [if_neg c5] at H
          exact absurd H (by simp)
      · rw [if_neg c3] at H
        have c3b0 : decide (0 < (x0_1.size : Int)) = false := decide_eq_false c3
        have c3b1 : decide (0 < x0_1.size) = false := decide_eq_false (by omega)
        clear c3
        obtain rfl := Option.some.inj H
        go_wp2
        go_ret
        exact ⟨by first | rfl | (simp; done) | (simp [*]; done), by repeat (first | exact Drawn0.refl _ | apply Drawn0.step)⟩

-- NOT PRINTED: function 46 (strings_makeASCIISet)

-- NOT PRINTED: function 56 (strings_asciiSet_contains)

-- NOT PRINTED: function 47 (strings_trimLeftASCII)

-- NOT PRINTED: function 48 (strings_trimRightASCII)

-- NOT PRINTED: function 62 (utf8_decodeRuneInStringSlow)

-- NOT PRINTED: function 57 (utf8_DecodeRuneInString)

-- NOT PRINTED: function 70 (bytealg_IndexByteString)

-- NOT PRINTED: function 69 (stringslite_IndexByte)

-- NOT PRINTED: function 65 (strings_IndexByte)

/-! ### xor_Empty: given (function 25) -/
/-- Nothing but noughts. -/
def allz (a : ByteArray) : Bool := a.data.toList.all (· == 0)

theorem bt_last (a : ByteArray) (i : Nat) (h : i < a.size) : bt a (i : Int) = ((a.data.toList[i]'h).toNat : Int) := by
  unfold bt
  rw [dif_pos (by simpa using h)]
  rfl

theorem u8_zero_iff (b : UInt8) : (b.toNat : Int) = 0 ↔ b = 0 := by
  constructor
  · intro h
    have : b.toNat = 0 := by omega
    exact UInt8.toNat_inj.1 this
  · rintro rfl; rfl

theorem right_ex (n : Nat) : ∀ (a : ByteArray), a.size = n → n ≤ 140737488351232 → ∃ r, (∀ k, n < k → strings_trimRightByte.l0 k a 0 = some r) ∧ (r.size = 0 ↔ allz a = true) ∧ (r.size ≠ 0 → allz r = false) ∧ r.size ≤ n := by
  induction n with
  | zero =>
    intro a ha _
    have hl : a.data.toList = [] := List.eq_nil_of_length_eq_zero ha
    refine ⟨a, fun k hk => ?_, ?_, fun h => absurd ha h, by omega⟩
    · obtain ⟨k, rfl⟩ : ∃ m, k = m + 1 := ⟨k - 1, by omega⟩
      simp only [strings_trimRightByte.l0]
      rw [if_neg (by omega)]
    · simp [ha, allz, hl]
  | succ n ih =>
    intro a ha hn
    have hw : wrap64 ((a.size : Int) - 1) = (n : Int) := by unfold wrap64; omega
    have hb := bt_last a n (by omega)
    have hlen : a.data.toList.length = n + 1 := ha
    by_cases h0 : a.data.toList[n] = 0
    · have hb0 : bt a (n : Int) = 0 := by rw [hb, h0]; rfl
      have hs : (a.extract 0 n).size = n := by rw [ByteArray.size_extract]; omega
      obtain ⟨r, hr, h1, h2, h3⟩ := ih (a.extract 0 n) hs (by omega)
      refine ⟨r, fun k hk => ?_, ?_, h2, by omega⟩
      · obtain ⟨k, rfl⟩ : ∃ m, k = m + 1 := ⟨k - 1, by omega⟩
        simp only [strings_trimRightByte.l0]
        rw [hw, if_pos (by omega), if_pos (by omega), if_pos (by omega), if_pos hb0, if_pos (by omega), Int.toNat_natCast]
        exact hr k (by omega)
      · rw [h1]
        have e : a.data.toList = (a.extract 0 n).data.toList ++ [0] := by
          have e1 : (a.extract 0 n).data.toList = a.data.toList.take n := by
            rw [ByteArray.data_extract, Array.toList_extract, List.extract_eq_take_drop]; simp
          rw [e1, ← h0]
          conv => lhs; rw [← List.take_append_drop n a.data.toList]
          congr 1
          rw [List.drop_eq_getElem_cons (by omega), List.drop_of_length_le (by omega)]
        unfold allz
        rw [e]
        simp
    · have hb0 : bt a (n : Int) ≠ 0 := by rw [hb]; exact fun h => h0 ((u8_zero_iff _).1 h)
      have hz : allz a = false := by
        unfold allz
        rw [List.all_eq_false]
        exact ⟨_, List.getElem_mem (by omega : n < a.data.toList.length), by simpa using h0⟩
      refine ⟨a, fun k hk => ?_, ?_, fun _ => hz, by omega⟩
      · obtain ⟨k, rfl⟩ : ∃ m, k = m + 1 := ⟨k - 1, by omega⟩
        simp only [strings_trimRightByte.l0]
        rw [hw, if_pos (by omega), if_pos (by omega), if_pos (by omega), if_neg hb0]
      · rw [hz]; exact ⟨fun h => absurd h (by omega), fun h => by cases h⟩

theorem left_ex (n : Nat) : ∀ (a : ByteArray), a.size = n → ∃ r, (∀ k, n < k → strings_trimLeftByte.l0 k a 0 = some r) ∧ (r.size = 0 ↔ allz a = true) := by
  induction n with
  | zero =>
    intro a ha
    have hl : a.data.toList = [] := List.eq_nil_of_length_eq_zero ha
    refine ⟨a, fun k hk => ?_, ?_⟩
    · obtain ⟨k, rfl⟩ : ∃ m, k = m + 1 := ⟨k - 1, by omega⟩
      simp only [strings_trimLeftByte.l0]
      rw [if_neg (by omega)]
    · simp [ha, allz, hl]
  | succ n ih =>
    intro a ha
    have hlen : a.data.toList.length = n + 1 := ha
    have hb := bt_last a 0 (by omega)
    by_cases h0 : a.data.toList[0] = 0
    · have hb0 : bt a 0 = 0 := by
        have : bt a ((0 : Nat) : Int) = 0 := by rw [hb, h0]; rfl
        exact this
      have hs : (a.extract 1 a.size).size = n := by rw [ByteArray.size_extract]; omega
      obtain ⟨r, hr, h1⟩ := ih (a.extract 1 a.size) hs
      refine ⟨r, fun k hk => ?_, ?_⟩
      · obtain ⟨k, rfl⟩ : ∃ m, k = m + 1 := ⟨k - 1, by omega⟩
        simp only [strings_trimLeftByte.l0]
        rw [if_pos (by omega), if_pos (by omega), if_pos hb0, if_pos (by omega)]
        exact hr k (by omega)
      · rw [h1]
        have e : a.data.toList = 0 :: (a.extract 1 a.size).data.toList := by
          have e1 : (a.extract 1 a.size).data.toList = a.data.toList.drop 1 := by
            rw [ByteArray.data_extract, Array.toList_extract, List.extract_eq_take_drop, List.take_of_length_le (by rw [List.length_drop, hlen]; omega)]
          rw [e1, ← h0, ← List.drop_eq_getElem_cons (by omega), List.drop_zero]
        unfold allz
        rw [e]
        simp
    · have hb0 : bt a 0 ≠ 0 := by
        have : bt a ((0 : Nat) : Int) ≠ 0 := by rw [hb]; exact fun h => h0 ((u8_zero_iff _).1 h)
        exact this
      have hz : allz a = false := by
        unfold allz
        rw [List.all_eq_false]
        exact ⟨_, List.getElem_mem (by omega : 0 < a.data.toList.length), by simpa using h0⟩
      refine ⟨a, fun k hk => ?_, ?_⟩
      · obtain ⟨k, rfl⟩ : ∃ m, k = m + 1 := ⟨k - 1, by omega⟩
        simp only [strings_trimLeftByte.l0]
        rw [if_pos (by omega), if_pos (by omega), if_neg hb0]
      · rw [hz]; exact ⟨fun h => absurd h (by omega), fun h => by cases h⟩

theorem quietD {P : Program} {f : FuncId} {args : Array Value} {w : World} {n : Nat} {v : Value}
    (h : Calls P f args (w.drewN n) fun e w' => e = .returned v ∧ Drawn0 (w.drewN n) w') : Calls P f args (w.drewN n) fun e w'' => e = .returned v ∧ ∃ m, w'' = w.drewN m :=
  h.mono fun _ _ ⟨he, ⟨m, hm⟩⟩ => ⟨he, n + m, by rw [hm]; simp [World.drewN, Nat.add_assoc]⟩

theorem toList_empty (a : ByteArray) : a.toList.isEmpty = decide (a.size = 0) := by
  rw [ByteArray.toList_eq, Bool.eq_iff_iff, List.isEmpty_iff, decide_eq_true_iff]
  constructor
  · intro h
    show a.data.toList.length = 0
    rw [h]; rfl
  · intro h
    exact List.eq_nil_of_length_eq_zero h

set_option maxRecDepth 100000 in
theorem trim_calls (a0 : ByteArray) (w : World) (ha : a0.size ≤ 140737488351232) :
    Calls Tryd.prog 36 #[.string a0, .string ⟨#[0]⟩] w fun e w' => ∃ r : ByteArray, e = .returned (.string r) ∧ (r.size = 0 ↔ allz a0 = true) ∧ Drawn0 w w' := by
  by_cases h0 : a0.size = 0
  · have hl : a0 = ⟨#[]⟩ := ByteArray.ext (Array.eq_empty_of_size_eq_zero h0)
    subst hl
    go_enter Tryd.func36, Tryd.ntmps36
    go_wp2_with fail
    go_ret
    exact ⟨_, rfl, by simp [allz, ByteArray.size], ⟨0, rfl⟩⟩
  · obtain ⟨r1, hr1, h1, h2, h3⟩ := right_ex a0.size a0 rfl ha
    obtain ⟨r2, hr2, h4⟩ := left_ex r1.size r1 rfl
    have H1 := fun u => strings_trimRightByte.calls (a0.size + 1) a0 0 r1 u (hr1 _ (by omega))
    have H2 := fun u => strings_trimLeftByte.calls (r1.size + 1) r1 0 r2 u (hr2 _ (by omega))
    have hne : a0.toList.isEmpty = false := by rw [toList_empty]; simpa using h0
    have hz : r2.size = 0 ↔ allz a0 = true := by
      rw [h4]
      constructor
      · intro h
        by_cases hr : r1.size = 0
        · exact h1.1 hr
        · rw [h2 hr] at h; cases h
      · intro h
        have := h1.2 h
        have hl : r1.data.toList = [] := List.eq_nil_of_length_eq_zero this
        simp [allz, hl]
    have HH1 := Lib.hid H1
    have HH2 := Lib.hid H2
    have Hz := Lib.hid hz
    clear H1 H2 h1 h2 h3 h4 hr1 hr2 hz
    go_enter Tryd.func36, Tryd.ntmps36
    go_wp2_with fail
    go_quiet (first | (go_at_call 45; exact quietD (HH1.out _)) | (go_at_call 44; exact quietD (HH2.out _)))
    go_wp2_with fail
    go_ret
    exact ⟨_, rfl, Hz.out, ⟨_, rfl⟩⟩

def xor_Empty.f (a0 : ByteArray) : Option Bool := if a0.size ≤ 140737488351232 then some (allz a0) else none
theorem xor_Empty.calls (a0 : ByteArray) (r : Bool) (w : World) (h : xor_Empty.f a0 = some r) :
    Calls Tryd.prog 25 #[.string a0] w fun e w' => e = .returned (.bool r) ∧ Drawn0 w w' := by
  unfold xor_Empty.f at h
  split at h
  · rename_i ha
    have hr : r = allz a0 := by simpa using h.symm
    subst hr
    clear h
    go_enter Tryd.func25, Tryd.ntmps25
    go_wp2_with fail
    refine (trim_calls a0 _ ha).mono ?_
    rintro e w1 ⟨r, rfl, hz, ⟨n, rfl⟩⟩
    have he : r.toList.isEmpty = allz a0 := by
      rw [toList_empty, Bool.eq_iff_iff]
      simpa using hz
    go_wp2_with fail
    go_ret
    exact ⟨by first | rfl | rw [he], ⟨n, rfl⟩⟩
  · cases h

end Go.Proofs.YtadpeopbfoppjaaDoor.V
