-- printed by a program of a session (wip/tools/printx.py) over the kit's print; not typed by hand
import Derived.Test.YticpjnpafmehaaaDoorUx0
import Derived.Test.YticpjnpafmehaaaDoorUx2
import Derived.Test.YticpjnpafmehaaaDoorUx4
namespace Go.Proofs.YticpjnpafmehaaaDoor.U
open Go.RowKit Go.Proofs.YticpjnpafmehaaaDoorW.PrintWords Go.Proofs.YticpjnpafmehaaaDoorW.PrintLast Go.Proofs.YticpjnpafmehaaaDoorW.PrintMore
attribute [local go_sem] max2_int min2_int max_two min_two max_three min_three max_four min_four   -- for this text's walks alone
set_option linter.unusedVariables false
set_option linter.unusedSimpArgs false

/-! ### utf8_ValidRune: function 72 -/
def utf8_ValidRune.j0 : Nat → Int → Bool → Option (Bool)
  | 0, _, _ => none
  | k + 1, x0, x3 => if x3 = true then (some true) else (if 57343 < x0 then (if x0 ≤ 1114111 then (some true) else (some false)) else (some false))
def utf8_ValidRune.f (k : Nat) (a0 : Int) : Option (Bool) := if 0 ≤ a0 then (utf8_ValidRune.j0 k a0 (decide (a0 < 55296))) else (utf8_ValidRune.j0 k a0 false)
theorem utf8_ValidRune.mono_l : ∀ k, (∀ y0 y1, LeO (utf8_ValidRune.j0 k y0 y1) (utf8_ValidRune.j0 (k + 1) y0 y1))
  | 0 => fun _ _ r h => by simp [utf8_ValidRune.j0] at h
  | k + 1 => by
    have ih0 := utf8_ValidRune.mono_l k
    · intro y0 y1
      unfold utf8_ValidRune.j0
      repeat' first
      | (with_reducible exact ih0 _ _)
      | (with_reducible exact LeO.refl _)
      | (with_reducible exact LeO.none _)
      | (with_reducible refine LeO.ite ?_ ?_)
      | (with_reducible refine LeO.bind ?_ (fun _ => ?_))
      | exact ih0 _ _
      | exact LeO.none _
      | refine LeO.ite ?_ ?_
      | refine LeO.bind ?_ (fun _ => ?_)
theorem utf8_ValidRune.mono : ∀ a0 k, LeO (utf8_ValidRune.f k a0) (utf8_ValidRune.f (k + 1) a0) := by
  intro a0 k
  have ih0 := utf8_ValidRune.mono_l k
  unfold utf8_ValidRune.f
  repeat' first
      | (with_reducible exact ih0 _ _)
      | (with_reducible exact LeO.refl _)
      | (with_reducible exact LeO.none _)
      | (with_reducible refine LeO.ite ?_ ?_)
      | (with_reducible refine LeO.bind ?_ (fun _ => ?_))
      | exact ih0 _ _
      | exact LeO.none _
      | refine LeO.ite ?_ ?_
      | refine LeO.bind ?_ (fun _ => ?_)
set_option maxHeartbeats 8000000 in
set_option maxRecDepth 100000 in
theorem utf8_ValidRune.calls (k : Nat) (a0 : Int) (r : Bool) (w : World) (h : utf8_ValidRune.f k a0 = some r) :
    Calls Tryd.prog 72 #[.int .i32 a0] w fun e w' => e = .returned (.bool r) ∧ Drawn0 w w' := by
  have H : (if 0 ≤ a0 then (utf8_ValidRune.j0 k a0 (decide (a0 < 55296))) else (utf8_ValidRune.j0 k a0 false)) = some r := h
  clear h
  have HC2 := Aside0.mk H
  clear H
  go_enter Tryd.func72, Tryd.ntmps72
  go_upto_region 1 with (fail)
  go_cut [3] (fun v3 wc => ∃ (kq : Nat) (x3_1 : Bool), v3 = .bool x3_1 ∧ Aside0 (utf8_ValidRune.j0 kq a0 x3_1 = some r) ∧ Aside0 (kq ≤ k) ∧ Drawn0 w wc)
  case first =>
    have H := HC2.out
    clear HC2
    by_cases c3 : 0 ≤ a0
    · rw [if_pos c3] at H
      have c3b0 : decide (0 ≤ a0) = true := decide_eq_true c3
      clear c3
      (first | rw [c3b0] | (simp only [i64_w, i32_w]; rw [c3b0]) | skip)
      have H' := Aside0.mk H
      clear H
      go_wp2
      go_meet
      case rel => exact ⟨_, (decide (a0 < 55296)), (by first | rfl | (simp; done) | (simp [*]; done)), H', ⟨by first | omega | exact Nat.le_refl _⟩, by repeat (first | exact Drawn0.refl _ | apply Drawn0.step)⟩
    · rw [if_neg c3] at H
      have c3b0 : decide (0 ≤ a0) = false := decide_eq_false c3
      clear c3
      (first | rw [c3b0] | (simp only [i64_w, i32_w]; rw [c3b0]) | skip)
      have H' := Aside0.mk H
      clear H
      go_wp2
      go_meet
      case rel => exact ⟨_, (false), (by first | rfl | (simp; done) | (simp [*]; done)), H', ⟨by first | omega | exact Nat.le_refl _⟩, by repeat (first | exact Drawn0.refl _ | apply Drawn0.step)⟩
  case rest =>
    clear HC2
    try clear p2
    try clear c3
    try clear c3b0
    obtain ⟨kq, x3_1, rfl, HA, HJ1, ⟨mc1, rfl⟩⟩ := hcut
    cases kq with
    | zero => exact absurd HA.out (by simp [utf8_ValidRune.j0])
    | succ kj1 =>
      have H := HA.out
      clear HA
      simp only [utf8_ValidRune.j0] at H
      by_cases c4 : x3_1 = true
      · subst c4
        have H1 : (some true) = some r := by rw [if_pos rfl] at H; exact H
        clear H
        have H := H1
        clear H1
        obtain rfl := Option.some.inj H
        go_wp2
        go_ret
        exact ⟨by first | rfl | (simp; done) | (simp [*]; done), by repeat (first | exact Drawn0.refl _ | apply Drawn0.step)⟩
      · replace c4 := Bool.eq_false_iff.mpr c4
        subst c4
        have H1 : (if 57343 < a0 then (if a0 ≤ 1114111 then (some true) else (some false)) else (some false)) = some r := by rw [if_neg (show ¬ (false = true) by decide)] at H; exact H
        clear H
        have H := H1
        clear H1
        by_cases c5 : 57343 < a0
        · rw [if_pos c5] at H
          have c5b0 : decide (57343 < a0) = true := decide_eq_true c5
          clear c5
          by_cases c6 : a0 ≤ 1114111
          · rw [if_pos c6] at H
            have c6b0 : decide (a0 ≤ 1114111) = true := decide_eq_true c6
            clear c6
            obtain rfl := Option.some.inj H
            go_wp2
            go_ret
            exact ⟨by first | rfl | (simp; done) | (simp [*]; done), by repeat (first | exact Drawn0.refl _ | apply Drawn0.step)⟩
          · rw [if_neg c6] at H
            have c6b0 : decide (a0 ≤ 1114111) = false := decide_eq_false c6
            clear c6
            obtain rfl := Option.some.inj H
            go_wp2
            go_ret
            exact ⟨by first | rfl | (simp; done) | (simp [*]; done), by repeat (first | exact Drawn0.refl _ | apply Drawn0.step)⟩
        · rw [if_neg c5] at H
          have c5b0 : decide (57343 < a0) = false := decide_eq_false c5
          clear c5
          obtain rfl := Option.some.inj H
          go_wp2
          go_ret
          exact ⟨by first | rfl | (simp; done) | (simp [*]; done), by repeat (first | exact Drawn0.refl _ | apply Drawn0.step)⟩

/-! ### bytealg_Cutover: function 73 -/
def bytealg_Cutover.f (a0 : Int) : Option (Int) := some (wrap64 (Int.tdiv (wrap64 (a0 + 16)) 8))
set_option maxHeartbeats 8000000 in
set_option maxRecDepth 100000 in
theorem bytealg_Cutover.calls (a0 : Int) (r : Int) (w : World) (h : bytealg_Cutover.f a0 = some r) :
    Calls Tryd.prog 73 #[.int .i64 a0] w fun e w' => e = .returned (.int .i64 r) ∧ Drawn0 w w' := by
  have H : (some (wrap64 (Int.tdiv (wrap64 (a0 + 16)) 8))) = some r := h
  clear h
  obtain rfl := Option.some.inj H
  go_enter Tryd.func73, Tryd.ntmps73
  go_wp2
  go_ret
  exact ⟨by first | rfl | (simp; done) | (simp [*]; done), by repeat (first | exact Drawn0.refl _ | apply Drawn0.step)⟩

-- NOT PRINTED: function 74 (bytealg_IndexString)

-- NOT PRINTED: function 67 (strings_IndexRune)

-- NOT PRINTED: function 59 (strings_ContainsRune)

-- NOT PRINTED: function 48 (strings_trimLeftUnicode)

/-! ### utf8_RuneStart: function 68 -/
def utf8_RuneStart.f (a0 : Int) : Option (Bool) := some ((Go.bits .and .u8 a0 192) != 128)
set_option maxHeartbeats 8000000 in
set_option maxRecDepth 100000 in
theorem utf8_RuneStart.calls (a0 : Int) (r : Bool) (w : World) (h : utf8_RuneStart.f a0 = some r) :
    Calls Tryd.prog 68 #[.int .u8 a0] w fun e w' => e = .returned (.bool r) ∧ Drawn0 w w' := by
  have H : (some ((Go.bits .and .u8 a0 192) != 128)) = some r := h
  clear h
  obtain rfl := Option.some.inj H
  go_enter Tryd.func68, Tryd.ntmps68
  go_wp2
  go_ret
  exact ⟨by first | rfl | (simp; done) | (simp [*]; done), by repeat (first | exact Drawn0.refl _ | apply Drawn0.step)⟩

-- NOT PRINTED: function 60 (utf8_DecodeLastRuneInString)

-- NOT PRINTED: function 49 (strings_trimRightUnicode)

-- NOT PRINTED: function 30 (strings_Trim)

/-! ### xor_Empty: given (function 17) -/
/-- Nothing but noughts. -/
def allz (a : ByteArray) : Bool := a.data.toList.all (· == 0)

theorem bt_last (a : ByteArray) (i : Nat) (h : i < a.size) : bt a (i : Int) = ((a.data.toList[i]'h).toNat : Int) := by
  unfold bt
  rw [dif_pos (by simpa using h)]
  rfl

theorem u8_zero_iff (b : UInt8) : (b.toNat : Int) = 0 ↔ b = 0 := by
  constructor
  · intro h
    have : b.toNat = 0 := by omega
    exact UInt8.toNat_inj.1 this
  · rintro rfl; rfl

theorem right_ex (n : Nat) : ∀ (a : ByteArray), a.size = n → n ≤ 140737488351232 → ∃ r, (∀ k, n < k → strings_trimRightByte.l0 k a 0 = some r) ∧ (r.size = 0 ↔ allz a = true) ∧ (r.size ≠ 0 → allz r = false) ∧ r.size ≤ n := by
  induction n with
  | zero =>
    intro a ha _
    have hl : a.data.toList = [] := List.eq_nil_of_length_eq_zero ha
    refine ⟨a, fun k hk => ?_, ?_, fun h => absurd ha h, by omega⟩
    · obtain ⟨k, rfl⟩ : ∃ m, k = m + 1 := ⟨k - 1, by omega⟩
      simp only [strings_trimRightByte.l0]
      rw [if_neg (by omega)]
    · simp [ha, allz, hl]
  | succ n ih =>
    intro a ha hn
    have hw : wrap64 ((a.size : Int) - 1) = (n : Int) := by unfold wrap64; omega
    have hb := bt_last a n (by omega)
    have hlen : a.data.toList.length = n + 1 := ha
    by_cases h0 : a.data.toList[n] = 0
    · have hb0 : bt a (n : Int) = 0 := by rw [hb, h0]; rfl
      have hs : (a.extract 0 n).size = n := by rw [ByteArray.size_extract]; omega
      obtain ⟨r, hr, h1, h2, h3⟩ := ih (a.extract 0 n) hs (by omega)
      refine ⟨r, fun k hk => ?_, ?_, h2, by omega⟩
      · obtain ⟨k, rfl⟩ : ∃ m, k = m + 1 := ⟨k - 1, by omega⟩
        simp only [strings_trimRightByte.l0]
        rw [hw, if_pos (by omega), if_pos (by omega), if_pos (by omega), if_pos hb0, if_pos (by omega), Int.toNat_natCast]
        exact hr k (by omega)
      · rw [h1]
        have e : a.data.toList = (a.extract 0 n).data.toList ++ [0] := by
          have e1 : (a.extract 0 n).data.toList = a.data.toList.take n := by
            rw [ByteArray.data_extract, Array.toList_extract, List.extract_eq_take_drop]; simp
          rw [e1, ← h0]
          conv => lhs; rw [← List.take_append_drop n a.data.toList]
          congr 1
          rw [List.drop_eq_getElem_cons (by omega), List.drop_of_length_le (by omega)]
        unfold allz
        rw [e]
        simp
    · have hb0 : bt a (n : Int) ≠ 0 := by rw [hb]; exact fun h => h0 ((u8_zero_iff _).1 h)
      have hz : allz a = false := by
        unfold allz
        rw [List.all_eq_false]
        exact ⟨_, List.getElem_mem (by omega : n < a.data.toList.length), by simpa using h0⟩
      refine ⟨a, fun k hk => ?_, ?_, fun _ => hz, by omega⟩
      · obtain ⟨k, rfl⟩ : ∃ m, k = m + 1 := ⟨k - 1, by omega⟩
        simp only [strings_trimRightByte.l0]
        rw [hw, if_pos (by omega), if_pos (by omega), if_pos (by omega), if_neg hb0]
      · rw [hz]; exact ⟨fun h => absurd h (by omega), fun h => by cases h⟩

theorem left_ex (n : Nat) : ∀ (a : ByteArray), a.size = n → ∃ r, (∀ k, n < k → strings_trimLeftByte.l0 k a 0 = some r) ∧ (r.size = 0 ↔ allz a = true) := by
  induction n with
  | zero =>
    intro a ha
    have hl : a.data.toList = [] := List.eq_nil_of_length_eq_zero ha
    refine ⟨a, fun k hk => ?_, ?_⟩
    · obtain ⟨k, rfl⟩ : ∃ m, k = m + 1 := ⟨k - 1, by omega⟩
      simp only [strings_trimLeftByte.l0]
      rw [if_neg (by omega)]
    · simp [ha, allz, hl]
  | succ n ih =>
    intro a ha
    have hlen : a.data.toList.length = n + 1 := ha
    have hb := bt_last a 0 (by omega)
    by_cases h0 : a.data.toList[0] = 0
    · have hb0 : bt a 0 = 0 := by
        have : bt a ((0 : Nat) : Int) = 0 := by rw [hb, h0]; rfl
        exact this
      have hs : (a.extract 1 a.size).size = n := by rw [ByteArray.size_extract]; omega
      obtain ⟨r, hr, h1⟩ := ih (a.extract 1 a.size) hs
      refine ⟨r, fun k hk => ?_, ?_⟩
      · obtain ⟨k, rfl⟩ : ∃ m, k = m + 1 := ⟨k - 1, by omega⟩
        simp only [strings_trimLeftByte.l0]
        rw [if_pos (by omega), if_pos (by omega), if_pos hb0, if_pos (by omega)]
        exact hr k (by omega)
      · rw [h1]
        have e : a.data.toList = 0 :: (a.extract 1 a.size).data.toList := by
          have e1 : (a.extract 1 a.size).data.toList = a.data.toList.drop 1 := by
            rw [ByteArray.data_extract, Array.toList_extract, List.extract_eq_take_drop, List.take_of_length_le (by rw [List.length_drop, hlen]; omega)]
          rw [e1, ← h0, ← List.drop_eq_getElem_cons (by omega), List.drop_zero]
        unfold allz
        rw [e]
        simp
    · have hb0 : bt a 0 ≠ 0 := by
        have : bt a ((0 : Nat) : Int) ≠ 0 := by rw [hb]; exact fun h => h0 ((u8_zero_iff _).1 h)
        exact this
      have hz : allz a = false := by
        unfold allz
        rw [List.all_eq_false]
        exact ⟨_, List.getElem_mem (by omega : 0 < a.data.toList.length), by simpa using h0⟩
      refine ⟨a, fun k hk => ?_, ?_⟩
      · obtain ⟨k, rfl⟩ : ∃ m, k = m + 1 := ⟨k - 1, by omega⟩
        simp only [strings_trimLeftByte.l0]
        rw [if_pos (by omega), if_pos (by omega), if_neg hb0]
      · rw [hz]; exact ⟨fun h => absurd h (by omega), fun h => by cases h⟩

theorem quietD {P : Program} {f : FuncId} {args : Array Value} {w : World} {n : Nat} {v : Value}
    (h : Calls P f args (w.drewN n) fun e w' => e = .returned v ∧ Drawn0 (w.drewN n) w') : Calls P f args (w.drewN n) fun e w'' => e = .returned v ∧ ∃ m, w'' = w.drewN m :=
  h.mono fun _ _ ⟨he, ⟨m, hm⟩⟩ => ⟨he, n + m, by rw [hm]; simp [World.drewN, Nat.add_assoc]⟩

theorem toList_empty (a : ByteArray) : a.toList.isEmpty = decide (a.size = 0) := by
  rw [ByteArray.toList_eq, Bool.eq_iff_iff, List.isEmpty_iff, decide_eq_true_iff]
  constructor
  · intro h
    show a.data.toList.length = 0
    rw [h]; rfl
  · intro h
    exact List.eq_nil_of_length_eq_zero h

set_option maxRecDepth 100000 in
theorem trim_calls (a0 : ByteArray) (w : World) (ha : a0.size ≤ 140737488351232) :
    Calls Tryd.prog 30 #[.string a0, .string ⟨#[0]⟩] w fun e w' => ∃ r : ByteArray, e = .returned (.string r) ∧ (r.size = 0 ↔ allz a0 = true) ∧ Drawn0 w w' := by
  by_cases h0 : a0.size = 0
  · have hl : a0 = ⟨#[]⟩ := ByteArray.ext (Array.eq_empty_of_size_eq_zero h0)
    subst hl
    go_enter Tryd.func30, Tryd.ntmps30
    go_wp2_with fail
    go_ret
    exact ⟨_, rfl, by simp [allz, ByteArray.size], ⟨0, rfl⟩⟩
  · obtain ⟨r1, hr1, h1, h2, h3⟩ := right_ex a0.size a0 rfl ha
    obtain ⟨r2, hr2, h4⟩ := left_ex r1.size r1 rfl
    have H1 := fun u => strings_trimRightByte.calls (a0.size + 1) a0 0 r1 u (hr1 _ (by omega))
    have H2 := fun u => strings_trimLeftByte.calls (r1.size + 1) r1 0 r2 u (hr2 _ (by omega))
    have hne : a0.toList.isEmpty = false := by rw [toList_empty]; simpa using h0
    have hz : r2.size = 0 ↔ allz a0 = true := by
      rw [h4]
      constructor
      · intro h
        by_cases hr : r1.size = 0
        · exact h1.1 hr
        · rw [h2 hr] at h; cases h
      · intro h
        have := h1.2 h
        have hl : r1.data.toList = [] := List.eq_nil_of_length_eq_zero this
        simp [allz, hl]
    have HH1 := Lib.hid H1
    have HH2 := Lib.hid H2
    have Hz := Lib.hid hz
    clear H1 H2 h1 h2 h3 h4 hr1 hr2 hz
    go_enter Tryd.func30, Tryd.ntmps30
    go_wp2_with fail
    go_quiet (first | (go_at_call 44; exact quietD (HH1.out _)) | (go_at_call 43; exact quietD (HH2.out _)))
    go_wp2_with fail
    go_ret
    exact ⟨_, rfl, Hz.out, ⟨_, rfl⟩⟩

def xor_Empty.f (a0 : ByteArray) : Option Bool := if a0.size ≤ 140737488351232 then some (allz a0) else none
theorem xor_Empty.calls (a0 : ByteArray) (r : Bool) (w : World) (h : xor_Empty.f a0 = some r) :
    Calls Tryd.prog 17 #[.string a0] w fun e w' => e = .returned (.bool r) ∧ Drawn0 w w' := by
  unfold xor_Empty.f at h
  split at h
  · rename_i ha
    have hr : r = allz a0 := by simpa using h.symm
    subst hr
    clear h
    go_enter Tryd.func17, Tryd.ntmps17
    go_wp2_with fail
    refine (trim_calls a0 _ ha).mono ?_
    rintro e w1 ⟨r, rfl, hz, ⟨n, rfl⟩⟩
    have he : r.toList.isEmpty = allz a0 := by
      rw [toList_empty, Bool.eq_iff_iff]
      simpa using hz
    go_wp2_with fail
    go_ret
    exact ⟨by first | rfl | rw [he], ⟨n, rfl⟩⟩
  · cases h

/-! ### group_Blocks: function 26 -/
def group_Blocks.l0 : Nat → Int → List (S62) → Int → Int → Option (Int)
  | 0, _, _, _, _ => none
  | k + 1, x3, x6, x7, x8 => if x8 < x7 then (if 0 ≤ x8 then (if x8 < (x6.length : Int) then ((group_Entry_wants.f ((rd_T62 x6 x8).f0) ((rd_T62 x6 x8).f1)).bind fun t132 => (group_Blocks.l0 k (wrap64 (x3 + (wrap64 (Int.tdiv t132 64)))) x6 x7 (wrap64 (x8 + 1)))) else (none)) else (none)) else (some x3)
def group_Blocks.f (k : Nat) (l0 : List (S62)) : Option (Int) := group_Blocks.l0 k 1 l0 (l0.length : Int) 0
theorem group_Blocks.mono_l : ∀ k, (∀ y0 y1 y2 y3, LeO (group_Blocks.l0 k y0 y1 y2 y3) (group_Blocks.l0 (k + 1) y0 y1 y2 y3))
  | 0 => fun _ _ _ _ r h => by simp [group_Blocks.l0] at h
  | k + 1 => by
    have ih0 := group_Blocks.mono_l k
    · intro y0 y1 y2 y3
      unfold group_Blocks.l0
      repeat' first
      | (with_reducible exact ih0 _ _ _ _)
      | (with_reducible exact LeO.refl _)
      | (with_reducible exact LeO.none _)
      | (with_reducible refine LeO.ite ?_ ?_)
      | (with_reducible refine LeO.bind ?_ (fun _ => ?_))
      | exact ih0 _ _ _ _
      | exact LeO.none _
      | refine LeO.ite ?_ ?_
      | refine LeO.bind ?_ (fun _ => ?_)
theorem group_Blocks.mono : ∀ a0 k, LeO (group_Blocks.f k a0) (group_Blocks.f (k + 1) a0) := by
  intro a0 k
  have ih0 := group_Blocks.mono_l k
  unfold group_Blocks.f
  repeat' first
      | (with_reducible exact ih0 _ _ _ _)
      | (with_reducible exact LeO.refl _)
      | (with_reducible exact LeO.none _)
      | (with_reducible refine LeO.ite ?_ ?_)
      | (with_reducible refine LeO.bind ?_ (fun _ => ?_))
      | exact ih0 _ _ _ _
      | exact LeO.none _
      | refine LeO.ite ?_ ?_
      | refine LeO.bind ?_ (fun _ => ?_)
set_option maxHeartbeats 8000000 in
set_option maxRecDepth 100000 in
theorem group_Blocks.calls (k : Nat) (A0 : Option Addr) (c0 : Nat) (l0 : List (S62)) (r : Int) (w : World) (hr0 : Kd.C k62 w A0 l0.length l0) (hc0 : l0.length ≤ c0) (h : group_Blocks.f k l0 = some r) :
    Calls Tryd.prog 26 #[.slice A0 l0.length c0] w fun e w' => e = .returned (.int .i64 r) ∧ Below w.heap.size w w' := by
  have hu62 := Tryd.underlying62
  have HR0 := Aside0.mk hr0
  have HC0 := Aside0.mk hc0
  clear hr0 hc0
  have HB := Aside0.mk (Below.refl w.heap.size w)
  have H : (group_Blocks.l0 k 1 l0 (l0.length : Int) 0) = some r := h
  clear h
  have H' := Aside0.mk H
  clear H
  go_enter Tryd.func26, Tryd.ntmps26
  go_wp2
  go_loopg [3, 8] k (fun kq v3 v8 w' => ∃ (x3_1 : Int) (x8_1 : Int), v3 = .int .i64 x3_1 ∧ v8 = .int .i64 x8_1 ∧ Aside0 (group_Blocks.l0 kq x3_1 l0 (l0.length : Int) x8_1 = some r) ∧ Aside0 (kq ≤ k) ∧ Aside0 (Below w.heap.size w w'))
  case atStart => exact ⟨(1), (0), (by first | rfl | (simp; done) | (simp [*]; done)), (by first | rfl | (simp; done) | (simp [*]; done)), H', ⟨Nat.le_refl _⟩, ⟨by repeat (first | (with_reducible first | exact HB.out | apply below_alloc | apply pw_below_drewN | apply below_drew1) | exact HB.out)⟩⟩
  case round =>
    clear H'
    obtain ⟨x3_1, x8_1, rfl, rfl, HA, HK1, HB⟩ := hrel
    cases gk with
    | zero => exact absurd HA.out (by simp [group_Blocks.l0])
    | succ k1 =>
      have H := HA.out
      clear HA
      simp only [group_Blocks.l0] at H
      by_cases c2 : x8_1 < (l0.length : Int)
      · rw [if_pos c2] at H
        have c2b0 : decide (x8_1 < (l0.length : Int)) = true := decide_eq_true c2
        clear c2
        by_cases c3 : 0 ≤ x8_1
        · rw [if_pos c3] at H
          have c3b0 : decide (0 ≤ x8_1) = true := decide_eq_true c3
          clear c3
          by_cases c4 : x8_1 < (l0.length : Int)
          · rw [if_pos c4] at H
            have c4b0 : decide (x8_1 < (l0.length : Int)) = true := decide_eq_true c4
            clear c4
            replace H := Option.bind_eq_some_iff.mp H
            obtain ⟨t132, A50, H⟩ := H
            replace H : (group_Blocks.l0 k1 (wrap64 (x3_1 + (wrap64 (Int.tdiv t132 64)))) l0 (l0.length : Int) (wrap64 (x8_1 + 1))) = some r := H
            have A5 := Aside0.mk A50
            clear A50
            have H' := Aside0.mk H
            clear H
            have p130 : 0 ≤ (x8_1 : Int) := of_decide_eq_true (by first | (with_reducible assumption) | assumption)
            have q130 : x8_1 < (l0.length : Int) := of_decide_eq_true (by first | (with_reducible assumption) | assumption)
            obtain ⟨ad130, e130, hx130_0, hx130_1⟩ := at_T62 HR0.out x8_1 p130 q130
            cases e130
            replace hx130_0 := (HB.out.cell (World.block_lt_of_cell? w _ hx130_0)).trans hx130_0
            replace hx130_1 := (HB.out.cell (World.block_lt_of_cell? w _ hx130_1)).trans hx130_1
            replace p130 := eq_true p130
            replace q130 := eq_true q130
            go_wp2_with (first | ((with_reducible refine gate_dst (N := 5) rfl ?_); refine box_event ?hg (N := 5) ?hd (cs := #[.int .i64 0, .bool false]) (t := 62) ?hr ?_; (case hd => rfl); (case hg => rfl); (case hr => first | (go_simp; done) | (go_simp; rfl)); intro gb131 hg w6 hbox hb; have n0_ := Aside0.mk (below_step (by repeat (first | (with_reducible first | exact HB.out | apply below_alloc | apply pw_below_drewN | apply below_drew1) | exact HB.out)) hb); have n1_ := Aside0.mk (hbox); have n2_ := Aside0.mk ((by rw [hg]; exact (below_size (by repeat (first | (with_reducible first | exact HB.out | apply below_alloc | apply pw_below_drewN | apply below_drew1) | exact HB.out))) : w.heap.size ≤ gb131)); have n3_ := Aside0.mk ((by rw [hg]; exact (below_size (by repeat (first | (with_reducible first | exact HB.out | apply below_alloc | apply pw_below_drewN | apply below_drew1) | exact HB.out))) : w.heap.size ≤ gb131)); clear HB; have HB := n0_; have BK131 := n1_; have GW131 := n2_; have GE131 := n3_; clear n0_ n1_ n2_ n3_; clear hb hbox hg; have hcz7_0 : w6.cell? ⟨gb131, 0, none⟩ = some (.int .i64 0) := (blk_cell BK131.out 0).trans rfl; have hcz7_1 : w6.cell? ⟨gb131, 1, none⟩ = some (.bool false) := (blk_cell BK131.out 1).trans rfl; have hfz7_0 := blk_frozen BK131.out 0; have hfz7_1 := blk_frozen BK131.out 1) | ((with_reducible refine gate_callee (f := 39) rfl ?_); refine goesL_ (some 14) rfl rfl Tryd.func39 (by kernel_rfl) rfl #[.agg #[.int .i64 ((rd_T62 l0 x8_1).f0), .bool ((rd_T62 l0 x8_1).f1)]] rfl (by (try simp only [List.map_toArray, List.map_cons, List.map_nil]); first | done | rfl | (simp only [List.length_drop, List.length_take]; rfl)) ?_; (with_reducible refine (group_Entry_wants.calls ((rd_T62 l0 x8_1).f0) ((rd_T62 l0 x8_1).f1) t132 _ A5.out).mono ?_); rintro e w8 ⟨rfl, hb⟩; refine ⟨_, rfl, ?_⟩; have n0_ := Aside0.mk (blk_below (g := gb131) (o := .cells #[.int .i64 ((rd_T62 l0 x8_1).f0), .bool ((rd_T62 l0 x8_1).f1)] 62 (0, 0)) (by (with_reducible repeat (first | refine blk_drewN ?_ _ | refine blk_drew ?_ | refine blk_alloc ?_ _)); refine blk_put (cs := #[.int .i64 ((rd_T62 l0 x8_1).f0), .bool false]) ?_ 1 _ rfl; (with_reducible repeat (first | refine blk_drewN ?_ _ | refine blk_drew ?_ | refine blk_alloc ?_ _)); refine blk_put (cs := #[.int .i64 0, .bool false]) ?_ 0 _ rfl; (with_reducible repeat (first | refine blk_drewN ?_ _ | refine blk_drew ?_ | refine blk_alloc ?_ _)); exact BK131.out) hb); have n1_ := Aside0.mk (below_step (by repeat (first | (with_reducible first | exact HB.out | apply below_alloc | apply pw_below_drewN | apply below_drew1 | refine below_set ?_ GE131.out) | exact HB.out)) hb); clear BK131; clear HB; have BK131 := n0_; have HB := n1_; clear n0_ n1_; (try clear hb); (try clear hb2); (try clear hk); (try clear hi)))
            go_roundg k1
            case measure => have := HK1.out; omega
            case rel => exact ⟨(wrap64 (x3_1 + (wrap64 (Int.tdiv t132 64)))), (wrap64 (x8_1 + 1)), (by first | rfl | (simp; done) | (simp [*]; done)), (by first | rfl | (simp; done) | (simp [*]; done)), H', ⟨by have := HK1.out; omega⟩, ⟨by repeat (first | (with_reducible first | exact HB.out | apply below_alloc | apply pw_below_drewN | apply below_drew1 | refine below_set ?_ GE131.out) | exact HB.out)⟩⟩
          · rw [if_neg c4] at H
            exact absurd H (by simp)
        · rw [if_neg c3] at H
          exact absurd H (by simp)
      · rw [if_neg c2] at H
        have c2b0 : decide (x8_1 < (l0.length : Int)) = false := decide_eq_false c2
        clear c2
        obtain rfl := Option.some.inj H
        go_wp2
        go_ret
        exact ⟨by first | rfl | (simp [errW_none, errW_some] <;> rfl) | (simp [*, errW_none, errW_some] <;> rfl), by repeat (first | (with_reducible first | exact HB.out | apply below_alloc | apply pw_below_drewN | apply below_drew1) | exact HB.out)⟩

/-! ### nums_Get: given (function 40) -/

end Go.Proofs.YticpjnpafmehaaaDoor.U
