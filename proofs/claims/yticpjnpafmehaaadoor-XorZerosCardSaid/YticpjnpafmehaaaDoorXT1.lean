/-
  Plain and walk: the law XorTwice.
-/
import Derived.Test.YticpjnpafmehaaaDoorXP4
import Derived.Lib.Hide
import Derived.Deep.DeepCutAuto
namespace Go.Proofs.YticpjnpafmehaaaDoor.XPlain
open Go.RowKit Go.Proofs.YticpjnpafmehaaaDoor.X Go.Proofs.YticpjnpafmehaaaDoorW.PrintWords Go.Proofs.YticpjnpafmehaaaDoorW.PrintLast Go.Proofs.YticpjnpafmehaaaDoorW.PrintMore

theorem allz_of {a : ByteArray} (h : ∀ t, t < a.size → at_ a t = 0) : allz a = true := by
  unfold allz
  rw [List.all_eq_true]
  intro x hx
  obtain ⟨t, ht, rfl⟩ := List.getElem_of_mem hx
  have := h t ht
  unfold at_ at this
  rw [List.getD_eq_getElem?_getD, List.getElem?_eq_getElem ht] at this
  simpa using this

theorem at_extract (s : ByteArray) (i j t : Nat) (hj : j ≤ s.size) (ht : i + t < j) : at_ (s.extract i j) t = at_ s (i + t) := by
  unfold at_
  rw [ByteArray.data_extract, Array.toList_extract, List.extract_eq_take_drop, List.getD_eq_getElem?_getD, List.getD_eq_getElem?_getD, List.getElem?_take_of_lt (by omega), List.getElem?_drop]

theorem tw_size (a b : ByteArray) : (par [par [a, b], b]).size = max a.size b.size := by
  rw [par_size, long_two, par_size, long_two]; omega
theorem tw_at (a b : ByteArray) (t : Nat) : at_ (par [par [a, b], b]) t = at_ a t := by
  rw [par_at', xs_two, par_at', xs_two, UInt8.xor_assoc, UInt8.xor_self, xor_zero']

theorem tw1 (a b : ByteArray) : (par [par [a, b], b]).extract 0 a.size = a := by
  have hs := tw_size a b
  apply bytes_ext
  · rw [ByteArray.size_extract, hs]; omega
  · intro t ht
    rw [ByteArray.size_extract, hs] at ht
    rw [at_extract _ _ _ _ (by omega) (by omega), tw_at, Nat.zero_add]
theorem tw2 (a b : ByteArray) : allz ((par [par [a, b], b]).extract a.size (par [par [a, b], b]).size) = true := by
  have hs := tw_size a b
  apply allz_of
  intro t ht
  rw [ByteArray.size_extract] at ht
  rw [at_extract _ _ _ _ (by omega) (by omega), tw_at, at_beyond a _ (by omega)]
theorem tw3 (a b : ByteArray) : par [a, b] = par [b, a] :=
  par_ext (by rw [long_two, long_two]; omega) (fun t => by rw [xs_two, xs_two, UInt8.xor_comm])
theorem tw4 (a : ByteArray) : allz (par [a, a]) = true := allz_of fun t _ => by rw [par_at', xs_two]; simp

theorem below_dr {B : Nat} {w w1 : World} (h : Below B w w1) (n : Nat) : Below B w (w1.drewN n) := ⟨h.os, h.tape, h.output, h.size, h.block⟩

theorem add_c (a b : ByteArray) (ha : a.size ≤ 140737488355328) (hb : b.size ≤ 140737488355328) (w : World) :
    Calls Tryd.prog 16 #[.string a, .string b] w fun e w' => e = .returned (.string (par [a, b])) ∧ Below w.heap.size w w' :=
  xor_Add.calls _ a b _ w (add_ev a b ha hb).rounds.choose_spec
theorem empty_c (a : ByteArray) (ha : a.size ≤ 140737488351232) (w : World) :
    Calls Tryd.prog 17 #[.string a] w fun e w' => e = .returned (.bool (allz a)) ∧ Drawn0 w w' :=
  xor_Empty.calls a _ w (by unfold xor_Empty.f; rw [if_pos ha])

set_option maxHeartbeats 2000000 in
set_option maxRecDepth 100000 in
theorem xorTwice_walk (a b : ByteArray) (w : World) (ha : a.size ≤ 140737488355328) (hb : b.size ≤ 140737488355328) :
    Calls Tryd.prog 4 #[.string a, .string b] w fun e w' => e = .returned (.bool true) ∧ Below w.heap.size w w' := by
  by_cases h1 : a.size ≤ 3000 ∧ b.size ≤ 3000
  · obtain ⟨h1, h2⟩ := h1
    go_enter Tryd.func4, Tryd.ntmps4
    go_wp2_with fail
    refine (corbellaw03_speaks.calls _ true _ speaks_ev.rounds.choose_spec).mono ?_
    rintro e w1 ⟨rfl, hb1⟩
    have H1 := Lib.hid hb1
    clear hb1
    have d1 : decide (3000 < a.size) = false := by simpa using h1
    have d2 : decide (3000 < b.size) = false := by simpa using h2
    go_wp2_with fail
    refine (add_c a b ha hb _).mono ?_
    rintro e w2 ⟨rfl, hb2⟩
    have H2 : Hid (Below w.heap.size w w2) := H1.out.trans (hb2.mono H1.out.size)
    clear hb2
    have hs1 : (par [a, b]).size ≤ 3000 := by rw [par_size, long_two]; omega
    go_wp2_with fail
    refine (add_c (par [a, b]) b (by omega) hb _).mono ?_
    rintro e w3 ⟨rfl, hb3⟩
    have H3 : Hid (Below w.heap.size w w3) := H2.out.trans (hb3.mono H2.out.size)
    clear hb3
    have hs2 : ((par [par [a, b], b]).size : Int) = max (a.size : Int) (b.size : Int) := by rw [tw_size]; omega
    have hs3 : (par [par [a, b], b]).size ≤ 3000 := by rw [tw_size]; omega
    have hs4 : a.size ≤ (par [par [a, b], b]).size := by rw [tw_size]; omega
    have t1 := Lib.hid (tw1 a b)
    have t2 := Lib.hid (tw2 a b)
    have Hs2 := Lib.hid hs2
    clear hs2
    generalize par [par [a, b], b] = S at *
    have e1 : S.extract 0 a.size = a := t1.out
    have t3 := Lib.hid (tw3 a b)
    have t4 := Lib.hid (tw4 a)
    have key : ∀ x : Int, True := fun _ => trivial
    clear key
    have hcase : (a.size < b.size ∧ S.size = b.size) ∨ (¬ a.size < b.size ∧ S.size = a.size) := by
      have := Hs2.out
      omega
    clear h1 h2 d1 d2
    rcases hcase with ⟨c1, c2⟩ | ⟨c1, c2⟩
    all_goals
      first
        | (have b1 : ((S.size : Int) == (b.size : Int)) = true := by simp; omega)
        | skip
      first
        | (have b2 : ((S.size : Int) == (a.size : Int)) = true := by simp; omega)
        | skip
      have C2 := Lib.hid c2
      clear c2
      go_wp2_with fail
      refine (empty_c _ (by rw [ByteArray.size_extract]; omega) _).mono ?_
      rintro e w4 ⟨rfl, ⟨n4, rfl⟩⟩
      rw [t2.out]
      go_wp2_with fail
      refine (add_c a b ha hb _).mono ?_
      rintro e w5 ⟨rfl, hb5⟩
      have H5 : Hid (Below w.heap.size w w5) := (below_dr H3.out n4).trans (hb5.mono H3.out.size)
      clear hb5
      go_wp2_with fail
      refine (add_c b a hb ha _).mono ?_
      rw [← t3.out]
      rintro e w6 ⟨rfl, hb6⟩
      have H6 : Hid (Below w.heap.size w w6) := H5.out.trans (hb6.mono H5.out.size)
      clear hb6
      go_wp2_with fail
      refine (add_c a a ha ha _).mono ?_
      rintro e w7 ⟨rfl, hb7⟩
      have H7 : Hid (Below w.heap.size w w7) := H6.out.trans (hb7.mono H6.out.size)
      clear hb7
      go_wp2_with fail
      refine (empty_c _ (by rw [par_size, long_two]; omega) _).mono ?_
      rintro e w8 ⟨rfl, ⟨n8, rfl⟩⟩
      rw [t4.out]
      go_wp2_with fail
      go_ret
      exact ⟨rfl, below_dr H7.out n8⟩
  · have hc : 3000 < a.size ∨ 3000 < b.size := by omega
    by_cases h3 : 3000 < a.size
    · go_enter Tryd.func4, Tryd.ntmps4
      go_wp2_with fail
      refine (corbellaw03_speaks.calls _ true _ speaks_ev.rounds.choose_spec).mono ?_
      rintro e w1 ⟨rfl, hb1⟩
      have d1 : decide (3000 < a.size) = true := by simpa using h3
      go_wp2_with fail
      go_ret
      exact ⟨rfl, hb1⟩
    · have h4 : 3000 < b.size := by omega
      go_enter Tryd.func4, Tryd.ntmps4
      go_wp2_with fail
      refine (corbellaw03_speaks.calls _ true _ speaks_ev.rounds.choose_spec).mono ?_
      rintro e w1 ⟨rfl, hb1⟩
      have d1 : decide (3000 < a.size) = false := by simpa using h3
      have d2 : decide (3000 < b.size) = true := by simpa using h4
      go_wp2_with fail
      go_ret
      exact ⟨rfl, hb1⟩

end Go.Proofs.YticpjnpafmehaaaDoor.XPlain
