/-
  Walk of the drive's Flush.
-/
import Derived.Test.YtojceddgmmapdaaD5
import Derived.Deep.RegionWith
namespace Go.Proofs.Ytojceddgmmapdaa
open Go.RowKit

theorem IsD.same {w w' : World} {bd bm bz bb bl : Nat} {d : Dv} {vs : List Value} (h : IsD w bd bm bz bb bl d vs) (hm : Mod [] w w') : IsD w' bd bm bz bb bl d vs := h.mod hm (by simp)

/-- The drive with the first k zones flushed. -/
def flushK (d : Dv) (k : Nat) : Dv := { d with la := (d.bs.map fun b => b.length / 64).take k ++ d.la.drop k }

theorem flushK_zero (d : Dv) : flushK d 0 = d := by simp [flushK]
theorem flushK_succ (d : Dv) (k : Nat) (h1 : k < d.bs.length) (h2 : d.la.length = d.bs.length) : ({ flushK d k with la := (flushK d k).la.set k ((d.bs.getD k []).length / 64) } : Dv) = flushK d (k + 1) := by
  simp only [flushK]
  congr 1
  apply List.ext_getElem?
  intro j
  have hl : ((d.bs.map fun b => b.length / 64).take k).length = k := by simp; omega
  have hl1 : ((d.bs.map fun b => b.length / 64).take (k + 1)).length = k + 1 := by simp; omega
  by_cases hj : j = k
  · subst hj
    rw [List.getElem?_set_self (by simp; omega), List.getElem?_append_left (by omega)]
    simp [List.getD_eq_getElem?_getD, h1]
  · rw [List.getElem?_set_ne (Ne.symm hj)]
    by_cases hlt : j < k
    · rw [List.getElem?_append_left (by omega), List.getElem?_append_left (by omega), List.getElem?_take_of_lt hlt, List.getElem?_take_of_lt (by omega)]
    · rw [List.getElem?_append_right (by omega), List.getElem?_append_right (by omega), hl, hl1, List.getElem?_drop, List.getElem?_drop]
      congr 1; omega
theorem flushK_all (d : Dv) (h1 : d.la.length = d.bs.length) : flushK d d.bs.length = { d with la := d.bs.map fun b => b.length / 64 } := by
  simp only [flushK]
  congr 1
  rw [List.drop_of_length_le (by omega), List.append_nil, List.take_of_length_le (by simp)]

set_option maxHeartbeats 2000000 in
theorem dflush_any (bd bm bz bb bl : Nat) (d : Dv) (vs : List Value) (w : World) (hI : IsD w bd bm bz bb bl d vs) (h64 : d.m.zs.length ≤ 64) :
    Calls Try.prog 29 #[.pointer (some ⟨bd, 0, none⟩)] w fun e w' => e = .returned (.int .i64 (dflushF d).1) ∧ IsD w' bd bm bz bb bl (dflushF d).2 vs ∧ Mod [bl] w w' := by
  have HI := Lib.hid hI; clear hI
  have hn1 := HI.out.nb
  have hn2 := HI.out.nl
  cases hd : d.dead with
  | true =>
    have hf : dflushF d = (7, d) := by simp [dflushF, hd]
    rw [hf]
    go_enter Try.func29, Try.ntmps29
    go_wp2_with fail
    refine (alive_any bd bm bz bb bl d vs _ HI.out).mono ?_
    rintro e w1 ⟨rfl, rfl⟩
    rw [hd, if_pos rfl]
    go_wp2_with fail
    go_ret
    exact ⟨rfl, HI.out, Mod.refl _ _⟩
  | false =>
    have hf : dflushF d = (0, flushK d d.bs.length) := by rw [flushK_all d (by omega)]; simp [dflushF, hd]
    rw [hf]
    have Hd := Lib.hid hd
    clear hf hd
    go_enter Try.func29, Try.ntmps29
    go_wp2_with fail
    refine (alive_any bd bm bz bb bl d vs _ HI.out).mono ?_
    rintro e w1 ⟨rfl, rfl⟩
    rw [Hd.out, if_neg (by decide)]
    have c2 := HI.out.cells.c2
    go_wp2_with fail
    go_loopw [15] (fun s wr => ∃ k : Nat, s = .int .i64 k ∧ k ≤ d.m.zs.length ∧ IsD wr bd bm bz bb bl (flushK d k) vs ∧ Mod [bl] w wr) (fun s _ => 64 - (intOf s).toNat)
    case atStart => exact ⟨0, rfl, Nat.zero_le _, by rw [flushK_zero]; exact HI.out, Mod.refl _ _⟩
    case round =>
      obtain ⟨k, rfl, hk, hIk, hmk⟩ := hrel
      have HIk := Lib.hid hIk; have Hmk := Lib.hid hmk
      clear hIk hmk
      by_cases hlt : k < d.m.zs.length
      · have c2 : wr.cell? ⟨bd, 2, none⟩ = some (.slice (some ⟨bl, 0, none⟩) d.m.zs.length d.m.zs.length) := HIk.out.cells.c2
        have hfz := HIk.out.las.frozen k
        have hlt2 := HIk.out.cells.lt
        have cl := HIk.out.cellL (i := k) hlt
        go_wp2_with (first | go_region_with (go_at_call 48; refine (length_any bd bm bz bb bl (flushK d k) vs k hlt _ (by first | exact HIk.out | exact HIk.out.same ((Mod.refl [] _).drewN _) | exact HIk.out.same ((Mod.refl [] _).drew))).mono ?_; rintro e w2 ⟨rfl, rfl⟩))
        all_goals
          have e : (((flushK d k).bs[k]?.getD []).length : Int) / 64 = (((d.bs.getD k []).length / 64 : Nat) : Int) := by
            show ((d.bs[k]?.getD []).length : Int) / 64 = _
            rw [List.getD_eq_getElem?_getD]
            omega
          rw [e]
          refine ⟨⟨k + 1, rfl, by omega, ?_, (Hmk.out.set (by simp) _).drew⟩, by simp [intOf]; omega⟩
          rw [← flushK_succ d k (by omega) (by omega)]
          exact (HIk.out.setL k ((d.bs.getD k []).length / 64)).same (Mod.refl [] _).drew
      · have hdd : decide (k < d.m.zs.length) = false := by simpa using hlt
        go_wp2_with fail
        go_ret
        have e : k = d.bs.length := by omega
        subst e
        exact ⟨rfl, HIk.out, Hmk.out⟩

end Go.Proofs.Ytojceddgmmapdaa
