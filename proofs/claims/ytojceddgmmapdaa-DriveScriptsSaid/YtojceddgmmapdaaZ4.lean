/-
  Walks: the seven verbs of a zone.
-/
import Derived.Test.YtojceddgmmapdaaZ3
namespace Go.Proofs.Ytojceddgmmapdaa
open Go.RowKit

abbrev TC : TypeId := 37

/-- What a verb's walk needs of the machine. -/
structure VerbPre (m : Mc) (i : Nat) : Prop where
  n2 : m.zs.length ≤ 64
  hi : i < m.zs.length
  b1 : 1 ≤ m.bl
  b2 : m.bl ≤ 4096
  l1 : 0 ≤ m.ln i
  l2 : m.ln i ≤ m.bl

theorem Mc.ok.verb {m : Mc} (h : m.ok) {i : Nat} (hi : i < m.zs.length) : VerbPre m i :=
  ⟨h.n2, hi, h.b1, h.b2, (h.each i hi).2.2.1, (h.each i hi).2.2.2⟩

/-- What a verb comes to. -/
def VerbPost (bm bz : Nat) (w : World) (r : (Int × Int) × Mc) (e : Ending) (w' : World) : Prop :=
  e = .returned (.tuple #[.int .i64 r.1.1, .int .i64 r.1.2]) ∧ IsM TM TZ w' bm bz r.2 ∧ Mod [bz] w w'

theorem spanF_true {a n b : Int} (h : spanF a n b = true) : 0 ≤ a ∧ 1 ≤ n ∧ a ≤ b ∧ n ≤ b - a := by
  simpa [spanF, and_assoc] using h

set_option maxHeartbeats 1000000 in
theorem write_any (bm bz : Nat) (m : Mc) (i : Nat) (k z a n : Int) (w : World) (hI : IsM TM TZ w bm bz m) (hp : VerbPre m i) :
    Calls Try.prog 50 #[.pointer (some ⟨bm, 0, none⟩), .pointer (some ⟨bz, i * 2, none⟩), .agg #[.int .i64 k, .int .i64 z, .int .i64 a, .int .i64 n]] w (VerbPost bm bz w (verbF m 1 i a n)) := by
  have HI := Lib.hid hI; clear hI
  obtain ⟨hn, hi, b1, b2, l1, l2⟩ := hp
  have hlt := HI.out.lt
  obtain ⟨hlm, hlz⟩ := hlt
  have hfz := HI.out.frozen
  have Hb1 := Lib.hid b1; have Hb2 := Lib.hid b2; have Hl1 := Lib.hid l1; have Hl2 := Lib.hid l2; have Hn := Lib.hid hn
  have F : ∀ w1, Below w.heap.size w w1 → w1.cell? ⟨bz, i * 2, none⟩ = some (.int .i64 (m.st i)) ∧ w1.cell? ⟨bz, i * 2 + 1, none⟩ = some (.int .i64 (m.ln i)) ∧ w1.cell? ⟨bm, 1, none⟩ = some (.int .i64 m.bl) := fun w1 h => ⟨(HI.out.below h).cellSt hi, (HI.out.below h).cellLn hi, (HI.out.below h).cellB⟩
  obtain ⟨k0, k1, k2⟩ := F _ (Below.refl _ _)
  clear F
  by_cases hs : spanF a n m.bl = true
  · by_cases h4 : m.st i = 4
    · have hfin : verbF m 1 i a n = ((0, 4), m) := by simp [verbF, hs, h4]
      have Hfin := Lib.hid hfin; clear hfin
      rw [h4] at k0; clear h4
      go_enter Try.func50, Try.ntmps50
      go_wp2_with (first | go_quiet ((go_at_call 58; exact quietW (span_any _ _ _ _ (by have := Hb2.out; have := Hl2.out; omega) (by have := Hb1.out; have := Hl1.out; omega)))) | go_quiet (fail) | (go_at_call 58; refine (span_any _ _ _ _ (by have := Hb2.out; have := Hl2.out; omega) (by have := Hb1.out; have := Hl1.out; omega)).mono ?_; rintro e w' ⟨rfl, rfl⟩))
      go_ret2
      refine ⟨?_, ?_, ?_⟩
      · rw [Hfin.out]; rfl
      · rw [Hfin.out]; exact (by repeat (first | exact HI.out | apply IsM.drewN | apply IsM.alloc))
      · exact (by repeat (first | exact Mod.refl _ _ | apply Mod.drewN | apply Mod.alloc))
    · have h4b : (m.st i == 4) = false := by simpa using h4
      by_cases ha : a = m.ln i
      · have hfin : verbF m 1 i a n = growF m i n := by unfold verbF; rw [if_pos rfl, if_neg (by simp [hs]), if_neg h4, if_neg (by simpa using ha)]
        have Hfin := Lib.hid hfin; clear hfin
        have HG1 := Lib.hid (spanF_true hs).2.1
        have HG2 : Hid (m.ln i + n ≤ m.bl) := by show m.ln i + n ≤ m.bl; have := spanF_true hs; omega
        subst ha
        clear h4
        go_enter Try.func50, Try.ntmps50
        go_wp2_with (first | go_quiet ((go_at_call 58; exact quietW (span_any _ _ _ _ (by have := Hb2.out; have := Hl2.out; omega) (by have := Hb1.out; have := Hl1.out; omega)))) | go_quiet (fail) | (go_at_call 58; refine (span_any _ _ _ _ (by have := Hb2.out; have := Hl2.out; omega) (by have := Hb1.out; have := Hl1.out; omega)).mono ?_; rintro e w' ⟨rfl, rfl⟩) | (go_at_call 59; refine (grow_any bm bz m i n _ (by repeat (first | exact HI.out | apply IsM.drewN | apply IsM.alloc)) Hn.out hi HG1.out Hl1.out HG2.out Hb2.out).mono ?_; rintro e wg ⟨rfl, hIg, hmg⟩))
        go_ret2
        refine ⟨?_, ?_, ?_⟩
        · rw [Hfin.out]; rfl
        · rw [Hfin.out]; exact hIg
        · exact Mod.trans' (by repeat (first | exact Mod.refl _ _ | apply Mod.drewN | apply Mod.alloc)) hmg
      · have hfin : verbF m 1 i a n = ((0, 3), m) := by unfold verbF; rw [if_pos rfl, if_neg (by simp [hs]), if_neg h4, if_pos ha]
        have Hfin := Lib.hid hfin; clear hfin
        have hab : (a != m.ln i) = true := by simpa using ha
        clear h4 ha
        go_enter Try.func50, Try.ntmps50
        go_wp2_with (first | go_quiet ((go_at_call 58; exact quietW (span_any _ _ _ _ (by have := Hb2.out; have := Hl2.out; omega) (by have := Hb1.out; have := Hl1.out; omega)))) | go_quiet (fail) | (go_at_call 58; refine (span_any _ _ _ _ (by have := Hb2.out; have := Hl2.out; omega) (by have := Hb1.out; have := Hl1.out; omega)).mono ?_; rintro e w' ⟨rfl, rfl⟩))
        go_ret2
        refine ⟨?_, ?_, ?_⟩
        · rw [Hfin.out]; rfl
        · rw [Hfin.out]; exact (by repeat (first | exact HI.out | apply IsM.drewN | apply IsM.alloc))
        · exact (by repeat (first | exact Mod.refl _ _ | apply Mod.drewN | apply Mod.alloc))
  · have hs' : spanF a n m.bl = false := by simpa using hs
    have hfin : verbF m 1 i a n = ((0, 2), m) := by simp [verbF, hs]
    have Hfin := Lib.hid hfin; clear hfin
    clear hs
    go_enter Try.func50, Try.ntmps50
    go_wp2_with (first | go_quiet ((go_at_call 58; exact quietW (span_any _ _ _ _ (by have := Hb2.out; have := Hl2.out; omega) (by have := Hb1.out; have := Hl1.out; omega)))) | go_quiet (fail) | (go_at_call 58; refine (span_any _ _ _ _ (by have := Hb2.out; have := Hl2.out; omega) (by have := Hb1.out; have := Hl1.out; omega)).mono ?_; rintro e w' ⟨rfl, rfl⟩))
    go_ret2
    refine ⟨?_, ?_, ?_⟩
    · rw [Hfin.out]; rfl
    · rw [Hfin.out]; exact (by repeat (first | exact HI.out | apply IsM.drewN | apply IsM.alloc))
    · exact (by repeat (first | exact Mod.refl _ _ | apply Mod.drewN | apply Mod.alloc))

end Go.Proofs.Ytojceddgmmapdaa
