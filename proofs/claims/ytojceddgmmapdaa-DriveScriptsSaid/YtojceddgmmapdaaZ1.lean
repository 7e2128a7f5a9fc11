/-
  Walks of package zone's small functions, of Counts and of enter: each comes to the plain function of the same name.
-/
import Derived.Test.YtojceddgmmapdaaZ0
import Derived.Test.YtojceddgmmapdaaProg
namespace Go.Proofs.Ytojceddgmmapdaa
open Go.RowKit

/-- Block bm holds a machine whose zones lie in block bz. -/
structure IsM (T E : TypeId) (w : World) (bm bz : Nat) (m : Mc) : Prop where
  mach : ∃ cap : Nat, Blk w bm #[.slice (some ⟨bz, 0, none⟩) m.zs.length cap, .int .i64 m.bl, .int .i64 m.op, .int .i64 m.ac] T
  rows : ∃ r : List Value, Blk w bz (zc m.zs ++ r).toArray E
  ne : bm ≠ bz

theorem IsM.mod {T E : TypeId} {w w' : World} {bm bz : Nat} {m : Mc} {S : List Nat} (h : IsM T E w bm bz m) (hm : Mod S w w') (h1 : bm ∉ S) (h2 : bz ∉ S) : IsM T E w' bm bz m := by
  obtain ⟨⟨cap, h3⟩, ⟨r, h4⟩, h5⟩ := h
  exact ⟨⟨cap, hm.blk h3 h1⟩, ⟨r, hm.blk h4 h2⟩, h5⟩
theorem IsM.drewN {T E : TypeId} {w : World} {bm bz : Nat} {m : Mc} (h : IsM T E w bm bz m) (n : Nat) : IsM T E (w.drewN n) bm bz m := ⟨h.mach, h.rows, h.ne⟩
theorem IsM.drew {T E : TypeId} {w : World} {bm bz : Nat} {m : Mc} (h : IsM T E w bm bz m) : IsM T E w.drew bm bz m := ⟨h.mach, h.rows, h.ne⟩
theorem IsM.alloc {T E : TypeId} {w : World} {bm bz : Nat} {m : Mc} (h : IsM T E w bm bz m) (o : Obj) : IsM T E (w.alloc o) bm bz m :=
  h.mod ((Mod.refl [] w).alloc o) (by simp) (by simp)
theorem IsM.lt {T E : TypeId} {w : World} {bm bz : Nat} {m : Mc} (h : IsM T E w bm bz m) : bm < w.heap.size ∧ bz < w.heap.size := by
  obtain ⟨⟨cap, h3⟩, ⟨r, h4⟩, h5⟩ := h
  exact ⟨h3.lt, h4.lt⟩

theorem opened_any (s : Int) (w : World) : Calls Try.prog 41 #[.int .i64 s] w fun e w' => e = .returned (.bool (isOp s)) ∧ w = w' := by
  by_cases h1 : s = 1
  · subst h1
    go_enter Try.func41, Try.ntmps41
    go_wp2
    go_ret
    exact ⟨rfl, rfl⟩
  · have hd : (s == 1) = false := by simpa using h1
    go_enter Try.func41, Try.ntmps41
    go_wp2
    go_ret
    exact ⟨by simp [isOp, hd], rfl⟩

theorem rest_any (l : Int) (w : World) : Calls Try.prog 45 #[.int .i64 l] w fun e w' => e = .returned (.int .i64 (restF l)) ∧ w = w' := by
  by_cases h1 : l = 0
  · subst h1
    go_enter Try.func45, Try.ntmps45
    go_wp2
    go_ret
    exact ⟨rfl, rfl⟩
  · have hd : (l == 0) = false := by simpa using h1
    go_enter Try.func45, Try.ntmps45
    go_wp2
    go_ret
    exact ⟨by simp [restF, h1], rfl⟩

theorem span_any (a n b : Int) (w : World) (hb : b < 9223372036854775808) (hb0 : 0 ≤ b) : Calls Try.prog 58 #[.int .i64 a, .int .i64 n, .int .i64 b] w fun e w' => e = .returned (.bool (spanF a n b)) ∧ w = w' := by
  by_cases h1 : 0 ≤ a
  · by_cases h2 : 1 ≤ n
    · by_cases h3 : a ≤ b
      · go_enter Try.func58, Try.ntmps58
        go_wp2
        go_ret
        exact ⟨by simp [spanF, h1, h2, h3], rfl⟩
      · have hf : spanF a n b = false := by simp [spanF]; omega
        have Hf := Lib.hid hf; clear hf
        go_enter Try.func58, Try.ntmps58
        go_wp2
        go_ret
        exact ⟨by rw [Hf.out]; rfl, rfl⟩
    · have hf : spanF a n b = false := by simp [spanF]; omega
      have Hf := Lib.hid hf; clear hf
      go_enter Try.func58, Try.ntmps58
      go_wp2
      go_ret
      exact ⟨by rw [Hf.out]; rfl, rfl⟩
  · have hf : spanF a n b = false := by simp [spanF]; omega
    have Hf := Lib.hid hf; clear hf
    go_enter Try.func58, Try.ntmps58
    go_wp2
    go_ret
    exact ⟨by rw [Hf.out]; rfl, rfl⟩

set_option maxHeartbeats 400000 in
theorem counts_any (T E : TypeId) (bm bz : Nat) (m : Mc) (w : World) (hI : IsM T E w bm bz m) (hn : m.zs.length ≤ 64) :
   Calls Try.prog 18 #[.pointer (some ⟨bm, 0, none⟩)] w fun e w' => e = .returned (.tuple #[.int .i64 (cntO m.zs), .int .i64 (cntA m.zs)]) ∧ Below w.heap.size w w' := by
  obtain ⟨⟨cap, hm⟩, ⟨r, hz⟩, hne⟩ := hI
  have h0 := hm.cell (i := 0) rfl
  have Hz := Lib.hid hz; clear hz
  have Hm := Lib.hid hm; clear hm
  generalize hzs : m.zs = zs at *
  have Hzs := Lib.hid hzs; clear hzs
  go_enter Try.func18, Try.ntmps18
  go_wp2
  go_loopw [4, 5, 15] (fun o a i wr => ∃ k : Nat, k ≤ zs.length ∧ i = .int .i64 k ∧ o = .int .i64 (cntO (zs.take k)) ∧ a = .int .i64 (cntA (zs.take k)) ∧ Below w.heap.size w wr) (fun _ _ i _ => zs.length - (intOf i).toNat)
  case atStart => exact ⟨0, Nat.zero_le _, rfl, rfl, rfl, Below.refl _ _⟩
  case round =>
    obtain ⟨k, hk, rfl, rfl, rfl, hb⟩ := hrel
    by_cases hlt : k < zs.length
    · have hc0 : wr.cell? ⟨bz, k * 2, none⟩ = some (.int .i64 (stOf zs k)) := (hb.cell (p := ⟨bz, k * 2, none⟩) Hz.out.lt).trans (Hz.out.cell (zc_st zs r k hlt))
      have hc1 : wr.cell? ⟨bz, k * 2 + 1, none⟩ = some (.int .i64 (lnOf zs k)) := (hb.cell (p := ⟨bz, k * 2 + 1, none⟩) Hz.out.lt).trans (Hz.out.cell (zc_ln zs r k hlt))
      have hbd := cntO_le (zs.take k)
      have hbd' := cntA_le (zs.take k)
      have hlk : (zs.take k).length ≤ k := List.length_take_le _ _
      have HsO := Lib.hid (cntO_snoc zs k hlt)
      have HsA := Lib.hid (cntA_snoc zs k hlt)
      generalize hcO : cntO (zs.take k) = co at *
      generalize hcA : cntA (zs.take k) = ca at *
      have HcO := Lib.hid hcO; clear hcO
      have HcA := Lib.hid hcA; clear hcA
      have Hbw := Lib.hid hb; clear hb
      generalize hsk : stOf zs k = s at *
      have Hsk := Lib.hid hsk; clear hsk
      have hB : w.heap.size ≤ wr.heap.size := Hbw.out.size
      by_cases ho : isOp s
      · have Ha : Hid (isAc s = true) := by show isAc s = true; simp only [isAc, isOp] at *; simp [ho]
        go_wp2_with (go_at_call 41; refine (opened_any _ _).mono ?_; rintro e w' ⟨rfl, rfl⟩)
        go_roundw
        case rel => exact ⟨k + 1, by omega, by go_num, by rw [HsO.out, if_pos ho], by rw [HsA.out, if_pos Ha.out], Below.alloc Hbw.out hB _⟩
        case measure => simp [intOf]; omega
      · have ho' : isOp s = false := by simpa using ho
        by_cases h3 : s = 3
        · have hs3 : (s == 3) = true := by simpa using h3
          have Ha : Hid (isAc s = true) := by show isAc s = true; simp [isAc, h3]
          go_wp2_with (go_at_call 41; refine (opened_any _ _).mono ?_; rintro e w' ⟨rfl, rfl⟩)
          go_roundw
          case rel => exact ⟨k + 1, by omega, by go_num, by rw [HsO.out, if_neg ho]; simp, by rw [HsA.out, if_pos Ha.out], Below.alloc Hbw.out hB _⟩
          case measure => simp [intOf]; omega
        · have hs3 : (s == 3) = false := by simpa using h3
          have Ha : Hid (¬ isAc s = true) := by show ¬ isAc s = true; simp only [isAc, isOp] at *; simp [ho', hs3]
          go_wp2_with (go_at_call 41; refine (opened_any _ _).mono ?_; rintro e w' ⟨rfl, rfl⟩)
          go_roundw
          case rel => exact ⟨k + 1, by omega, by go_num, by rw [HsO.out, if_neg ho]; simp, by rw [HsA.out, if_neg Ha.out]; simp, Below.alloc Hbw.out hB _⟩
          case measure => simp [intOf]; omega
    · have hke : k = zs.length := by omega
      have Hke := Lib.hid hke; clear hke
      have hd : decide (k < zs.length) = false := by simpa using hlt
      go_wp2
      go_ret2
      refine ⟨?_, hb⟩
      rw [Hke.out, List.take_length]; rfl

end Go.Proofs.Ytojceddgmmapdaa
