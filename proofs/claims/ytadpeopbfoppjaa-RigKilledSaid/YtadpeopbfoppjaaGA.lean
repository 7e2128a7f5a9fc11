/-
  The rig's contracts once more, for a law's body: the rig lies in blocks made behind a world w0.
-/
import Derived.Test.YtadpeopbfoppjaaG8
namespace Go.Proofs.Ytadpeopbfoppjaa
open Go.RowKit

def RAt (w0 w : World) (br : Nat) (r : Rg) : Prop := ∃ P, P.br = br ∧ IsR w P r ∧ r.live ∧ (∀ x ∈ P.feet, w0.heap.size ≤ x) ∧ Mod [] w0 w

theorem RAt.M {w0 w : World} {br : Nat} {r : Rg} (h : RAt w0 w br r) : Mod [] w0 w := by obtain ⟨_, _, _, _, _, h⟩ := h; exact h
theorem RAt.lt {w0 w : World} {br : Nat} {r : Rg} (h : RAt w0 w br r) : br < w.heap.size ∧ w0.heap.size ≤ br := by
  obtain ⟨P, rfl, h1, _, h2, _⟩ := h
  exact ⟨h1.rig.lt, h2 _ (IsR.feet_hd IsR.br_hd)⟩
theorem RAt.same {w0 w w' : World} {br : Nat} {r : Rg} (h : RAt w0 w br r) (hm : Mod [] w w') : RAt w0 w' br r := by
  obtain ⟨P, e, h1, h2, h3, h4⟩ := h
  exact ⟨P, e, h1.same hm, h2, h3, h4.trans' hm⟩
theorem RAt.alloc {w0 w : World} {br : Nat} {r : Rg} (h : RAt w0 w br r) (o : Obj) : RAt w0 (w.alloc o) br r := h.same ((Mod.refl [] w).alloc o)
theorem RAt.below {w0 w w' : World} {br : Nat} {r : Rg} (h : RAt w0 w br r) (hb : Below w.heap.size w w') : RAt w0 w' br r := h.same (Mod.of_below hb [])
theorem RAt.drew {w0 w : World} {br : Nat} {r : Rg} (h : RAt w0 w br r) : RAt w0 w.drew br r := h.same ((Mod.refl [] w).drew)

/-- What stands in old blocks that aren't the rig's stays; a block that was made behind w0 and isn't the rig's may be kept by hand. -/
theorem RAt.step {w0 w w' : World} {P : Pl} {r' : Rg} (hlo : ∀ x ∈ P.feet, w0.heap.size ≤ x) (hM : Mod [] w0 w) (s : RStep w w' P r') (hl : r'.live) : RAt w0 w' P.br r' := by
  obtain ⟨P', e, h1, h2, h3⟩ := s
  refine ⟨P', e.1, h1, hl, fun x hx => ?_, hM.trans h2 (fun i hi hx => ?_)⟩
  · rcases h3 x hx with h | h
    · exact hlo x h
    · exact Nat.le_trans hM.size h
  · rcases hx with hx | hx
    · exact hx
    · have := hlo i hx; omega

theorem live_fail (r : Rg) (k : List Int) : (gfailF r k).live := fun l k' h => by cases h
theorem live_step {r : Rg} (h : r.live) : (gstepF r).2.live := by
  unfold gstepF
  split
  · rename_i hs
    intro l k hk
    exact h l k hk
  · rename_i l k hs
    split
    · exact live_fail r k
    · intro l' k' hk
      have h1 := h l k hs
      have h2 : some (l - 1, k) = some (l', k') := hk
      injection h2 with h2
      injection h2 with h2 h3
      omega
theorem live_reach {r : Rg} (h : r.live) (n : Int) (ch : Bool) : (greachF r n ch).2.live := by
  unfold greachF
  repeat' split
  all_goals first | exact h | exact live_step h
theorem live_do {r : Rg} (h : r.live) (n k z a l : Int) (s : ByteArray) : (gdoF r n k z a l s).2.live := by
  unfold gdoF
  split
  · exact live_reach h _ _
  · exact live_reach h n (!(k == 7))
theorem live_flush {r : Rg} (h : r.live) (n : Int) : (gflushF r n).2.live := by
  unfold gflushF
  split
  · exact live_reach h _ _
  · exact live_reach h n true
theorem live_kill {r : Rg} (h : r.live) (n : Int) : (gkillF r n).live := by
  unfold gkillF
  split
  · exact h
  · exact h
theorem live_cut (r : Rg) (n : Int) (k : List Int) : (gcutF r n k).live := fun l k' h => by
  have h2 : some (max n 1, k) = some (l, k') := h
  injection h2 with h2
  injection h2 with h2 h3
  omega
theorem live_on (r : Rg) : (gonF r).live := fun l k' h => by cases h
theorem live_crash (r : Rg) (k : List Int) : (gcrashF r k).live := fun l k' h => by cases h

theorem live_new (n : Nat) (z b o a : Int) : (gnewF n z b o a).live := fun l k h => by cases h

theorem gnewA (d z b o a : Int) (n : Nat) (w : World) (hg : goodF d z b o a = true) (h1 : 1 ≤ n) (h2 : n ≤ 17) :
    Calls Try.prog 8 #[.agg #[.int .i64 d, .int .i64 z, .int .i64 b, .int .i64 o, .int .i64 a], .int .i64 n] w fun e w' => ∃ br, e = .returned (.tuple #[.pointer (some ⟨br, 0, none⟩), .int .i64 0]) ∧ RAt w w' br (gnewF n z b o a) :=
  (gnew_any d z b o a n w hg h1 h2).mono fun _ _ ⟨P, he, hI, hm, hlo⟩ => ⟨P.br, he, P, rfl, hI, live_new _ _ _ _ _, hlo, hm⟩

theorem gdoA {w0 w : World} {br : Nat} {r : Rg} (n k z a l : Int) (s : ByteArray) (h : RAt w0 w br r) (hs : s.size ≤ 9223372036854775807) :
    Calls Try.prog 10 #[.pointer (some ⟨br, 0, none⟩), .int .i64 n, .agg #[.int .i64 k, .int .i64 z, .int .i64 a, .int .i64 l], .string s] w fun e w' =>
      e = .returned (.tuple #[.string (gdoF r n k z a l s).1.1, .int .i64 (gdoF r n k z a l s).1.2.1, .int .i64 (gdoF r n k z a l s).1.2.2]) ∧ RAt w0 w' br (gdoF r n k z a l s).2 := by
  obtain ⟨P, rfl, hI, hl, hlo, hM⟩ := h
  exact (gdo_any n k z a l s hI hl hs).mono fun _ _ ⟨he, hst⟩ => ⟨he, .step hlo hM hst (live_do hl n k z a l s)⟩

theorem gflushA {w0 w : World} {br : Nat} {r : Rg} (n : Int) (h : RAt w0 w br r) :
    Calls Try.prog 13 #[.pointer (some ⟨br, 0, none⟩), .int .i64 n] w fun e w' => e = .returned (.int .i64 (gflushF r n).1) ∧ RAt w0 w' br (gflushF r n).2 := by
  obtain ⟨P, rfl, hI, hl, hlo, hM⟩ := h
  exact (gflush_any n hI hl).mono fun _ _ ⟨he, hst⟩ => ⟨he, .step hlo hM hst (live_flush hl n)⟩

theorem gzoneA {w0 w : World} {br : Nat} {r : Rg} (n z : Int) (h : RAt w0 w br r) :
    Calls Try.prog 16 #[.pointer (some ⟨br, 0, none⟩), .int .i64 n, .int .i64 z] w fun e w' => e = .returned (.tuple #[zoneV (gzoneF r n z).1, .bool (gzoneF r n z).2]) ∧ Below w.heap.size w w' := by
  obtain ⟨P, rfl, hI, hl, hlo, hM⟩ := h
  exact gzone_any n z hI

theorem gkillA {w0 w : World} {br : Nat} {r : Rg} (n : Int) (h : RAt w0 w br r) :
    Calls Try.prog 14 #[.pointer (some ⟨br, 0, none⟩), .int .i64 n] w fun e w' => e = .returned (.tuple #[]) ∧ RAt w0 w' br (gkillF r n) := by
  obtain ⟨P, rfl, hI, hl, hlo, hM⟩ := h
  exact (gkill_any n hI).mono fun _ _ ⟨he, hst⟩ => ⟨he, .step hlo hM hst (live_kill hl n)⟩

theorem gdeadA {w0 w : World} {br : Nat} {r : Rg} (n : Int) (h : RAt w0 w br r) :
    Calls Try.prog 15 #[.pointer (some ⟨br, 0, none⟩), .int .i64 n] w fun e w' => e = .returned (.bool (gdeadF r n)) ∧ w = w' := by
  obtain ⟨P, rfl, hI, hl, hlo, hM⟩ := h
  exact gdead_any n hI
theorem goffA {w0 w : World} {br : Nat} {r : Rg} (h : RAt w0 w br r) : Calls Try.prog 11 #[.pointer (some ⟨br, 0, none⟩)] w fun e w' => e = .returned (.bool r.off) ∧ w = w' := by
  obtain ⟨P, rfl, hI, hl, hlo, hM⟩ := h
  exact goff_any hI
theorem gdrivesA {w0 w : World} {br : Nat} {r : Rg} (h : RAt w0 w br r) : Calls Try.prog 19 #[.pointer (some ⟨br, 0, none⟩)] w fun e w' => e = .returned (.int .i64 (r.ds.length : Int)) ∧ w = w' := by
  obtain ⟨P, rfl, hI, hl, hlo, hM⟩ := h
  exact gdrives_any hI
theorem gcountA {w0 w : World} {br : Nat} {r : Rg} (h : RAt w0 w br r) : Calls Try.prog 12 #[.pointer (some ⟨br, 0, none⟩)] w fun e w' => e = .returned (.int .i64 r.cnt) ∧ w = w' := by
  obtain ⟨P, rfl, hI, hl, hlo, hM⟩ := h
  exact gcount_any hI
theorem gblocksA {w0 w : World} {br : Nat} {r : Rg} (h : RAt w0 w br r) : Calls Try.prog 20 #[.pointer (some ⟨br, 0, none⟩)] w fun e w' => e = .returned (.int .i64 r.bl) ∧ w = w' := by
  obtain ⟨P, rfl, hI, hl, hlo, hM⟩ := h
  exact gblocks_any hI

theorem gcutA {w0 w : World} {br b : Nat} {r : Rg} (n : Int) (keep : List Int) (kv : Value) (h : RAt w0 w br r) (hn : n ≤ 9223372036854775807) (hK : IntsAt w kv keep b) (hk : KeepOk keep) :
    Calls Try.prog 9 #[.pointer (some ⟨br, 0, none⟩), .int .i64 n, kv] w fun e w' => e = .returned (.tuple #[]) ∧ RAt w0 w' br (gcutF r n keep) := by
  obtain ⟨P, rfl, hI, hl, hlo, hM⟩ := h
  exact (gcut_any n keep kv b hI hn hK hk).mono fun _ _ ⟨he, hst⟩ => ⟨he, .step hlo hM hst (live_cut r n keep)⟩

theorem ints_nil (w : World) : IntsAt w (.slice none 0 0) [] 0 := ⟨none, 0, rfl, fun h => absurd h (by simp)⟩
theorem keep_nil : KeepOk [] := ⟨by simp, fun j => by simp [IntIn]⟩
theorem keep_one {x : Int} (h : IntIn x) : KeepOk [x] := ⟨by simp, fun j => by cases j <;> simp [IntIn] <;> exact h⟩

end Go.Proofs.Ytadpeopbfoppjaa
