/-
  The drive's contracts once more, for a law's body: the drive lies in blocks made behind a world w0.
-/
import Derived.Test.YtojceddgmmapdaaD8L
namespace Go.Proofs.Ytojceddgmmapdaa
open Go.RowKit

structure DAt (w0 w : World) (bd bm bz bb bl : Nat) (d : Dv) (vs : List Value) : Prop where
  I : IsD w bd bm bz bb bl d vs
  ok : d.ok
  lo : ∀ x ∈ feet bd bm bz bb bl vs, w0.heap.size ≤ x
  M : Mod [] w0 w

theorem IsD.feet_lt {w : World} {bd bm bz bb bl : Nat} {d : Dv} {vs : List Value} (h : IsD w bd bm bz bb bl d vs) : ∀ x ∈ feet bd bm bz bb bl vs, x < w.heap.size := by
  intro x hx
  rcases List.mem_append.1 hx with hx | hx
  · have := h.cells.lt
    simp only [List.mem_cons, List.not_mem_nil, or_false] at hx
    omega
  · obtain ⟨v, hv, hx⟩ := List.mem_filterMap.1 hx
    obtain ⟨i, hi, rfl⟩ := List.getElem_of_mem hv
    have hi' : i < d.m.zs.length := by rw [← h.nv]; exact hi
    refine ownsRow_lt (h.row i hi') ?_
    rw [List.getD_eq_getElem?_getD, List.getElem?_eq_getElem hi]
    exact hx

theorem DAt.mod {w0 w w' : World} {bd bm bz bb bl : Nat} {d : Dv} {vs : List Value} {S : List Nat} (h : DAt w0 w bd bm bz bb bl d vs) (hm : Mod S w w') (h1 : ∀ x ∈ S, x ∉ feet bd bm bz bb bl vs) (h2 : ∀ x ∈ S, w0.heap.size ≤ x) : DAt w0 w' bd bm bz bb bl d vs :=
  ⟨h.I.mod hm (fun x hx hs => h1 x hs hx), h.ok, h.lo, h.M.trans hm (fun i hi hx => by rcases hx with hx | hx; simp at hx; have := h2 i hx; omega)⟩
theorem DAt.same {w0 w w' : World} {bd bm bz bb bl : Nat} {d : Dv} {vs : List Value} (h : DAt w0 w bd bm bz bb bl d vs) (hm : Mod [] w w') : DAt w0 w' bd bm bz bb bl d vs := h.mod hm (by simp) (by simp)
theorem DAt.alloc {w0 w : World} {bd bm bz bb bl : Nat} {d : Dv} {vs : List Value} (h : DAt w0 w bd bm bz bb bl d vs) (o : Obj) : DAt w0 (w.alloc o) bd bm bz bb bl d vs := h.same ((Mod.refl [] w).alloc o)
theorem DAt.below {w0 w w' : World} {bd bm bz bb bl : Nat} {d : Dv} {vs : List Value} (h : DAt w0 w bd bm bz bb bl d vs) (hb : Below w.heap.size w w') : DAt w0 w' bd bm bz bb bl d vs := h.same (Mod.of_below hb [])
theorem DAt.drew {w0 w : World} {bd bm bz bb bl : Nat} {d : Dv} {vs : List Value} (h : DAt w0 w bd bm bz bb bl d vs) : DAt w0 w.drew bd bm bz bb bl d vs := h.same ((Mod.refl [] w).drew)
theorem DAt.lt {w0 w : World} {bd bm bz bb bl : Nat} {d : Dv} {vs : List Value} (h : DAt w0 w bd bm bz bb bl d vs) : ∀ x ∈ feet bd bm bz bb bl vs, x < w.heap.size := h.I.feet_lt

/-- A step of the drive: the drive behind it, and what else it has touched. -/
def DStep (w0 w w' : World) (bd bm bz bb bl : Nat) (vs : List Value) (d' : Dv) : Prop :=
  ∃ vs', DAt w0 w' bd bm bz bb bl d' vs' ∧ Mod (feet bd bm bz bb bl vs) w w' ∧ ∀ x ∈ feet bd bm bz bb bl vs', x ∈ feet bd bm bz bb bl vs ∨ w.heap.size ≤ x

theorem DStep.mk' {w0 w w' : World} {bd bm bz bb bl : Nat} {d d' : Dv} {vs vs' : List Value} (h : DAt w0 w bd bm bz bb bl d vs) (hI : IsD w' bd bm bz bb bl d' vs') (hok : d'.ok) (hm : Mod (feet bd bm bz bb bl vs) w w')
    (hf : ∀ x ∈ feet bd bm bz bb bl vs', x ∈ feet bd bm bz bb bl vs ∨ w.heap.size ≤ x) : DStep w0 w w' bd bm bz bb bl vs d' := by
  refine ⟨vs', ⟨hI, hok, fun x hx => ?_, h.M.trans hm (fun i hi hx => ?_)⟩, hm, hf⟩
  · rcases hf x hx with hx | hx
    · exact h.lo x hx
    · exact Nat.le_trans h.M.size hx
  · rcases hx with hx | hx
    · simp at hx
    · have := h.lo i hx; omega

theorem ddoA {w0 w : World} {bd bm bz bb bl : Nat} {d : Dv} {vs : List Value} (k z a n : Int) (s : ByteArray) (h : DAt w0 w bd bm bz bb bl d vs) (hs : s.size ≤ 9223372036854775807) :
    Calls Try.prog 28 #[.pointer (some ⟨bd, 0, none⟩), .agg #[.int .i64 k, .int .i64 z, .int .i64 a, .int .i64 n], .string s] w fun e w' =>
      e = .returned (.tuple #[.string (ddoF d k z a n s).1.1, .int .i64 (ddoF d k z a n s).1.2.1, .int .i64 (ddoF d k z a n s).1.2.2]) ∧ DStep w0 w w' bd bm bz bb bl vs (ddoF d k z a n s).2 :=
  (ddo_any bd bm bz bb bl d vs k z a n s w h.I h.ok hs).mono fun _ _ ⟨he, _, hI, hm, hf⟩ => ⟨he, .mk' h hI (ok_ddo h.ok k z a n s) hm hf⟩

theorem dflushA {w0 w : World} {bd bm bz bb bl : Nat} {d : Dv} {vs : List Value} (h : DAt w0 w bd bm bz bb bl d vs) :
    Calls Try.prog 29 #[.pointer (some ⟨bd, 0, none⟩)] w fun e w' => e = .returned (.int .i64 (dflushF d).1) ∧ DStep w0 w w' bd bm bz bb bl vs (dflushF d).2 :=
  (dflush_any bd bm bz bb bl d vs w h.I h.ok.m.n2).mono fun _ _ ⟨he, hI, hm⟩ => ⟨he, .mk' h hI (ok_dflush h.ok) (hm.mono (fun i _ hi => by simp at hi; subst hi; exact feet_head (by simp))) (fun _ hx => .inl hx)⟩

theorem dloseA {w0 w : World} {bd bm bz bb bl : Nat} {d : Dv} {vs : List Value} (b : Nat) (keep : List Int) (kv : Value) (h : DAt w0 w bd bm bz bb bl d vs) (hK : IntsAt w kv keep b) (hb : 0 < keep.length → b ∉ feet bd bm bz bb bl vs ∧ b < w.heap.size)
    (hkl : keep.length ≤ 9223372036854775807) (hr : ∀ j, -9223372036854775808 ≤ keep.getD j 0 ∧ keep.getD j 0 ≤ 9223372036854775807) :
    Calls Try.prog 30 #[.pointer (some ⟨bd, 0, none⟩), kv] w fun e w' => e = .returned (.tuple #[]) ∧ DStep w0 w w' bd bm bz bb bl vs (dloseF d keep) :=
  (dlose_any bd bm bz bb bl b d vs keep kv w h.I h.ok hK hb hkl hr h.lt).mono fun _ _ ⟨he, _, hI, hm, hf⟩ => ⟨he, .mk' h hI (ok_dlose h.ok keep) hm (fun x hx => .inl (hf x hx))⟩

theorem ddieA {w0 w : World} {bd bm bz bb bl : Nat} {d : Dv} {vs : List Value} (h : DAt w0 w bd bm bz bb bl d vs) :
    Calls Try.prog 36 #[.pointer (some ⟨bd, 0, none⟩)] w fun e w' => e = .returned (.tuple #[]) ∧ DStep w0 w w' bd bm bz bb bl vs { d with dead := true } :=
  (die_any bd bm bz bb bl d vs w h.I).mono fun _ _ ⟨he, hI, hm⟩ => ⟨he, .mk' h hI ⟨h.ok.m, h.ok.nb, h.ok.nl, h.ok.each⟩ (hm.mono (fun i _ hi => by simp at hi; subst hi; exact feet_head (by simp))) (fun _ hx => .inl hx)⟩

/-- A new drive: behind w0 = w. -/
theorem dnewA (z b o a : Int) (w : World) (h : newOk z b o a = true) :
    Calls Try.prog 26 #[.int .i64 z, .int .i64 b, .int .i64 o, .int .i64 a] w fun e w' => ∃ bd bm bz bb bl vs, e = .returned (.tuple #[.pointer (some ⟨bd, 0, none⟩), .int .i64 0]) ∧ DAt w w' bd bm bz bb bl (dnewF z b o a) vs :=
  (dnew_ok z b o a w h).mono fun _ _ ⟨bd, bm, bz, bb, bl, vs, he, hI, hm, hlo⟩ => ⟨bd, bm, bz, bb, bl, vs, he, hI, ok_dnew h, hlo, hm⟩

theorem ints_one {w : World} {g : Nat} {x : Int} {E : TypeId} (h : Blk w g #[.int .i64 x] E) : IntsAt w (.slice (some ⟨g, 0, none⟩) 1 1) [x] g :=
  ⟨_, _, rfl, fun _ => ⟨0, rfl, h.lt, fun j hj => by
    have : j = 0 := by simp at hj; omega
    subst this
    exact h.cell rfl⟩⟩

end Go.Proofs.Ytojceddgmmapdaa
