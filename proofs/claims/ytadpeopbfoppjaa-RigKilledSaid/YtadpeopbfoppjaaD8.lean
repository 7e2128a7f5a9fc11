/-
  Walk of the drive's Lose.
-/
import Derived.Test.YtadpeopbfoppjaaD8L
import Derived.IntWalk
namespace Go.Proofs.Ytadpeopbfoppjaa
open Go.RowKit

theorem dlose_none (v : Value) (w : World) : Calls Try.prog 40 #[.pointer none, v] w fun e w' => e = .returned (.tuple #[]) ∧ w = w' := by
  go_enter Try.func40, Try.ntmps40
  go_wp2
  exact bodyPost_ret (results_none rfl _ _ _) rfl ⟨rfl, rfl⟩

/-- What Lose leaves. -/
def LosePost (bd bm bz bb bl : Nat) (vs : List Value) (d' : Dv) (w : World) (e : Ending) (w' : World) : Prop :=
  e = .returned (.tuple #[]) ∧ ∃ vs', IsD w' bd bm bz bb bl d' vs' ∧ Mod (feet bd bm bz bb bl vs) w w' ∧ ∀ x ∈ feet bd bm bz bb bl vs', x ∈ feet bd bm bz bb bl vs

theorem IsD.slice2 {w : World} {bd bm bz bb bl : Nat} {d : Dv} {vs : List Value} (h : IsD w bd bm bz bb bl d vs) {i : Nat} (hi : i < d.m.zs.length) : ∃ (a : Option Addr) (c : Nat), vs.getD i (.bool false) = .slice a (d.bs.getD i []).length c ∧ (d.bs.getD i []).length ≤ c ∧ c ≤ 9223372036854775807 := by
  obtain ⟨hl, ⟨h1, h2⟩ | ⟨g, cap, cur, h1, _, _, h3, h4, _⟩⟩ := h.row i hi
  · exact ⟨none, 0, by rw [h1, h2], by omega, by omega⟩
  · exact ⟨_, _, h1, h3, by unfold maxLen at h4; exact h4⟩

/-- What holds when k zones are done. -/
structure LoseRel (bd bm bz bb bl b : Nat) (d : Dv) (vs : List Value) (keep : List Int) (kv : Value) (w wr : World) (k : Nat) (vk : List Value) : Prop where
  hk : k ≤ d.m.zs.length
  I : IsD wr bd bm bz bb bl (loseK d keep k) vk
  M : Mod (feet bd bm bz bb bl vs) w wr
  F : ∀ x ∈ feet bd bm bz bb bl vk, x ∈ feet bd bm bz bb bl vs
  L : Blk wr w.heap.size (leftC d keep k).toArray 3
  K : IntsAt wr kv keep b

theorem LoseRel.next {bd bm bz bb bl b : Nat} {d : Dv} {vs : List Value} {keep : List Int} {kv : Value} {w wr : World} {k : Nat} {vk : List Value} (h : LoseRel bd bm bz bb bl b d vs keep kv w wr k vk)
    (hlt : k < d.m.zs.length) (hok : d.ok) (hw : ∀ x ∈ feet bd bm bz bb bl vs, x < w.heap.size) (hb : b ∉ feet bd bm bz bb bl vs) (hb2 : b ≠ w.heap.size) {a : Option Addr} {c : Nat} (hv : vk.getD k (.bool false) = .slice a (d.bs.getD k []).length c) {u0 u1 u2 : World}
    (h0 : Mod [w.heap.size] wr u0) (hL : Blk u0 w.heap.size (leftC d keep (k + 1)).toArray 3) (h1 : Mod [] (u0.setCell ⟨bb, k, none⟩ (.slice a (leftF d keep k * 64) c)) u1) (h2 : Mod [] (u1.setCell ⟨bl, k, none⟩ (.int .i64 (leftF d keep k : Int))) u2) :
    LoseRel bd bm bz bb bl b d vs keep kv w u2 (k + 1) (vk.set k (.slice a (leftF d keep k * 64) c)) := by
  have hl := left_le hok keep hlt
  have hn := loseK_at d keep k hlt
  have hlt' : k < (loseK d keep k).m.zs.length := hlt
  have hfw : w.heap.size ∉ feet bd bm bz bb bl vs := fun hx => by have := hw _ hx; omega
  have hI0 : IsD u0 bd bm bz bb bl (loseK d keep k) vk := h.I.mod h0 (fun x hx => by have := hw x (h.F x hx); simp; omega)
  have hr := hI0.row k hlt'
  rw [hn.1, hv] at hr
  have ht : min (leftF d keep k * 64) (d.bs.getD k []).length = leftF d keep k * 64 := by omega
  have hr2 := ownsRow_take hr (m := leftF d keep k * 64) (by omega)
  have hI1 := hI0.setB k hlt' [] (Mod.refl _ _) (by simp) (.slice a (leftF d keep k * 64) c) ((d.bs.getD k []).take (leftF d keep k * 64)) (by
      rw [List.length_take, ht]
      have e : bc ((d.bs.getD k []).take (leftF d keep k * 64)) = (bc (d.bs.getD k [])).take (leftF d keep k * 64) := by simp [bc, List.map_take]
      rw [e]; exact hr2) (fun g hg => .inl (by rw [hv]; (cases a <;> first | (simp [Value.ownBlock] at hg; done) | simpa [Value.ownBlock] using hg)))
  have hI2 := (hI1.same h1).setL k (leftF d keep k)
  have hI3 := hI2.same h2
  have f1 : bb ∈ feet bd bm bz bb bl vs := feet_head (by simp)
  have f2 : bl ∈ feet bd bm bz bb bl vs := feet_head (by simp)
  have g1 := hw _ f1
  have g2 := hw _ f2
  have hM0 : Mod (feet bd bm bz bb bl vs) w u0 := h.M.trans h0 (fun i hi hx => hx.elim id (fun hx => by simp at hx; omega))
  have hM1 : Mod (feet bd bm bz bb bl vs) w u1 := (hM0.set (.inl f1) _).trans' (h1.mono (by simp))
  have hM2 : Mod (feet bd bm bz bb bl vs) w u2 := (hM1.set (.inl f2) _).trans' (h2.mono (by simp))
  have hM3 : Mod (w.heap.size :: feet bd bm bz bb bl vs) wr u2 := by
    have e0 : Mod (w.heap.size :: feet bd bm bz bb bl vs) wr u0 := h0.mono (fun i _ hi => by simp at hi; simp [hi])
    have e1 : Mod (w.heap.size :: feet bd bm bz bb bl vs) wr u1 := (e0.set (.inl (by simp [f1])) _).trans' (h1.mono (by simp))
    exact (e1.set (.inl (by simp [f2])) _).trans' (h2.mono (by simp))
  refine ⟨hlt, ?_, hM2, ?_, ?_, h.K.mod hM3 (by simp [hb, hb2])⟩
  · rw [← loseK_succ d keep k hlt]; exact hI3
  · intro x hx
    rcases feet_set hx with hx | hx
    · exact h.F x hx
    · exact h.F x (feet_row (i := k) (by rw [hv]; (cases a <;> first | (simp [Value.ownBlock] at hx; done) | simpa [Value.ownBlock] using hx)))
  · exact h2.blk ((h1.blk (hL.set_other (by show bb ≠ _; omega) _) (by simp)).set_other (by show bl ≠ _; omega) _) (by simp)

end Go.Proofs.Ytadpeopbfoppjaa
