/-
  Clone of numbers; the kept list turned by a drive's place.
-/
import Derived.Test.YtadpeopbfoppjaaG2
namespace Go.Proofs.Ytadpeopbfoppjaa
open Go.RowKit

def ic (l : List Int) : List Value := l.map fun x => Value.int .i64 x
theorem ic_length (l : List Int) : (ic l).length = l.length := by simp [ic]
theorem ic_get (l : List Int) (j : Nat) (h : j < l.length) : (ic l)[j]? = some (.int .i64 (l.getD j 0)) := by
  simp [ic, List.getD_eq_getElem?_getD, h]

/-- An owned row of numbers reads as these. -/
theorem ints_owned {w : World} {B : Nat} {v : Value} {ls : List Int} (h : w.ownsRow B 3 1 v ls.length (ic ls)) : ∃ b, IntsAt w v ls b ∧ (0 < ls.length → v.ownBlock = some b ∧ B ≤ b) := by
  have hrow := h
  obtain ⟨hl, ⟨h1, h2⟩ | ⟨g, cap, cur, h1, hB, h2⟩⟩ := hrow
  · exact ⟨0, ⟨none, 0, by rw [h1, h2], fun h0 => by omega⟩, fun h0 => by omega⟩
  · refine ⟨g, ⟨_, cap, h1, fun h0 => ⟨0, rfl, ownsRow_lt h (by rw [h1]; rfl), fun j hj => ?_⟩⟩, fun _ => ⟨by rw [h1]; rfl, hB⟩⟩
    have hc := h.cells (g := g) (by rw [h1]; rfl) j (.int .i64 (ls.getD j 0)) (ic_get ls j hj)
    rw [Addr.add_lit] at hc
    exact hc

theorem cap_owned {w : World} {B n : Nat} {v : Value} {xs : List Value} {E : TypeId} (h : w.ownsRow B E 1 v n xs) : CapOk v := by
  intro a n' c hv
  obtain ⟨hl, ⟨h1, h2⟩ | ⟨g, cap, cur, h1, hB, h2, h3, h4, _⟩⟩ := h
  · rw [h1] at hv
    simp only [Value.slice.injEq] at hv
    omega
  · rw [h1] at hv
    simp only [Value.slice.injEq] at hv
    unfold maxLen at h4
    omega

/-- What a slice of numbers made by the call is. -/
def IntsNew (w w' : World) (v : Value) (ls : List Int) : Prop := w'.ownsRow w.heap.size 3 1 v ls.length (ic ls) ∧ Mod [] w w'

theorem infoI : (Try.prog.info? 3).map (fun i => (i.zero, i.size, i.bytes)) = some (some (.int .i64 0), 1, 8) := by kernel_rfl

set_option maxHeartbeats 1000000 in
set_option maxRecDepth 100000 in
theorem iclone_any (v : Value) (ls : List Int) (b : Nat) (w : World) (hv : IntsAt w v ls b) (hn : ls.length ≤ 17592186044416) :
    Calls Try.prog 23 #[v] w fun e w' => ∃ v', e = .returned v' ∧ IntsNew w w' v' ls := by
  have hnl := fun (W : World) (a : Option Addr) (n c : Nat) => Lib.run_eql_slice_nil (P := Try.prog) W 40 3 a n c 0 0 Try.underlying40
  obtain ⟨a, c, rfl, hc⟩ := hv
  cases a with
  | none =>
    have h0 : ls = [] := by
      by_cases h : 0 < ls.length
      · obtain ⟨off, h, _⟩ := hc h; cases h
      · exact List.eq_nil_of_length_eq_zero (by omega)
    subst h0
    clear hc
    go_enter Try.func23, Try.ntmps23
    go_wp2_with fail
    go_ret
    exact ⟨_, rfl, ⟨rfl, .inl ⟨rfl, rfl⟩⟩, Mod.refl _ _⟩
  | some ad =>
    obtain ⟨i0, hi, hz0, hz1, hz2⟩ := info_parts infoI
    have hown : (w.alloc (.cells #[] 3)).ownsRow w.heap.size 3 1 (.slice (some ⟨w.heap.size, 0, none⟩) 0 0) 0 [] :=
      ⟨rfl, .inr ⟨w.heap.size, 0, #[], rfl, Nat.le_refl _, Blk.new w #[] 3, Nat.le_refl _, Nat.zero_le _, rfl, rfl⟩⟩
    have hnews : ∀ (j : Nat) (u : Value), (ic ls)[j]? = some u → (w.alloc (.cells #[] 3)).cell? (ad.add j) = some u := by
      intro j u hj
      have hjl : j < ls.length := by rw [← ic_length ls]; exact (List.getElem?_eq_some_iff.1 hj).1
      obtain ⟨off, he, hlt, hcell⟩ := hc (by omega)
      injection he with he
      subst he
      rw [ic_get ls j hjl] at hj
      injection hj with hj
      subst hj
      rw [Addr.add_lit]
      exact (((Mod.refl [] w).alloc _).cell hlt (by simp)).trans (hcell j hjl)
    have hone : ∀ u ∈ ic ls, u.oneCell' = true := by
      intro u hu
      simp only [ic, List.mem_map] at hu
      obtain ⟨x, _, rfl⟩ := hu
      rfl
    have Hown := Lib.hid hown; clear hown
    have Hnews := Lib.hid hnews; clear hnews
    have Hone := Lib.hid hone; clear hone hc
    go_enter Try.func23, Try.ntmps23
    go_wp2_with (at_builtin; refine wpList_append_own _ rfl _ _ 40 rfl w.heap.size 3 i0 _ 1 8 Try.underlying40 hi hz0 hz1 hz2 rfl (by decide) _ _ _ rfl Hown.out ad ls.length c (ic ls) rfl (by rw [ic_length]; omega) Hnews.out Hone.out (by unfold maxLen; omega) (by omega) (by simp) ?_; intro v' w' hown' hgrow hnil)
    go_ret
    rw [Nat.zero_add, List.nil_append] at hown'
    refine ⟨_, rfl, hown', ?_⟩
    have hgrow : (w.alloc (.cells #[] 3)).grownBy w' (some w.heap.size) := hgrow
    exact (((Mod.refl _ _).alloc _).trans' (Mod.of_grown hgrow [w.heap.size] (fun g hg => by injection hg with hg; simp [hg]))).mono (fun i hi hS => by simp at hS; omega)

theorem IntsNew.row {w w2 w3 : World} {v2 v3 : Value} {A B : List Int} (hn : IntsNew w w2 v2 A) (ho : w3.ownsRow w.heap.size 3 1 v3 (A.length + B.length) (ic A ++ ic B)) (hg : w2.grownBy w3 v2.ownBlock) : IntsNew w w3 v3 (A ++ B) := by
  refine ⟨?_, hn.2.trans (Mod.of_grown hg v2.ownBlock.toList (fun g hg => Option.mem_toList.2 hg)) (fun i hi h => ?_)⟩
  · rw [List.length_append]
    have e : ic (A ++ B) = ic A ++ ic B := by simp [ic]
    rw [e]; exact ho
  · rcases h with h | h
    · exact h
    · have := (hn.1.lt i (Option.mem_toList.1 h)).1
      omega

/-- An append to an owned row, as a step of a region that draws its order. -/
theorem step_append_own {P : Program} {w : World} {ops : Array Oper} {o : Oper} {a : Act} {K : Act → World → Prop} {Q : Exit → Act → World → Prop} {E : Prop} (hgd : o.guard = none) (s x : Operand) (t : TypeId)
    (ho : o.op = .call { callee := .builtin .append, args := #[s, x], argTypes := #[t, t] })
    (base : Nat) (e : TypeId) (i : TypeInfo) (z : Value) (size bytes : Nat) (ht : P.underlying t = some (.slice e)) (hi : P.info? e = some i) (hz : i.zero = some z)
    (hsize : i.size = size) (hby : i.bytes = bytes) (hzs : z.cells.size = size) (hsz : 0 < size)
    (v : Value) (n : Nat) (xs : List Value) (hs : a.eval s = v) (hown : w.ownsRow base e size v n xs)
    (ad : Addr) (m c : Nat) (news : List Value) (hx : a.eval x = .slice (some ad) m c) (hl : news.length = m * size) (hnews : ∀ j u, news[j]? = some u → w.cell? (ad.add j) = some u) (h1 : ∀ u ∈ news, u.oneCell' = true)
    (h63 : n + m ≤ maxLen) (hbytes : (n + m) * bytes ≤ 140737488355328) (hbase : base ≤ w.heap.size)
    (h : ∀ v' w', w'.ownsRow base e size v' (n + m) (xs ++ news) → w.grownBy w' v.ownBlock → (v' = .slice none 0 0 ↔ v = .slice none 0 0 ∧ m = 0) → K (a.put o.dst v') w') :
    if Region.wanted o (yielded ops a.tmps) = true then Oper.wp P o a w K Q else E := by
  have hw : Region.wanted o (yielded ops a.tmps) = true := by simp [Region.wanted, hgd]
  rw [if_pos hw]
  exact wp_append_own w s x t ho base e i z size bytes ht hi hz hsize hby hzs hsz v n xs hs hown ad m c news hx hl hnews h1 h63 hbytes hbase h

end Go.Proofs.Ytadpeopbfoppjaa
