/-
  Plain: a loss of power, zone by zone.
  Walk of the drive's Lose.
  Walk of the drive's Lose, where something is kept by a list.
  Walk of the drive's Lose, where nothing is kept.
  Lose joined; the drive holds to its order under each of its functions.
-/
import Derived.Test.YtojceddgmmapdaaD7
import Derived.IntWalk
import Derived.StillTailTactics
import Derived.Deep.CutBlock
namespace Go.Proofs.Ytojceddgmmapdaa
open Go.RowKit

theorem drestF_lt (n b : Int) (hb : 1 ≤ b) : 0 ≤ drestF n b ∧ drestF n b < b := by
  unfold drestF
  exact ⟨Int.emod_nonneg _ (by omega), Int.emod_lt_of_pos _ (by omega)⟩

theorem left_le {d : Dv} (h : d.ok) (keep : List Int) {i : Nat} (hi : i < d.m.zs.length) : d.la.getD i 0 ≤ leftF d keep i ∧ leftF d keep i ≤ (d.bs.getD i []).length / 64 := by
  have h1 := (h.each i hi).2
  unfold leftF
  split
  · omega
  · have h2 := drestF_lt (keep.getD (i % keep.length) 0) (((d.bs.getD i []).length / 64 : Nat) - (d.la.getD i 0 : Int) + 1) (by omega)
    omega

def loseK (d : Dv) (keep : List Int) (k : Nat) : Dv :=
  { d with
    bs := (List.range d.m.zs.length).map fun i => if i < k then (d.bs.getD i []).take (leftF d keep i * 64) else d.bs.getD i []
    la := (List.range d.m.zs.length).map fun i => if i < k then leftF d keep i else d.la.getD i 0 }

def leftC (d : Dv) (keep : List Int) (k : Nat) : List Value := (List.range d.m.zs.length).map fun i => Value.int .i64 (if i < k then (leftF d keep i : Int) else 0)

theorem range_get {α : Type} (n k : Nat) (f : Nat → α) (x : α) (hk : k < n) : ((List.range n).map f).getD k x = f k := by
  simp [List.getD_eq_getElem?_getD, hk]

theorem range_id {α : Type} (l : List α) (x : α) : (List.range l.length).map (fun i => l.getD i x) = l := by
  apply List.ext_getElem?
  intro j
  simp only [List.getElem?_map]
  by_cases hj : j < l.length
  · simp [hj, List.getD_eq_getElem?_getD]
  · rw [List.getElem?_eq_none (by simp; omega), List.getElem?_eq_none (by omega)]; rfl

theorem range_set {α : Type} (n k : Nat) (f g : Nat → α) (x : α) (hk : k < n) (h0 : g k = x) (h : ∀ j, j ≠ k → g j = f j) : ((List.range n).map f).set k x = (List.range n).map g := by
  apply List.ext_getElem?
  intro j
  by_cases hjk : j = k
  · subst hjk
    rw [List.getElem?_set_self (by simp; omega)]
    simp [hk, h0]
  · rw [List.getElem?_set_ne (Ne.symm hjk)]
    simp only [List.getElem?_map]
    by_cases hj : j < n
    · simp [hj, h j hjk]
    · rw [List.getElem?_eq_none (by simp; omega)]; rfl

theorem loseK_zero {d : Dv} (h1 : d.bs.length = d.m.zs.length) (h2 : d.la.length = d.m.zs.length) (keep : List Int) : loseK d keep 0 = d := by
  obtain ⟨m, bs, la, dead⟩ := d
  simp only [loseK, Nat.not_lt_zero, if_false]
  simp only at h1 h2
  congr 1
  · rw [← h1]; exact range_id bs []
  · rw [← h2]; exact range_id la 0

theorem loseK_succ (d : Dv) (keep : List Int) (k : Nat) (hk : k < d.m.zs.length) :
    ({ loseK d keep k with bs := (loseK d keep k).bs.set k ((d.bs.getD k []).take (leftF d keep k * 64)), la := (loseK d keep k).la.set k (leftF d keep k) } : Dv) = loseK d keep (k + 1) := by
  simp only [loseK]
  congr 1
  · exact range_set _ _ _ _ _ hk (by simp) (fun j hj => by
      by_cases h : j < k
      · rw [if_pos h, if_pos (by omega)]
      · rw [if_neg h, if_neg (by omega)])
  · exact range_set _ _ _ _ _ hk (by simp) (fun j hj => by
      by_cases h : j < k
      · rw [if_pos h, if_pos (by omega)]
      · rw [if_neg h, if_neg (by omega)])

theorem leftC_zero (d : Dv) (keep : List Int) : leftC d keep 0 = List.replicate d.m.zs.length (.int .i64 0) := by
  simp only [leftC, Nat.not_lt_zero, if_false]
  rw [List.map_const']; simp

theorem leftC_succ (d : Dv) (keep : List Int) (k : Nat) (hk : k < d.m.zs.length) : (leftC d keep k).set k (.int .i64 (leftF d keep k : Int)) = leftC d keep (k + 1) :=
  range_set _ _ _ _ _ hk (by simp) (fun j hj => by
      by_cases h : j < k
      · rw [if_pos h, if_pos (by omega)]
      · rw [if_neg h, if_neg (by omega)])

theorem loseK_at (d : Dv) (keep : List Int) (k : Nat) (hk : k < d.m.zs.length) : (loseK d keep k).bs.getD k [] = d.bs.getD k [] ∧ (loseK d keep k).la.getD k 0 = d.la.getD k 0 := by
  simp only [loseK]
  rw [range_get _ _ _ _ hk, range_get _ _ _ _ hk]
  simp

theorem loseK_end (d : Dv) (keep : List Int) : ({ loseK d keep d.m.zs.length with m := { d.m with zs := lostL ((leftsF d keep).map fun n : Nat => (n : Int)) d.m.zs } } : Dv) = dloseF d keep := by
  simp only [loseK, dloseF, leftsF]
  congr 1
  · apply List.map_congr_left
    intro i hi
    rw [if_pos (List.mem_range.1 hi)]
  · apply List.map_congr_left
    intro i hi
    rw [if_pos (List.mem_range.1 hi)]

theorem leftC_end (d : Dv) (keep : List Int) : leftC d keep d.m.zs.length = (leftsF d keep).map fun n : Nat => Value.int .i64 (n : Int) := by
  simp only [leftC, leftsF, List.map_map]
  apply List.map_congr_left
  intro i hi
  simp [List.mem_range.1 hi]

theorem ownsRow_take {w : World} {e n m : Nat} {a : Option Addr} {c : Nat} {xs : List Value} (h : w.ownsRow 0 e 1 (.slice a n c) n xs) (hm : m ≤ n) : w.ownsRow 0 e 1 (.slice a m c) m (xs.take m) := by
  obtain ⟨hl, ⟨h1, h2⟩ | ⟨g, cap, cur, h1, hg, hc, h2, h3, h4, h5⟩⟩ := h
  · cases h1
    have : m = 0 := by omega
    subst this
    exact ⟨rfl, .inl ⟨rfl, rfl⟩⟩
  · cases h1
    refine ⟨by simp; omega, .inr ⟨g, c, cur, rfl, hg, hc, by omega, h3, h4, ?_⟩⟩
    rw [← h5, List.take_take]
    congr 1
    omega

end Go.Proofs.Ytojceddgmmapdaa

namespace Go.Proofs.Ytojceddgmmapdaa
open Go.RowKit

theorem dlose_none (v : Value) (w : World) : Calls Try.prog 30 #[.pointer none, v] w fun e w' => e = .returned (.tuple #[]) ∧ w = w' := by
  go_enter Try.func30, Try.ntmps30
  go_wp2
  exact bodyPost_ret (results_none rfl _ _ _) rfl ⟨rfl, rfl⟩

/-- What Lose leaves. -/
def LosePost (bd bm bz bb bl : Nat) (vs : List Value) (d' : Dv) (w : World) (e : Ending) (w' : World) : Prop :=
  e = .returned (.tuple #[]) ∧ ∃ vs', IsD w' bd bm bz bb bl d' vs' ∧ Mod (feet bd bm bz bb bl vs) w w' ∧ ∀ x ∈ feet bd bm bz bb bl vs', x ∈ feet bd bm bz bb bl vs

theorem IsD.slice2 {w : World} {bd bm bz bb bl : Nat} {d : Dv} {vs : List Value} (h : IsD w bd bm bz bb bl d vs) {i : Nat} (hi : i < d.m.zs.length) : ∃ (a : Option Addr) (c : Nat), vs.getD i (.bool false) = .slice a (d.bs.getD i []).length c ∧ (d.bs.getD i []).length ≤ c ∧ c ≤ 9223372036854775807 := by
  obtain ⟨hl, ⟨h1, h2⟩ | ⟨g, cap, cur, h1, _, _, h3, h4, _⟩⟩ := h.row i hi
  · exact ⟨none, 0, by rw [h1, h2], by omega, by omega⟩
  · exact ⟨_, _, h1, h3, by unfold maxLen at h4; exact h4⟩

/-- What holds when k zones are done. -/
structure LoseRel (bd bm bz bb bl b : Nat) (d : Dv) (vs : List Value) (keep : List Int) (kv : Value) (w wr : World) (k : Nat) (vk : List Value) : Prop where
  hk : k ≤ d.m.zs.length
  I : IsD wr bd bm bz bb bl (loseK d keep k) vk
  M : Mod (feet bd bm bz bb bl vs) w wr
  F : ∀ x ∈ feet bd bm bz bb bl vk, x ∈ feet bd bm bz bb bl vs
  L : Blk wr w.heap.size (leftC d keep k).toArray 3
  K : IntsAt wr kv keep b

theorem LoseRel.next {bd bm bz bb bl b : Nat} {d : Dv} {vs : List Value} {keep : List Int} {kv : Value} {w wr : World} {k : Nat} {vk : List Value} (h : LoseRel bd bm bz bb bl b d vs keep kv w wr k vk)
    (hlt : k < d.m.zs.length) (hok : d.ok) (hw : ∀ x ∈ feet bd bm bz bb bl vs, x < w.heap.size) (hb : b ∉ feet bd bm bz bb bl vs) (hb2 : b ≠ w.heap.size) {a : Option Addr} {c : Nat} (hv : vk.getD k (.bool false) = .slice a (d.bs.getD k []).length c) {u0 u1 u2 : World}
    (h0 : Mod [w.heap.size] wr u0) (hL : Blk u0 w.heap.size (leftC d keep (k + 1)).toArray 3) (h1 : Mod [] (u0.setCell ⟨bb, k, none⟩ (.slice a (leftF d keep k * 64) c)) u1) (h2 : Mod [] (u1.setCell ⟨bl, k, none⟩ (.int .i64 (leftF d keep k : Int))) u2) :
    LoseRel bd bm bz bb bl b d vs keep kv w u2 (k + 1) (vk.set k (.slice a (leftF d keep k * 64) c)) := by
  have hl := left_le hok keep hlt
  have hn := loseK_at d keep k hlt
  have hlt' : k < (loseK d keep k).m.zs.length := hlt
  have hfw : w.heap.size ∉ feet bd bm bz bb bl vs := fun hx => by have := hw _ hx; omega
  have hI0 : IsD u0 bd bm bz bb bl (loseK d keep k) vk := h.I.mod h0 (fun x hx => by have := hw x (h.F x hx); simp; omega)
  have hr := hI0.row k hlt'
  rw [hn.1, hv] at hr
  have ht : min (leftF d keep k * 64) (d.bs.getD k []).length = leftF d keep k * 64 := by omega
  have hr2 := ownsRow_take hr (m := leftF d keep k * 64) (by omega)
  have hI1 := hI0.setB k hlt' [] (Mod.refl _ _) (by simp) (.slice a (leftF d keep k * 64) c) ((d.bs.getD k []).take (leftF d keep k * 64)) (by
      rw [List.length_take, ht]
      have e : bc ((d.bs.getD k []).take (leftF d keep k * 64)) = (bc (d.bs.getD k [])).take (leftF d keep k * 64) := by simp [bc, List.map_take]
      rw [e]; exact hr2) (fun g hg => .inl (by rw [hv]; (cases a <;> first | (simp [Value.ownBlock] at hg; done) | simpa [Value.ownBlock] using hg)))
  have hI2 := (hI1.same h1).setL k (leftF d keep k)
  have hI3 := hI2.same h2
  have f1 : bb ∈ feet bd bm bz bb bl vs := feet_head (by simp)
  have f2 : bl ∈ feet bd bm bz bb bl vs := feet_head (by simp)
  have g1 := hw _ f1
  have g2 := hw _ f2
  have hM0 : Mod (feet bd bm bz bb bl vs) w u0 := h.M.trans h0 (fun i hi hx => hx.elim id (fun hx => by simp at hx; omega))
  have hM1 : Mod (feet bd bm bz bb bl vs) w u1 := (hM0.set (.inl f1) _).trans' (h1.mono (by simp))
  have hM2 : Mod (feet bd bm bz bb bl vs) w u2 := (hM1.set (.inl f2) _).trans' (h2.mono (by simp))
  have hM3 : Mod (w.heap.size :: feet bd bm bz bb bl vs) wr u2 := by
    have e0 : Mod (w.heap.size :: feet bd bm bz bb bl vs) wr u0 := h0.mono (fun i _ hi => by simp at hi; simp [hi])
    have e1 : Mod (w.heap.size :: feet bd bm bz bb bl vs) wr u1 := (e0.set (.inl (by simp [f1])) _).trans' (h1.mono (by simp))
    exact (e1.set (.inl (by simp [f2])) _).trans' (h2.mono (by simp))
  refine ⟨hlt, ?_, hM2, ?_, ?_, h.K.mod hM3 (by simp [hb, hb2])⟩
  · rw [← loseK_succ d keep k hlt]; exact hI3
  · intro x hx
    rcases feet_set hx with hx | hx
    · exact h.F x hx
    · exact h.F x (feet_row (i := k) (by rw [hv]; (cases a <;> first | (simp [Value.ownBlock] at hx; done) | simpa [Value.ownBlock] using hx)))
  · exact h2.blk ((h1.blk (hL.set_other (by show bb ≠ _; omega) _) (by simp)).set_other (by show bl ≠ _; omega) _) (by simp)

end Go.Proofs.Ytojceddgmmapdaa

namespace Go.Proofs.Ytojceddgmmapdaa
open Go.RowKit

set_option maxHeartbeats 8000000 in
set_option maxRecDepth 100000 in
theorem dlose_some (bd bm bz bb bl b : Nat) (d : Dv) (vs : List Value) (keep : List Int) (kv : Value) (w : World) (hI : IsD w bd bm bz bb bl d vs) (hok : d.ok) (hK : IntsAt w kv keep b) (hb : b ∉ feet bd bm bz bb bl vs) (hbw : b < w.heap.size)
    (hkl : keep.length ≤ 9223372036854775807) (h0 : 0 < keep.length) (hr : ∀ j, -9223372036854775808 ≤ keep.getD j 0 ∧ keep.getD j 0 ≤ 9223372036854775807) (hw : ∀ x ∈ feet bd bm bz bb bl vs, x < w.heap.size) :
    Calls Try.prog 30 #[.pointer (some ⟨bd, 0, none⟩), kv] w (LosePost bd bm bz bb bl vs (dloseF d keep) w) := by
  have HI := Lib.hid hI
  have Hok := Lib.hid hok
  have Hb := Lib.hid hb
  have Hr := Lib.hid hr
  have Hw := Lib.hid hw
  have HK := Lib.hid hK
  obtain ⟨ka, kc, rfl, hka⟩ := hK
  obtain ⟨off, rfl, -, hkc⟩ := hka h0
  have hn64 := hok.m.n2
  have hmi := make_ints d.m.zs.length hn64
  have hc2 := hI.cells.c2
  have hlt := hI.cells.lt
  have Hkc := Lib.hid hkc
  clear hI hok hb hr hw hka hkc
  have hg0 : decide (0 < keep.length) = true := by simpa using h0
  go_enter Try.func30, Try.ntmps30
  go_wp2_with fail
  go_loopw [16] (fun s wr => ∃ (k : Nat) (vk : List Value), s = .int .i64 k ∧ LoseRel bd bm bz bb bl b d vs keep (.slice (some ⟨b, off, none⟩) keep.length kc) w wr k vk) (fun s _ => 64 - (intOf s).toNat)
  case atStart =>
    refine ⟨0, vs, rfl, Nat.zero_le _, ?_, (Mod.refl _ _).alloc _, fun x hx => hx, ?_, HK.out.mod ((Mod.refl [] w).alloc _) (by simp)⟩
    · rw [loseK_zero HI.out.nb HI.out.nl]
      exact HI.out.same ((Mod.refl [] w).alloc _)
    · rw [leftC_zero]
      have := Blk.new w (Array.replicate d.m.zs.length (.int .i64 0)) 3
      simpa using this
  case round =>
    obtain ⟨k, vk, rfl, hR⟩ := hrel
    have hk := hR.hk
    by_cases hlt2 : k < d.m.zs.length
    · have hIk := hR.I
      have hat := loseK_at d keep k hlt2
      have c1 : wr.cell? ⟨bd, 1, none⟩ = some (.slice (some ⟨bb, 0, none⟩) d.m.zs.length d.m.zs.length) := hIk.cells.c1
      have c2 : wr.cell? ⟨bd, 2, none⟩ = some (.slice (some ⟨bl, 0, none⟩) d.m.zs.length d.m.zs.length) := hIk.cells.c2
      have cl : wr.cell? ⟨bl, k, none⟩ = some (.int .i64 ((d.la.getD k 0 : Nat) : Int)) := by have := hIk.cellL (i := k) hlt2; rwa [hat.2] at this
      have cb : wr.cell? ⟨bb, k, none⟩ = some (vk.getD k (.bool false)) := hIk.cellB (i := k) hlt2
      have cL : wr.cell? ⟨w.heap.size, k, none⟩ = some (.int .i64 0) := hR.L.cell (by simp [leftC, hlt2])
      have fL := hR.L.frozen k
      have hLlt := hR.L.lt
      obtain ⟨va, vc, hv, hvc⟩ := hIk.slice2 (i := k) hlt2
      rw [hat.1] at hv hvc
      rw [hv] at cb
      have Hat := Lib.hid hat
      have Hv := Lib.hid hv
      have HR := Lib.hid hR
      clear hat hv hIk hR
      have hp : ∃ p q : Nat, d.la.getD k 0 = p ∧ (d.bs.getD k []).length / 64 = q := ⟨_, _, rfl, rfl⟩
      obtain ⟨p, q, hp, hq⟩ := hp
      rw [hp] at cl
      have Hp := Lib.hid hp
      have Hq := Lib.hid hq
      clear hp hq
      obtain ⟨n0, -, n1, n2, -, -, -, -, -, n3⟩ := HI.out.nes
      have n1' := Ne.symm n1
      have n2' := Ne.symm n2
      have n3' := Ne.symm n3
      have hne : (w.heap.size ≠ bd ∧ w.heap.size ≠ bb ∧ w.heap.size ≠ bl) ∧ (bd ≠ w.heap.size ∧ bb ≠ w.heap.size ∧ bl ≠ w.heap.size) := by omega
      have hbn := Hb.out
      simp only [feet, List.mem_append, List.mem_cons, List.not_mem_nil, or_false, not_or] at hbn
      obtain ⟨⟨bn1, -, -, bn2, bn3⟩, -⟩ := hbn
      -- what is kept of the zone
      have hki : k % keep.length < keep.length := Nat.mod_lt _ h0
      have hkcell : wr.cell? ⟨b, off + k % keep.length, none⟩ = some (.int .i64 (keep.getD (k % keep.length) 0)) := by
        obtain ⟨a', c', e, h⟩ := HR.out.K
        obtain ⟨off', e2, -, h⟩ := h h0
        cases e
        cases e2
        exact h _ hki
      have hx : ∃ x, keep.getD (k % keep.length) 0 = x := ⟨_, rfl⟩
      obtain ⟨x, hx⟩ := hx
      have hxr := Hr.out (k % keep.length)
      rw [hx] at hkcell hxr
      have hpq : p ≤ q ∧ q ≤ 4096 := by
        have h1 := (Hok.out.each k hlt2)
        have h2 := Hok.out.m.each k hlt2
        have h3 := Hok.out.m.b2
        have h4 := Hp.out
        have h5 := Hq.out
        omega
      have hrl := drestF_lt x ((q : Int) - p + 1) (by omega)
      obtain ⟨r, hrr⟩ := Int.eq_ofNat_of_zero_le hrl.1
      rw [hrr] at hrl
      have hL : leftF d keep k = p + r := by
        unfold leftF
        rw [if_neg (by omega), hx, Hp.out, Hq.out, hrr]
        omega
      have Hrest : Hid (∀ u : World, Calls Try.prog 49 #[.int .i64 x, .int .i64 ((q : Int) - p + 1)] u fun e w' => e = .returned (.int .i64 (r : Int)) ∧ u = w') := fun u => by
        have := drest_any x ((q : Int) - p + 1) (by omega) hxr.1 hxr.2 (by omega) u
        rwa [hrr] at this
      have Hx := Lib.hid hx
      have HL := Lib.hid hL
      clear hx hrr hL
      go_upto_region 7 with (fail)
      have hA0 : Mod [w.heap.size] wr (wr.setCell ⟨w.heap.size, k, none⟩ (.int .i64 (p : Int))) := (Mod.refl _ _).set (by simp) _
      have hA1 : Blk (wr.setCell ⟨w.heap.size, k, none⟩ (.int .i64 (p : Int))) w.heap.size ((leftC d keep k).set k (.int .i64 (p : Int))).toArray 3 := by
        have := HR.out.L.set k (.int .i64 (p : Int))
        rwa [List.setIfInBounds_toArray] at this
      generalize wr.setCell ⟨w.heap.size, k, none⟩ (.int .i64 (p : Int)) = wA at *
      have d1 : wA.cell? ⟨bd, 1, none⟩ = _ := (hA0.cell (by have := HR.out.I.cells.lt; omega) (by simp; omega)).trans c1
      have d2 : wA.cell? ⟨bd, 2, none⟩ = _ := (hA0.cell (by have := HR.out.I.cells.lt; omega) (by simp; omega)).trans c2
      have dl : wA.cell? ⟨bl, k, none⟩ = _ := (hA0.cell (by have := HR.out.I.cells.lt; omega) (by simp; omega)).trans cl
      have db : wA.cell? ⟨bb, k, none⟩ = _ := (hA0.cell (by have := HR.out.I.cells.lt; omega) (by simp; omega)).trans cb
      have dk : wA.cell? ⟨b, off + k % keep.length, none⟩ = _ := (hA0.cell (by have := HR.out.M.size; omega) (by simp; omega)).trans hkcell
      have dL : wA.cell? ⟨w.heap.size, k, none⟩ = some (.int .i64 (p : Int)) := hA1.cell (by simp [leftC, hlt2])
      have eL := hA1.frozen k
      have eb : wA.frozen? ⟨bb, k, none⟩ = false := (hA0.frozen (by have := HR.out.I.cells.lt; omega) (by simp; omega)).trans (HR.out.I.byt.frozen k)
      have el : wA.frozen? ⟨bl, k, none⟩ = false := (hA0.frozen (by have := HR.out.I.cells.lt; omega) (by simp; omega)).trans (HR.out.I.las.frozen k)
      have HA0 := Lib.hid hA0
      have HA1 := Lib.hid hA1
      have HIA := Lib.hid (HR.out.I.mod hA0 (fun x hx => by have := Hw.out x (HR.out.F x hx); simp; omega))
      have hlen : Hid (∀ u : World, Mod [] wA u → Calls Try.prog 48 #[.pointer (some ⟨bd, 0, none⟩), .int .i64 k] u fun e w' => e = .returned (.int .i64 (q : Int)) ∧ u = w') := fun u hu => by
        have := length_any bd bm bz bb bl (loseK d keep k) vk k hlt2 u (HIA.out.same hu)
        rwa [Hat.out.1, Hq.out] at this
      clear hA0 hA1 c1 c2 cl cb cL fL hkcell
      have m1 : IntKind.i64.wrap ((q : Int) - (p : Int)) = (q : Int) - (p : Int) := IntWalk.i64_in _ (by omega)
      have m2 : IntKind.i64.wrap ((q : Int) - (p : Int) + 1) = (q : Int) - (p : Int) + 1 := IntWalk.i64_in _ (by omega)
      have m3 : IntKind.i64.wrap ((p : Int) + (r : Int)) = ((p + r : Nat) : Int) := by rw [IntWalk.i64_in _ (by omega)]; omega
      have m4 : (k : Int).tmod (keep.length : Int) = ((k % keep.length : Nat) : Int) := by rw [Int.tmod_eq_emod_of_nonneg (by omega)]; omega
      have m5 : ((keep.length : Int) == 0) = false := by simpa using (by omega : ¬ keep.length = 0)
      have bn4 : b ≠ w.heap.size := by omega
      have bn5 : w.heap.size ≠ b := by omega
      have z1 : ¬ keep.length = 0 := by omega
      have z2 : ¬ keep = [] := by intro e; rw [e] at h0; simp at h0
      have z3 : ¬ (keep.length : Int) = 0 := by omega
      have m6 : (0 : Int) ≤ ((k % keep.length : Nat) : Int) := by omega
      have m7 : ((k % keep.length : Nat) : Int) < (keep.length : Int) := by omega
      have m10 : (0 : Int) ≤ (k : Int) % (keep.length : Int) := by omega
      have m11 : (k : Int) % (keep.length : Int) < (keep.length : Int) := by omega
      have m12 : ((k : Int) % (keep.length : Int)).toNat = k % keep.length := by omega
      have m8 : (0 : Int) ≤ (k : Int) := by omega
      have m9 : (k : Int) < (d.m.zs.length : Int) := by omega
      have hM0 : Mod [] wA { heap := wA.heap, tape := wA.tape, drawn := wA.drawn + 1, os := wA.os, output := wA.output } := ⟨rfl, rfl, rfl, Nat.le_refl _, fun _ _ _ => rfl⟩
      refine wp_region_still_tail 25 (by kernel_rfl) (by kernel_rfl) ?_
      simp only [List.take_succ_cons, List.take_zero, List.drop_succ_cons, List.drop_zero]
      repeat still_step
      still_call ((hlen.out _ hM0).mono fun e u h => ⟨h.1, h.2.symm⟩)
      repeat still_step
      still_call ((Hrest.out _).mono fun e u h => ⟨h.1, h.2.symm⟩)
      repeat still_step
      refine wpStill_nil ?_
      go_wp2_with fail
      have hT : (p : Int) + (r : Int) = ((p + r : Nat) : Int) := by omega
      rw [hT]
      have hB0 : Mod [w.heap.size] wA (wA.setCell ⟨w.heap.size, k, none⟩ (.int .i64 ((p + r : Nat) : Int))).drew := ((Mod.refl _ _).set (by simp) _).drew
      have hB1 : Blk (wA.setCell ⟨w.heap.size, k, none⟩ (.int .i64 ((p + r : Nat) : Int))).drew w.heap.size (leftC d keep (k + 1)).toArray 3 := by
        have := HA1.out.set k (.int .i64 ((p + r : Nat) : Int))
        have e := leftC_succ d keep k hlt2
        rw [HL.out] at e
        rw [List.setIfInBounds_toArray, List.set_set, e] at this
        exact this
      have HLT := HL.out
      have hTq : (p + r) * 64 ≤ vc := by
        have := Hq.out
        omega
      have hT4 : p + r ≤ 4096 := by omega
      generalize p + r = T at *
      generalize (wA.setCell ⟨w.heap.size, k, none⟩ (.int .i64 (T : Int))).drew = wB at *
      have e1 : wB.cell? ⟨bd, 1, none⟩ = some (.slice (some ⟨bb, 0, none⟩) d.m.zs.length d.m.zs.length) := (hB0.cell (by have := HIA.out.cells.lt; omega) (by simp; omega)).trans d1
      have e2 : wB.cell? ⟨bd, 2, none⟩ = some (.slice (some ⟨bl, 0, none⟩) d.m.zs.length d.m.zs.length) := (hB0.cell (by have := HIA.out.cells.lt; omega) (by simp; omega)).trans d2
      have e3 : wB.cell? ⟨bb, k, none⟩ = some (.slice va (d.bs.getD k []).length vc) := (hB0.cell (by have := HIA.out.cells.lt; omega) (by simp; omega)).trans db
      have e4 : wB.cell? ⟨bl, k, none⟩ = some (.int .i64 (p : Int)) := (hB0.cell (by have := HIA.out.cells.lt; omega) (by simp; omega)).trans dl
      have e5 : wB.frozen? ⟨bb, k, none⟩ = false := (hB0.frozen (by have := HIA.out.cells.lt; omega) (by simp; omega)).trans eb
      have e6 : wB.frozen? ⟨bl, k, none⟩ = false := (hB0.frozen (by have := HIA.out.cells.lt; omega) (by simp; omega)).trans el
      have e7 : wB.cell? ⟨w.heap.size, k, none⟩ = some (.int .i64 (T : Int)) := hB1.cell (by simp [leftC, hlt2, HLT])
      have HB0 : Hid (Mod [w.heap.size] wr wB) := HA0.out.trans' hB0
      have HB1 := Lib.hid hB1
      have HLT := Lib.hid HLT
      clear hB0 hB1 d1 d2 dl db dk dL eb el eL hT m1 m2 m3 m4 m5 m6 m7 m10 m11 m12 hrl HA0 HA1 Hrest hlen
      have m1 : IntKind.i64.wrap ((T : Int) * 64) = (T : Int) * 64 := IntWalk.i64_in _ (by omega)
      have m2 : (0 : Int) ≤ (T : Int) * 64 := by omega
      have m3 : (T : Int) * 64 ≤ (vc : Int) := by omega
      have m4 : ((T : Int) * 64).toNat = T * 64 := by omega
      go_upto_region 8 with (fail)
      go_still_tail 18, (by kernel_rfl)
      go_wp2_with fail
      have hC0 : Mod [bb] wB (wB.setCell ⟨bb, k, none⟩ (.slice va (T * 64) vc)).drew := ((Mod.refl _ _).set (by simp) _).drew
      have hCC : Mod [] (wB.setCell ⟨bb, k, none⟩ (.slice va (T * 64) vc)) (wB.setCell ⟨bb, k, none⟩ (.slice va (T * 64) vc)).drew := (Mod.refl _ _).drew
      have g2 : (wB.setCell ⟨bb, k, none⟩ (.slice va (T * 64) vc)).drew.cell? ⟨bd, 2, none⟩ = some (.slice (some ⟨bl, 0, none⟩) d.m.zs.length d.m.zs.length) := (hC0.cell (by have := HIA.out.cells.lt; have := HB0.out.size; have := HR.out.I.cells.lt; omega) (by simp; omega)).trans e2
      have g4 : (wB.setCell ⟨bb, k, none⟩ (.slice va (T * 64) vc)).drew.cell? ⟨bl, k, none⟩ = some (.int .i64 (p : Int)) := (hC0.cell (by have := HIA.out.cells.lt; have := HB0.out.size; have := HR.out.I.cells.lt; omega) (by simp; omega)).trans e4
      have g6 : (wB.setCell ⟨bb, k, none⟩ (.slice va (T * 64) vc)).drew.frozen? ⟨bl, k, none⟩ = false := (hC0.frozen (by have := HIA.out.cells.lt; have := HB0.out.size; have := HR.out.I.cells.lt; omega) (by simp; omega)).trans e6
      have g7 : (wB.setCell ⟨bb, k, none⟩ (.slice va (T * 64) vc)).drew.cell? ⟨w.heap.size, k, none⟩ = some (.int .i64 (T : Int)) := (hC0.cell (by have := HB1.out.lt; omega) (by simp; omega)).trans e7
      have HC1 : Hid (∀ u1 u2 : World, Mod [] (wB.setCell ⟨bb, k, none⟩ (.slice va (leftF d keep k * 64) vc)) u1 → Mod [] (u1.setCell ⟨bl, k, none⟩ (.int .i64 (leftF d keep k : Int))) u2 → LoseRel bd bm bz bb bl b d vs keep (.slice (some ⟨b, off, none⟩) keep.length kc) w u2 (k + 1) (vk.set k (.slice va (leftF d keep k * 64) vc))) := fun u1 u2 h1 h2 => HR.out.next hlt2 Hok.out Hw.out Hb.out bn4 Hv.out HB0.out HB1.out h1 h2
      rw [HLT.out] at HC1
      clear hC0 e1 e2 e3 e4 e5 e6 e7
      generalize (wB.setCell ⟨bb, k, none⟩ (.slice va (T * 64) vc)).drew = wC at *
      go_upto_region 9 with (fail)
      go_region_held3 (fun w' => w'.cell? ⟨bd, 2, none⟩ = some (.slice (some ⟨bl, 0, none⟩) d.m.zs.length d.m.zs.length) ∧ w'.cell? ⟨w.heap.size, k, none⟩ = some (.int .i64 (T : Int))) (go_keep) (fail)
      go_wp2_with fail
      all_goals exact ⟨⟨k + 1, _, by go_num, HC1.out _ _ hCC ⟨rfl, rfl, rfl, Nat.le_refl _, fun _ _ _ => rfl⟩⟩, by simp [intOf]; omega⟩
    · have hdd : decide (k < d.m.zs.length) = false := by simpa using hlt2
      have c0 := hR.I.cells.c0
      have hkk : k = d.m.zs.length := by omega
      have HR := Lib.hid hR
      have Hkk := Lib.hid hkk
      clear hR hkk
      go_wp2_with fail
      refine (lost_any bm bz d.m _ ((leftsF d keep).map fun n : Nat => (n : Int)) w.heap.size _ HR.out.I.m hn64 ?_ (by omega) (by simp [leftsF]; omega)).mono ?_
      · have hl : (leftsF d keep).length = d.m.zs.length := by simp [leftsF]
        refine ⟨some ⟨w.heap.size, 0, none⟩, d.m.zs.length, by simp [hl], fun _ => ⟨0, rfl, HR.out.L.lt, fun j hj => ?_⟩⟩
        have h1 := HR.out.L
        rw [Hkk.out, leftC_end] at h1
        refine h1.cell ?_
        have hj2 : j < (leftsF d keep).length := by simpa using hj
        simp [List.getD_eq_getElem?_getD, hj2]
      · rintro e w3 ⟨rfl, hM3, hm3⟩
        have hz : Mod [bz] wr w3 := hm3
        clear hm3
        go_wp2_with fail
        refine bodyPost_end (results_none rfl _ _ _) rfl ?_
        have h1 := HR.out.I.mach hM3 (lostL_len _ _) hz
        have f1 : bz ∈ feet bd bm bz bb bl vs := feet_head (by simp)
        refine ⟨rfl, vk, ?_, HR.out.M.trans hz (fun i _ h => h.elim id (fun h => by simp at h; subst h; exact f1)), HR.out.F⟩
        rw [← loseK_end]
        rw [Hkk.out] at h1
        exact h1

end Go.Proofs.Ytojceddgmmapdaa

namespace Go.Proofs.Ytojceddgmmapdaa
open Go.RowKit

set_option maxHeartbeats 8000000 in
set_option maxRecDepth 100000 in
theorem dlose_zero (bd bm bz bb bl b : Nat) (d : Dv) (vs : List Value) (kv : Value) (w : World) (hI : IsD w bd bm bz bb bl d vs) (hok : d.ok) (hK : IntsAt w kv [] b) (hb : b ∉ feet bd bm bz bb bl vs) (hbw : b ≠ w.heap.size)
    (hw : ∀ x ∈ feet bd bm bz bb bl vs, x < w.heap.size) :
    Calls Try.prog 30 #[.pointer (some ⟨bd, 0, none⟩), kv] w (LosePost bd bm bz bb bl vs (dloseF d []) w) := by
  have HI := Lib.hid hI
  have Hok := Lib.hid hok
  have Hb := Lib.hid hb
  have Hw := Lib.hid hw
  have HK := Lib.hid hK
  obtain ⟨ka, kc, rfl, hka⟩ := hK
  clear hka
  have hn64 := hok.m.n2
  have hmi := make_ints d.m.zs.length hn64
  have hc2 := hI.cells.c2
  have hlt := hI.cells.lt
  clear hI hok hb hw
  go_enter Try.func30, Try.ntmps30
  go_wp2_with fail
  go_loopw [16] (fun s wr => ∃ (k : Nat) (vk : List Value), s = .int .i64 k ∧ LoseRel bd bm bz bb bl b d vs [] (.slice ka ([] : List Int).length kc) w wr k vk) (fun s _ => 64 - (intOf s).toNat)
  case atStart =>
    refine ⟨0, vs, rfl, Nat.zero_le _, ?_, (Mod.refl _ _).alloc _, fun x hx => hx, ?_, HK.out.mod ((Mod.refl [] w).alloc _) (by simp)⟩
    · rw [loseK_zero HI.out.nb HI.out.nl]
      exact HI.out.same ((Mod.refl [] w).alloc _)
    · rw [leftC_zero]
      have := Blk.new w (Array.replicate d.m.zs.length (.int .i64 0)) 3
      simpa using this
  case round =>
    obtain ⟨k, vk, rfl, hR⟩ := hrel
    have hk := hR.hk
    by_cases hlt2 : k < d.m.zs.length
    · have hIk := hR.I
      have hat := loseK_at d [] k hlt2
      have c1 : wr.cell? ⟨bd, 1, none⟩ = some (.slice (some ⟨bb, 0, none⟩) d.m.zs.length d.m.zs.length) := hIk.cells.c1
      have c2 : wr.cell? ⟨bd, 2, none⟩ = some (.slice (some ⟨bl, 0, none⟩) d.m.zs.length d.m.zs.length) := hIk.cells.c2
      have cl : wr.cell? ⟨bl, k, none⟩ = some (.int .i64 ((d.la.getD k 0 : Nat) : Int)) := by have := hIk.cellL (i := k) hlt2; rwa [hat.2] at this
      have cb : wr.cell? ⟨bb, k, none⟩ = some (vk.getD k (.bool false)) := hIk.cellB (i := k) hlt2
      have cL : wr.cell? ⟨w.heap.size, k, none⟩ = some (.int .i64 0) := hR.L.cell (by simp [leftC, hlt2])
      have fL := hR.L.frozen k
      have hLlt := hR.L.lt
      obtain ⟨va, vc, hv, hvc⟩ := hIk.slice2 (i := k) hlt2
      rw [hat.1] at hv hvc
      rw [hv] at cb
      have Hat := Lib.hid hat
      have Hv := Lib.hid hv
      have HR := Lib.hid hR
      clear hat hv hIk hR
      have hp : ∃ p q : Nat, d.la.getD k 0 = p ∧ (d.bs.getD k []).length / 64 = q := ⟨_, _, rfl, rfl⟩
      obtain ⟨p, q, hp, hq⟩ := hp
      rw [hp] at cl
      have Hp := Lib.hid hp
      have Hq := Lib.hid hq
      clear hp hq
      obtain ⟨n0, -, n1, n2, -, -, -, -, -, n3⟩ := HI.out.nes
      have n1' := Ne.symm n1
      have n2' := Ne.symm n2
      have n3' := Ne.symm n3
      have hne : (w.heap.size ≠ bd ∧ w.heap.size ≠ bb ∧ w.heap.size ≠ bl) ∧ (bd ≠ w.heap.size ∧ bb ≠ w.heap.size ∧ bl ≠ w.heap.size) := by omega
      have hbn := Hb.out
      simp only [feet, List.mem_append, List.mem_cons, List.not_mem_nil, or_false, not_or] at hbn
      obtain ⟨⟨bn1, -, -, bn2, bn3⟩, -⟩ := hbn
      -- what is kept of the zone
      have hpq : p ≤ q ∧ q ≤ 4096 := by
        have h1 := (Hok.out.each k hlt2)
        have h2 := Hok.out.m.each k hlt2
        have h3 := Hok.out.m.b2
        have h4 := Hp.out
        have h5 := Hq.out
        omega
      have hL : leftF d [] k = p := by
        unfold leftF
        exact (if_pos rfl).trans Hp.out
      have HL := Lib.hid hL
      have bn4 : b ≠ w.heap.size := by omega
      clear hL
      go_upto_region 8 with (fail)
      have hA0 : Mod [w.heap.size] wr (wr.setCell ⟨w.heap.size, k, none⟩ (.int .i64 (p : Int))) := (Mod.refl _ _).set (by simp) _
      have hA1 : Blk (wr.setCell ⟨w.heap.size, k, none⟩ (.int .i64 (p : Int))) w.heap.size ((leftC d [] k).set k (.int .i64 (p : Int))).toArray 3 := by
        have := HR.out.L.set k (.int .i64 (p : Int))
        rwa [List.setIfInBounds_toArray] at this
      generalize wr.setCell ⟨w.heap.size, k, none⟩ (.int .i64 (p : Int)) = wA at *
      have d1 : wA.cell? ⟨bd, 1, none⟩ = _ := (hA0.cell (by have := HR.out.I.cells.lt; omega) (by simp; omega)).trans c1
      have d2 : wA.cell? ⟨bd, 2, none⟩ = _ := (hA0.cell (by have := HR.out.I.cells.lt; omega) (by simp; omega)).trans c2
      have dl : wA.cell? ⟨bl, k, none⟩ = _ := (hA0.cell (by have := HR.out.I.cells.lt; omega) (by simp; omega)).trans cl
      have db : wA.cell? ⟨bb, k, none⟩ = _ := (hA0.cell (by have := HR.out.I.cells.lt; omega) (by simp; omega)).trans cb
      have dL : wA.cell? ⟨w.heap.size, k, none⟩ = some (.int .i64 (p : Int)) := hA1.cell (by simp [leftC, hlt2])
      have eL := hA1.frozen k
      have eb : wA.frozen? ⟨bb, k, none⟩ = false := (hA0.frozen (by have := HR.out.I.cells.lt; omega) (by simp; omega)).trans (HR.out.I.byt.frozen k)
      have el : wA.frozen? ⟨bl, k, none⟩ = false := (hA0.frozen (by have := HR.out.I.cells.lt; omega) (by simp; omega)).trans (HR.out.I.las.frozen k)
      have HA0 := Lib.hid hA0
      have HA1 := Lib.hid hA1
      have HIA := Lib.hid (HR.out.I.mod hA0 (fun x hx => by have := Hw.out x (HR.out.F x hx); simp; omega))
      clear c1 c2 cl cb cL fL
      have hC1 : Blk wA w.heap.size (leftC d [] (k + 1)).toArray 3 := by
        have e := leftC_succ d [] k hlt2
        rw [HL.out] at e
        rwa [e] at hA1
      have HLT := HL.out
      have hTq : p * 64 ≤ vc := by
        have := Hq.out
        omega
      have hT4 : p ≤ 4096 := by omega
      have HB0 : Hid (Mod [w.heap.size] wr wA) := hA0
      have HB1 := Lib.hid hC1
      have HLT := Lib.hid HLT
      have hBlt : bd < wA.heap.size ∧ bl < wA.heap.size ∧ bb < wA.heap.size := by have := HB0.out.size; have := HR.out.I.cells.lt; omega
      clear hA0 hA1 hC1
      have m1 : IntKind.i64.wrap ((p : Int) * 64) = (p : Int) * 64 := IntWalk.i64_in _ (by omega)
      have m2 : (0 : Int) ≤ (p : Int) * 64 := by omega
      have m3 : (p : Int) * 64 ≤ (vc : Int) := by omega
      have m4 : ((p : Int) * 64).toNat = p * 64 := by omega
      go_cut [16] (fun s16 wx => s16 = .int .i64 k ∧ Mod [] (wA.setCell ⟨bb, k, none⟩ (.slice va (p * 64) vc)) wx)
      case first =>
        go_region_with (fail)
        all_goals
          go_wp2_with fail
          go_meet
          exact ⟨rfl, ⟨rfl, rfl, rfl, Nat.le_refl _, fun _ _ _ => rfl⟩⟩
      case rest =>
      obtain ⟨rfl, hD0⟩ := hcut
      have hE0 : Mod [bb] wA wc := ((Mod.refl _ _).set (by simp) _).trans' (hD0.mono (by simp))
      have g2 : wc.cell? ⟨bd, 2, none⟩ = some (.slice (some ⟨bl, 0, none⟩) d.m.zs.length d.m.zs.length) := (hE0.cell (by omega) (by simp; omega)).trans d2
      have g4 : wc.cell? ⟨bl, k, none⟩ = some (.int .i64 (p : Int)) := (hE0.cell (by omega) (by simp; omega)).trans dl
      have g6 : wc.frozen? ⟨bl, k, none⟩ = false := (hE0.frozen (by omega) (by simp; omega)).trans el
      have g7 : wc.cell? ⟨w.heap.size, k, none⟩ = some (.int .i64 (p : Int)) := (hE0.cell (by have := HB1.out.lt; omega) (by simp; omega)).trans dL
      have HC1 : Hid (∀ u1 u2 : World, Mod [] (wA.setCell ⟨bb, k, none⟩ (.slice va (leftF d [] k * 64) vc)) u1 → Mod [] (u1.setCell ⟨bl, k, none⟩ (.int .i64 (leftF d [] k : Int))) u2 → LoseRel bd bm bz bb bl b d vs [] (.slice ka ([] : List Int).length kc) w u2 (k + 1) (vk.set k (.slice va (leftF d [] k * 64) vc))) := fun u1 u2 h1 h2 => HR.out.next hlt2 Hok.out Hw.out Hb.out bn4 Hv.out HB0.out HB1.out h1 h2
      rw [HLT.out] at HC1
      have HD0 := Lib.hid hD0
      clear hD0 hE0 d1 d2 db dl eb el dL
      go_upto_region 9 with (fail)
      go_region_held3 (fun w' => w'.cell? ⟨bd, 2, none⟩ = some (.slice (some ⟨bl, 0, none⟩) d.m.zs.length d.m.zs.length) ∧ w'.cell? ⟨w.heap.size, k, none⟩ = some (.int .i64 (p : Int))) (go_keep) (fail)
      go_wp2_with fail
      all_goals exact ⟨⟨k + 1, _, by go_num, HC1.out _ _ HD0.out ⟨rfl, rfl, rfl, Nat.le_refl _, fun _ _ _ => rfl⟩⟩, by simp [intOf]; omega⟩
    · have hdd : decide (k < d.m.zs.length) = false := by simpa using hlt2
      have c0 := hR.I.cells.c0
      have hkk : k = d.m.zs.length := by omega
      have HR := Lib.hid hR
      have Hkk := Lib.hid hkk
      clear hR hkk
      go_wp2_with fail
      refine (lost_any bm bz d.m _ ((leftsF d []).map fun n : Nat => (n : Int)) w.heap.size _ HR.out.I.m hn64 ?_ (by omega) (by simp [leftsF]; omega)).mono ?_
      · have hl : (leftsF d []).length = d.m.zs.length := by simp [leftsF]
        refine ⟨some ⟨w.heap.size, 0, none⟩, d.m.zs.length, by simp [hl], fun _ => ⟨0, rfl, HR.out.L.lt, fun j hj => ?_⟩⟩
        have h1 := HR.out.L
        rw [Hkk.out, leftC_end] at h1
        refine h1.cell ?_
        have hj2 : j < (leftsF d []).length := by simpa using hj
        simp [List.getD_eq_getElem?_getD, hj2]
      · rintro e w3 ⟨rfl, hM3, hm3⟩
        have hz : Mod [bz] wr w3 := hm3
        clear hm3
        go_wp2_with fail
        refine bodyPost_end (results_none rfl _ _ _) rfl ?_
        have h1 := HR.out.I.mach hM3 (lostL_len _ _) hz
        have f1 : bz ∈ feet bd bm bz bb bl vs := feet_head (by simp)
        refine ⟨rfl, vk, ?_, HR.out.M.trans hz (fun i _ h => h.elim id (fun h => by simp at h; subst h; exact f1)), HR.out.F⟩
        rw [← loseK_end]
        rw [Hkk.out] at h1
        exact h1

end Go.Proofs.Ytojceddgmmapdaa

namespace Go.Proofs.Ytojceddgmmapdaa
open Go.RowKit

theorem dlose_any (bd bm bz bb bl b : Nat) (d : Dv) (vs : List Value) (keep : List Int) (kv : Value) (w : World) (hI : IsD w bd bm bz bb bl d vs) (hok : d.ok) (hK : IntsAt w kv keep b) (hb : 0 < keep.length → b ∉ feet bd bm bz bb bl vs ∧ b < w.heap.size)
    (hkl : keep.length ≤ 9223372036854775807) (hr : ∀ j, -9223372036854775808 ≤ keep.getD j 0 ∧ keep.getD j 0 ≤ 9223372036854775807) (hw : ∀ x ∈ feet bd bm bz bb bl vs, x < w.heap.size) :
    Calls Try.prog 30 #[.pointer (some ⟨bd, 0, none⟩), kv] w (LosePost bd bm bz bb bl vs (dloseF d keep) w) := by
  by_cases h0 : 0 < keep.length
  · exact dlose_some bd bm bz bb bl b d vs keep kv w hI hok hK (hb h0).1 (hb h0).2 hkl h0 hr hw
  · have hke : keep = [] := List.eq_nil_of_length_eq_zero (by omega)
    subst hke
    obtain ⟨a, c, hv, -⟩ := hK
    exact dlose_zero bd bm bz bb bl (w.heap.size + 1) d vs kv w hI hok ⟨a, c, hv, fun h => absurd h (by simp)⟩ (fun hx => by have := hw _ hx; omega) (by omega) hw

theorem fits_size {k n : Int} {s : ByteArray} (hk : k = 1 ∨ k = 2) (hn : 0 ≤ n) (h : fitsF k n s = true) : s.size = 64 * n.toNat := by
  have h2 : writesF k = true := by rcases hk with rfl | rfl <;> rfl
  unfold fitsF at h
  rw [if_neg (by rw [h2]; intro h; rcases h with h | h; cases h; omega)] at h
  simp only [Bool.and_eq_true, decide_eq_true_eq, beq_iff_eq] at h
  omega

theorem getD_set {α : Type} (l : List α) (i j : Nat) (x y : α) (hi : i < l.length) : (l.set i x).getD j y = if i = j then x else l.getD j y := by
  simp only [List.getD_eq_getElem?_getD, List.getElem?_set]
  split
  · subst_vars; simp
  · rfl

theorem ok_ddo {d : Dv} (h : d.ok) (k z a n : Int) (s : ByteArray) : (ddoF d k z a n s).2.ok := by
  unfold ddoF
  split
  · exact h
  · split
    · exact h
    · rename_i hft
      have hft : fitsF k n s = true := by simpa using hft
      have hl := (like_do d.m k z a n).len
      have hm := ok_do h.m k z a n
      simp only
      split
      · rename_i he
        have := do_refused d.m k z a n he
        rw [this]
        exact ⟨h.m, h.nb, h.nl, h.each⟩
      · rename_i he
        obtain ⟨hz, hD⟩ := do_done d.m k z a n (by simpa using he)
        split
        · rename_i hk
          obtain ⟨-, hn1, -, hln⟩ := hD.w hk
          have hss := fits_size hk (by omega) hft
          refine ⟨hm, by simp [h.nb, hl], by simp [h.nl, hl], fun i hi => ?_⟩
          have hi' : i < d.m.zs.length := by simpa [hl] using hi
          have he' := h.each i hi'
          have hln' : lnOf (doF d.m k z a n).2.zs i = _ := hln i
          show ((((d.bs.set z.toNat (d.bs.getD z.toNat [] ++ s.data.toList)).getD i []).length : Nat) : Int) = 64 * lnOf (doF d.m k z a n).2.zs i ∧ _
          rw [hln', getD_set _ _ _ _ _ (by rw [h.nb]; exact hD.hi)]
          have hdl : s.data.toList.length = s.size := rfl
          have e2 : d.m.ln = fun i => lnOf d.m.zs i := rfl
          by_cases hzi : z.toNat = i
          · rw [if_pos hzi, if_pos hzi, List.length_append, hdl, e2, hzi]
            simp only
            omega
          · rw [if_neg hzi, if_neg hzi]
            exact he'
        · rename_i hk
          have hkeep : ¬ (k = 3) → ∀ i, i < (doF d.m k z a n).2.zs.length → (((d.bs.getD i []).length : Nat) : Int) = 64 * lnOf (doF d.m k z a n).2.zs i := fun h3 i hi => by
            have : lnOf (doF d.m k z a n).2.zs i = d.m.ln i := hD.o (by omega) i
            rw [this]
            exact (h.each i (by omega)).1
          split
          · exact ⟨hm, by simp [h.nb, hl], by simp [h.nl, hl], fun i hi => ⟨hkeep (by omega) i hi, (h.each i (by simpa [hl] using hi)).2⟩⟩
          · split
            · rename_i h3
              refine ⟨hm, by simp [h.nb, hl], by simp [h.nl, hl], fun i hi => ?_⟩
              have hi' : i < d.m.zs.length := by simpa [hl] using hi
              have hln' : lnOf (doF d.m k z a n).2.zs i = _ := hD.e h3 i
              show ((((d.bs.set z.toNat []).getD i []).length : Nat) : Int) = 64 * lnOf (doF d.m k z a n).2.zs i ∧ (d.la.set z.toNat 0).getD i 0 * 64 ≤ ((d.bs.set z.toNat []).getD i []).length
              rw [hln', getD_set _ _ _ _ _ (by rw [h.nb]; exact hD.hi), getD_set _ _ _ _ _ (by rw [h.nl]; exact hD.hi)]
              by_cases hzi : z.toNat = i
              · rw [if_pos hzi, if_pos hzi, if_pos hzi]; exact ⟨rfl, by simp⟩
              · rw [if_neg hzi, if_neg hzi, if_neg hzi]; exact h.each i hi'
            · rename_i h3
              split
              · refine ⟨hm, by simp [h.nb, hl], by simp [h.nl, hl], fun i hi => ⟨hkeep h3 i hi, ?_⟩⟩
                have hi' : i < d.m.zs.length := by simpa [hl] using hi
                show (d.la.set z.toNat ((d.bs.getD z.toNat []).length / 64)).getD i 0 * 64 ≤ (d.bs.getD i []).length
                rw [getD_set _ _ _ _ _ (by rw [h.nl]; exact hD.hi)]
                by_cases hzi : z.toNat = i
                · rw [if_pos hzi, hzi]; omega
                · rw [if_neg hzi]; exact (h.each i hi').2
              · exact ⟨hm, by simp [h.nb, hl], by simp [h.nl, hl], fun i hi => ⟨hkeep h3 i hi, (h.each i (by simpa [hl] using hi)).2⟩⟩

theorem ok_dflush {d : Dv} (h : d.ok) : (dflushF d).2.ok := by
  unfold dflushF
  split
  · exact h
  · refine ⟨h.m, h.nb, by simp [h.nb], fun i hi => ⟨(h.each i hi).1, ?_⟩⟩
    have hi' : i < d.bs.length := by rw [h.nb]; exact hi
    simp only [List.getD_eq_getElem?_getD, List.getElem?_map, List.getElem?_eq_getElem hi', Option.map_some, Option.getD_some]
    omega

theorem lnOf_lostL (ls : List Int) (zs : List (Int × Int)) (i : Nat) (hi : i < zs.length) (hls : ls.length = zs.length) (h : 0 ≤ ls.getD i 0 ∧ ls.getD i 0 ≤ lnOf zs i) :
    lnOf (lostL ls zs) i = ls.getD i 0 := by
  have e : ls[i]? = some (ls.getD i 0) := by simp [List.getD_eq_getElem?_getD, show i < ls.length by omega]
  have e2 : lnOf (lostL ls zs) i = (lostZ ls[i]? (stOf zs i, lnOf zs i)).2 := by
    simp [lnOf, lostL, stOf, List.getD_eq_getElem?_getD, hi]
  rw [e2, e]
  unfold lostZ
  simp only
  split
  · rfl
  · split <;> (simp only; omega)

theorem stOf_lostL (ls : List Int) (zs : List (Int × Int)) (i : Nat) (hi : i < zs.length) (h : 0 ≤ stOf zs i ∧ stOf zs i ≤ 4) : 0 ≤ stOf (lostL ls zs) i ∧ stOf (lostL ls zs) i ≤ 4 := by
  have e2 : stOf (lostL ls zs) i = (lostZ ls[i]? (stOf zs i, lnOf zs i)).1 := by
    simp [lnOf, lostL, stOf, List.getD_eq_getElem?_getD, hi]
  rw [e2]
  have hr : ∀ x, 0 ≤ restF x ∧ restF x ≤ 4 := fun x => by unfold restF; split <;> omega
  unfold lostZ
  split
  · split
    · exact hr _
    · split
      · exact h
      · exact hr _
  · split
    · exact h
    · exact hr _

theorem lefts_len (d : Dv) (keep : List Int) : (leftsF d keep).length = d.m.zs.length := by simp [leftsF]
theorem lefts_get (d : Dv) (keep : List Int) {i : Nat} (hi : i < d.m.zs.length) : ((leftsF d keep).map fun n : Nat => (n : Int)).getD i 0 = (leftF d keep i : Int) := by
  simp [leftsF, List.getD_eq_getElem?_getD, hi]

theorem ok_dlose {d : Dv} (h : d.ok) (keep : List Int) : (dloseF d keep).ok := by
  have hln : ∀ i, i < d.m.zs.length → lnOf (lostL ((leftsF d keep).map fun n : Nat => (n : Int)) d.m.zs) i = (leftF d keep i : Int) := fun i hi => by
    have h1 := left_le h keep hi
    have h2 := (h.each i hi).1
    rw [lnOf_lostL _ _ i hi (by simp [lefts_len]) (by rw [lefts_get d keep hi]; omega), lefts_get d keep hi]
  have hlen : ∀ i, i < d.m.zs.length → ((d.bs.getD i []).take (leftF d keep i * 64)).length = leftF d keep i * 64 := fun i hi => by
    have h1 := left_le h keep hi
    rw [List.length_take]; omega
  refine ⟨⟨?_, ?_, h.m.b1, h.m.b2, h.m.o1, h.m.o2, ?_, fun i hi => ?_⟩, ?_, ?_, fun i hi => ?_⟩
  · show 1 ≤ (lostL _ _).length; rw [lostL_len]; exact h.m.n1
  · show (lostL _ _).length ≤ 64; rw [lostL_len]; exact h.m.n2
  · show d.m.ac ≤ ((lostL _ _).length : Int); rw [lostL_len]; exact h.m.a2
  · have hi' : i < d.m.zs.length := by
      have : (dloseF d keep).m.zs.length = d.m.zs.length := lostL_len _ _
      omega
    have h1 := stOf_lostL ((leftsF d keep).map fun n : Nat => (n : Int)) d.m.zs i hi' ⟨(h.m.each i hi').1, (h.m.each i hi').2.1⟩
    have h2 := hln i hi'
    have h3 := left_le h keep hi'
    have h4 := (h.each i hi').1
    have h5 := h.m.each i hi'
    show 0 ≤ stOf (lostL _ _) i ∧ stOf (lostL _ _) i ≤ 4 ∧ 0 ≤ lnOf (lostL _ _) i ∧ lnOf (lostL _ _) i ≤ d.m.bl
    rw [h2]
    omega
  · show _ = (lostL _ _).length; rw [lostL_len]; simp [dloseF]
  · show (leftsF d keep).length = (lostL _ _).length; rw [lostL_len, lefts_len]
  · have hi' : i < d.m.zs.length := by
      have : (dloseF d keep).m.zs.length = d.m.zs.length := lostL_len _ _
      omega
    have e1 : (dloseF d keep).bs.getD i [] = (d.bs.getD i []).take (leftF d keep i * 64) := range_get _ _ _ _ hi'
    have e2 : (dloseF d keep).la.getD i 0 = leftF d keep i := range_get _ _ _ _ hi'
    have e3 : lnOf (dloseF d keep).m.zs i = _ := hln i hi'
    rw [e1, e2, e3, hlen i hi']
    omega

theorem newF_okD {z b o a : Int} (h : newOk z b o a = true) : (newF z b o a).ok := by
  simp only [newOk, Bool.and_eq_true, decide_eq_true_eq] at h
  refine ⟨?_, ?_, ?_, ?_, ?_, ?_, ?_, fun i hi => ?_⟩ <;> simp only [newF, List.length_replicate] at * <;> try omega
  simp [stOf, lnOf, List.getD_eq_getElem?_getD, hi]
  omega

theorem ok_dnew {z b o a : Int} (h : newOk z b o a = true) : (dnewF z b o a).ok := by
  have h' := h
  simp only [newOk, Bool.and_eq_true, decide_eq_true_eq] at h'
  refine ⟨newF_okD h, by simp [dnewF, newF], by simp [dnewF, newF], fun i hi => ?_⟩
  have hi' : i < z.toNat := by simpa [dnewF, newF] using hi
  simp [dnewF, newF, List.getD_eq_getElem?_getD, lnOf, hi']

end Go.Proofs.Ytojceddgmmapdaa
