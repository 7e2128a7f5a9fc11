/-
  Arguments opened: an array of four numbers, a slice of commands.
-/
import Derived.Test.YtojceddgmmapdaaZC
import Derived.Test.YtojceddgmmapdaaRows
import Derived.ProofKit
import Derived.OpenShut
import Derived.ChangeOld
import Derived.Below
import Derived.Lib.SmallJoins
import Derived.Deep.Slices
import Derived.Deep.Fields
import Derived.ChangeSame
namespace Go.Proofs.Ytojceddgmmapdaa
open Go.ChangeShapes Go.WideShapes Go.ChangeAt Go.RowKit Go.Joins Go.Deep

theorem own : ownKnob Try.prog.godebug = none := by kernel_rfl
theorem laidOut : laidOutB Try.prog = true := by kernel_rfl

section
variable {H : Type} {enc : TypeId × Value → H} {P : Program} {w : World} {base : Nat} {spare : Nat → Bool} {held : Bool}

theorem open_arr4 {r : Reach} {b0 : Nat} {t e : TypeId} {v : Value} {d : DataW H} {p : List MemPlace} (ht : P.underlying t = some (.array 4 e)) (he : P.underlying e = some (.int .i64)) (hc : P.cellsOf e = 1) (hC4 : P.cellsOf t = 4)
    (hv : Value.okWide P w r b0 t v) (h : DataW.Trod enc P w base spare held t v d p) :
    ∃ x0 x1 x2 x3 : Int, v = .agg #[.int .i64 x0, .int .i64 x1, .int .i64 x2, .int .i64 x3] := by
  simp only [Value.okWide, ht] at hv
  obtain ⟨cs, rfl, hsz, _⟩ := hv
  obtain ⟨fuel, hf⟩ := h
  obtain ⟨xs, m, _, _, _, hlen, hx⟩ := DataW.trod_array ht hf
  obtain ⟨l⟩ := cs
  have hl : l.length = P.cellsOf t := by simpa using hsz
  rw [hc] at hx
  have h0 := hx 0 (by decide)
  have h1 := hx 1 (by decide)
  have h2 := hx 2 (by decide)
  have h3 := hx 3 (by decide)
  have key : ∀ i, i < 4 → ∃ y, DataW.trod enc P w base spare held m e (((Value.agg l.toArray).cells.toList.drop (i * 1)).take 1) = some y := by
    intro i hi
    have := hx i hi
    cases hxi : xs[i]? with
    | none =>
      have := List.getElem?_eq_none_iff.1 hxi
      omega
    | some y => exact ⟨y, by rw [this, hxi]⟩
  have get : ∀ i, i < 4 → ∃ x : Int, l[i]? = some (.int .i64 x) := by
    intro i hi
    obtain ⟨y, hy⟩ := key i hi
    obtain ⟨n, hn, _, _⟩ := DataW.trod_int he hy
    refine ⟨n, ?_⟩
    have e : (Value.agg l.toArray).cells.toList = l := rfl
    rw [e, Nat.mul_one] at hn
    have : (l.drop i)[0]? = some (.int .i64 n) := by
      have h' : ((l.drop i).take 1)[0]? = some (.int .i64 n) := by rw [hn]; rfl
      rwa [List.getElem?_take_of_lt (by decide)] at h'
    simpa using this
  obtain ⟨x0, e0⟩ := get 0 (by decide)
  obtain ⟨x1, e1⟩ := get 1 (by decide)
  obtain ⟨x2, e2⟩ := get 2 (by decide)
  obtain ⟨x3, e3⟩ := get 3 (by decide)
  have hl4 : l.length = 4 := hl.trans hC4
  refine ⟨x0, x1, x2, x3, ?_⟩
  match l, hl4, e0, e1, e2, e3 with
  | [a, b, c, d], _, e0, e1, e2, e3 =>
    simp at e0 e1 e2 e3
    subst e0 e1 e2 e3
    rfl

/-- A slice whose elements are structs of so many numbers: its cells. -/
theorem open_numrows {t e : TypeId} {fs : Array Field} {v : Value} {d : DataW H} {p : List MemPlace} {a0 : Option Addr} {len0 cap0 : Nat} (ht : P.underlying t = some (.slice e)) (he : P.underlying e = some (.struct fs))
    (hk : ∀ (j : Nat) (f : Field), fs[j]? = some f → P.underlying f.type = some (.int .i64) ∧ f.offset = j ∧ P.cellsOf f.type = 1) (hC : P.cellsOf e = fs.size) (hpos : 0 < fs.size) (hv : v = .slice a0 len0 cap0)
    (h : DataW.Trod enc P w base spare held t v d p) :
    len0 ≤ maxLen ∧ (0 < len0 → ∃ b off, a0 = some ⟨b, off, none⟩ ∧ base ≤ b ∧ ∀ i j, i < len0 → j < fs.size → ∃ x : Int, w.cell? ⟨b, off + (i * fs.size + j), none⟩ = some (.int .i64 x) ∧ (Lit.int .i64 x).wf = true) := by
  obtain ⟨fuel, hf⟩ := h
  subst hv
  rcases open_slice ht hf with ⟨hcs, _⟩ | ⟨a, len, cap, m, n, D, Pl, hcs, hb, hl, hm, hmm, _, hi⟩
  · simp [Value.cells] at hcs
    obtain ⟨rfl, rfl, rfl⟩ := hcs
    exact ⟨Nat.zero_le _, fun h => absurd h (by omega)⟩
  · simp [Value.cells] at hcs
    obtain ⟨rfl, rfl, rfl⟩ := hcs
    refine ⟨Nat.le_trans hl hm, fun h0 => ?_⟩
    have hlm : len0 ≤ m := by rw [hmm]; split <;> omega
    have key : ∀ i j, i < len0 → j < fs.size → ∃ x : Int, w.cell? (a.add (i * fs.size + j)) = some (.int .i64 x) ∧ (Lit.int .i64 x).wf = true := by
      intro i j hi' hj
      obtain ⟨cs', hc, ht'⟩ := hi i (by omega)
      rw [hC] at hc
      obtain ⟨ys, n', hn', hy, hlen, hyl, hff⟩ := DataW.trod_struct he ht'
      obtain ⟨_, hcl, hat⟩ := World.cells?_some hc
      obtain ⟨f, hfj⟩ : ∃ f, fs[j]? = some f := ⟨fs[j], Array.getElem?_eq_getElem hj⟩
      obtain ⟨hu, ho, hk1⟩ := hk j f hfj
      have h1 := hff j f hfj
      rw [ho, hk1] at h1
      have hone' : (cs'.drop j).take 1 = [cs'[j]'(by omega)] := by
        rw [List.drop_eq_getElem_cons (by omega)]
        rfl
      rw [hone', List.getElem?_eq_getElem (by omega)] at h1
      obtain ⟨x, hx, _, wx⟩ := DataW.trod_int hu h1
      refine ⟨x, ?_, wx⟩
      rw [← Go.Deep.add_add, hat j hj, List.getElem?_eq_getElem (by omega)]
      simpa using hx
    obtain ⟨b, off, spot⟩ := a
    obtain ⟨x, hx, _⟩ := key 0 0 h0 (by omega)
    have hspot : spot = none := by simpa [Addr.add] using World.cell?_spot hx
    subst hspot
    refine ⟨b, off, rfl, hb, fun i j hi' hj => ?_⟩
    obtain ⟨x, hx, wx⟩ := key i j hi' hj
    refine ⟨x, ?_, wx⟩
    have e : (⟨b, off, none⟩ : Addr).add (i * fs.size + j) = ⟨b, off + (i * fs.size + j), none⟩ := by
      simp [Addr.add]
    rwa [e] at hx

theorem int_bounds {x : Int} (h : (Lit.int .i64 x).wf = true) : -9223372036854775808 ≤ x ∧ x ≤ 9223372036854775807 := by
  simp [Lit.wf, IntKind.min, IntKind.max, IntKind.signed, IntKind.bits] at h
  exact ⟨by omega, by omega⟩

theorem numfields4 {P : Program} {f0 f1 f2 f3 : Field} (h : (decide (f0.offset = 0) && decide (f1.offset = 1) && decide (f2.offset = 2) && decide (f3.offset = 3) && decide (f0.type = f1.type) && decide (f1.type = f2.type) && decide (f2.type = f3.type)) = true)
    (hu : P.underlying f0.type = some (.int .i64)) (hc : P.cellsOf f0.type = 1) : ∀ (j : Nat) (f : Field), #[f0, f1, f2, f3][j]? = some f → P.underlying f.type = some (.int .i64) ∧ f.offset = j ∧ P.cellsOf f.type = 1 := by
  simp only [Bool.and_eq_true, decide_eq_true_eq] at h
  obtain ⟨⟨⟨⟨⟨⟨o0, o1⟩, o2⟩, o3⟩, t1⟩, t2⟩, t3⟩ := h
  intro j f hj
  match j, hj with
  | 0, hj => simp at hj; subst hj; exact ⟨hu, o0, hc⟩
  | 1, hj => simp at hj; subst hj; rw [← t1]; exact ⟨hu, o1, hc⟩
  | 2, hj => simp at hj; subst hj; rw [← t2, ← t1]; exact ⟨hu, o2, hc⟩
  | 3, hj => simp at hj; subst hj; rw [← t3, ← t2, ← t1]; exact ⟨hu, o3, hc⟩

theorem cmds_of {v : Value} {a0 : Option Addr} {len0 cap0 : Nat} (hv : v = .slice a0 len0 cap0)
    (h : 0 < len0 → ∃ b off, a0 = some ⟨b, off, none⟩ ∧ base ≤ b ∧ ∀ i j, i < len0 → j < 4 → ∃ x : Int, w.cell? ⟨b, off + (i * 4 + j), none⟩ = some (.int .i64 x) ∧ (Lit.int .i64 x).wf = true) :
    ∃ (cs : List (Int × Int × Int × Int)) (b : Nat), CmdsAt w v cs b ∧ cs.length = len0 := by
  by_cases h0 : len0 = 0
  · subst h0
    exact ⟨[], 0, ⟨a0, cap0, hv, fun h => absurd h (by simp)⟩, rfl⟩
  · obtain ⟨b, off, rfl, _, hc⟩ := h (by omega)
    obtain ⟨f, hf⟩ := choose_lt (α := Int × Int × Int × Int) (p := fun i x => w.cell? ⟨b, off + i * 4, none⟩ = some (.int .i64 x.1) ∧ w.cell? ⟨b, off + i * 4 + 1, none⟩ = some (.int .i64 x.2.1) ∧ w.cell? ⟨b, off + i * 4 + 2, none⟩ = some (.int .i64 x.2.2.1) ∧ w.cell? ⟨b, off + i * 4 + 3, none⟩ = some (.int .i64 x.2.2.2)) (fun i hi => by
      obtain ⟨x0, h0, _⟩ := hc i 0 hi (by decide)
      obtain ⟨x1, h1, _⟩ := hc i 1 hi (by decide)
      obtain ⟨x2, h2, _⟩ := hc i 2 hi (by decide)
      obtain ⟨x3, h3, _⟩ := hc i 3 hi (by decide)
      exact ⟨(x0, x1, x2, x3), h0, h1, h2, h3⟩)
    refine ⟨(List.range len0).map f, b, ⟨some ⟨b, off, none⟩, cap0, by simpa using hv, fun _ => ⟨off, rfl, ?_, fun j hj => ?_⟩⟩, by simp⟩
    · exact World.block_lt_of_cell? _ _ (hf 0 (by omega)).1
    · have hj' : j < len0 := by simpa using hj
      have e : ((List.range len0).map f).getD j (0, 0, 0, 0) = f j := by simp [List.getD_eq_getElem?_getD, hj']
      rw [e]
      exact hf j hj'

theorem open_intsAt {t e : TypeId} {v : Value} {d : DataW H} {p : List MemPlace} {r : Reach} {b0 : Nat} (ht : P.underlying t = some (.slice e)) (he : P.underlying e = some (.int .i64)) (hc : P.cellsOf e = 1)
    (hv : Value.okWide P w r b0 t v) (h : DataW.Trod enc P w base spare held t v d p) :
    ∃ (ls : List Int) (b : Nat), IntsAt w v ls b ∧ ls.length ≤ 9223372036854775807 ∧ ∀ x ∈ ls, (Lit.int .i64 x).wf = true := by
  obtain ⟨a, len, cap, rfl⟩ := okWide_slice ht hv
  obtain ⟨fuel, hf⟩ := h
  rcases open_ints ht he hc hf with ⟨hcs, _⟩ | ⟨x, l, c, zs, hcs, _, hl, hm, hz, _, hcell, hwz⟩
  · simp [Value.cells] at hcs
    obtain ⟨rfl, rfl, rfl⟩ := hcs
    exact ⟨[], 0, ⟨none, 0, rfl, fun h => absurd h (by simp)⟩, by simp, by simp⟩
  · simp [Value.cells] at hcs
    obtain ⟨rfl, rfl, rfl⟩ := hcs
    unfold maxLen at hm
    have hlz : len ≤ zs.length := by rw [hz]; split <;> omega
    have hlen : (zs.take len).length = len := by simp; omega
    by_cases h0 : len = 0
    · subst h0
      exact ⟨[], 0, ⟨some x, cap, rfl, fun h => absurd h (by simp)⟩, by simp, by simp⟩
    · obtain ⟨b, off, spot⟩ := x
      have h1 := hcell 0 (by omega)
      have hspot : spot = none := by simpa [Addr.add] using World.cell?_spot h1
      subst hspot
      have hadd : ∀ j, (⟨b, off, none⟩ : Addr).add j = ⟨b, off + j, none⟩ := by
        intro j; simp [Addr.add]
      refine ⟨zs.take len, b, ⟨some ⟨b, off, none⟩, cap, by rw [hlen], fun _ => ⟨off, rfl, ?_, fun j hj => ?_⟩⟩, by omega, fun x hx => hwz x (List.mem_of_mem_take hx)⟩
      · exact World.block_lt_of_cell? _ _ h1
      · have hj' : j < len := by omega
        have := hcell j (by omega)
        rw [hadd] at this
        rw [this]
        simp [List.getD_eq_getElem?_getD, hj']

end
end Go.Proofs.Ytojceddgmmapdaa
