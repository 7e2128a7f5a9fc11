/-
  What the drive's Do leaves (the words of its contract).
-/
import Derived.Test.YtojceddgmmapdaaD7A
namespace Go.Proofs.Ytojceddgmmapdaa
open Go.RowKit

theorem Try.infoU8 : (Try.prog.info? 5).map (fun i => (i.zero, i.size, i.bytes)) = some (some (.int .u8 0), 1, 1) := by kernel_rfl

def DPost (bd bm bz bb bl : Nat) (vs : List Value) (r : (ByteArray × Int × Int) × Dv) (w : World) (e : Ending) (w' : World) : Prop :=
  e = .returned (.tuple #[.string r.1.1, .int .i64 r.1.2.1, .int .i64 r.1.2.2]) ∧ ∃ vs', IsD w' bd bm bz bb bl r.2 vs' ∧ Mod (feet bd bm bz bb bl vs) w w' ∧ ∀ x ∈ feet bd bm bz bb bl vs', x ∈ feet bd bm bz bb bl vs ∨ w.heap.size ≤ x

theorem results_tmp3 {fn : Func} {t u v : Tmp} (h : fn.results = #[.tmp t, .tmp u, .tmp v]) (tmps : Array Value) (P : Program) (w : World) :
    (results fn tmps).run P w = .ok (.tuple #[tmps.getD t undef, tmps.getD u undef, tmps.getD v undef]) w := by
  simp [results, h]

theorem feet_set {bd bm bz bb bl : Nat} {vs : List Value} {i x : Nat} {v : Value} (h : x ∈ feet bd bm bz bb bl (vs.set i v)) : x ∈ feet bd bm bz bb bl vs ∨ v.ownBlock = some x := by
  rcases List.mem_append.1 h with h | h
  · exact .inl (List.mem_append_left _ h)
  · obtain ⟨v', hv', hx⟩ := List.mem_filterMap.1 h
    rcases List.mem_or_eq_of_mem_set hv' with hv' | rfl
    · exact .inl (List.mem_append_right _ (List.mem_filterMap.2 ⟨v', hv', hx⟩))
    · exact .inr hx

theorem bc_get (l : List UInt8) (j : Nat) (h : j < l.length) : (bc l)[j]? = some (.int .u8 ((l[j]).toNat : Int)) := by
  simp [bc, h]

theorem do_read7 (m : Mc) (z a n : Int) (he : (doF m 7 z a n).1.2 = 0) : doF m 7 z a n = ((a, 0), m) := by
  revert he
  unfold doF
  rw [if_neg (by decide)]
  split
  · exact fun he => by simp at he
  · have hv : verbF m 7 z.toNat a n = if !spanF a n (m.ln z.toNat) then ((0, 2), m) else ((a, 0), m) := by
      unfold verbF
      rw [if_neg (by decide), if_neg (by decide), if_neg (by decide), if_neg (by decide), if_neg (by decide), if_neg (by decide)]
    rw [hv]
    split
    · exact fun he => by simp at he
    · exact fun _ => rfl

end Go.Proofs.Ytojceddgmmapdaa
