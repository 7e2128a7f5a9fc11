/-
  Noughts made by a law: bytes, a text of them.
-/
import Derived.Test.YtadpeopbfoppjaaDA
namespace Go.Proofs.Ytadpeopbfoppjaa
open Go.RowKit

theorem make_u8 (n : Nat) (hn : n ≤ 1000000) (x : Int) (hx : x = (n : Int)) (W : World) : (Instr.makeSlice 30 (.int .i64 x) (.int .i64 x)).run Try.prog W = .ok (.slice (some ⟨W.heap.size, 0, none⟩) n n) (W.alloc (.cells (Array.replicate n (.int .u8 0)) 5)) := by
  subst hx
  obtain ⟨i0, hi, hz0, hz1, hz2⟩ := info_parts Try.infoU8
  have h := run_make W 30 5 i0 _ Try.underlying30 hi hz0 .i64 .i64 (n : Int) (n : Int) (by omega) (by omega) (by rw [hz2]; omega) (by omega)
  rw [h, hz1, Int.toNat_natCast, madeCells_const _ (.int .u8 0) _ (by decide) (by intro j hj; match j, hj with | 0, _ => rfl)]
  simp

def zs (n : Nat) : ByteArray := str (List.replicate n 0)

theorem zs_conv (w : World) (g n : Nat) (hb : Blk w g (Array.replicate n (.int .u8 0)) 5) : (convert 30 9 (.slice (some ⟨g, 0, none⟩) n n)).run Try.prog w = .ok (.string (zs n)) w := by
  have h := run_convert_bytes_back (P := Try.prog) w 30 9 5 ⟨g, 0, none⟩ n (List.replicate n 0) Try.underlying30 Try.underlying5 Try.underlying9 (fun j hj => by
    rw [Addr.add_lit, Nat.zero_add]
    refine hb.cell ?_
    have : j < n := by simpa using hj
    simp [this])
  rwa [List.length_replicate] at h

end Go.Proofs.Ytadpeopbfoppjaa
