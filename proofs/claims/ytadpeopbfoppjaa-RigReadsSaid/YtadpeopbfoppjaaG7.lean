/-
  Walks of the rig's On, Cut, Crash.
-/
import Derived.Test.YtadpeopbfoppjaaG6
namespace Go.Proofs.Ytadpeopbfoppjaa
open Go.RowKit

theorem gon_any {P : Pl} {r : Rg} {w : World} (hI : IsR w P r) :
    Calls Try.prog 18 #[.pointer (some ⟨P.br, 0, none⟩)] w fun e w' => e = .returned (.tuple #[]) ∧ RStep w w' P (gonF r) := by
  have c2 := hI.cells.c2
  have c3 := hI.cells.c3
  have f2 := hI.rig.frozen 2
  have f3 := hI.rig.frozen 3
  have hlb := hI.rig.lt
  have HI := Lib.hid hI; clear hI
  go_enter Try.func18, Try.ntmps18
  go_wp2_with fail
  refine bodyPost_end (results_none rfl _ _ _) rfl ⟨rfl, ?_⟩
  have key : RStep w ((w.setCell ⟨P.br, 3, none⟩ (.bool false)).setCell ⟨P.br, 2, none⟩ (.pointer none)) P (gonF r) :=
    RStep.heads (sv' := .pointer none) (G' := []) HI.out (mod_put.trans' mod_put) rfl rfl (by simp) (by simp) ((HI.out.rig.set 3 _).set 2 _)
  first | exact key | exact key.same' ((Mod.refl [] _).drew)

theorem gcrash_none (kv : Value) (w : World) : Calls Try.prog 17 #[.pointer none, kv] w fun e w' => e = .returned (.tuple #[]) ∧ w = w' := by
  go_enter Try.func17, Try.ntmps17
  go_wp2_with fail
  exact bodyPost_end (results_none rfl _ _ _) rfl ⟨rfl, rfl⟩

theorem gcrash_any {P : Pl} {r : Rg} {w : World} (keep : List Int) (kv : Value) (b : Nat) (hI : IsR w P r) (hK : IntsAt w kv keep b) (hb : 0 < keep.length → b < w.heap.size ∧ b ≠ P.br ∧ b ∉ P.own ∧ b ∉ P.Fs.flatten) (hk : KeepOk keep) (hc : CapOk kv) :
    Calls Try.prog 17 #[.pointer (some ⟨P.br, 0, none⟩), kv] w fun e w' => e = .returned (.tuple #[]) ∧ RStep w w' P (gcrashF r keep) := by
  have HI := Lib.hid hI; clear hI
  have HK := Lib.hid hK; have Hb := Lib.hid hb; have Hk := Lib.hid hk; have Hc := Lib.hid hc
  clear hK hb hk hc
  go_enter Try.func17, Try.ntmps17
  go_wp2_with fail
  refine (gfail_any keep kv b HI.out HK.out Hb.out Hk.out Hc.out).mono ?_
  rintro e w1 ⟨rfl, P', h1, h2, h3, h4⟩
  have c3 := h2.cells.c3
  have f3 := h2.rig.frozen 3
  have hlb := h2.rig.lt
  rw [h1.1] at c3 f3 hlb
  have H1 := Lib.hid h1; have H2 := Lib.hid h2; have H3 := Lib.hid h3; have H4 := Lib.hid h4
  clear h1 h2 h3 h4
  go_wp2_with fail
  refine bodyPost_end (results_none rfl _ _ _) rfl ⟨rfl, RStep.from H1.out H3.out H4.out ?_⟩
  have key : RStep w1 (w1.setCell ⟨P'.br, 3, none⟩ (.bool false)) P' (gcrashF r keep) :=
    RStep.heads (sv' := P'.sv) (G' := P'.G) H2.out mod_put rfl (H2.out.set.mod mod_put (fun x hx h => by rw [List.mem_singleton] at h; subst h; exact H2.out.hd1 (List.mem_append_right _ hx))) (fun x hx => .inl hx) (fun x hx => by simpa using H2.out.gs x hx) (H2.out.rig.set 3 _)
  rw [H1.out.1] at key
  first | exact key | exact key.same' ((Mod.refl [] _).drew)

theorem gcut_none (n : Int) (kv : Value) (w : World) : Calls Try.prog 9 #[.pointer none, .int .i64 n, kv] w fun e w' => e = .returned (.tuple #[]) ∧ w = w' := by
  go_enter Try.func9, Try.ntmps9
  go_wp2_with fail
  exact bodyPost_end (results_none rfl _ _ _) rfl ⟨rfl, rfl⟩

set_option maxHeartbeats 1000000 in
theorem gcut_any {P : Pl} {r : Rg} {w : World} (n : Int) (keep : List Int) (kv : Value) (b : Nat) (hI : IsR w P r) (hn : n ≤ 9223372036854775807) (hK : IntsAt w kv keep b) (hk : KeepOk keep) :
    Calls Try.prog 9 #[.pointer (some ⟨P.br, 0, none⟩), .int .i64 n, kv] w fun e w' => e = .returned (.tuple #[]) ∧ RStep w w' P (gcutF r n keep) := by
  have HI := Lib.hid hI; clear hI
  have HK := Lib.hid hK; have Hk := Lib.hid hk
  have hkl := hk.1
  clear hK hk
  have hfin : ∀ (m : Int) (w2 : World) (v' : Value), 0 ≤ m → m ≤ 9223372036854775807 → IntsNew w w2 v' keep → m = max n 1 →
      RStep w ((w2.alloc (.cells #[.int .i64 m, v'] 60)).setCell ⟨P.br, 2, none⟩ (.pointer (some ⟨w2.heap.size, 0, none⟩))) P (gcutF r n keep) := by
    intro m w2 v' hm0 hm1 hnew hmm
    have hmW : Mod [P.br] w ((w2.alloc (.cells #[.int .i64 m, v'] 60)).setCell ⟨P.br, 2, none⟩ (.pointer (some ⟨w2.heap.size, 0, none⟩))) := ((hnew.2.alloc _).mono (by simp)).set (.inl (by simp)) _
    have hrb : Blk (w2.alloc (.cells #[.int .i64 m, v'] 60)) P.br #[P.dv, .int .i64 r.bl, P.sv, .bool r.off, .int .i64 r.cnt] 54 := (hnew.2.blk HI.out.rig (by simp)).alloc _
    have hne : P.br ≠ w2.heap.size := by have := hnew.2.size; have := HI.out.rig.lt; omega
    have hcb : Blk ((w2.alloc (.cells #[.int .i64 m, v'] 60)).setCell ⟨P.br, 2, none⟩ (.pointer (some ⟨w2.heap.size, 0, none⟩))) w2.heap.size #[.int .i64 m, v'] 60 := (Blk.new w2 _ _).set_other (by exact hne) _
    obtain ⟨bk, hi, ho⟩ := ints_owned hnew.1
    have hbr := HI.out.rig.lt
    refine RStep.heads (sv' := .pointer (some ⟨w2.heap.size, 0, none⟩)) (G' := w2.heap.size :: v'.ownBlock.toList) HI.out hmW rfl ?_ ?_ ?_ (hrb.set 2 _)
    · refine ⟨w2.heap.size, bk, v', rfl, by simp, fun h => ⟨?_, ?_⟩, ?_, ?_, cap_owned hnew.1, by omega, by omega, Hk.out⟩
      · rw [(ho h).1]; simp
      · have := ownsRow_lt hnew.1 (ho h).1; omega
      · rw [← hmm]; exact hcb
      · exact (hi.mod' ((Mod.refl [] w2).alloc _) (by simp)).mod' (mod_put (b := P.br)) (fun h => by
          have := (ho h).2
          rw [List.mem_singleton]; omega)
    · intro x hx
      rcases List.mem_cons.1 hx with rfl | hx
      · exact .inr hnew.2.size
      · exact .inr ((hnew.1.lt x (Option.mem_toList.1 hx)).1)
    · intro x hx
      rcases List.mem_cons.1 hx with rfl | hx
      · exact hcb.lt
      · have := ownsRow_lt hnew.1 (Option.mem_toList.1 hx)
        simp; omega
  have Hfin := Lib.hid hfin
  clear hfin
  have hlb := HI.out.rig.lt
  have c2 := HI.out.cells.c2
  have f2 := HI.out.rig.frozen 2
  by_cases h1 : 1 ≤ n
  all_goals
    go_enter Try.func9, Try.ntmps9
    go_wp2_with fail
    refine (iclone_any kv keep b w HK.out hkl).mono ?_
    rintro e w2 ⟨v', rfl, hnew⟩
    have g2 : w2.cell? ⟨P.br, 2, none⟩ = some P.sv := (hnew.2.cell hlb (by simp)).trans c2
    have k2 : w2.frozen? ⟨P.br, 2, none⟩ = false := (hnew.2.frozen hlb (by simp)).trans f2
    have hlb2 : P.br < w2.heap.size := Nat.lt_of_lt_of_le hlb hnew.2.size
    obtain ⟨va, vc, rfl⟩ : ∃ va vc, v' = .slice va keep.length vc := by
      obtain ⟨_, ⟨a, c, h, _⟩, _⟩ := ints_owned hnew.1
      exact ⟨a, c, h⟩
    have Hnew := Lib.hid hnew
    clear hnew
    go_wp2_with fail
    refine bodyPost_end (results_none rfl _ _ _) rfl ⟨rfl, ?_⟩
    have hsw := fun (o : Obj) (v : Value) => World.setCell_alloc_past (w := w2) o P.br 2 v hlb2
    have Hsw := Lib.hid hsw
    clear hsw
    first
      | exact Hfin.out n w2 (.slice va keep.length vc) (by omega) (by omega) Hnew.out (by omega)
      | exact Hfin.out 1 w2 (.slice va keep.length vc) (by omega) (by omega) Hnew.out (by omega)
      | (rw [← Hsw.out]; exact Hfin.out n w2 (.slice va keep.length vc) (by omega) (by omega) Hnew.out (by omega))
      | (rw [← Hsw.out]; exact Hfin.out 1 w2 (.slice va keep.length vc) (by omega) (by omega) Hnew.out (by omega))

end Go.Proofs.Ytadpeopbfoppjaa
