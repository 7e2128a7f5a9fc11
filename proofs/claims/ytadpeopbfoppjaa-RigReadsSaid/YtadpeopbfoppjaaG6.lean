/-
  Walks of the rig's reach, Do, Flush.
-/
import Derived.Test.YtadpeopbfoppjaaG5
namespace Go.Proofs.Ytadpeopbfoppjaa
open Go.RowKit

def ReachPost (P : Pl) (r : Rg) (n : Int) (ch : Bool) (w : World) (e : Ending) (w' : World) : Prop :=
  ∃ pv, e = .returned (.tuple #[pv, .int .i64 (greachF r n ch).1]) ∧ ((greachF r n ch).1 = 0 → thereF r n = true ∧ pv = .pointer (some ⟨P.ps.getD n.toNat 0, 0, none⟩)) ∧ RStep w w' P (greachF r n ch).2

set_option maxHeartbeats 1000000 in
theorem greach_any {P : Pl} {r : Rg} {w : World} (n : Int) (ch : Bool) (hI : IsR w P r) (hl : r.live) :
    Calls Try.prog 24 #[.pointer (some ⟨P.br, 0, none⟩), .int .i64 n, .bool ch] w (ReachPost P r n ch w) := by
  have HI := Lib.hid hI; clear hI
  have Hl := Lib.hid hl; clear hl
  rcases thereF_cases r n with ⟨i, rfl, hi, ht⟩ | ht
  · have hdr := Lib.hid (HI.out.each i hi)
    obtain ⟨bd, hbd⟩ : ∃ bd, P.ps.getD i 0 = bd := ⟨_, rfl⟩
    have Hbd := Lib.hid hbd
    obtain ⟨D, hD⟩ : ∃ D, r.ds.getD i dv0 = D := ⟨_, rfl⟩
    have HD := Lib.hid hD
    rw [hbd, hD] at hdr
    have hat : Hid (Calls Try.prog 27 #[.pointer (some ⟨P.br, 0, none⟩), .int .i64 i] w fun e w' => e = .returned (.pointer (some ⟨bd, 0, none⟩)) ∧ w = w') := by
      rw [← hbd]; exact gat_there HI.out hi
    clear hbd hD
    have c3 := HI.out.cells.c3
    have hlb := HI.out.cells.lt
    have Ht := Lib.hid ht
    clear ht hi
    cases ho : r.off with
    | true =>
      have hf : greachF r (i : Int) ch = (6, r) := by unfold greachF; rw [Ht.out, ho]; rfl
      have Hf := Lib.hid hf
      rw [ho] at c3
      clear hf ho
      go_enter Try.func24, Try.ntmps24
      go_wp2_with fail
      refine hat.out.mono ?_
      rintro e w1 ⟨rfl, rfl⟩
      go_wp2_with fail
      go_ret2
      exact ⟨.pointer none, by rw [Hf.out]; rfl, fun h => absurd h (by rw [Hf.out]; simp), by rw [Hf.out]; exact .same HI.out (Mod.refl _ _)⟩
    | false =>
      rw [ho] at c3
      cases hd : D.dead with
      | true =>
        have hf : greachF r (i : Int) ch = (7, r) := by
          unfold greachF; rw [Ht.out, ho, Int.toNat_natCast, HD.out, hd]; rfl
        have Hf := Lib.hid hf
        have Hd := Lib.hid hd
        clear hf ho hd
        go_enter Try.func24, Try.ntmps24
        go_wp2_with fail
        refine hat.out.mono ?_
        rintro e w1 ⟨rfl, rfl⟩
        go_wp2_with fail
        refine (ddeadI hdr.out).mono ?_
        rintro e w1 ⟨rfl, rfl⟩
        rw [Hd.out]
        go_wp2_with fail
        go_ret2
        exact ⟨.pointer none, by rw [Hf.out]; rfl, fun h => absurd h (by rw [Hf.out]; simp), by rw [Hf.out]; exact .same HI.out (Mod.refl _ _)⟩
      | false =>
        cases ch with
        | true =>
          have hf : greachF r (i : Int) true = gstepF r := by
            unfold greachF; rw [Ht.out, ho, Int.toNat_natCast, HD.out, hd]; rfl
          have Hf := Lib.hid hf
          have Hd := Lib.hid hd
          clear hf ho hd
          go_enter Try.func24, Try.ntmps24
          go_wp2_with fail
          refine hat.out.mono ?_
          rintro e w1 ⟨rfl, rfl⟩
          go_wp2_with fail
          refine (ddeadI hdr.out).mono ?_
          rintro e w1 ⟨rfl, rfl⟩
          rw [Hd.out]
          go_wp2_with fail
          refine (gstep_any HI.out Hl.out).mono ?_
          rintro e w1 ⟨rfl, hst⟩
          have Hst := Lib.hid hst
          clear hst
          go_wp2_with fail
          go_ret2
          exact ⟨.pointer (some ⟨bd, 0, none⟩), by rw [Hf.out]; rfl, fun _ => ⟨Ht.out, by rw [Int.toNat_natCast, Hbd.out]⟩, by rw [Hf.out]; exact Hst.out⟩
        | false =>
          have hf : greachF r (i : Int) false = (0, r) := by
            unfold greachF; rw [Ht.out, ho, Int.toNat_natCast, HD.out, hd]; rfl
          have Hf := Lib.hid hf
          have Hd := Lib.hid hd
          clear hf ho hd
          go_enter Try.func24, Try.ntmps24
          go_wp2_with fail
          refine hat.out.mono ?_
          rintro e w1 ⟨rfl, rfl⟩
          go_wp2_with fail
          refine (ddeadI hdr.out).mono ?_
          rintro e w1 ⟨rfl, rfl⟩
          rw [Hd.out]
          go_wp2_with fail
          go_ret2
          exact ⟨.pointer (some ⟨bd, 0, none⟩), by rw [Hf.out]; rfl, fun _ => ⟨Ht.out, by rw [Int.toNat_natCast, Hbd.out]⟩, by rw [Hf.out]; exact .same HI.out (Mod.refl _ _)⟩
  · have hf : greachF r n ch = (1, r) := by unfold greachF; rw [ht]; rfl
    have Hf := Lib.hid hf
    clear hf
    go_enter Try.func24, Try.ntmps24
    go_wp2_with fail
    refine (gat_no HI.out ht).mono ?_
    rintro e w1 ⟨rfl, rfl⟩
    go_wp2_with fail
    go_ret2
    exact ⟨.pointer none, by rw [Hf.out]; rfl, fun h => absurd h (by rw [Hf.out]; simp), by rw [Hf.out]; exact .same HI.out (Mod.refl _ _)⟩

theorem greach_none (n : Int) (ch : Bool) (w : World) :
    Calls Try.prog 24 #[.pointer none, .int .i64 n, .bool ch] w fun e w' => e = .returned (.tuple #[.pointer none, .int .i64 1]) ∧ w = w' := by
  go_enter Try.func24, Try.ntmps24
  go_wp2_with fail
  refine (gat_none n _).mono ?_
  rintro e w1 ⟨rfl, rfl⟩
  go_wp2_with fail
  go_ret2
  exact ⟨rfl, rfl⟩

/-- A drive's step within a rig's. -/
theorem RStep.drv {w w1 : World} {P : Pl} {r : Rg} {i : Nat} {d' : Dv} (h : IsR w P r) (hi : i < r.ds.length) (hs : DrvStep w w1 (P.ps.getD i 0) (P.Fs.getD i []) d') : RStep w w1 P (r.put i d') := by
  obtain ⟨F', h1, h2, h3⟩ := hs
  exact ⟨{ P with Fs := P.Fs.set i F' }, ⟨rfl, rfl⟩, h.drive hi h1 h2 h3, h2.mono (fun x _ hx => h.feet_of hi hx), h.drive_feet hi h3⟩

theorem gstep_len (r : Rg) : (gstepF r).2.ds.length = r.ds.length := by
  unfold gstepF
  split
  · rfl
  · split
    · simp [gfailF]
    · rfl
theorem greach_len (r : Rg) (n : Int) (ch : Bool) : (greachF r n ch).2.ds.length = r.ds.length := by
  unfold greachF
  repeat' split
  all_goals first | rfl | exact gstep_len r

def GDoPost (P : Pl) (q : (ByteArray × Int × Int) × Rg) (w : World) (e : Ending) (w' : World) : Prop :=
  e = .returned (.tuple #[.string q.1.1, .int .i64 q.1.2.1, .int .i64 q.1.2.2]) ∧ RStep w w' P q.2

set_option maxHeartbeats 1000000 in
theorem gdo_any {P : Pl} {r : Rg} {w : World} (n k z a l : Int) (s : ByteArray) (hI : IsR w P r) (hl : r.live) (hs : s.size ≤ 9223372036854775807) :
    Calls Try.prog 10 #[.pointer (some ⟨P.br, 0, none⟩), .int .i64 n, .agg #[.int .i64 k, .int .i64 z, .int .i64 a, .int .i64 l], .string s] w (GDoPost P (gdoF r n k z a l s) w) := by
  have HI := Lib.hid hI; clear hI
  have Hl := Lib.hid hl; clear hl
  have hne : (k != 7) = !(k == 7) := rfl
  obtain ⟨c, hc⟩ : ∃ c, (!(k == 7)) = c := ⟨_, rfl⟩
  have hkc : (k != 7) = c := hne.trans hc
  have Hc := Lib.hid hc
  clear hne hc
  have hst0 : ∀ (w1 : World) (q : Rg), RStep (w.alloc (.cells #[.int .i64 k, .int .i64 z, .int .i64 a, .int .i64 l] 34)) w1 P q → RStep w w1 P q := by
    intro w1 q hst
    obtain ⟨P', h1, h2, h3, h4⟩ := hst
    exact ⟨P', h1, h2, ((Mod.refl P.feet w).alloc _).trans' h3, fun x hx => (h4 x hx).imp_right (fun h => by simp at h; omega)⟩
  have Hst0 := Lib.hid hst0
  clear hst0
  have hcs : ∀ (w1 : World) (q : Rg), RStep (w.alloc (.cells #[.int .i64 k, .int .i64 z, .int .i64 a, .int .i64 l] 34)) w1 P q → Blk w1 w.heap.size #[.int .i64 k, .int .i64 z, .int .i64 a, .int .i64 l] 34 := by
    intro w1 q hst
    obtain ⟨P', h1, h2, h3, h4⟩ := hst
    exact h3.blk (Blk.new w _ _) (fun hx => by have := HI.out.lt _ hx; omega)
  go_enter Try.func10, Try.ntmps10
  go_wp2_with fail
  refine (greach_any n c (HI.out.same ((Mod.refl [] w).alloc _)) Hl.out).mono ?_
  rintro e w1 ⟨pv, rfl, hpv, hst⟩
  have hb := hcs _ _ hst
  have q0 := hb.cell (i := 0) rfl
  have q1 := hb.cell (i := 1) rfl
  have q2 := hb.cell (i := 2) rfl
  have q3 := hb.cell (i := 3) rfl
  have hlw := hb.lt
  have Hst : Hid (RStep w w1 P (greachF r n c).2) := Hst0.out _ _ hst
  have Hpv := Lib.hid hpv
  clear hst hpv hb hcs
  by_cases he : (greachF r n c).1 = 0
  · have hf : gdoF r n k z a l s = ((ddoF ((greachF r n c).2.ds.getD n.toNat dv0) k z a l s).1, (greachF r n c).2.put n.toNat (ddoF ((greachF r n c).2.ds.getD n.toNat dv0) k z a l s).2) := by
      unfold gdoF; rw [Hc.out, if_neg (by simpa using he)]
    have Hf := Lib.hid hf
    obtain ⟨ht, rfl⟩ := Hpv.out he
    have hi : n.toNat < r.ds.length := by
      simp only [thereF, Bool.and_eq_true, decide_eq_true_eq] at ht; omega
    have Hi := Lib.hid hi
    obtain ⟨P', h1, h2, h3, h4⟩ := Hst.out
    have H2 := Lib.hid h2
    have hdr := h2.each n.toNat (by rw [greach_len]; exact hi)
    rw [h1.2] at hdr
    have Hdr := Lib.hid hdr
    rw [he]
    clear hf he hi ht hdr h2
    generalize (greachF r n c).2.ds.getD n.toNat dv0 = D at *
    have H1 := Lib.hid h1
    have H3 := Lib.hid h3
    have H4 := Lib.hid h4
    clear h1 h3 h4 hkc
    go_wp2_with fail
    refine (ddoI k z a l s Hdr.out hs).mono ?_
    rintro e w2 ⟨rfl, hst⟩
    have Hst2 := Lib.hid hst
    clear hst
    go_wp2_with fail
    refine bodyPost_ret (results_tmp3 rfl _ _ _) rfl ?_
    rw [Hf.out]
    exact ⟨rfl, RStep.from H1.out H3.out H4.out (RStep.drv H2.out (by rw [greach_len]; exact Hi.out) (by rw [H1.out.2]; exact Hst2.out))⟩
  · have hf : gdoF r n k z a l s = ((ByteArray.empty, 0, (greachF r n c).1), (greachF r n c).2) := by
      unfold gdoF; rw [Hc.out, if_pos he]
    have Hf := Lib.hid hf
    have heb : ((greachF r n c).1 != 0) = true := by simpa using he
    clear hf he hkc
    go_wp2_with fail
    refine bodyPost_ret (results_tmp3 rfl _ _ _) rfl ?_
    rw [Hf.out]
    exact ⟨rfl, Hst.out⟩

theorem gdo_none (n k z a l : Int) (s : ByteArray) (w : World) :
    Calls Try.prog 10 #[.pointer none, .int .i64 n, .agg #[.int .i64 k, .int .i64 z, .int .i64 a, .int .i64 l], .string s] w fun e w' => e = .returned (.tuple #[.string ByteArray.empty, .int .i64 0, .int .i64 1]) ∧ Below w.heap.size w w' := by
  obtain ⟨c, hc⟩ : ∃ c, (k != 7) = c := ⟨_, rfl⟩
  go_enter Try.func10, Try.ntmps10
  go_wp2_with fail
  refine (greach_none n c _).mono ?_
  rintro e w1 ⟨rfl, rfl⟩
  go_wp2_with fail
  refine bodyPost_ret (results_tmp3 rfl _ _ _) rfl ?_
  exact ⟨rfl, (Below.refl _ _).alloc (Nat.le_refl _) _⟩

theorem gflush_none (n : Int) (w : World) : Calls Try.prog 13 #[.pointer none, .int .i64 n] w fun e w' => e = .returned (.int .i64 1) ∧ w = w' := by
  go_enter Try.func13, Try.ntmps13
  go_wp2_with fail
  refine (greach_none n true _).mono ?_
  rintro e w1 ⟨rfl, rfl⟩
  go_wp2_with fail
  go_ret
  exact ⟨rfl, rfl⟩

set_option maxHeartbeats 1000000 in
theorem gflush_any {P : Pl} {r : Rg} {w : World} (n : Int) (hI : IsR w P r) (hl : r.live) :
    Calls Try.prog 13 #[.pointer (some ⟨P.br, 0, none⟩), .int .i64 n] w fun e w' => e = .returned (.int .i64 (gflushF r n).1) ∧ RStep w w' P (gflushF r n).2 := by
  have HI := Lib.hid hI; clear hI
  have Hl := Lib.hid hl; clear hl
  go_enter Try.func13, Try.ntmps13
  go_wp2_with fail
  refine (greach_any n true HI.out Hl.out).mono ?_
  rintro e w1 ⟨pv, rfl, hpv, hst⟩
  have Hst := Lib.hid hst
  have Hpv := Lib.hid hpv
  clear hst hpv
  by_cases he : (greachF r n true).1 = 0
  · have hf : gflushF r n = ((dflushF ((greachF r n true).2.ds.getD n.toNat dv0)).1, (greachF r n true).2.put n.toNat (dflushF ((greachF r n true).2.ds.getD n.toNat dv0)).2) := by
      unfold gflushF; rw [if_neg (by simpa using he)]
    have Hf := Lib.hid hf
    obtain ⟨ht, rfl⟩ := Hpv.out he
    have hi : n.toNat < r.ds.length := by
      simp only [thereF, Bool.and_eq_true, decide_eq_true_eq] at ht; omega
    have Hi := Lib.hid hi
    obtain ⟨P', h1, h2, h3, h4⟩ := Hst.out
    have H2 := Lib.hid h2
    have hdr := h2.each n.toNat (by rw [greach_len]; exact hi)
    rw [h1.2] at hdr
    have Hdr := Lib.hid hdr
    rw [he]
    clear hf he hi ht hdr h2
    generalize (greachF r n true).2.ds.getD n.toNat dv0 = D at *
    have H1 := Lib.hid h1
    have H3 := Lib.hid h3
    have H4 := Lib.hid h4
    clear h1 h3 h4
    go_wp2_with fail
    refine (dflushI Hdr.out).mono ?_
    rintro e w2 ⟨rfl, hst⟩
    have Hst2 := Lib.hid hst
    clear hst
    go_wp2_with fail
    go_ret
    rw [Hf.out]
    exact ⟨rfl, RStep.from H1.out H3.out H4.out (RStep.drv H2.out (by rw [greach_len]; exact Hi.out) (by rw [H1.out.2]; exact Hst2.out))⟩
  · have hf : gflushF r n = ((greachF r n true).1, (greachF r n true).2) := by
      unfold gflushF; rw [if_pos he]
    have Hf := Lib.hid hf
    have heb : ((greachF r n true).1 != 0) = true := by simpa using he
    clear hf he
    go_wp2_with fail
    go_ret
    rw [Hf.out]
    exact ⟨rfl, Hst.out⟩

end Go.Proofs.Ytadpeopbfoppjaa
