/-
  Walk of the law DriveScripts.
-/
import Derived.Test.YtojceddgmmapdaaDR4
import Derived.Test.YtojceddgmmapdaaDR5
import Derived.Test.YtojceddgmmapdaaDA
import Derived.Test.YtojceddgmmapdaaDT
import Derived.Test.YtojceddgmmapdaaDO0
namespace Go.Proofs.Ytojceddgmmapdaa
open Go.RowKit

theorem held_ddo {d : Dv} (h : d.m.held) (hok : d.m.ok) (k z a n : Int) (s : ByteArray) : (ddoF d k z a n s).2.m.held := by
  have hd := held_do h hok k z a n
  unfold ddoF
  split
  · exact h
  · split
    · exact h
    · simp only
      repeat' split
      all_goals exact hd
theorem held_dflush {d : Dv} (h : d.m.held) : (dflushF d).2.m.held := by
  unfold dflushF; split <;> exact h
theorem held_dlose {d : Dv} (hok : d.m.ok) (keep : List Int) : (dloseF d keep).m.held := held_lost hok _

theorem rddo_any (bd bm bz bb bl : Nat) (r : Rv) (vs : List Value) (k z a n : Int) (s : ByteArray) (w : World) (hI : IsRd w bd bm bz bb bl r vs) (hok : r.ok) (hs : s.size ≤ 68719476736) :
    Calls Try.prog 37 #[.pointer (some ⟨bd, 0, none⟩), .agg #[.int .i64 k, .int .i64 z, .int .i64 a, .int .i64 n], .string s] w (RDPost bd bm bz bb bl vs (rddoF r k z a n s) w) := by
  cases hd : r.dead with
  | true => exact rddo_dead bd bm bz bb bl r vs k z a n s w hI hd
  | false =>
    by_cases h1 : (k = 1 ∨ k = 2) ∧ 1073741824 < n
    · exact rddo_bad bd bm bz bb bl r vs k z a n s w hI hd hs (.inl h1)
    · by_cases h2 : (s.size : Int) = (if (k = 1 ∨ k = 2) ∧ 0 < n then 64 * n else 0)
      · exact rddo_live bd bm bz bb bl r vs k z a n s w hI hok hd hs h1 h2
      · exact rddo_bad bd bm bz bb bl r vs k z a n s w hI hd hs (.inr h2)

/-- Both drives, behind a world w1. -/
structure Two (w1 wr : World) (bd bm bz bb bl rd rm rz rb rl : Nat) (d : Dv) (r : Rv) (vs us : List Value) : Prop where
  D : DAt w1 wr bd bm bz bb bl d vs
  R : IsRd wr rd rm rz rb rl r us
  RL : ∀ x ∈ feet rd rm rz rb rl us, w1.heap.size ≤ x
  dj : ∀ x ∈ feet bd bm bz bb bl vs, x ∉ feet rd rm rz rb rl us

theorem Two.same {w1 wr w' : World} {bd bm bz bb bl rd rm rz rb rl : Nat} {d : Dv} {r : Rv} {vs us : List Value} (h : Two w1 wr bd bm bz bb bl rd rm rz rb rl d r vs us) (hm : Mod [] wr w') : Two w1 w' bd bm bz bb bl rd rm rz rb rl d r vs us :=
  ⟨h.D.same hm, h.R.same hm, h.RL, h.dj⟩

theorem Two.stepD {w1 wr w' : World} {bd bm bz bb bl rd rm rz rb rl : Nat} {d d' : Dv} {r : Rv} {vs us : List Value} (h : Two w1 wr bd bm bz bb bl rd rm rz rb rl d r vs us) (hs : DStep w1 wr w' bd bm bz bb bl vs d') : ∃ vs', Two w1 w' bd bm bz bb bl rd rm rz rb rl d' r vs' us := by
  obtain ⟨vs', hD, hm, hf⟩ := hs
  refine ⟨vs', hD, h.R.mod hm (fun x hx hs => h.dj x hs hx), h.RL, fun x hx hx' => ?_⟩
  rcases hf x hx with h1 | h1
  · exact h.dj x h1 hx'
  · have := h.R.feet_lt x hx'; omega

theorem Two.stepR {w1 wr w' : World} {bd bm bz bb bl rd rm rz rb rl : Nat} {d : Dv} {r r' : Rv} {vs us us' : List Value} (h : Two w1 wr bd bm bz bb bl rd rm rz rb rl d r vs us) (hR : IsRd w' rd rm rz rb rl r' us') (hm : Mod (feet rd rm rz rb rl us) wr w') (hf : ∀ x ∈ feet rd rm rz rb rl us', x ∈ feet rd rm rz rb rl us ∨ wr.heap.size ≤ x) : Two w1 w' bd bm bz bb bl rd rm rz rb rl d r' vs us' := by
  refine ⟨h.D.mod hm (fun x hx hx' => h.dj x hx' hx) h.RL, hR, fun x hx => ?_, fun x hx hx' => ?_⟩
  · rcases hf x hx with h1 | h1
    · exact h.RL x h1
    · have := h.D.M.size; omega
  · rcases hf x hx' with h1 | h1
    · exact h.dj x hx h1
    · have := h.D.lt x hx; omega

/-- The document's drive dies. -/
theorem IsRd.die {w : World} {bd bm bz bb bl : Nat} {d : Rv} {vs : List Value} (h : IsRd w bd bm bz bb bl d vs) : IsRd (w.setCell ⟨bd, 3, none⟩ (.bool true)) bd bm bz bb bl { d with dead := true } vs := by
  have hm : Mod [bd] w (w.setCell ⟨bd, 3, none⟩ (.bool true)) := (Mod.refl [bd] w).set (by simp) _
  have hne := h.ne
  simp only [List.nodup_cons, List.mem_cons, List.not_mem_nil, or_false, not_or] at hne
  refine ⟨h.m.mod hm (by simp; omega) (by simp; omega), h.drv.set 3 _, hm.blk h.byt (by simp; omega), hm.blk h.las (by simp; omega), h.nv, h.nb, h.nl, fun i hi => ?_, h.apart, h.off, h.ne⟩
  exact ownsRow_block (h.row i hi) fun g hg => hm.block g (ownsRow_lt (h.row i hi) hg) (by have := h.off i g hi hg; simp at this ⊢; omega)

theorem sim_die {d : Dv} {r : Rv} (h : Sim d r) : Sim { d with dead := true } { r with dead := true } := ⟨h.m, h.la, rfl, h.nb, h.each⟩

set_option maxHeartbeats 8000000 in
set_option maxRecDepth 100000 in
theorem driveScripts_walk (x0 x1 x2 x3 : Int) (v : Value) (xs : List ActD) (b : Nat) (w : World) (hv : ActsAt w v xs b) (_hxl : xs.length ≤ 9223372036854775807) :
    Calls Try.prog 12 #[.agg #[.int .i64 x0, .int .i64 x1, .int .i64 x2, .int .i64 x3], v] w fun e w' => e = .returned (.bool true) ∧ Below w.heap.size w w' := by
  have Hv := Lib.hid hv
  obtain ⟨va, vc, rfl, hvb⟩ := hv
  have Hvb := Lib.hid hvb; clear hvb
  go_enter Try.func12, Try.ntmps12
  go_wp2_with fail
  refine (speaks07_any _).mono ?_
  rintro e w1 ⟨rfl, hb1⟩
  have hbx : Blk w1 w.heap.size #[.int .i64 x0, .int .i64 x1, .int .i64 x2, .int .i64 x3] 22 := hb1.blk (Blk.new w _ _) (by simp)
  have HM1 := Lib.hid (((Mod.refl [] w).alloc (.cells #[.int .i64 x0, .int .i64 x1, .int .i64 x2, .int .i64 x3] 22)).trans' hb1)
  clear hb1
  have c0 := hbx.cell (i := 0) rfl
  have c1 := hbx.cell (i := 1) rfl
  have c2 := hbx.cell (i := 2) rfl
  have c3 := hbx.cell (i := 3) rfl
  have Hbx := Lib.hid hbx; clear hbx
  go_wp2_with fail
  by_cases hok : newOk x0 x1 x2 x3 = true
  · refine (dnewA x0 x1 x2 x3 _ hok).mono ?_
    rintro e w2 ⟨bd, bm, bz, bb, bl, vs, rfl, h2⟩
    have H2 := Lib.hid h2; clear h2
    have hX2 := H2.out.M.blk Hbx.out (by simp)
    clear c0 c1 c2 c3
    have c0 := hX2.cell (i := 0) rfl
    have c1 := hX2.cell (i := 1) rfl
    have c2 := hX2.cell (i := 2) rfl
    have c3 := hX2.cell (i := 3) rfl
    have Hok := Lib.hid hok; clear hok hX2
    go_wp2_with fail
    refine (rdnew_ok x0 x1 x2 x3 _ Hok.out).mono ?_
    rintro e w3 ⟨rd, rm, rz, rb, rl, us, rfl, hR3, hm3, hlo3⟩
    have H3 : Hid (Two w1 w3 bd bm bz bb bl rd rm rz rb rl (dnewF x0 x1 x2 x3) (rnewF x0 x1 x2 x3) vs us) := ⟨H2.out.same hm3, hR3, fun x hx => Nat.le_trans H2.out.M.size (hlo3 x hx), fun x hx hx' => by have := H2.out.lt x hx; have := hlo3 x hx'; omega⟩
    have hrdn : rd < w3.heap.size := hR3.cells.lt.1
    clear hR3 hm3 hlo3 c0 c1 c2 c3
    go_wp2_with fail
    go_loopw [8] (fun s8 wr => ∃ (k : Nat) (d : Dv) (r : Rv) (vs us : List Value), s8 = .int .i64 k ∧ k ≤ xs.length ∧ Two w1 wr bd bm bz bb bl rd rm rz rb rl d r vs us ∧ Sim d r ∧ d.m.held) (fun s8 _ => 200 - (intOf s8).toNat)
    case atStart => exact ⟨0, _, _, vs, us, rfl, Nat.zero_le _, H3.out, sim_new, held_new _ _ _ _⟩
    case round =>
      obtain ⟨k, d, r, vs, us, rfl, hk, hT, hS, hH⟩ := hrel
      have HT := Lib.hid hT; have HS := Lib.hid hS; have HH := Lib.hid hH
      clear hT hS hH
      by_cases hlt : k < xs.length
      · by_cases hlt2 : k < 100
        · obtain ⟨off, cc, a0, a1, a2, a3, a4, a5, keep, ka, kl, kc, hv', hget, hblt, hC⟩ := act_cells Hv.out k hlt
          simp only [Value.slice.injEq] at hv'
          obtain ⟨rfl, _, rfl⟩ := hv'
          have HC := Lib.hid hC; clear hC
          obtain ⟨q0, q1, q2, q3, q4, q5, q6⟩ := HC.out wr (HM1.out.trans' HT.out.D.M)
          have hkeep : Hid ((∃ g, IntsS w (.slice ka kl kc) keep g) ∧ keep.length * 8 ≤ 140737488355328 ∧ ∀ y ∈ keep, -9223372036854775808 ≤ y ∧ y ≤ 9223372036854775807) := by
            obtain ⟨_, e1, _, hc⟩ := Hvb.out (by omega)
            have := hc k hlt
            rw [hget] at this
            exact ⟨this.2.1, this.2.2.1, this.2.2.2⟩
          clear hget
          have Hrok := Lib.hid (HS.out.ok HT.out.D.ok HH.out)
          have hn64 := HT.out.D.ok.m.n2
          have hrn64 : r.m.zs.length ≤ 64 := by rw [← HS.out.m]; exact hn64
          go_upto_block 2 with fail
          go_cut [10, 11, 12, 13, 14, 15, 16] (fun _ _ _ _ _ _ _ wx => ∃ (d' : Dv) (r' : Rv) (vs' us' : List Value), Two w1 wx bd bm bz bb bl rd rm rz rb rl d' r' vs' us' ∧ Sim d' r' ∧ d'.m.held)
          case first =>
            have hbk := Blk.new wr #[.int .i64 a0, .int .i64 a1, .int .i64 a2, .int .i64 a3, .int .i64 a4, .int .u8 a5, .slice ka kl kc] 61
            have HTa := Lib.hid (HT.out.same ((Mod.refl [] wr).alloc (.cells #[.int .i64 a0, .int .i64 a1, .int .i64 a2, .int .i64 a3, .int .i64 a4, .int .u8 a5, .slice ka kl kc] 61)))
            have hszw : wr.heap.size < (wr.alloc (.cells #[.int .i64 a0, .int .i64 a1, .int .i64 a2, .int .i64 a3, .int .i64 a4, .int .u8 a5, .slice ka kl kc] 61)).heap.size := by simp
            have Hfr : Hid (wr.heap.size ∉ feet bd bm bz bb bl vs ∧ wr.heap.size ∉ feet rd rm rz rb rl us) := ⟨fun hx => by have := HT.out.D.lt _ hx; omega, fun hx => by have := HT.out.R.feet_lt _ hx; omega⟩
            have hwr : w1.heap.size ≤ wr.heap.size := HT.out.D.M.size
            generalize wr.alloc (.cells #[.int .i64 a0, .int .i64 a1, .int .i64 a2, .int .i64 a3, .int .i64 a4, .int .u8 a5, .slice ka kl kc] 61) = wa at *
            have Hbk := Lib.hid hbk
            clear q0 q1 q2 q3 q4 q5 q6
            have p0 : wa.cell? ⟨wr.heap.size, 0, none⟩ = some (.int .i64 a0) := hbk.cell (i := 0) rfl
            by_cases h8 : a0 = 8
            · subst h8
              have Hsf := Lib.hid (sim_flush HS.out HT.out.D.ok)
              go_wp2_with fail
              refine (dflushA HTa.out.D).mono ?_
              rintro e wb ⟨rfl, hs⟩
              obtain ⟨vs2, hT2⟩ := HTa.out.stepD hs
              have HT2 := Lib.hid hT2
              clear hs hT2 hbk p0
              go_wp2_with fail
              refine (rdflush_any rd rm rz rb rl r us _ HT2.out.R hrn64).mono ?_
              rw [Hsf.out.1]
              rintro e wd ⟨rfl, hR3, hm3⟩
              have HT3 := Lib.hid (HT2.out.stepR hR3 (hm3.mono (fun i _ hi => by simp at hi; subst hi; exact feet_head (by simp))) (fun x hx => .inl hx))
              clear hR3 hm3
              generalize (dflushF d).1 = fe at *
              go_wp2_with fail
              go_meet
              exact ⟨_, _, _, _, HT3.out, Hsf.out.2, held_dflush HH.out⟩
            · have g8 : (a0 == 8) = false := by simpa using h8
              clear h8
              by_cases h9 : a0 = 9
              · subst h9
                have p6 : wa.cell? ⟨wr.heap.size, 6, none⟩ = some (.slice ka kl kc) := hbk.cell (i := 6) rfl
                obtain ⟨⟨g, hig⟩, hlu, hbd⟩ := hkeep.out
                have hmwa : Mod [] w wa := HM1.out.trans' HTa.out.D.M
                have hsu := hig.mod hmwa (by simp)
                have Hig := Lib.hid hig
                have Hsu := Lib.hid hsu
                have hrange : ∀ j, -9223372036854775808 ≤ keep.getD j 0 ∧ keep.getD j 0 ≤ 9223372036854775807 := fun j => by
                  by_cases hj : j < keep.length
                  · have e : keep.getD j 0 = keep[j] := by simp [List.getD_eq_getElem?_getD, hj]
                    rw [e]
                    exact hbd _ (List.getElem_mem hj)
                  · have e : keep.getD j 0 = 0 := by simp [List.getD_eq_getElem?_getD, hj]
                    rw [e]; omega
                have Hrange := Lib.hid hrange
                clear hig hsu hbd hrange hmwa
                go_wp2_with (at_builtin; refine wpList_append_ints rfl _ _ rfl rfl _ keep g rfl Hsu.out hlu ?_; intro v' wl bl0 hbl0 hvl hml)
                have HTl := Lib.hid (HTa.out.same hml)
                have hbkl := hml.blk Hbk.out (by simp)
                have Hbl := Lib.hid hbkl
                refine (dloseA bl0 keep _ HTl.out.D hvl (fun h => ⟨fun hx => by have := HTa.out.D.lt _ hx; omega, ?_⟩) (by omega) Hrange.out).mono ?_
                · obtain ⟨_, _, _, hvl⟩ := hvl
                  obtain ⟨_, _, hx, _⟩ := hvl h
                  exact hx
                rintro e wb ⟨rfl, hs⟩
                obtain ⟨vs2, hT2⟩ := HTl.out.stepD hs
                have hbk2 : Blk wb wr.heap.size #[.int .i64 9, .int .i64 a1, .int .i64 a2, .int .i64 a3, .int .i64 a4, .int .u8 a5, .slice ka kl kc] 61 := by
                  obtain ⟨_, _, hm, _⟩ := hs
                  exact hm.blk Hbl.out Hfr.out.1
                have HT2 := Lib.hid hT2
                have p62 : wb.cell? ⟨wr.heap.size, 6, none⟩ = some (.slice ka kl kc) := hbk2.cell (i := 6) rfl
                have Hin := Lib.hid (Hig.out.mod (HM1.out.trans' HT2.out.D.M) (by simp)).at
                clear hs hT2 hbk p0 p6 hvl hml hbkl hbk2 hbl0
                have hfar : 0 < keep.length → g ∉ feet rd rm rz rb rl us ∧ g < wb.heap.size := fun h0 => by
                  rcases Hig.out with ⟨_, e⟩ | ⟨ad, c', _, h⟩
                  · rw [e] at h0; simp at h0
                  · obtain ⟨_, _, hg, _⟩ := h h0
                    have h1 := HM1.out.size
                    have h2 := HT2.out.D.M.size
                    exact ⟨fun hx => by have := HT2.out.RL g hx; omega, by omega⟩
                have Hfar := Lib.hid hfar
                clear hfar
                go_wp2_with fail
                refine (rdlose_any rd rm rz rb rl g r us keep _ _ HT2.out.R Hrok.out Hin.out Hfar.out (by omega) Hrange.out).mono ?_
                rintro e wd ⟨rfl, us2, hR3, hm3, hf3⟩
                have HT3 := Lib.hid (HT2.out.stepR hR3 hm3 hf3)
                clear hR3 hm3 hf3 p62
                go_wp2_with fail
                go_meet
                exact ⟨_, _, _, _, HT3.out, sim_lose HS.out keep, held_dlose HT.out.D.ok.m keep⟩
              · have g9 : (a0 == 9) = false := by simpa using h9
                clear h9
                by_cases h10 : a0 = 10
                · subst h10
                  go_wp2_with fail
                  refine (ddieA HTa.out.D).mono ?_
                  rintro e wb ⟨rfl, hs⟩
                  obtain ⟨vs2, hT2⟩ := HTa.out.stepD hs
                  have HT2 := Lib.hid hT2
                  have hc3 := hT2.R.cells.c3
                  have hf3 := hT2.R.drv.frozen 3
                  have hlt3 := hT2.R.cells.lt.1
                  clear hs hT2 hbk p0
                  have HT3 := Lib.hid (HT2.out.stepR HT2.out.R.die ((Mod.refl _ wb).set (.inl (feet_head (by simp))) _) (fun x hx => .inl hx))
                  go_wp2_with fail
                  go_meet
                  exact ⟨_, _, _, _, HT3.out, sim_die HS.out, HH.out⟩
                · have g10 : (a0 == 10) = false := by simpa using h10
                  clear h10
                  have p1 : wa.cell? ⟨wr.heap.size, 1, none⟩ = some (.int .i64 a1) := hbk.cell (i := 1) rfl
                  have p2 : wa.cell? ⟨wr.heap.size, 2, none⟩ = some (.int .i64 a2) := hbk.cell (i := 2) rfl
                  have p3 : wa.cell? ⟨wr.heap.size, 3, none⟩ = some (.int .i64 a3) := hbk.cell (i := 3) rfl
                  have p4 : wa.cell? ⟨wr.heap.size, 4, none⟩ = some (.int .i64 a4) := hbk.cell (i := 4) rfl
                  have p5 : wa.cell? ⟨wr.heap.size, 5, none⟩ = some (.int .u8 a5) := hbk.cell (i := 5) rfl
                  have p6 : wa.cell? ⟨wr.heap.size, 6, none⟩ = some (.slice ka kl kc) := hbk.cell (i := 6) rfl
                  go_wp2_with fail
                  refine (text_any a0 a1 a2 a3 a4 a5 (.slice ka kl kc) k _).mono ?_
                  rintro e wt ⟨sx, rfl, hsx, hbt⟩
                  have hsz : sx.size ≤ 4000 := by
                    rw [hsx]; unfold textN
                    split
                    · rename_i h
                      simp only [textB, Bool.and_eq_true, decide_eq_true_eq] at h
                      omega
                    · omega
                  have HTt := Lib.hid (HTa.out.same (Mod.of_below hbt []))
                  have hbt2 := (Mod.of_below hbt []).blk Hbk.out (by simp)
                  have Hbt := Lib.hid hbt2
                  clear p0 p1 p2 p3 p4 p5 p6 hbk hbt hsx
                  have p0 : wt.cell? ⟨wr.heap.size, 0, none⟩ = some (.int .i64 a0) := hbt2.cell (i := 0) rfl
                  have p1 : wt.cell? ⟨wr.heap.size, 1, none⟩ = some (.int .i64 a1) := hbt2.cell (i := 1) rfl
                  have p2 : wt.cell? ⟨wr.heap.size, 2, none⟩ = some (.int .i64 a2) := hbt2.cell (i := 2) rfl
                  have p3 : wt.cell? ⟨wr.heap.size, 3, none⟩ = some (.int .i64 a3) := hbt2.cell (i := 3) rfl
                  have Hsd := Lib.hid (sim_do HS.out HT.out.D.ok a0 a1 a2 a3 sx (by omega))
                  have Hhd := Lib.hid (held_ddo HH.out HT.out.D.ok.m a0 a1 a2 a3 sx)
                  clear hbt2
                  go_wp2_with fail
                  refine (ddoA a0 a1 a2 a3 sx HTt.out.D (by omega)).mono ?_
                  rintro e wb ⟨rfl, hs⟩
                  obtain ⟨vs2, hT2⟩ := HTt.out.stepD hs
                  have hbk2 : Blk wb wr.heap.size #[.int .i64 a0, .int .i64 a1, .int .i64 a2, .int .i64 a3, .int .i64 a4, .int .u8 a5, .slice ka kl kc] 61 := by
                    obtain ⟨_, _, hm, _⟩ := hs
                    exact hm.blk Hbt.out Hfr.out.1
                  have HT2 := Lib.hid hT2
                  clear hs hT2 p0 p1 p2 p3
                  have p0 : wb.cell? ⟨wr.heap.size, 0, none⟩ = some (.int .i64 a0) := hbk2.cell (i := 0) rfl
                  have p1 : wb.cell? ⟨wr.heap.size, 1, none⟩ = some (.int .i64 a1) := hbk2.cell (i := 1) rfl
                  have p2 : wb.cell? ⟨wr.heap.size, 2, none⟩ = some (.int .i64 a2) := hbk2.cell (i := 2) rfl
                  have p3 : wb.cell? ⟨wr.heap.size, 3, none⟩ = some (.int .i64 a3) := hbk2.cell (i := 3) rfl
                  clear hbk2
                  generalize ddoF d a0 a1 a2 a3 sx = q at *
                  obtain ⟨⟨S, P, F⟩, d'⟩ := q
                  go_wp2_with fail
                  refine (rddo_any rd rm rz rb rl r us a0 a1 a2 a3 sx _ HT2.out.R Hrok.out (by omega)).mono ?_
                  rintro e wd ⟨he, us2, hR3, hm3, hf3⟩
                  rw [Hsd.out.1] at he
                  subst he
                  have HT3 := Lib.hid (HT2.out.stepR hR3 hm3 hf3)
                  clear hR3 hm3 hf3 p0 p1 p2 p3
                  go_wp2_with fail
                  go_meet
                  exact ⟨_, _, _, _, HT3.out, Hsd.out.2, Hhd.out⟩
          case rest =>
            obtain ⟨d', r', vs', us', hT, hS, hH⟩ := hcut
            have HT' := Lib.hid hT
            have HS' := Lib.hid hS
            have HH' := Lib.hid hH
            clear hT hS hH
            go_wp2_with fail
            refine (same07_any bd bm bz bb bl rd rm rz rb rl d' r' vs' us' _ HT'.out.D.I HT'.out.R HS'.out HT'.out.D.ok.m.n2).mono ?_
            rintro e wz ⟨rfl, hbz⟩
            have HTz := Lib.hid (HT'.out.same (Mod.of_below hbz []))
            clear hbz
            go_wp2_with fail
            go_roundw
            case rel => exact ⟨k + 1, d', r', vs', us', by go_num, by omega, HTz.out, HS'.out, HH'.out⟩
            case measure => simp [intOf]; omega
        · have hd : decide (k < 100) = false := by simpa using hlt2
          go_wp2_with fail
          go_ret
          exact ⟨rfl, ((HM1.out.trans' HT.out.D.M)).below (Nat.le_refl _)⟩
      · have hd : decide (k < xs.length) = false := by simpa using hlt
        go_wp2_with fail
        go_ret
        exact ⟨rfl, ((HM1.out.trans' HT.out.D.M)).below (Nat.le_refl _)⟩
  · have hok : newOk x0 x1 x2 x3 = false := by simpa using hok
    refine (dnew_no x0 x1 x2 x3 _ hok).mono ?_
    rintro e w2 ⟨rfl, rfl⟩
    go_wp2_with fail
    refine (rdnew_no x0 x1 x2 x3 _ hok).mono ?_
    rintro e w3 ⟨rfl, rfl⟩
    go_wp2_with fail
    go_ret
    exact ⟨rfl, HM1.out.below (Nat.le_refl _)⟩

end Go.Proofs.Ytojceddgmmapdaa
