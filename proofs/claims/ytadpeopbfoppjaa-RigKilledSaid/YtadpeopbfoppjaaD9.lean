/-
  Walk of the drive's Lose, where something is kept by a list.
-/
import Derived.Test.YtadpeopbfoppjaaD8
import Derived.StillTailTactics
namespace Go.Proofs.Ytadpeopbfoppjaa
open Go.RowKit

set_option maxHeartbeats 8000000 in
set_option maxRecDepth 100000 in
theorem dlose_some (bd bm bz bb bl b : Nat) (d : Dv) (vs : List Value) (keep : List Int) (kv : Value) (w : World) (hI : IsD w bd bm bz bb bl d vs) (hok : d.ok) (hK : IntsAt w kv keep b) (hb : b ∉ feet bd bm bz bb bl vs) (hbw : b < w.heap.size)
    (hkl : keep.length ≤ 9223372036854775807) (h0 : 0 < keep.length) (hr : ∀ j, -9223372036854775808 ≤ keep.getD j 0 ∧ keep.getD j 0 ≤ 9223372036854775807) (hw : ∀ x ∈ feet bd bm bz bb bl vs, x < w.heap.size) :
    Calls Try.prog 40 #[.pointer (some ⟨bd, 0, none⟩), kv] w (LosePost bd bm bz bb bl vs (dloseF d keep) w) := by
  have HI := Lib.hid hI
  have Hok := Lib.hid hok
  have Hb := Lib.hid hb
  have Hr := Lib.hid hr
  have Hw := Lib.hid hw
  have HK := Lib.hid hK
  obtain ⟨ka, kc, rfl, hka⟩ := hK
  obtain ⟨off, rfl, -, hkc⟩ := hka h0
  have hn64 := hok.m.n2
  have hmi := make_ints d.m.zs.length hn64
  have hc2 := hI.cells.c2
  have hlt := hI.cells.lt
  have Hkc := Lib.hid hkc
  clear hI hok hb hr hw hka hkc
  have hg0 : decide (0 < keep.length) = true := by simpa using h0
  go_enter Try.func40, Try.ntmps40
  go_wp2_with fail
  go_loopw [16] (fun s wr => ∃ (k : Nat) (vk : List Value), s = .int .i64 k ∧ LoseRel bd bm bz bb bl b d vs keep (.slice (some ⟨b, off, none⟩) keep.length kc) w wr k vk) (fun s _ => 64 - (intOf s).toNat)
  case atStart =>
    refine ⟨0, vs, rfl, Nat.zero_le _, ?_, (Mod.refl _ _).alloc _, fun x hx => hx, ?_, HK.out.mod ((Mod.refl [] w).alloc _) (by simp)⟩
    · rw [loseK_zero HI.out.nb HI.out.nl]
      exact HI.out.same ((Mod.refl [] w).alloc _)
    · rw [leftC_zero]
      have := Blk.new w (Array.replicate d.m.zs.length (.int .i64 0)) 3
      simpa using this
  case round =>
    obtain ⟨k, vk, rfl, hR⟩ := hrel
    have hk := hR.hk
    by_cases hlt2 : k < d.m.zs.length
    · have hIk := hR.I
      have hat := loseK_at d keep k hlt2
      have c1 : wr.cell? ⟨bd, 1, none⟩ = some (.slice (some ⟨bb, 0, none⟩) d.m.zs.length d.m.zs.length) := hIk.cells.c1
      have c2 : wr.cell? ⟨bd, 2, none⟩ = some (.slice (some ⟨bl, 0, none⟩) d.m.zs.length d.m.zs.length) := hIk.cells.c2
      have cl : wr.cell? ⟨bl, k, none⟩ = some (.int .i64 ((d.la.getD k 0 : Nat) : Int)) := by have := hIk.cellL (i := k) hlt2; rwa [hat.2] at this
      have cb : wr.cell? ⟨bb, k, none⟩ = some (vk.getD k (.bool false)) := hIk.cellB (i := k) hlt2
      have cL : wr.cell? ⟨w.heap.size, k, none⟩ = some (.int .i64 0) := hR.L.cell (by simp [leftC, hlt2])
      have fL := hR.L.frozen k
      have hLlt := hR.L.lt
      obtain ⟨va, vc, hv, hvc⟩ := hIk.slice2 (i := k) hlt2
      rw [hat.1] at hv hvc
      rw [hv] at cb
      have Hat := Lib.hid hat
      have Hv := Lib.hid hv
      have HR := Lib.hid hR
      clear hat hv hIk hR
      have hp : ∃ p q : Nat, d.la.getD k 0 = p ∧ (d.bs.getD k []).length / 64 = q := ⟨_, _, rfl, rfl⟩
      obtain ⟨p, q, hp, hq⟩ := hp
      rw [hp] at cl
      have Hp := Lib.hid hp
      have Hq := Lib.hid hq
      clear hp hq
      obtain ⟨n0, -, n1, n2, -, -, -, -, -, n3⟩ := HI.out.nes
      have n1' := Ne.symm n1
      have n2' := Ne.symm n2
      have n3' := Ne.symm n3
      have hne : (w.heap.size ≠ bd ∧ w.heap.size ≠ bb ∧ w.heap.size ≠ bl) ∧ (bd ≠ w.heap.size ∧ bb ≠ w.heap.size ∧ bl ≠ w.heap.size) := by omega
      have hbn := Hb.out
      simp only [feet, List.mem_append, List.mem_cons, List.not_mem_nil, or_false, not_or] at hbn
      obtain ⟨⟨bn1, -, -, bn2, bn3⟩, -⟩ := hbn
      -- what is kept of the zone
      have hki : k % keep.length < keep.length := Nat.mod_lt _ h0
      have hkcell : wr.cell? ⟨b, off + k % keep.length, none⟩ = some (.int .i64 (keep.getD (k % keep.length) 0)) := by
        obtain ⟨a', c', e, h⟩ := HR.out.K
        obtain ⟨off', e2, -, h⟩ := h h0
        cases e
        cases e2
        exact h _ hki
      have hx : ∃ x, keep.getD (k % keep.length) 0 = x := ⟨_, rfl⟩
      obtain ⟨x, hx⟩ := hx
      have hxr := Hr.out (k % keep.length)
      rw [hx] at hkcell hxr
      have hpq : p ≤ q ∧ q ≤ 4096 := by
        have h1 := (Hok.out.each k hlt2)
        have h2 := Hok.out.m.each k hlt2
        have h3 := Hok.out.m.b2
        have h4 := Hp.out
        have h5 := Hq.out
        omega
      have hrl := drestF_lt x ((q : Int) - p + 1) (by omega)
      obtain ⟨r, hrr⟩ := Int.eq_ofNat_of_zero_le hrl.1
      rw [hrr] at hrl
      have hL : leftF d keep k = p + r := by
        unfold leftF
        rw [if_neg (by omega), hx, Hp.out, Hq.out, hrr]
        omega
      have Hrest : Hid (∀ u : World, Calls Try.prog 43 #[.int .i64 x, .int .i64 ((q : Int) - p + 1)] u fun e w' => e = .returned (.int .i64 (r : Int)) ∧ u = w') := fun u => by
        have := drest_any x ((q : Int) - p + 1) (by omega) hxr.1 hxr.2 (by omega) u
        rwa [hrr] at this
      have Hx := Lib.hid hx
      have HL := Lib.hid hL
      clear hx hrr hL
      go_upto_region 7 with (fail)
      have hA0 : Mod [w.heap.size] wr (wr.setCell ⟨w.heap.size, k, none⟩ (.int .i64 (p : Int))) := (Mod.refl _ _).set (by simp) _
      have hA1 : Blk (wr.setCell ⟨w.heap.size, k, none⟩ (.int .i64 (p : Int))) w.heap.size ((leftC d keep k).set k (.int .i64 (p : Int))).toArray 3 := by
        have := HR.out.L.set k (.int .i64 (p : Int))
        rwa [List.setIfInBounds_toArray] at this
      generalize wr.setCell ⟨w.heap.size, k, none⟩ (.int .i64 (p : Int)) = wA at *
      have d1 : wA.cell? ⟨bd, 1, none⟩ = _ := (hA0.cell (by have := HR.out.I.cells.lt; omega) (by simp; omega)).trans c1
      have d2 : wA.cell? ⟨bd, 2, none⟩ = _ := (hA0.cell (by have := HR.out.I.cells.lt; omega) (by simp; omega)).trans c2
      have dl : wA.cell? ⟨bl, k, none⟩ = _ := (hA0.cell (by have := HR.out.I.cells.lt; omega) (by simp; omega)).trans cl
      have db : wA.cell? ⟨bb, k, none⟩ = _ := (hA0.cell (by have := HR.out.I.cells.lt; omega) (by simp; omega)).trans cb
      have dk : wA.cell? ⟨b, off + k % keep.length, none⟩ = _ := (hA0.cell (by have := HR.out.M.size; omega) (by simp; omega)).trans hkcell
      have dL : wA.cell? ⟨w.heap.size, k, none⟩ = some (.int .i64 (p : Int)) := hA1.cell (by simp [leftC, hlt2])
      have eL := hA1.frozen k
      have eb : wA.frozen? ⟨bb, k, none⟩ = false := (hA0.frozen (by have := HR.out.I.cells.lt; omega) (by simp; omega)).trans (HR.out.I.byt.frozen k)
      have el : wA.frozen? ⟨bl, k, none⟩ = false := (hA0.frozen (by have := HR.out.I.cells.lt; omega) (by simp; omega)).trans (HR.out.I.las.frozen k)
      have HA0 := Lib.hid hA0
      have HA1 := Lib.hid hA1
      have HIA := Lib.hid (HR.out.I.mod hA0 (fun x hx => by have := Hw.out x (HR.out.F x hx); simp; omega))
      have hlen : Hid (∀ u : World, Mod [] wA u → Calls Try.prog 38 #[.pointer (some ⟨bd, 0, none⟩), .int .i64 k] u fun e w' => e = .returned (.int .i64 (q : Int)) ∧ u = w') := fun u hu => by
        have := length_any bd bm bz bb bl (loseK d keep k) vk k hlt2 u (HIA.out.same hu)
        rwa [Hat.out.1, Hq.out] at this
      clear hA0 hA1 c1 c2 cl cb cL fL hkcell
      have m1 : IntKind.i64.wrap ((q : Int) - (p : Int)) = (q : Int) - (p : Int) := IntWalk.i64_in _ (by omega)
      have m2 : IntKind.i64.wrap ((q : Int) - (p : Int) + 1) = (q : Int) - (p : Int) + 1 := IntWalk.i64_in _ (by omega)
      have m3 : IntKind.i64.wrap ((p : Int) + (r : Int)) = ((p + r : Nat) : Int) := by rw [IntWalk.i64_in _ (by omega)]; omega
      have m4 : (k : Int).tmod (keep.length : Int) = ((k % keep.length : Nat) : Int) := by rw [Int.tmod_eq_emod_of_nonneg (by omega)]; omega
      have m5 : ((keep.length : Int) == 0) = false := by simpa using (by omega : ¬ keep.length = 0)
      have bn4 : b ≠ w.heap.size := by omega
      have bn5 : w.heap.size ≠ b := by omega
      have z1 : ¬ keep.length = 0 := by omega
      have z2 : ¬ keep = [] := by intro e; rw [e] at h0; simp at h0
      have z3 : ¬ (keep.length : Int) = 0 := by omega
      have m6 : (0 : Int) ≤ ((k % keep.length : Nat) : Int) := by omega
      have m7 : ((k % keep.length : Nat) : Int) < (keep.length : Int) := by omega
      have m10 : (0 : Int) ≤ (k : Int) % (keep.length : Int) := by omega
      have m11 : (k : Int) % (keep.length : Int) < (keep.length : Int) := by omega
      have m12 : ((k : Int) % (keep.length : Int)).toNat = k % keep.length := by omega
      have m8 : (0 : Int) ≤ (k : Int) := by omega
      have m9 : (k : Int) < (d.m.zs.length : Int) := by omega
      have hM0 : Mod [] wA { heap := wA.heap, tape := wA.tape, drawn := wA.drawn + 1, os := wA.os, output := wA.output } := ⟨rfl, rfl, rfl, Nat.le_refl _, fun _ _ _ => rfl⟩
      refine wp_region_still_tail 25 (by kernel_rfl) (by kernel_rfl) ?_
      simp only [List.take_succ_cons, List.take_zero, List.drop_succ_cons, List.drop_zero]
      repeat still_step
      still_call ((hlen.out _ hM0).mono fun e u h => ⟨h.1, h.2.symm⟩)
      repeat still_step
      still_call ((Hrest.out _).mono fun e u h => ⟨h.1, h.2.symm⟩)
      repeat still_step
      refine wpStill_nil ?_
      go_wp2_with fail
      have hT : (p : Int) + (r : Int) = ((p + r : Nat) : Int) := by omega
      rw [hT]
      have hB0 : Mod [w.heap.size] wA (wA.setCell ⟨w.heap.size, k, none⟩ (.int .i64 ((p + r : Nat) : Int))).drew := ((Mod.refl _ _).set (by simp) _).drew
      have hB1 : Blk (wA.setCell ⟨w.heap.size, k, none⟩ (.int .i64 ((p + r : Nat) : Int))).drew w.heap.size (leftC d keep (k + 1)).toArray 3 := by
        have := HA1.out.set k (.int .i64 ((p + r : Nat) : Int))
        have e := leftC_succ d keep k hlt2
        rw [HL.out] at e
        rw [List.setIfInBounds_toArray, List.set_set, e] at this
        exact this
      have HLT := HL.out
      have hTq : (p + r) * 64 ≤ vc := by
        have := Hq.out
        omega
      have hT4 : p + r ≤ 4096 := by omega
      generalize p + r = T at *
      generalize (wA.setCell ⟨w.heap.size, k, none⟩ (.int .i64 (T : Int))).drew = wB at *
      have e1 : wB.cell? ⟨bd, 1, none⟩ = some (.slice (some ⟨bb, 0, none⟩) d.m.zs.length d.m.zs.length) := (hB0.cell (by have := HIA.out.cells.lt; omega) (by simp; omega)).trans d1
      have e2 : wB.cell? ⟨bd, 2, none⟩ = some (.slice (some ⟨bl, 0, none⟩) d.m.zs.length d.m.zs.length) := (hB0.cell (by have := HIA.out.cells.lt; omega) (by simp; omega)).trans d2
      have e3 : wB.cell? ⟨bb, k, none⟩ = some (.slice va (d.bs.getD k []).length vc) := (hB0.cell (by have := HIA.out.cells.lt; omega) (by simp; omega)).trans db
      have e4 : wB.cell? ⟨bl, k, none⟩ = some (.int .i64 (p : Int)) := (hB0.cell (by have := HIA.out.cells.lt; omega) (by simp; omega)).trans dl
      have e5 : wB.frozen? ⟨bb, k, none⟩ = false := (hB0.frozen (by have := HIA.out.cells.lt; omega) (by simp; omega)).trans eb
      have e6 : wB.frozen? ⟨bl, k, none⟩ = false := (hB0.frozen (by have := HIA.out.cells.lt; omega) (by simp; omega)).trans el
      have e7 : wB.cell? ⟨w.heap.size, k, none⟩ = some (.int .i64 (T : Int)) := hB1.cell (by simp [leftC, hlt2, HLT])
      have HB0 : Hid (Mod [w.heap.size] wr wB) := HA0.out.trans' hB0
      have HB1 := Lib.hid hB1
      have HLT := Lib.hid HLT
      clear hB0 hB1 d1 d2 dl db dk dL eb el eL hT m1 m2 m3 m4 m5 m6 m7 m10 m11 m12 hrl HA0 HA1 Hrest hlen
      have m1 : IntKind.i64.wrap ((T : Int) * 64) = (T : Int) * 64 := IntWalk.i64_in _ (by omega)
      have m2 : (0 : Int) ≤ (T : Int) * 64 := by omega
      have m3 : (T : Int) * 64 ≤ (vc : Int) := by omega
      have m4 : ((T : Int) * 64).toNat = T * 64 := by omega
      go_upto_region 8 with (fail)
      go_still_tail 18, (by kernel_rfl)
      go_wp2_with fail
      have hC0 : Mod [bb] wB (wB.setCell ⟨bb, k, none⟩ (.slice va (T * 64) vc)).drew := ((Mod.refl _ _).set (by simp) _).drew
      have hCC : Mod [] (wB.setCell ⟨bb, k, none⟩ (.slice va (T * 64) vc)) (wB.setCell ⟨bb, k, none⟩ (.slice va (T * 64) vc)).drew := (Mod.refl _ _).drew
      have g2 : (wB.setCell ⟨bb, k, none⟩ (.slice va (T * 64) vc)).drew.cell? ⟨bd, 2, none⟩ = some (.slice (some ⟨bl, 0, none⟩) d.m.zs.length d.m.zs.length) := (hC0.cell (by have := HIA.out.cells.lt; have := HB0.out.size; have := HR.out.I.cells.lt; omega) (by simp; omega)).trans e2
      have g4 : (wB.setCell ⟨bb, k, none⟩ (.slice va (T * 64) vc)).drew.cell? ⟨bl, k, none⟩ = some (.int .i64 (p : Int)) := (hC0.cell (by have := HIA.out.cells.lt; have := HB0.out.size; have := HR.out.I.cells.lt; omega) (by simp; omega)).trans e4
      have g6 : (wB.setCell ⟨bb, k, none⟩ (.slice va (T * 64) vc)).drew.frozen? ⟨bl, k, none⟩ = false := (hC0.frozen (by have := HIA.out.cells.lt; have := HB0.out.size; have := HR.out.I.cells.lt; omega) (by simp; omega)).trans e6
      have g7 : (wB.setCell ⟨bb, k, none⟩ (.slice va (T * 64) vc)).drew.cell? ⟨w.heap.size, k, none⟩ = some (.int .i64 (T : Int)) := (hC0.cell (by have := HB1.out.lt; omega) (by simp; omega)).trans e7
      have HC1 : Hid (∀ u1 u2 : World, Mod [] (wB.setCell ⟨bb, k, none⟩ (.slice va (leftF d keep k * 64) vc)) u1 → Mod [] (u1.setCell ⟨bl, k, none⟩ (.int .i64 (leftF d keep k : Int))) u2 → LoseRel bd bm bz bb bl b d vs keep (.slice (some ⟨b, off, none⟩) keep.length kc) w u2 (k + 1) (vk.set k (.slice va (leftF d keep k * 64) vc))) := fun u1 u2 h1 h2 => HR.out.next hlt2 Hok.out Hw.out Hb.out bn4 Hv.out HB0.out HB1.out h1 h2
      rw [HLT.out] at HC1
      clear hC0 e1 e2 e3 e4 e5 e6 e7
      generalize (wB.setCell ⟨bb, k, none⟩ (.slice va (T * 64) vc)).drew = wC at *
      go_upto_region 9 with (fail)
      go_region_held3 (fun w' => w'.cell? ⟨bd, 2, none⟩ = some (.slice (some ⟨bl, 0, none⟩) d.m.zs.length d.m.zs.length) ∧ w'.cell? ⟨w.heap.size, k, none⟩ = some (.int .i64 (T : Int))) (go_keep) (fail)
      go_wp2_with fail
      all_goals exact ⟨⟨k + 1, _, by go_num, HC1.out _ _ hCC ⟨rfl, rfl, rfl, Nat.le_refl _, fun _ _ _ => rfl⟩⟩, by simp [intOf]; omega⟩
    · have hdd : decide (k < d.m.zs.length) = false := by simpa using hlt2
      have c0 := hR.I.cells.c0
      have hkk : k = d.m.zs.length := by omega
      have HR := Lib.hid hR
      have Hkk := Lib.hid hkk
      clear hR hkk
      go_wp2_with fail
      refine (lost_any bm bz d.m _ ((leftsF d keep).map fun n : Nat => (n : Int)) w.heap.size _ HR.out.I.m hn64 ?_ (by omega) (by simp [leftsF]; omega)).mono ?_
      · have hl : (leftsF d keep).length = d.m.zs.length := by simp [leftsF]
        refine ⟨some ⟨w.heap.size, 0, none⟩, d.m.zs.length, by simp [hl], fun _ => ⟨0, rfl, HR.out.L.lt, fun j hj => ?_⟩⟩
        have h1 := HR.out.L
        rw [Hkk.out, leftC_end] at h1
        refine h1.cell ?_
        have hj2 : j < (leftsF d keep).length := by simpa using hj
        simp [List.getD_eq_getElem?_getD, hj2]
      · rintro e w3 ⟨rfl, hM3, hm3⟩
        have hz : Mod [bz] wr w3 := hm3
        clear hm3
        go_wp2_with fail
        refine bodyPost_end (results_none rfl _ _ _) rfl ?_
        have h1 := HR.out.I.mach hM3 (lostL_len _ _) hz
        have f1 : bz ∈ feet bd bm bz bb bl vs := feet_head (by simp)
        refine ⟨rfl, vk, ?_, HR.out.M.trans hz (fun i _ h => h.elim id (fun h => by simp at h; subst h; exact f1)), HR.out.F⟩
        rw [← loseK_end]
        rw [Hkk.out] at h1
        exact h1

end Go.Proofs.Ytadpeopbfoppjaa
