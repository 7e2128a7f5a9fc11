/-
  Walk of the drive's Lose, where nothing is kept.
-/
import Derived.Test.YtadpeopbfoppjaaD8
import Derived.Deep.CutBlock
namespace Go.Proofs.Ytadpeopbfoppjaa
open Go.RowKit

set_option maxHeartbeats 8000000 in
set_option maxRecDepth 100000 in
theorem dlose_zero (bd bm bz bb bl b : Nat) (d : Dv) (vs : List Value) (kv : Value) (w : World) (hI : IsD w bd bm bz bb bl d vs) (hok : d.ok) (hK : IntsAt w kv [] b) (hb : b ∉ feet bd bm bz bb bl vs) (hbw : b ≠ w.heap.size)
    (hw : ∀ x ∈ feet bd bm bz bb bl vs, x < w.heap.size) :
    Calls Try.prog 40 #[.pointer (some ⟨bd, 0, none⟩), kv] w (LosePost bd bm bz bb bl vs (dloseF d []) w) := by
  have HI := Lib.hid hI
  have Hok := Lib.hid hok
  have Hb := Lib.hid hb
  have Hw := Lib.hid hw
  have HK := Lib.hid hK
  obtain ⟨ka, kc, rfl, hka⟩ := hK
  clear hka
  have hn64 := hok.m.n2
  have hmi := make_ints d.m.zs.length hn64
  have hc2 := hI.cells.c2
  have hlt := hI.cells.lt
  clear hI hok hb hw
  go_enter Try.func40, Try.ntmps40
  go_wp2_with fail
  go_loopw [16] (fun s wr => ∃ (k : Nat) (vk : List Value), s = .int .i64 k ∧ LoseRel bd bm bz bb bl b d vs [] (.slice ka ([] : List Int).length kc) w wr k vk) (fun s _ => 64 - (intOf s).toNat)
  case atStart =>
    refine ⟨0, vs, rfl, Nat.zero_le _, ?_, (Mod.refl _ _).alloc _, fun x hx => hx, ?_, HK.out.mod ((Mod.refl [] w).alloc _) (by simp)⟩
    · rw [loseK_zero HI.out.nb HI.out.nl]
      exact HI.out.same ((Mod.refl [] w).alloc _)
    · rw [leftC_zero]
      have := Blk.new w (Array.replicate d.m.zs.length (.int .i64 0)) 3
      simpa using this
  case round =>
    obtain ⟨k, vk, rfl, hR⟩ := hrel
    have hk := hR.hk
    by_cases hlt2 : k < d.m.zs.length
    · have hIk := hR.I
      have hat := loseK_at d [] k hlt2
      have c1 : wr.cell? ⟨bd, 1, none⟩ = some (.slice (some ⟨bb, 0, none⟩) d.m.zs.length d.m.zs.length) := hIk.cells.c1
      have c2 : wr.cell? ⟨bd, 2, none⟩ = some (.slice (some ⟨bl, 0, none⟩) d.m.zs.length d.m.zs.length) := hIk.cells.c2
      have cl : wr.cell? ⟨bl, k, none⟩ = some (.int .i64 ((d.la.getD k 0 : Nat) : Int)) := by have := hIk.cellL (i := k) hlt2; rwa [hat.2] at this
      have cb : wr.cell? ⟨bb, k, none⟩ = some (vk.getD k (.bool false)) := hIk.cellB (i := k) hlt2
      have cL : wr.cell? ⟨w.heap.size, k, none⟩ = some (.int .i64 0) := hR.L.cell (by simp [leftC, hlt2])
      have fL := hR.L.frozen k
      have hLlt := hR.L.lt
      obtain ⟨va, vc, hv, hvc⟩ := hIk.slice2 (i := k) hlt2
      rw [hat.1] at hv hvc
      rw [hv] at cb
      have Hat := Lib.hid hat
      have Hv := Lib.hid hv
      have HR := Lib.hid hR
      clear hat hv hIk hR
      have hp : ∃ p q : Nat, d.la.getD k 0 = p ∧ (d.bs.getD k []).length / 64 = q := ⟨_, _, rfl, rfl⟩
      obtain ⟨p, q, hp, hq⟩ := hp
      rw [hp] at cl
      have Hp := Lib.hid hp
      have Hq := Lib.hid hq
      clear hp hq
      obtain ⟨n0, -, n1, n2, -, -, -, -, -, n3⟩ := HI.out.nes
      have n1' := Ne.symm n1
      have n2' := Ne.symm n2
      have n3' := Ne.symm n3
      have hne : (w.heap.size ≠ bd ∧ w.heap.size ≠ bb ∧ w.heap.size ≠ bl) ∧ (bd ≠ w.heap.size ∧ bb ≠ w.heap.size ∧ bl ≠ w.heap.size) := by omega
      have hbn := Hb.out
      simp only [feet, List.mem_append, List.mem_cons, List.not_mem_nil, or_false, not_or] at hbn
      obtain ⟨⟨bn1, -, -, bn2, bn3⟩, -⟩ := hbn
      -- what is kept of the zone
      have hpq : p ≤ q ∧ q ≤ 4096 := by
        have h1 := (Hok.out.each k hlt2)
        have h2 := Hok.out.m.each k hlt2
        have h3 := Hok.out.m.b2
        have h4 := Hp.out
        have h5 := Hq.out
        omega
      have hL : leftF d [] k = p := by
        unfold leftF
        exact (if_pos rfl).trans Hp.out
      have HL := Lib.hid hL
      have bn4 : b ≠ w.heap.size := by omega
      clear hL
      go_upto_region 8 with (fail)
      have hA0 : Mod [w.heap.size] wr (wr.setCell ⟨w.heap.size, k, none⟩ (.int .i64 (p : Int))) := (Mod.refl _ _).set (by simp) _
      have hA1 : Blk (wr.setCell ⟨w.heap.size, k, none⟩ (.int .i64 (p : Int))) w.heap.size ((leftC d [] k).set k (.int .i64 (p : Int))).toArray 3 := by
        have := HR.out.L.set k (.int .i64 (p : Int))
        rwa [List.setIfInBounds_toArray] at this
      generalize wr.setCell ⟨w.heap.size, k, none⟩ (.int .i64 (p : Int)) = wA at *
      have d1 : wA.cell? ⟨bd, 1, none⟩ = _ := (hA0.cell (by have := HR.out.I.cells.lt; omega) (by simp; omega)).trans c1
      have d2 : wA.cell? ⟨bd, 2, none⟩ = _ := (hA0.cell (by have := HR.out.I.cells.lt; omega) (by simp; omega)).trans c2
      have dl : wA.cell? ⟨bl, k, none⟩ = _ := (hA0.cell (by have := HR.out.I.cells.lt; omega) (by simp; omega)).trans cl
      have db : wA.cell? ⟨bb, k, none⟩ = _ := (hA0.cell (by have := HR.out.I.cells.lt; omega) (by simp; omega)).trans cb
      have dL : wA.cell? ⟨w.heap.size, k, none⟩ = some (.int .i64 (p : Int)) := hA1.cell (by simp [leftC, hlt2])
      have eL := hA1.frozen k
      have eb : wA.frozen? ⟨bb, k, none⟩ = false := (hA0.frozen (by have := HR.out.I.cells.lt; omega) (by simp; omega)).trans (HR.out.I.byt.frozen k)
      have el : wA.frozen? ⟨bl, k, none⟩ = false := (hA0.frozen (by have := HR.out.I.cells.lt; omega) (by simp; omega)).trans (HR.out.I.las.frozen k)
      have HA0 := Lib.hid hA0
      have HA1 := Lib.hid hA1
      have HIA := Lib.hid (HR.out.I.mod hA0 (fun x hx => by have := Hw.out x (HR.out.F x hx); simp; omega))
      clear c1 c2 cl cb cL fL
      have hC1 : Blk wA w.heap.size (leftC d [] (k + 1)).toArray 3 := by
        have e := leftC_succ d [] k hlt2
        rw [HL.out] at e
        rwa [e] at hA1
      have HLT := HL.out
      have hTq : p * 64 ≤ vc := by
        have := Hq.out
        omega
      have hT4 : p ≤ 4096 := by omega
      have HB0 : Hid (Mod [w.heap.size] wr wA) := hA0
      have HB1 := Lib.hid hC1
      have HLT := Lib.hid HLT
      have hBlt : bd < wA.heap.size ∧ bl < wA.heap.size ∧ bb < wA.heap.size := by have := HB0.out.size; have := HR.out.I.cells.lt; omega
      clear hA0 hA1 hC1
      have m1 : IntKind.i64.wrap ((p : Int) * 64) = (p : Int) * 64 := IntWalk.i64_in _ (by omega)
      have m2 : (0 : Int) ≤ (p : Int) * 64 := by omega
      have m3 : (p : Int) * 64 ≤ (vc : Int) := by omega
      have m4 : ((p : Int) * 64).toNat = p * 64 := by omega
      go_cut [16] (fun s16 wx => s16 = .int .i64 k ∧ Mod [] (wA.setCell ⟨bb, k, none⟩ (.slice va (p * 64) vc)) wx)
      case first =>
        go_region_with (fail)
        all_goals
          go_wp2_with fail
          go_meet
          exact ⟨rfl, ⟨rfl, rfl, rfl, Nat.le_refl _, fun _ _ _ => rfl⟩⟩
      case rest =>
      obtain ⟨rfl, hD0⟩ := hcut
      have hE0 : Mod [bb] wA wc := ((Mod.refl _ _).set (by simp) _).trans' (hD0.mono (by simp))
      have g2 : wc.cell? ⟨bd, 2, none⟩ = some (.slice (some ⟨bl, 0, none⟩) d.m.zs.length d.m.zs.length) := (hE0.cell (by omega) (by simp; omega)).trans d2
      have g4 : wc.cell? ⟨bl, k, none⟩ = some (.int .i64 (p : Int)) := (hE0.cell (by omega) (by simp; omega)).trans dl
      have g6 : wc.frozen? ⟨bl, k, none⟩ = false := (hE0.frozen (by omega) (by simp; omega)).trans el
      have g7 : wc.cell? ⟨w.heap.size, k, none⟩ = some (.int .i64 (p : Int)) := (hE0.cell (by have := HB1.out.lt; omega) (by simp; omega)).trans dL
      have HC1 : Hid (∀ u1 u2 : World, Mod [] (wA.setCell ⟨bb, k, none⟩ (.slice va (leftF d [] k * 64) vc)) u1 → Mod [] (u1.setCell ⟨bl, k, none⟩ (.int .i64 (leftF d [] k : Int))) u2 → LoseRel bd bm bz bb bl b d vs [] (.slice ka ([] : List Int).length kc) w u2 (k + 1) (vk.set k (.slice va (leftF d [] k * 64) vc))) := fun u1 u2 h1 h2 => HR.out.next hlt2 Hok.out Hw.out Hb.out bn4 Hv.out HB0.out HB1.out h1 h2
      rw [HLT.out] at HC1
      have HD0 := Lib.hid hD0
      clear hD0 hE0 d1 d2 db dl eb el dL
      go_upto_region 9 with (fail)
      go_region_held3 (fun w' => w'.cell? ⟨bd, 2, none⟩ = some (.slice (some ⟨bl, 0, none⟩) d.m.zs.length d.m.zs.length) ∧ w'.cell? ⟨w.heap.size, k, none⟩ = some (.int .i64 (p : Int))) (go_keep) (fail)
      go_wp2_with fail
      all_goals exact ⟨⟨k + 1, _, by go_num, HC1.out _ _ HD0.out ⟨rfl, rfl, rfl, Nat.le_refl _, fun _ _ _ => rfl⟩⟩, by simp [intOf]; omega⟩
    · have hdd : decide (k < d.m.zs.length) = false := by simpa using hlt2
      have c0 := hR.I.cells.c0
      have hkk : k = d.m.zs.length := by omega
      have HR := Lib.hid hR
      have Hkk := Lib.hid hkk
      clear hR hkk
      go_wp2_with fail
      refine (lost_any bm bz d.m _ ((leftsF d []).map fun n : Nat => (n : Int)) w.heap.size _ HR.out.I.m hn64 ?_ (by omega) (by simp [leftsF]; omega)).mono ?_
      · have hl : (leftsF d []).length = d.m.zs.length := by simp [leftsF]
        refine ⟨some ⟨w.heap.size, 0, none⟩, d.m.zs.length, by simp [hl], fun _ => ⟨0, rfl, HR.out.L.lt, fun j hj => ?_⟩⟩
        have h1 := HR.out.L
        rw [Hkk.out, leftC_end] at h1
        refine h1.cell ?_
        have hj2 : j < (leftsF d []).length := by simpa using hj
        simp [List.getD_eq_getElem?_getD, hj2]
      · rintro e w3 ⟨rfl, hM3, hm3⟩
        have hz : Mod [bz] wr w3 := hm3
        clear hm3
        go_wp2_with fail
        refine bodyPost_end (results_none rfl _ _ _) rfl ?_
        have h1 := HR.out.I.mach hM3 (lostL_len _ _) hz
        have f1 : bz ∈ feet bd bm bz bb bl vs := feet_head (by simp)
        refine ⟨rfl, vk, ?_, HR.out.M.trans hz (fun i _ h => h.elim id (fun h => by simp at h; subst h; exact f1)), HR.out.F⟩
        rw [← loseK_end]
        rw [Hkk.out] at h1
        exact h1

end Go.Proofs.Ytadpeopbfoppjaa
