/-
  Walk of DriveAll.
-/
import Derived.Test.YtojceddgmmapdaaDK2
namespace Go.Proofs.Ytojceddgmmapdaa
open Go.RowKit

theorem k1_lose_eq {l : List UInt8} {T L : Nat} {st : Int} (hst : st = 0 ∨ st = 1 ∨ st = 3) (keep : List Int) (X : Nat) (hX : leftF (k1 l T L st) keep 0 = X) (hXT : X ≤ T) : dloseF (k1 l T L st) keep = k1 (l.take (X * 64)) X X (restF (X : Int)) := by
  have e1 : leftsF (k1 l T L st) keep = [leftF (k1 l T L st) keep 0] := rfl
  have e2 : ((List.range (k1 l T L st).m.zs.length).map fun i => ((k1 l T L st).bs.getD i []).take (leftF (k1 l T L st) keep i * 64)) = [l.take (leftF (k1 l T L st) keep 0 * 64)] := rfl
  unfold dloseF
  rw [e1, e2, hX]
  have e3 : lostL ([X].map fun n : Nat => (n : Int)) (k1 l T L st).m.zs = [(restF (X : Int), (X : Int))] := by
    show [lostZ (some (X : Int)) (st, (T : Int))] = _
    unfold lostZ
    simp only
    by_cases h : X < T
    · rw [if_pos (by omega)]
    · have : X = T := by omega
      subst this
      rw [if_neg (by omega), if_neg (by omega)]
  rw [e3]
  rfl

theorem k1_left_all {l : List UInt8} {T L : Nat} {st : Int} (hl : l.length = 64 * T) (hL : L ≤ T) : leftF (k1 l T L st) [(T : Int) - (L : Int)] 0 = T := by
  rw [k1_lose_len, hl, Nat.mul_div_cancel_left _ (by decide), if_neg (by simp)]
  show L + (drestF ((T : Int) - (L : Int)) ((T : Int) - (L : Int) + 1)).toNat = T
  unfold drestF
  rw [if_neg (by omega), Int.emod_eq_of_lt (by omega) (by omega)]
  omega

theorem k1_left_nil {l : List UInt8} {T L : Nat} {st : Int} : leftF (k1 l T L st) [] 0 = L := rfl

structure ARel (w1 wr : World) (bd bm bz bb bl cd cm cz cb cl : Nat) (la lb : List UInt8) (T L : Nat) (st : Int) (vs us : List Value) : Prop where
  fa : la.length = 64 * T
  fb : lb.length = 64 * T
  fL : L ≤ T
  fst : st = 0 ∨ st = 1 ∨ st = 3
  D : DAt w1 wr bd bm bz bb bl (k1 la T L st) vs
  E : DAt w1 wr cd cm cz cb cl (k1 lb T L st) us
  dj : ∀ x ∈ feet bd bm bz bb bl vs, x ∉ feet cd cm cz cb cl us

set_option maxHeartbeats 16000000 in
set_option maxRecDepth 100000 in
theorem driveAll_walk (v : Value) (xs : List ActD) (b : Nat) (f : Int) (w : World) (hv : ActsAt w v xs b) (_hxl : xs.length ≤ 9223372036854775807) :
    Calls Try.prog 11 #[v, .int .i64 f] w fun e w' => e = .returned (.bool true) ∧ Below w.heap.size w w' := by
  have Hv := Lib.hid hv
  obtain ⟨va, vc, rfl, -⟩ := hv
  have h15 := i64_and15 f
  obtain ⟨fl, hfl⟩ := Int.eq_ofNat_of_zero_le (show 0 ≤ f % 16 by omega)
  rw [hfl] at h15
  clear hfl
  go_enter Try.func11, Try.ntmps11
  go_wp2_with fail
  refine (speaks07_any _).mono ?_
  rintro e w1 ⟨rfl, hm1⟩
  have H1 := Lib.hid hm1; clear hm1
  go_wp2_with fail
  refine (dnewA 1 200 1 1 _ rfl).mono ?_
  rintro e w2 ⟨bd, bm, bz, bb, bl, vs, rfl, h2⟩
  have H2 : Hid (DAt w1 w2 bd bm bz bb bl (k1 [] 0 0 0) vs) := h2
  clear h2
  go_wp2_with fail
  refine (dnewA 1 200 1 1 _ rfl).mono ?_
  rintro e w3 ⟨cd, cm, cz, cb, cl, us, rfl, h3⟩
  have H3 : Hid (ARel w1 w3 bd bm bz bb bl cd cm cz cb cl [] [] 0 0 0 vs us) := ⟨rfl, rfl, Nat.le_refl _, .inl rfl, H2.out.same h3.M, ⟨h3.I, h3.ok, fun x hx => Nat.le_trans H2.out.M.size (h3.lo x hx), H2.out.M.trans' h3.M⟩, fun x hx hx' => by have := H2.out.lt x hx; have := h3.lo x hx'; omega⟩
  clear h3 H2
  go_upto_block 0 with fail
  go_cut [9, 10] (fun s9 s10 wx => ∃ (la lb : List UInt8) (T L : Nat) (st : Int) (vs us : List Value), s9 = .int .i64 T ∧ s10 = .int .i64 L ∧ T ≤ 120 ∧ ARel w1 wx bd bm bz bb bl cd cm cz cb cl la lb T L st vs us)
  case first =>
    go_wp2_with fail
    go_loopw [9, 10, 11] (fun s9 s10 s11 wr => ∃ (k : Nat) (la lb : List UInt8) (T L : Nat) (st : Int) (vs us : List Value), s11 = .int .i64 k ∧ k ≤ xs.length ∧ T ≤ 4 * k ∧ k ≤ 30 ∧ s9 = .int .i64 T ∧ s10 = .int .i64 L ∧ ARel w1 wr bd bm bz bb bl cd cm cz cb cl la lb T L st vs us) (fun _ _ s11 _ => 200 - (intOf s11).toNat)
    case atStart => exact ⟨0, [], [], 0, 0, 0, vs, us, rfl, Nat.zero_le _, Nat.zero_le _, by omega, rfl, rfl, H3.out⟩
    case round =>
      obtain ⟨k, la, lb, T, L, st, vs', us', rfl, hk, hT, hk30, rfl, rfl, hR⟩ := hrel
      have HR := Lib.hid hR
      clear hR
      by_cases hlt : k < xs.length
      · by_cases hlt2 : k < 30
        · obtain ⟨off, cc, a0, a1, a2, a3, a4, a5, keep, ka, kl, kc, hv', hget, hblt, hS⟩ := act_cells Hv.out k hlt
          simp only [Value.slice.injEq] at hv'
          obtain ⟨rfl, _, rfl⟩ := hv'
          have HS := Lib.hid hS; clear hS hget
          obtain ⟨q0, q1, q2, q3, q4, q5, q6⟩ := HS.out wr (H1.out.trans' HR.out.D.M)
          have h43 := i64_and3 a3
          obtain ⟨q, hq⟩ := Int.eq_ofNat_of_zero_le (show 0 ≤ a3 % 4 by omega)
          have hq4 : q < 4 := by omega
          rw [hq] at h43
          clear hq
          have hbx := Blk.new wr #[.int .i64 2, .int .i64 a1, .int .i64 a2, .int .i64 (1 + (q : Int)), .int .i64 0, .int .u8 a5, .slice ka kl kc] 61
          have HRx : Hid (ARel w1 (wr.alloc (.cells #[.int .i64 2, .int .i64 a1, .int .i64 a2, .int .i64 (1 + (q : Int)), .int .i64 0, .int .u8 a5, .slice ka kl kc] 61)) bd bm bz bb bl cd cm cz cb cl la lb T L st vs' us') := ⟨HR.out.fa, HR.out.fb, HR.out.fL, HR.out.fst, HR.out.D.alloc _, HR.out.E.alloc _, HR.out.dj⟩
          have hfe : Hid (wr.heap.size ∉ feet bd bm bz bb bl vs' ∧ wr.heap.size ∉ feet cd cm cz cb cl us') := ⟨fun hx => by have := HR.out.D.lt _ hx; omega, fun hx => by have := HR.out.E.lt _ hx; omega⟩
          have htb : Hid (textN 2 (1 + (q : Int)) 0 = 64 * (1 + q)) := by
            have : textB 2 (1 + (q : Int)) = true := by
              simp only [textB, Bool.and_eq_true, decide_eq_true_eq]
              exact ⟨⟨rfl, by omega⟩, by omega⟩
            show textN 2 (1 + (q : Int)) 0 = 64 * (1 + q)
            unfold textN
            rw [if_pos this]
            omega
          go_upto_region 11 with (fail)
          generalize wr.alloc (.cells #[.int .i64 2, .int .i64 a1, .int .i64 a2, .int .i64 (1 + (q : Int)), .int .i64 0, .int .u8 a5, .slice ka kl kc] 61) = wx at *
          have p0 : wx.cell? ⟨wr.heap.size, 0, none⟩ = some (.int .i64 2) := hbx.cell (i := 0) rfl
          have p1 : wx.cell? ⟨wr.heap.size, 1, none⟩ = some (.int .i64 a1) := hbx.cell (i := 1) rfl
          have p2 : wx.cell? ⟨wr.heap.size, 2, none⟩ = some (.int .i64 a2) := hbx.cell (i := 2) rfl
          have p3 : wx.cell? ⟨wr.heap.size, 3, none⟩ = some (.int .i64 (1 + (q : Int))) := hbx.cell (i := 3) rfl
          have p4 : wx.cell? ⟨wr.heap.size, 4, none⟩ = some (.int .i64 0) := hbx.cell (i := 4) rfl
          have p5 : wx.cell? ⟨wr.heap.size, 5, none⟩ = some (.int .u8 a5) := hbx.cell (i := 5) rfl
          have p6 : wx.cell? ⟨wr.heap.size, 6, none⟩ = some (.slice ka kl kc) := hbx.cell (i := 6) rfl
          have hfst := Lib.hid HR.out.fst
          have HbxX := Lib.hid hbx
          have hlwx := hbx.lt
          go_region_held3 (fun w' => w'.cell? ⟨wr.heap.size, 0, none⟩ = some (.int .i64 2) ∧ w'.cell? ⟨wr.heap.size, 1, none⟩ = some (.int .i64 a1) ∧ w'.cell? ⟨wr.heap.size, 2, none⟩ = some (.int .i64 a2) ∧ w'.cell? ⟨wr.heap.size, 3, none⟩ = some (.int .i64 (1 + (q : Int))) ∧ w'.cell? ⟨wr.heap.size, 4, none⟩ = some (.int .i64 0) ∧ w'.cell? ⟨wr.heap.size, 5, none⟩ = some (.int .u8 a5) ∧ w'.cell? ⟨wr.heap.size, 6, none⟩ = some (.slice ka kl kc)) (go_keep)
            (first
              | (go_at_call 27; refine (text_any 2 a1 a2 (1 + (q : Int)) 0 a5 (.slice ka kl kc) k _).mono ?_; rintro e wta ⟨sa, rfl, hsa, hbta⟩; have Hbta : Hid (Mod [] wx wta) := ⟨hbta.os, hbta.tape, hbta.output, hbta.size, fun i hi _ => hbta.block i hi⟩; have hbxa := Hbta.out.blk HbxX.out (by simp); have p0 : wta.cell? ⟨wr.heap.size, 0, none⟩ = some (.int .i64 2) := hbxa.cell (i := 0) rfl; have p1 : wta.cell? ⟨wr.heap.size, 1, none⟩ = some (.int .i64 a1) := hbxa.cell (i := 1) rfl; have p2 : wta.cell? ⟨wr.heap.size, 2, none⟩ = some (.int .i64 a2) := hbxa.cell (i := 2) rfl; have p3 : wta.cell? ⟨wr.heap.size, 3, none⟩ = some (.int .i64 (1 + (q : Int))) := hbxa.cell (i := 3) rfl; have p4 : wta.cell? ⟨wr.heap.size, 4, none⟩ = some (.int .i64 0) := hbxa.cell (i := 4) rfl; have p5 : wta.cell? ⟨wr.heap.size, 5, none⟩ = some (.int .u8 a5) := hbxa.cell (i := 5) rfl; have p6 : wta.cell? ⟨wr.heap.size, 6, none⟩ = some (.slice ka kl kc) := hbxa.cell (i := 6) rfl; have Hsa : Hid (sa.size = 64 * (1 + q)) := hsa.trans htb.out; have HDa := Lib.hid (HRx.out.D.same Hbta.out); clear hbta hsa)
              | (go_at_call 28; refine (ddoA 2 0 0 (1 + (q : Int)) sa (by first | exact HDa.out | exact HDa.out.drew | exact HDa.out.same ((Mod.refl [] _).drewN _)) (by rw [Hsa.out]; omega)).mono ?_; rw [show (1 + (q : Int)) = (((1 + q : Nat)) : Int) by omega, k1_app (l := la) (T := T) (L := L) (q := 1 + q) (s := sa) hfst.out (by omega) (by omega) Hsa.out, show (((1 + q : Nat)) : Int) = 1 + (q : Int) by omega]; rintro e wda ⟨rfl, vsa, hda, hma, hfa⟩; have Hma : Hid (Mod (feet bd bm bz bb bl vs') wta wda) := ⟨hma.os, hma.tape, hma.output, hma.size, hma.block⟩; have hbza := Hma.out.blk hbxa hfe.out.1; have p0 : wda.cell? ⟨wr.heap.size, 0, none⟩ = some (.int .i64 2) := hbza.cell (i := 0) rfl; have p1 : wda.cell? ⟨wr.heap.size, 1, none⟩ = some (.int .i64 a1) := hbza.cell (i := 1) rfl; have p2 : wda.cell? ⟨wr.heap.size, 2, none⟩ = some (.int .i64 a2) := hbza.cell (i := 2) rfl; have p3 : wda.cell? ⟨wr.heap.size, 3, none⟩ = some (.int .i64 (1 + (q : Int))) := hbza.cell (i := 3) rfl; have p4 : wda.cell? ⟨wr.heap.size, 4, none⟩ = some (.int .i64 0) := hbza.cell (i := 4) rfl; have p5 : wda.cell? ⟨wr.heap.size, 5, none⟩ = some (.int .u8 a5) := hbza.cell (i := 5) rfl; have p6 : wda.cell? ⟨wr.heap.size, 6, none⟩ = some (.slice ka kl kc) := hbza.cell (i := 6) rfl; have Hda := Lib.hid hda; have Hfa : Hid (∀ x ∈ feet bd bm bz bb bl vsa, x ∈ feet bd bm bz bb bl vs' ∨ wta.heap.size ≤ x) := hfa; clear hda hma hfa))
          have Hbza := Lib.hid hbza
          have hlwa := hbza.lt
          have HEa : Hid (DAt w1 wda cd cm cz cb cl (k1 lb T L st) us') := (HRx.out.E.same Hbta.out).mod Hma.out (fun x hx hx' => HRx.out.dj x hx hx') (fun x hx => HRx.out.D.lo x hx)
          have hdja : Hid (∀ x ∈ feet bd bm bz bb bl vsa, x ∉ feet cd cm cz cb cl us') := fun x hx hx' => (Hfa.out x hx).elim (fun h => HRx.out.dj x h hx') (fun h => by have := HRx.out.E.lt x hx'; have := Hbta.out.size; omega)
          clear hbza hbxa
          go_upto_region 12 with (fail)
          go_region_held3 (fun w' => w'.cell? ⟨wr.heap.size, 0, none⟩ = some (.int .i64 2) ∧ w'.cell? ⟨wr.heap.size, 1, none⟩ = some (.int .i64 a1) ∧ w'.cell? ⟨wr.heap.size, 2, none⟩ = some (.int .i64 a2) ∧ w'.cell? ⟨wr.heap.size, 3, none⟩ = some (.int .i64 (1 + (q : Int))) ∧ w'.cell? ⟨wr.heap.size, 4, none⟩ = some (.int .i64 0) ∧ w'.cell? ⟨wr.heap.size, 5, none⟩ = some (.int .u8 a5) ∧ w'.cell? ⟨wr.heap.size, 6, none⟩ = some (.slice ka kl kc)) (go_keep)
            (first
              | (go_at_call 27; refine (text_any 2 a1 a2 (1 + (q : Int)) 0 a5 (.slice ka kl kc) k _).mono ?_; rintro e wtb ⟨sb, rfl, hsb, hbtb⟩; have Hbtb : Hid (Mod [] wda wtb) := ⟨hbtb.os, hbtb.tape, hbtb.output, hbtb.size, fun i hi _ => hbtb.block i hi⟩; have hbxb := Hbtb.out.blk Hbza.out (by simp); have p0 : wtb.cell? ⟨wr.heap.size, 0, none⟩ = some (.int .i64 2) := hbxb.cell (i := 0) rfl; have p1 : wtb.cell? ⟨wr.heap.size, 1, none⟩ = some (.int .i64 a1) := hbxb.cell (i := 1) rfl; have p2 : wtb.cell? ⟨wr.heap.size, 2, none⟩ = some (.int .i64 a2) := hbxb.cell (i := 2) rfl; have p3 : wtb.cell? ⟨wr.heap.size, 3, none⟩ = some (.int .i64 (1 + (q : Int))) := hbxb.cell (i := 3) rfl; have p4 : wtb.cell? ⟨wr.heap.size, 4, none⟩ = some (.int .i64 0) := hbxb.cell (i := 4) rfl; have p5 : wtb.cell? ⟨wr.heap.size, 5, none⟩ = some (.int .u8 a5) := hbxb.cell (i := 5) rfl; have p6 : wtb.cell? ⟨wr.heap.size, 6, none⟩ = some (.slice ka kl kc) := hbxb.cell (i := 6) rfl; have Hsb : Hid (sb.size = 64 * (1 + q)) := hsb.trans htb.out; have HDb := Lib.hid (HEa.out.same Hbtb.out); clear hbtb hsb)
              | (go_at_call 28; refine (ddoA 2 0 0 (1 + (q : Int)) sb (by first | exact HDb.out | exact HDb.out.drew | exact HDb.out.same ((Mod.refl [] _).drewN _)) (by rw [Hsb.out]; omega)).mono ?_; rw [show (1 + (q : Int)) = (((1 + q : Nat)) : Int) by omega, k1_app (l := lb) (T := T) (L := L) (q := 1 + q) (s := sb) hfst.out (by omega) (by omega) Hsb.out, show (((1 + q : Nat)) : Int) = 1 + (q : Int) by omega]; rintro e wdb ⟨rfl, vsb, hdb, hmb, hfb⟩; have Hmb : Hid (Mod (feet cd cm cz cb cl us') wtb wdb) := ⟨hmb.os, hmb.tape, hmb.output, hmb.size, hmb.block⟩; have hbzb := Hmb.out.blk hbxb hfe.out.2; have p0 : wdb.cell? ⟨wr.heap.size, 0, none⟩ = some (.int .i64 2) := hbzb.cell (i := 0) rfl; have p1 : wdb.cell? ⟨wr.heap.size, 1, none⟩ = some (.int .i64 a1) := hbzb.cell (i := 1) rfl; have p2 : wdb.cell? ⟨wr.heap.size, 2, none⟩ = some (.int .i64 a2) := hbzb.cell (i := 2) rfl; have p3 : wdb.cell? ⟨wr.heap.size, 3, none⟩ = some (.int .i64 (1 + (q : Int))) := hbzb.cell (i := 3) rfl; have p4 : wdb.cell? ⟨wr.heap.size, 4, none⟩ = some (.int .i64 0) := hbzb.cell (i := 4) rfl; have p5 : wdb.cell? ⟨wr.heap.size, 5, none⟩ = some (.int .u8 a5) := hbzb.cell (i := 5) rfl; have p6 : wdb.cell? ⟨wr.heap.size, 6, none⟩ = some (.slice ka kl kc) := hbzb.cell (i := 6) rfl; have Hdb := Lib.hid hdb; have Hfb : Hid (∀ x ∈ feet cd cm cz cb cl vsb, x ∈ feet cd cm cz cb cl us' ∨ wtb.heap.size ≤ x) := hfb; clear hdb hmb hfb))
          have hlwb := hbzb.lt
          have HDb : Hid (DAt w1 wdb bd bm bz bb bl (k1 (la ++ sa.data.toList) (T + (1 + q)) L 1) vsa) := (Hda.out.same Hbtb.out).mod Hmb.out (fun x hx hx' => hdja.out x hx' hx) (fun x hx => HEa.out.lo x hx)
          have hdjb : Hid (∀ x ∈ feet bd bm bz bb bl vsa, x ∉ feet cd cm cz cb cl vsb) := fun x hx hx' => (Hfb.out x hx').elim (fun h => hdja.out x hx h) (fun h => by have := Hda.out.lt x hx; have := Hbtb.out.size; omega)
          have hLT := HR.out.fL
          have hlaA : (la ++ sa.data.toList).length = 64 * (T + (1 + q)) := by rw [List.length_append, HR.out.fa, show sa.data.toList.length = sa.size from rfl, Hsa.out]; omega
          have hlbB : (lb ++ sb.data.toList).length = 64 * (T + (1 + q)) := by rw [List.length_append, HR.out.fb, show sb.data.toList.length = sb.size from rfl, Hsb.out]; omega
          have HlaA := Lib.hid hlaA
          have HlbB := Lib.hid hlbB
          clear hlaA hlbB hbzb hbxb
          by_cases hkf : k = fl
          · have hkb : ((k : Int) == (fl : Int)) = true := by simp; omega
            clear hkf
            go_wp2_with fail
            refine (dflushA (by first | exact HDb.out | exact HDb.out.drew | exact HDb.out.same ((Mod.refl [] _).drewN _))).mono ?_
            rw [k1_flush HlaA.out]
            rintro e wf ⟨rfl, vsf, hf, hmf, hff⟩
            have HEf : Hid (DAt w1 wf cd cm cz cb cl (k1 (lb ++ sb.data.toList) (T + (1 + q)) L 1) vsb) := by
              have hmf' : Mod (feet bd bm bz bb bl vsa) wdb wf := ⟨hmf.os, hmf.tape, hmf.output, hmf.size, hmf.block⟩
              exact Hdb.out.mod hmf' (fun x hx hx' => hdjb.out x hx hx') (fun x hx => HDb.out.lo x hx)
            have hdjf : Hid (∀ x ∈ feet bd bm bz bb bl vsf, x ∉ feet cd cm cz cb cl vsb) := fun x hx hx' => (hff x hx).elim (fun h => hdjb.out x h hx') (fun h => by have := Hdb.out.lt x hx'; have h : wdb.heap.size ≤ x := h; omega)
            have Hff := Lib.hid hf
            clear hf hmf hff
            go_wp2_with fail
            refine (dflushA HEf.out).mono ?_
            rw [k1_flush HlbB.out]
            rintro e wg ⟨rfl, vsg, hg, hmg, hfg⟩
            have HZ : Hid (ARel w1 wg bd bm bz bb bl cd cm cz cb cl (la ++ sa.data.toList) (lb ++ sb.data.toList) (T + (1 + q)) (T + (1 + q)) 1 vsf vsg) :=
              ⟨HlaA.out, HlbB.out, Nat.le_refl _, .inr (.inl rfl), Hff.out.mod hmg (fun x hx hx' => hdjf.out x hx' hx) (fun x hx => HEf.out.lo x hx), hg, fun x hx hx' => (hfg x hx').elim (fun h => hdjf.out x hx h) (fun h => by have := Hff.out.lt x hx; omega)⟩
            clear hg hmg hfg
            go_wp2_with fail
            go_roundw
            case rel => exact ⟨k + 1, la ++ sa.data.toList, lb ++ sb.data.toList, T + (1 + q), T + (1 + q), 1, _, _, by go_num, by omega, by omega, by omega, by go_num, by go_num, HZ.out⟩
            case measure => simp [intOf]; omega
          · have hkb : ((k : Int) == (fl : Int)) = false := by simp; omega
            clear hkf
            have HZ : Hid (∀ u, Mod [] wdb u → ARel w1 u bd bm bz bb bl cd cm cz cb cl (la ++ sa.data.toList) (lb ++ sb.data.toList) (T + (1 + q)) L 1 vsa vsb) := fun u hu =>
              ⟨HlaA.out, HlbB.out, by omega, .inr (.inl rfl), HDb.out.same hu, Hdb.out.same hu, hdjb.out⟩
            go_wp2_with fail
            go_roundw
            case rel => exact ⟨k + 1, la ++ sa.data.toList, lb ++ sb.data.toList, T + (1 + q), L, 1, _, _, by go_num, by omega, by omega, by omega, by go_num, by go_num, HZ.out _ ⟨rfl, rfl, rfl, Nat.le_refl _, fun _ _ _ => rfl⟩⟩
            case measure => simp [intOf]; omega
        · have hd : decide (k < 30) = false := by simpa using hlt2
          go_wp2_with fail
          go_meet
          exact ⟨la, lb, T, L, st, vs', us', rfl, rfl, by omega, HR.out⟩
      · have hd : decide (k < xs.length) = false := by simpa using hlt
        go_wp2_with fail
        go_meet
        exact ⟨la, lb, T, L, st, vs', us', rfl, rfl, by omega, HR.out⟩
  case rest =>
    obtain ⟨la, lb, T, L, st, vs', us', rfl, rfl, hT, hR⟩ := hcut
    have HR := Lib.hid hR
    have hLT := hR.fL
    clear hR
    go_wp2_with fail
    refine (dloseA wc.heap.size [(T : Int) - (L : Int)] _ (HR.out.D.alloc _) (ints_one (Blk.new wc _ _)) (fun _ => ⟨fun hx => by have := HR.out.D.lt _ hx; omega, by simp⟩) (by simp) (fun j => by match j with | 0 => (show _ ≤ (T : Int) - (L : Int) ∧ (T : Int) - (L : Int) ≤ _; omega) | (j + 1) => simp)).mono ?_
    rw [k1_lose_eq HR.out.fst _ T (k1_left_all HR.out.fa hLT) (Nat.le_refl _)]
    rintro e wa ⟨rfl, vsa, ha, hma, hfa⟩
    have HE : Hid (DAt w1 wa cd cm cz cb cl (k1 lb T L st) us') := (HR.out.E.alloc _).mod hma (fun x hx hx' => HR.out.dj x hx hx') (fun x hx => HR.out.D.lo x hx)
    have hdj : Hid (∀ x ∈ feet bd bm bz bb bl vsa, x ∉ feet cd cm cz cb cl us') := fun x hx hx' => (hfa x hx).elim (fun h => HR.out.dj x h hx') (fun h => by have := HR.out.E.lt x hx'; simp at h; omega)
    have Ha := Lib.hid ha
    clear ha hma hfa
    go_wp2_with fail
    refine (dloseA 0 [] (.slice none 0 0) HE.out ⟨none, 0, rfl, fun h => absurd h (by simp)⟩ (fun h => absurd h (by simp)) (by simp) (fun j => by simp)).mono ?_
    rw [k1_lose_eq HR.out.fst _ L k1_left_nil hLT]
    rintro e wb ⟨rfl, vsb, hb, hmb, -⟩
    have Ha2 : Hid (DAt w1 wb bd bm bz bb bl (k1 (la.take (T * 64)) T T (restF (T : Int))) vsa) := Ha.out.mod hmb (fun x hx hx' => hdj.out x hx' hx) (fun x hx => HE.out.lo x hx)
    have Hb := Lib.hid hb
    clear hb hmb Ha HE hdj
    go_wp2_with fail
    refine (dzone_any bd bm bz bb bl _ vsa 0 _ Ha2.out.I).mono ?_
    rintro e wn ⟨rfl, hbn⟩
    rw [show getF (k1 (la.take (T * 64)) T T (restF (T : Int))).m 0 = ((restF (T : Int), (T : Int)), true) from rfl]
    have hzv : zoneV (restF (T : Int), (T : Int)) = .agg #[.int .i64 (restF (T : Int)), .int .i64 (T : Int)] := rfl
    rw [hzv]
    have Ha3 := Lib.hid ((Ha2.out.below hbn).alloc (.cells #[.int .i64 (restF (T : Int)), .int .i64 (T : Int)] 30))
    have Hb3 := Lib.hid ((Hb.out.below hbn).alloc (.cells #[.int .i64 (restF (T : Int)), .int .i64 (T : Int)] 30))
    have hnb := Blk.new wn #[.int .i64 (restF (T : Int)), .int .i64 (T : Int)] 30
    clear hbn hzv Ha2 Hb
    go_wp2_with fail
    refine (dzone_any cd cm cz cb cl _ vsb 0 _ Hb3.out.I).mono ?_
    rintro e wo ⟨rfl, hbo⟩
    rw [show getF (k1 (lb.take (L * 64)) L L (restF (L : Int))).m 0 = ((restF (L : Int), (L : Int)), true) from rfl]
    have hzv : zoneV (restF (L : Int), (L : Int)) = .agg #[.int .i64 (restF (L : Int)), .int .i64 (L : Int)] := rfl
    rw [hzv]
    have Ha4 := Lib.hid ((Ha3.out.below hbo).alloc (.cells #[.int .i64 (restF (L : Int)), .int .i64 (L : Int)] 30))
    have Hb4 := Lib.hid ((Hb3.out.below hbo).alloc (.cells #[.int .i64 (restF (L : Int)), .int .i64 (L : Int)] 30))
    have hnb2 := (Mod.of_below hbo []).blk hnb (by simp)
    have z1 := hnb2.cell (i := 1) rfl
    have hlz := hnb2.lt
    clear hbo hzv Ha3 Hb3 hnb hnb2
    go_wp2_with fail
    refine (lasts_any bd bm bz bb bl _ vsa 0 _ Ha4.out.I).mono ?_
    rintro e wp ⟨rfl, rfl⟩
    rw [show lastsF (k1 (la.take (T * 64)) T T (restF (T : Int))) 0 = (T : Int) from rfl]
    go_wp2_with fail
    refine (lasts_any cd cm cz cb cl _ vsb 0 _ Hb4.out.I).mono ?_
    rintro e wp ⟨rfl, rfl⟩
    rw [show lastsF (k1 (lb.take (L * 64)) L L (restF (L : Int))) 0 = (L : Int) from rfl]
    go_wp2_with fail
    go_ret
    exact ⟨rfl, (H1.out.trans' Ha4.out.M).below (Nat.le_refl _)⟩

end Go.Proofs.Ytojceddgmmapdaa
