/-
  Walk of DriveKeeps.
-/
import Derived.Test.YtojceddgmmapdaaDK1
import Derived.Test.YtojceddgmmapdaaDW2
import Derived.Deep.CutBlock
namespace Go.Proofs.Ytojceddgmmapdaa
open Go.RowKit

theorem k1_read {l : List UInt8} {T L : Nat} {st : Int} (h0 : T ≠ 0) (hl : l.length = 64 * T) : ddoF (k1 l T L st) 7 0 0 (T : Int) ByteArray.empty = ((str l, 0, 0), k1 l T L st) := by
  have hs : spanF 0 (T : Int) (T : Int) = true := by
    simp only [spanF, Bool.and_eq_true, decide_eq_true_eq]; omega
  have hD : doF (k1 l T L st).m 7 0 0 (T : Int) = ((0, 0), (k1 l T L st).m) := by
    unfold doF
    rw [if_neg (by omega), if_neg (by simp [k1])]
    show (if !spanF 0 (T : Int) (T : Int) then _ else _) = _
    rw [hs]; rfl
  have e : (((k1 l T L st).bs.getD (0 : Int).toNat []).drop ((0 : Int).toNat * 64)).take ((T : Int).toNat * 64) = l := by
    show (l.drop 0).take _ = l
    rw [List.drop_zero, List.take_of_length_le (by rw [Int.toNat_natCast]; omega)]
  simp only [ddoF, show (k1 l T L st).dead = false from rfl, fits_none (k := 7) (n := (T : Int)) (by omega), hD]
  rw [e]
  rfl
theorem k1_read_no {l : List UInt8} {L : Nat} {st : Int} : ddoF (k1 l 0 L st) 7 0 0 1 ByteArray.empty = ((ByteArray.empty, 0, 2), k1 l 0 L st) := by
  have hD : doF (k1 l 0 L st).m 7 0 0 1 = ((0, 2), (k1 l 0 L st).m) := by
    unfold doF
    rw [if_neg (by omega), if_neg (by simp [k1])]
    rfl
  simp only [ddoF, show (k1 l 0 L st).dead = false from rfl, fits_none (k := 7) (n := 1) (by omega), hD]
  rfl

theorem str_self (A : ByteArray) : str A.data.toList = A := by
  apply ByteArray.ext
  simp [str]

structure KRel (w1 wr : World) (bd bm bz bb bl : Nat) (A : ByteArray) (T L : Nat) (st S : Int) (vs : List Value) : Prop where
  fA : A.size = 64 * T
  fL : L ≤ T
  fst : st = 0 ∨ st = 1 ∨ st = 3
  fS : S = 64 * (L : Int)
  D : DAt w1 wr bd bm bz bb bl (k1 A.data.toList T L st) vs

set_option maxHeartbeats 16000000 in
set_option maxRecDepth 100000 in
theorem driveKeeps_walk (v v2 : Value) (xs : List ActD) (lss : List (List Int)) (b b2 : Nat) (w : World) (hv : ActsAt w v xs b) (_hxl : xs.length ≤ 9223372036854775807) (hv2 : IntssB w v2 lss b2) (hll : lss.length ≤ 9223372036854775807) :
    Calls Try.prog 10 #[v, v2] w fun e w' => e = .returned (.bool true) ∧ Below w.heap.size w w' := by
  have Hv := Lib.hid hv
  obtain ⟨va, vc, rfl, -⟩ := hv
  have Hv2 := Lib.hid hv2
  obtain ⟨⟨va2, vc2, rfl, -⟩, -⟩ := hv2
  go_enter Try.func10, Try.ntmps10
  go_wp2_with fail
  refine (speaks07_any _).mono ?_
  rintro e w1 ⟨rfl, hm1⟩
  have H1 := Lib.hid hm1; clear hm1
  go_wp2_with fail
  refine (dnewA 1 200 1 1 _ rfl).mono ?_
  rintro e w2 ⟨bd, bm, bz, bb, bl, vs, rfl, h2⟩
  have H2 : Hid (DAt w1 w2 bd bm bz bb bl (k1 [] 0 0 0) vs) := h2
  clear h2
  go_wp2_with fail
  go_loopw [7, 8, 9] (fun s7 s8 s9 wr => ∃ (k : Nat) (A : ByteArray) (T L : Nat) (st S : Int) (vs' : List Value), s9 = .int .i64 k ∧ k ≤ xs.length ∧ T ≤ 4 * k ∧ k ≤ 40 ∧ s7 = .string A ∧ s8 = .int .i64 S ∧ KRel w1 wr bd bm bz bb bl A T L st S vs') (fun _ _ s9 _ => 200 - (intOf s9).toNat)
  case atStart => exact ⟨0, ByteArray.empty, 0, 0, 0, 0, vs, rfl, Nat.zero_le _, Nat.zero_le _, by omega, rfl, rfl, ⟨rfl, Nat.le_refl _, .inl rfl, rfl, H2.out⟩⟩
  case round =>
    obtain ⟨k, A, T, L, st, S, vs', rfl, hk, hT, hk40, rfl, rfl, hR⟩ := hrel
    have HR := Lib.hid hR
    clear hR
    by_cases hlt : k < xs.length
    · by_cases hlt2 : k < 40
      · obtain ⟨off, cc, a0, a1, a2, a3, a4, a5, keep, ka, kl, kc, hv', hget, hblt, hS⟩ := act_cells Hv.out k hlt
        simp only [Value.slice.injEq] at hv'
        obtain ⟨rfl, _, rfl⟩ := hv'
        have HS := Lib.hid hS; clear hS hget
        obtain ⟨q0, q1, q2, q3, q4, q5, q6⟩ := HS.out wr (H1.out.trans' HR.out.D.M)
        have h43 := i64_and3 a3
        obtain ⟨q, hq⟩ := Int.eq_ofNat_of_zero_le (show 0 ≤ a3 % 4 by omega)
        have hq4 : q < 4 := by omega
        rw [hq] at h43
        clear hq
        go_wp2_with fail
        refine (text_any 2 a1 a2 (1 + (q : Int)) 0 a5 (.slice ka kl kc) k _).mono ?_
        rintro e wt ⟨s, rfl, hs, hbt⟩
        have hs : s.size = 64 * (1 + q) := by
          rw [hs]
          have : textB 2 (1 + (q : Int)) = true := by
            simp only [textB, Bool.and_eq_true, decide_eq_true_eq]
            exact ⟨⟨rfl, by omega⟩, by omega⟩
          unfold textN
          rw [if_pos this]
          omega
        have hbx := Blk.new wr #[.int .i64 2, .int .i64 a1, .int .i64 a2, .int .i64 (1 + (q : Int)), .int .i64 0, .int .u8 a5, .slice ka kl kc] 61
        have hbx2 := (Mod.of_below hbt []).blk hbx (by simp)
        have x3 := hbx2.cell (i := 3) rfl
        have hlx := hbx2.lt
        have Hr2 := Lib.hid ((HR.out.D.alloc (.cells #[.int .i64 2, .int .i64 a1, .int .i64 a2, .int .i64 (1 + (q : Int)), .int .i64 0, .int .u8 a5, .slice ka kl kc] 61)).below hbt)
        have Hs := Lib.hid hs
        clear hbt hbx hbx2 hs q0 q1 q2 q3 q4 q5 q6
        go_wp2_with fail
        refine (ddoA 2 0 0 (1 + (q : Int)) s Hr2.out (by rw [Hs.out]; omega)).mono ?_
        have hD := k1_app (l := A.data.toList) (T := T) (L := L) (q := 1 + q) (s := s) HR.out.fst (by omega) (by omega) Hs.out
        rw [show (((1 + q : Nat)) : Int) = 1 + (q : Int) by omega] at hD
        rw [hD]
        clear hD
        rintro e wd ⟨rfl, vs2, hd, -, -⟩
        have hA2 : (A ++ s).size = 64 * (T + (1 + q)) := by rw [ByteArray.size_append, HR.out.fA, Hs.out]; omega
        have Hd : Hid (DAt w1 wd bd bm bz bb bl (k1 (A ++ s).data.toList (T + (1 + q)) L 1) vs2) := by
          show DAt w1 wd bd bm bz bb bl (k1 (A ++ s).data.toList (T + (1 + q)) L 1) vs2
          rwa [ByteArray.data_append, Array.toList_append]
        have hcs : A.size + s.size ≤ 100000 := by rw [HR.out.fA, Hs.out]; omega
        have hne : (((T : Int) * 64) != (A.size : Int)) = false := by
          have := HR.out.fA
          simp; omega
        have HL : Hid (L ≤ T + (1 + q) ∧ S = 64 * (L : Int)) := ⟨by have := HR.out.fL; omega, HR.out.fS⟩
        have hT2 : T + (1 + q) ≤ 4 * (k + 1) := by omega
        have HA2 := Lib.hid hA2
        obtain ⟨y0, y1, y2, -⟩ := HS.out wd (H1.out.trans' hd.M)
        have h41 := i64_and3 a1
        have h42 := i64_and3 a2
        clear hd x3 hA2
        go_upto_region 16 with (fail)
        have hT21 : 1 ≤ T + (1 + q) := by omega
        generalize A ++ s = A2 at *
        generalize T + (1 + q) = T2 at *
        by_cases hz : a1 % 4 = 0
        · have hzb : (a1 % 4 == 0) = true := by simpa using hz
          clear hz
          go_wp2_with fail
          refine (dflushA Hd.out).mono ?_
          rw [k1_flush HA2.out]
          rintro e wq ⟨rfl, vsq, hq, -, -⟩
          have Hq : Hid (DAt w1 wq bd bm bz bb bl (k1 A2.data.toList T2 T2 1) vsq) := hq
          have y2 := (HS.out wq (H1.out.trans' hq.M)).c2
          clear hq y0 y1
          go_upto_region 19 with (fail)
          by_cases hl1 : k < lss.length
          · by_cases hl2 : a2 % 4 = 0
            · have hlb : (a2 % 4 == 0) = true := by simpa using hl2
              obtain ⟨hat2, hbds⟩ := Hv2.out
              obtain ⟨_, _, hve, hcl⟩ := hat2
              obtain ⟨off2, rfl, hb2lt, hcl⟩ := hcl (by omega)
              cases hve
              obtain ⟨u, g, hcu, hsu, hlu⟩ := hcl k hl1
              have hbk := fun y => hbds k y
              have hmw : Mod [] w wq := H1.out.trans' Hq.out.M
              have hcu9 := (hmw.cell hb2lt (by simp)).trans hcu
              have hsu9 := hsu.mod hmw (by simp)
              clear hcl hcu hsu hbds
              generalize lss.getD k [] = ls at *
              have Hsu9 := Lib.hid hsu9
              have Hbk := Lib.hid hbk
              have hb2w : b2 < wq.heap.size := Nat.lt_of_lt_of_le hb2lt hmw.size
              clear hsu9 hbk hl2 hmw
              go_wp2_with (at_builtin; refine wpList_append_ints rfl _ _ rfl rfl _ ls g rfl Hsu9.out hlu ?_; intro v' wl bl0 hbl0 hvl hml)
              refine (dloseA bl0 ls _ (Hq.out.same hml) hvl (fun h => ⟨fun hx => by have := Hq.out.lt _ hx; omega, ?_⟩) (by omega) (fun j => ?_)).mono ?_
              · obtain ⟨_, _, _, hvl⟩ := hvl
                obtain ⟨_, _, hx, _⟩ := hvl h
                exact hx
              · by_cases hj : j < ls.length
                · have e : ls.getD j 0 = ls[j] := by simp [List.getD_eq_getElem?_getD, hj]
                  rw [e]
                  exact Hbk.out _ (List.getElem_mem hj)
                · have e : ls.getD j 0 = 0 := by simp [List.getD_eq_getElem?_getD, hj]
                  rw [e]; omega
              obtain ⟨T3, st3, hT3a, hT3b, hst3, hlose⟩ := k1_lose (l := A2.data.toList) (T := T2) (L := T2) (st := 1) (.inr (.inl rfl)) HA2.out (by have := HL.out; omega) ls
              rw [hlose]
              rintro e wm ⟨rfl, vsm, hm, -, -⟩
              have Hst3 := Lib.hid hst3
              have Hm := Lib.hid hm
              clear hlose hst3 hm hvl hml hbl0 hcu9
              go_wp2_with fail
              refine (dzone_any bd bm bz bb bl _ vsm 0 _ Hm.out.I).mono ?_
              rintro e wn ⟨rfl, hbn⟩
              rw [show getF (k1 (A2.data.toList.take (T3 * 64)) T3 T3 st3).m 0 = ((st3, (T3 : Int)), true) from rfl]
              have hzv : zoneV (st3, (T3 : Int)) = .agg #[.int .i64 st3, .int .i64 (T3 : Int)] := rfl
              rw [hzv]
              have Hn := Lib.hid ((Hm.out.below hbn).alloc (.cells #[.int .i64 st3, .int .i64 (T3 : Int)] 30))
              have hnb := Blk.new wn #[.int .i64 st3, .int .i64 (T3 : Int)] 30
              have z0 := hnb.cell (i := 0) rfl
              have z1 := hnb.cell (i := 1) rfl
              clear hbn Hm hzv
              have hA2i : (A2.size : Int) = 64 * (T2 : Int) := by have := HA2.out; omega
              have d1 : decide ((T3 : Int) * 64 < (A2.size : Int)) = false := by have := HL.out; simp; omega
              have d2 : decide ((A2.size : Int) < (T3 : Int) * 64) = false := by simp; omega
              have hA2u : A2.size ≤ 100000 := by omega
              have m1 : IntKind.i64.wrap ((T3 : Int) * 64) = (T3 : Int) * 64 := IntWalk.i64_in _ (by omega)
              have hlas : Hid (∀ u : World, Mod [] (wn.alloc (.cells #[.int .i64 st3, .int .i64 (T3 : Int)] 30)) u → Calls Try.prog 32 #[.pointer (some ⟨bd, 0, none⟩), .int .i64 0] u fun e w' => e = .returned (.int .i64 (T3 : Int)) ∧ u = w') := fun u hu =>
                lasts_any bd bm bz bb bl _ vsm 0 u (Hn.out.same hu).I
              have hA3 : (A2.extract 0 (T3 * 64)).size = 64 * T3 := by rw [ByteArray.size_extract, HA2.out]; omega
              have hA3d : (A2.extract 0 (T3 * 64)).data.toList = A2.data.toList.take (T3 * 64) := by
                rw [ByteArray.data_extract, Array.toList_extract, List.extract_eq_take_drop]; simp
              have HA3 := Lib.hid hA3
              have Hn3 : Hid (DAt w1 (wn.alloc (.cells #[.int .i64 st3, .int .i64 (T3 : Int)] 30)) bd bm bz bb bl (k1 (A2.extract 0 (T3 * 64)).data.toList T3 T3 st3) vsm) := by
                show DAt w1 _ bd bm bz bb bl (k1 (A2.extract 0 (T3 * 64)).data.toList T3 T3 st3) vsm
                rw [hA3d]; exact Hn.out
              have HA2i := Lib.hid hA2i
              clear hA3 hA3d hA2i Hn
              have t4 : T3 * 64 ≤ A2.size := by have := HA2.out; omega
              go_upto_region 22 with (fail)
              go_quiet ((go_at_call 32; exact quietW (hlas.out _ (by first | exact Mod.refl _ _ | exact (Mod.refl _ _).drew | exact (Mod.refl _ _).drewN _))))
              go_upto_region 26 with (fail)
              generalize A2.extract 0 (T3 * 64) = A3 at *
              by_cases h30 : 1 ≤ T3
              · skip
                have hdv : (A3.size : Int) / 64 = (T3 : Int) := by have := HA3.out; omega
                have hsp : decide (0 < A3.size) = true := by have := HA3.out; simp; omega
                go_wp2_with fail
                refine (ddoA 7 0 0 (T3 : Int) ByteArray.empty (Hn3.out.same ((Mod.refl [] _).drewN _)) (by decide)).mono ?_
                rw [k1_read (by omega) HA3.out, str_self]
                rintro e wz ⟨rfl, vsz, hz, -, -⟩
                have Hz := Lib.hid hz
                clear hz
                go_wp2_with fail
                go_roundw
                case rel => exact ⟨k + 1, A3, T3, T3, st3, _, vsz, by go_num, by omega, by omega, by omega, rfl, rfl, ⟨HA3.out, by have := HL.out; omega, by first | exact .inr (.inl rfl) | exact Hst3.out, by omega, Hz.out⟩⟩
                case measure => simp [intOf]; omega
              · skip
                exfalso; omega
            · have hlb : (a2 % 4 == 0) = false := by simpa using hl2
              have h21 : 1 ≤ T2 := hT21
              clear hl2
              go_upto_region 26 with (fail)
              have hdv : (A2.size : Int) / 64 = (T2 : Int) := by have := HA2.out; omega
              have hsp : decide (0 < A2.size) = true := by have := HA2.out; simp; omega
              go_wp2_with fail
              refine (ddoA 7 0 0 (T2 : Int) ByteArray.empty Hq.out (by decide)).mono ?_
              rw [k1_read (by omega) HA2.out, str_self]
              rintro e wz ⟨rfl, vsz, hz, -, -⟩
              have Hz := Lib.hid hz
              clear hz
              go_wp2_with fail
              go_roundw
              case rel => exact ⟨k + 1, A2, T2, T2, 1, _, vsz, by go_num, by omega, by omega, by omega, rfl, rfl, ⟨HA2.out, by have := HL.out; omega, by first | exact .inr (.inl rfl) | exact Hst3.out, by have := HA2.out; omega, Hz.out⟩⟩
              case measure => simp [intOf]; omega
          · have hlb : decide (k < lss.length) = false := by simpa using hl1
            have h21 : 1 ≤ T2 := hT21
            clear hl1
            go_upto_region 26 with (fail)
            have hdv : (A2.size : Int) / 64 = (T2 : Int) := by have := HA2.out; omega
            have hsp : decide (0 < A2.size) = true := by have := HA2.out; simp; omega
            go_wp2_with fail
            refine (ddoA 7 0 0 (T2 : Int) ByteArray.empty Hq.out (by decide)).mono ?_
            rw [k1_read (by omega) HA2.out, str_self]
            rintro e wz ⟨rfl, vsz, hz, -, -⟩
            have Hz := Lib.hid hz
            clear hz
            go_wp2_with fail
            go_roundw
            case rel => exact ⟨k + 1, A2, T2, T2, 1, _, vsz, by go_num, by omega, by omega, by omega, rfl, rfl, ⟨HA2.out, by have := HL.out; omega, by first | exact .inr (.inl rfl) | exact Hst3.out, by have := HA2.out; omega, Hz.out⟩⟩
            case measure => simp [intOf]; omega
        · have hzb : (a1 % 4 == 0) = false := by simpa using hz
          clear hz
          go_upto_region 19 with (fail)
          by_cases hl1 : k < lss.length
          · by_cases hl2 : a2 % 4 = 0
            · have hlb : (a2 % 4 == 0) = true := by simpa using hl2
              obtain ⟨hat2, hbds⟩ := Hv2.out
              obtain ⟨_, _, hve, hcl⟩ := hat2
              obtain ⟨off2, rfl, hb2lt, hcl⟩ := hcl (by omega)
              cases hve
              obtain ⟨u, g, hcu, hsu, hlu⟩ := hcl k hl1
              have hbk := fun y => hbds k y
              have hmw : Mod [] w wd := H1.out.trans' Hd.out.M
              have hcu9 := (hmw.cell hb2lt (by simp)).trans hcu
              have hsu9 := hsu.mod hmw (by simp)
              clear hcl hcu hsu hbds
              generalize lss.getD k [] = ls at *
              have Hsu9 := Lib.hid hsu9
              have Hbk := Lib.hid hbk
              have hb2w : b2 < wd.heap.size := Nat.lt_of_lt_of_le hb2lt hmw.size
              clear hsu9 hbk hl2 hmw
              go_wp2_with (at_builtin; refine wpList_append_ints rfl _ _ rfl rfl _ ls g rfl Hsu9.out hlu ?_; intro v' wl bl0 hbl0 hvl hml)
              refine (dloseA bl0 ls _ (Hd.out.same hml) hvl (fun h => ⟨fun hx => by have := Hd.out.lt _ hx; omega, ?_⟩) (by omega) (fun j => ?_)).mono ?_
              · obtain ⟨_, _, _, hvl⟩ := hvl
                obtain ⟨_, _, hx, _⟩ := hvl h
                exact hx
              · by_cases hj : j < ls.length
                · have e : ls.getD j 0 = ls[j] := by simp [List.getD_eq_getElem?_getD, hj]
                  rw [e]
                  exact Hbk.out _ (List.getElem_mem hj)
                · have e : ls.getD j 0 = 0 := by simp [List.getD_eq_getElem?_getD, hj]
                  rw [e]; omega
              obtain ⟨T3, st3, hT3a, hT3b, hst3, hlose⟩ := k1_lose (l := A2.data.toList) (T := T2) (L := L) (st := 1) (.inr (.inl rfl)) HA2.out (by have := HL.out; omega) ls
              rw [hlose]
              rintro e wm ⟨rfl, vsm, hm, -, -⟩
              have Hst3 := Lib.hid hst3
              have Hm := Lib.hid hm
              clear hlose hst3 hm hvl hml hbl0 hcu9
              go_wp2_with fail
              refine (dzone_any bd bm bz bb bl _ vsm 0 _ Hm.out.I).mono ?_
              rintro e wn ⟨rfl, hbn⟩
              rw [show getF (k1 (A2.data.toList.take (T3 * 64)) T3 T3 st3).m 0 = ((st3, (T3 : Int)), true) from rfl]
              have hzv : zoneV (st3, (T3 : Int)) = .agg #[.int .i64 st3, .int .i64 (T3 : Int)] := rfl
              rw [hzv]
              have Hn := Lib.hid ((Hm.out.below hbn).alloc (.cells #[.int .i64 st3, .int .i64 (T3 : Int)] 30))
              have hnb := Blk.new wn #[.int .i64 st3, .int .i64 (T3 : Int)] 30
              have z0 := hnb.cell (i := 0) rfl
              have z1 := hnb.cell (i := 1) rfl
              clear hbn Hm hzv
              have hA2i : (A2.size : Int) = 64 * (T2 : Int) := by have := HA2.out; omega
              have d1 : decide ((T3 : Int) * 64 < S) = false := by have := HL.out; simp; omega
              have d2 : decide ((A2.size : Int) < (T3 : Int) * 64) = false := by simp; omega
              have hA2u : A2.size ≤ 100000 := by omega
              have m1 : IntKind.i64.wrap ((T3 : Int) * 64) = (T3 : Int) * 64 := IntWalk.i64_in _ (by omega)
              have hlas : Hid (∀ u : World, Mod [] (wn.alloc (.cells #[.int .i64 st3, .int .i64 (T3 : Int)] 30)) u → Calls Try.prog 32 #[.pointer (some ⟨bd, 0, none⟩), .int .i64 0] u fun e w' => e = .returned (.int .i64 (T3 : Int)) ∧ u = w') := fun u hu =>
                lasts_any bd bm bz bb bl _ vsm 0 u (Hn.out.same hu).I
              have hA3 : (A2.extract 0 (T3 * 64)).size = 64 * T3 := by rw [ByteArray.size_extract, HA2.out]; omega
              have hA3d : (A2.extract 0 (T3 * 64)).data.toList = A2.data.toList.take (T3 * 64) := by
                rw [ByteArray.data_extract, Array.toList_extract, List.extract_eq_take_drop]; simp
              have HA3 := Lib.hid hA3
              have Hn3 : Hid (DAt w1 (wn.alloc (.cells #[.int .i64 st3, .int .i64 (T3 : Int)] 30)) bd bm bz bb bl (k1 (A2.extract 0 (T3 * 64)).data.toList T3 T3 st3) vsm) := by
                show DAt w1 _ bd bm bz bb bl (k1 (A2.extract 0 (T3 * 64)).data.toList T3 T3 st3) vsm
                rw [hA3d]; exact Hn.out
              have HA2i := Lib.hid hA2i
              clear hA3 hA3d hA2i Hn
              have t4 : T3 * 64 ≤ A2.size := by have := HA2.out; omega
              go_upto_region 22 with (fail)
              go_quiet ((go_at_call 32; exact quietW (hlas.out _ (by first | exact Mod.refl _ _ | exact (Mod.refl _ _).drew | exact (Mod.refl _ _).drewN _))))
              go_upto_region 26 with (fail)
              generalize A2.extract 0 (T3 * 64) = A3 at *
              by_cases h30 : 1 ≤ T3
              · skip
                have hdv : (A3.size : Int) / 64 = (T3 : Int) := by have := HA3.out; omega
                have hsp : decide (0 < A3.size) = true := by have := HA3.out; simp; omega
                go_wp2_with fail
                refine (ddoA 7 0 0 (T3 : Int) ByteArray.empty (Hn3.out.same ((Mod.refl [] _).drewN _)) (by decide)).mono ?_
                rw [k1_read (by omega) HA3.out, str_self]
                rintro e wz ⟨rfl, vsz, hz, -, -⟩
                have Hz := Lib.hid hz
                clear hz
                go_wp2_with fail
                go_roundw
                case rel => exact ⟨k + 1, A3, T3, T3, st3, _, vsz, by go_num, by omega, by omega, by omega, rfl, rfl, ⟨HA3.out, by have := HL.out; omega, by first | exact .inr (.inl rfl) | exact Hst3.out, by omega, Hz.out⟩⟩
                case measure => simp [intOf]; omega
              · skip
                have hT0 : T3 = 0 := by omega
                have hA0 : A3.size = 0 := by have := HA3.out; omega
                have hsp : decide (0 < A3.size) = false := by simp [hA0]
                have HA0 := Lib.hid hA0
                have hdv : (A3.size : Int) / 64 = 0 := by omega
                have hrn : ddoF (k1 A3.data.toList T3 T3 st3) 7 0 0 1 ByteArray.empty = ((ByteArray.empty, 0, 2), k1 A3.data.toList T3 T3 st3) := by rw [hT0]; exact k1_read_no
                have Hrn := Lib.hid hrn
                clear hA0 hT0 hrn
                go_wp2_with fail
                refine (ddoA 7 0 0 1 ByteArray.empty (Hn3.out.same ((Mod.refl [] _).drewN _)) (by decide)).mono ?_
                rw [Hrn.out]
                rintro e wz ⟨rfl, vsz, hz, -, -⟩
                have Hz := Lib.hid hz
                clear hz
                go_wp2_with fail
                go_roundw
                case rel => exact ⟨k + 1, A3, T3, T3, st3, _, vsz, by go_num, by omega, by omega, by omega, rfl, rfl, ⟨HA3.out, by omega, by first | exact .inr (.inl rfl) | exact Hst3.out, by omega, Hz.out⟩⟩
                case measure => simp [intOf]; omega
            · have hlb : (a2 % 4 == 0) = false := by simpa using hl2
              have h21 : 1 ≤ T2 := hT21
              clear hl2
              go_upto_region 26 with (fail)
              have hdv : (A2.size : Int) / 64 = (T2 : Int) := by have := HA2.out; omega
              have hsp : decide (0 < A2.size) = true := by have := HA2.out; simp; omega
              go_wp2_with fail
              refine (ddoA 7 0 0 (T2 : Int) ByteArray.empty Hd.out (by decide)).mono ?_
              rw [k1_read (by omega) HA2.out, str_self]
              rintro e wz ⟨rfl, vsz, hz, -, -⟩
              have Hz := Lib.hid hz
              clear hz
              go_wp2_with fail
              go_roundw
              case rel => exact ⟨k + 1, A2, T2, L, 1, _, vsz, by go_num, by omega, by omega, by omega, rfl, rfl, ⟨HA2.out, by have := HL.out; omega, by first | exact .inr (.inl rfl) | exact Hst3.out, by exact HL.out.2, Hz.out⟩⟩
              case measure => simp [intOf]; omega
          · have hlb : decide (k < lss.length) = false := by simpa using hl1
            have h21 : 1 ≤ T2 := hT21
            clear hl1
            go_upto_region 26 with (fail)
            have hdv : (A2.size : Int) / 64 = (T2 : Int) := by have := HA2.out; omega
            have hsp : decide (0 < A2.size) = true := by have := HA2.out; simp; omega
            go_wp2_with fail
            refine (ddoA 7 0 0 (T2 : Int) ByteArray.empty Hd.out (by decide)).mono ?_
            rw [k1_read (by omega) HA2.out, str_self]
            rintro e wz ⟨rfl, vsz, hz, -, -⟩
            have Hz := Lib.hid hz
            clear hz
            go_wp2_with fail
            go_roundw
            case rel => exact ⟨k + 1, A2, T2, L, 1, _, vsz, by go_num, by omega, by omega, by omega, rfl, rfl, ⟨HA2.out, by have := HL.out; omega, by first | exact .inr (.inl rfl) | exact Hst3.out, by exact HL.out.2, Hz.out⟩⟩
            case measure => simp [intOf]; omega
      · have hd : decide (k < 40) = false := by simpa using hlt2
        go_wp2_with fail
        go_ret
        exact ⟨rfl, (H1.out.trans' HR.out.D.M).below (Nat.le_refl _)⟩
    · have hd : decide (k < xs.length) = false := by simpa using hlt
      go_wp2_with fail
      go_ret
      exact ⟨rfl, (H1.out.trans' HR.out.D.M).below (Nat.le_refl _)⟩

end Go.Proofs.Ytojceddgmmapdaa
