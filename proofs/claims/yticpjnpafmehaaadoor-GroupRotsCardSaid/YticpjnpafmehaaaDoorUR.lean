/-
  Walk of GroupRots.
-/
import Derived.Test.YticpjnpafmehaaaDoorUR0
import Derived.Test.YticpjnpafmehaaaDoorUG
namespace Go.Proofs.YticpjnpafmehaaaDoor.U
open Go.RowKit Go.Proofs.YticpjnpafmehaaaDoorW.PrintWords Go.Proofs.YticpjnpafmehaaaDoorW.PrintLast Go.Proofs.YticpjnpafmehaaaDoorW.PrintMore
set_option linter.unusedVariables false
set_option linter.unusedSimpArgs false

theorem decode_tup2 (s : ByteArray) (w : World) (hs : s.size ≤ 1000) (hT : TabIn w) (D : Gp × Int × Int) (hD : decG (bl s) = D) :
    Calls Tryd.prog 27 #[.string s] w fun e w' => ∃ (A1 : Option Addr) (n1 c1 : Nat) (A2 : Option Addr) (n2 c2 : Nat), e = .returned (.tuple #[.agg #[.int .i64 D.1.seq, .slice A1 n1 c1, .slice A2 n2 c2], .int .i64 D.2.1, .int .i64 D.2.2]) ∧ Below w.heap.size w w' := by
  have h1 := dec_f s (by omega) 500 (by omega)
  rw [hD] at h1
  refine (group_Decode.calls 500 s _ _ _ _ _ w h1 hT).mono ?_
  rintro e w' ⟨v1, v2, rfl, hR1, hR2, hb⟩
  obtain ⟨A1, c1, rfl⟩ := Kd.R_slice hR1
  obtain ⟨A2, c2, rfl⟩ := Kd.R_slice hR2
  exact ⟨A1, _, c1, A2, _, c2, rfl, hb⟩
theorem given_tup (x0 : Int) (A1 : Option Addr) (c1 : Nat) (l1 : List Int) (A2 : Option Addr) (c2 : Nat) (l2 : List Bool) (A3 : Option Addr) (c3 : Nat) (l3 : List ByteArray) (w : World)
    (hr1 : (Kd.int .i64).C w A1 l1.length l1 ∧ l1.length ≤ c1) (hr2 : Kd.bool.C w A2 l2.length l2 ∧ l2.length ≤ c2) (hr3 : Kd.string.C w A3 l3.length l3 ∧ l3.length ≤ c3) (hs : ∀ s ∈ l3, s.size ≤ 140737488355328) (g : Gp) (hg : gvG x0 l1 l2 l3 = g) :
    Calls Tryd.prog 23 #[.agg #[.int .i64 x0, .slice A1 l1.length c1, .slice A2 l2.length c2, .slice A3 l3.length c3]] w fun e w' => ∃ (B1 : Option Addr) (k1 : Nat) (B2 : Option Addr) (k2 : Nat) (B4 : Option Addr) (n4 k4 : Nat) (B5 : Option Addr) (n5 k5 : Nat) (B6 : Option Addr) (n6 k6 : Nat),
      e = .returned (.tuple #[.agg #[.int .i64 g.seq, .slice B1 (g.es.map toE).length k1, .slice B2 g.ds.length k2], .agg #[.int .i64 g.seq, .slice B4 n4 k4, .slice B5 n5 k5, .slice B6 n6 k6]]) ∧
      (Kd.C k62 w' B1 (g.es.map toE).length (g.es.map toE) ∧ (g.es.map toE).length ≤ k1) ∧ (Kd.C Kd.string w' B2 g.ds.length g.ds ∧ g.ds.length ≤ k2) ∧ Below w.heap.size w w' := by
  have h1 := given_f x0 l1 l2 l3 hs
  rw [hg] at h1
  have hsq : g.seq = x0 := by rw [← hg]; rfl
  refine (corbellaw18_given.calls x0 A1 c1 l1 A2 c2 l2 A3 c3 l3 _ _ _ _ _ _ _ w hr1.1 hr1.2 hr2.1 hr2.2 hr3.1 hr3.2 h1).mono ?_
  rintro e w' ⟨v1, v2, v4, v5, v6, rfl, q1, q2, q4, q5, q6, hb⟩
  obtain ⟨B1, k1, rfl, a1, a2⟩ := Kd.R_reads q1
  obtain ⟨B2, k2, rfl, a3, a4⟩ := Kd.R_reads q2
  obtain ⟨B4, k4, rfl⟩ := Kd.R_slice q4
  obtain ⟨B5, k5, rfl⟩ := Kd.R_slice q5
  obtain ⟨B6, k6, rfl⟩ := Kd.R_slice q6
  exact ⟨B1, k1, B2, k2, B4, _, k4, B5, _, k5, B6, _, k6, by rw [hsq], ⟨a2, a1⟩, ⟨a4, a3⟩, hb⟩
theorem end_zero {A : Gp} (hg : goodG A = true) {T : List UInt8} (hT : encG A = T) {p : Nat} {ys : List UInt8} (h : p + ys.length ≤ T.length) (h0 : ys.any (fun y => y != 0) = false) : (decG (chg T p ys)).2.2 = 0 := by
  subst hT
  exact rots_not A hg p ys h (fun y hy => by
    have := List.any_eq_false.1 h0 y hy
    simpa using this)
theorem end_turn {A : Gp} (hg : goodG A = true) {T : List UInt8} (hT : encG A = T) {p : Nat} {ys : List UInt8} (h4 : ys.length ≤ 4) (hp : (2 ≤ p ∧ p + ys.length ≤ 8) ∨ (64 ≤ p ∧ p + ys.length ≤ T.length)) (h0 : ys.any (fun y => y != 0) = true) : (decG (chg T p ys)).2.2 ≠ 0 ∧ (decG (chg T p ys)).1 = g0 ∧ (decG (chg T p ys)).2.1 = 0 := by
  subst hT
  have h := rots A hg p ys h4 hp (by
    obtain ⟨y, hy, hn⟩ := List.any_eq_true.1 h0
    exact ⟨y, hy, by simpa using hn⟩)
  exact ⟨h, dec_bad _ h⟩
theorem alloc1' {a w : World} (h : Below a.heap.size a w) (o : Obj) : Below a.heap.size a (w.alloc o) := h.alloc h.size o



set_option maxHeartbeats 8000000 in
set_option maxRecDepth 100000 in
theorem rots_walk (x0 : Int) (A1 : Option Addr) (c1 : Nat) (l1 : List Int) (A2 : Option Addr) (c2 : Nat) (l2 : List Bool) (A3 : Option Addr) (c3 : Nat) (l3 : List ByteArray) (at0 : Int) (y0 y1 y2 y3 : UInt8) (w : World) (hN : TabIn w)
    (hr1 : (Kd.int .i64).C w A1 l1.length l1 ∧ l1.length ≤ c1) (hr2 : Kd.bool.C w A2 l2.length l2 ∧ l2.length ≤ c2) (hr3 : Kd.string.C w A3 l3.length l3 ∧ l3.length ≤ c3) (hs : ∀ s ∈ l3, s.size ≤ 140737488355328) (hat : -9223372036854775808 ≤ at0 ∧ at0 ≤ 9223372036854775807) :
    Calls Tryd.prog 10 #[.agg #[.int .i64 x0, .slice A1 l1.length c1, .slice A2 l2.length c2, .slice A3 l3.length c3], .int .i64 at0, .agg #[.int .u8 (y0.toNat : Int), .int .u8 (y1.toNat : Int), .int .u8 (y2.toNat : Int), .int .u8 (y3.toNat : Int)]] w fun e w' => e = .returned (.bool true) ∧ Below w.heap.size w w' := by
  have HN := Lib.hid hN
  have hw0 := hN.lt
  have HR1 := Lib.hid hr1; have HR2 := Lib.hid hr2; have HR3 := Lib.hid hr3; have HS := Lib.hid hs
  clear hN hr1 hr2 hr3 hs
  obtain ⟨X, hX⟩ : ∃ X : Array Value, X = #[.int .i64 x0, .slice A1 l1.length c1, .slice A2 l2.length c2, .slice A3 l3.length c3] := ⟨_, rfl⟩
  have hS1 : Below w.heap.size w ((w.alloc (.cells X 39)).alloc (.cells (yc y0 y1 y2 y3) 52)) := alloc1' (alloc1' (Below.refl _ _) _) _
  have hX0 : Blk ((w.alloc (.cells X 39)).alloc (.cells (yc y0 y1 y2 y3) 52)) w.heap.size X 39 := (Blk.new w _ _).alloc _
  have hY0 : Blk ((w.alloc (.cells X 39)).alloc (.cells (yc y0 y1 y2 y3) 52)) (w.heap.size + 1) (yc y0 y1 y2 y3) 52 := by
    have := Blk.new (w.alloc (.cells X 39)) (yc y0 y1 y2 y3) 52
    rwa [show (w.alloc (.cells X 39)).heap.size = w.heap.size + 1 from by show (w.heap.push _).size = _; simp] at this
  subst hX
  go_enter Tryd.func10, Tryd.ntmps10
  go_wp2_with fail
  refine (corbellaw18_speaks.calls 2000 true _ (speaks_ev 2000 (by omega)) (HN.out.below hS1 hw0)).mono ?_
  rintro e w1 ⟨rfl, hb1⟩
  have hB1 : Blk w1 w.heap.size #[.int .i64 x0, .slice A1 l1.length c1, .slice A2 l2.length c2, .slice A3 l3.length c3] 39 := (Mod.of_below hb1 []).blk hX0 (by simp)
  have hY1 : Blk w1 (w.heap.size + 1) (yc y0 y1 y2 y3) 52 := (Mod.of_below hb1 []).blk hY0 (by simp)
  have hW1 : Below w.heap.size w w1 := hS1.trans (hb1.mono hS1.size)
  have HW1 := Lib.hid hW1
  have q0 : w1.cell? ⟨w.heap.size, 0, none⟩ = some (.int .i64 x0) := hB1.cell rfl
  have q1 : w1.cell? ⟨w.heap.size, 1, none⟩ = some (.slice A1 l1.length c1) := hB1.cell rfl
  have q2 : w1.cell? ⟨w.heap.size, 2, none⟩ = some (.slice A2 l2.length c2) := hB1.cell rfl
  have q3 : w1.cell? ⟨w.heap.size, 3, none⟩ = some (.slice A3 l3.length c3) := hB1.cell rfl
  have HY1 := Lib.hid hY1
  clear hb1 hB1 hW1 hS1 hX0 hY0 hY1
  obtain ⟨A, hA⟩ : ∃ A, gvG x0 l1 l2 l3 = A := ⟨_, rfl⟩
  have HA := Lib.hid hA
  clear hA
  go_wp2_with fail
  refine (given_tup x0 A1 c1 l1 A2 c2 l2 A3 c3 l3 _ ⟨Kd.C_below HR1.out.1 HW1.out, HR1.out.2⟩ ⟨Kd.C_below HR2.out.1 HW1.out, HR2.out.2⟩ ⟨Kd.C_below HR3.out.1 HW1.out, HR3.out.2⟩ HS.out A HA.out).mono ?_
  rintro e w2 ⟨B1, k1, B2, k2, B4, n4, k4, B5, n5, k5, B6, n6, k6, rfl, ⟨hC1, hk1⟩, ⟨hC2, hk2⟩, hb2⟩
  obtain ⟨M, hM⟩ : ∃ M, A.es.map toE = M := ⟨_, rfl⟩
  rw [hM] at hC1 hk1 ⊢
  have hY2 : Blk w2 (w.heap.size + 1) (yc y0 y1 y2 y3) 52 := (Mod.of_below hb2 []).blk HY1.out (by simp)
  have hW2 : Below w.heap.size w w2 := HW1.out.trans (hb2.mono HW1.out.size)
  have HC1 := Lib.hid hC1; have HC2 := Lib.hid hC2; have HK1 := Lib.hid hk1; have HK2 := Lib.hid hk2
  have HW2 := Lib.hid hW2; have HY2 := Lib.hid hY2
  clear hb2 hW2 hY2 hC1 hC2 hk1 hk2 q0 q1 q2 q3
  have HE : Hid (group_Encode.f 100 A.seq M A.ds = some (if goodG A = true then str (encG A) else (⟨#[]⟩ : ByteArray), if goodG A = true then 0 else 1)) := by
    refine Lib.hid ?_
    rw [← hM]
    cases hg : goodG A with
    | true => rw [enc_good A 100 (by omega) hg, if_pos rfl, if_pos rfl]
    | false => rw [enc_bad A 100 (by omega) hg, if_neg (by simp), if_neg (by simp)]
  go_wp2_with fail
  refine (group_Encode.calls 100 A.seq B1 k1 M B2 k2 A.ds _ _ _ (Kd.C_alloc (Kd.C_alloc HC1.out _) _) HK1.out (Kd.C_alloc (Kd.C_alloc HC2.out _) _) HK2.out HE.out (HN.out.below (alloc1' (alloc1' HW2.out _) _) hw0)).mono ?_
  rintro e w4 ⟨rfl, hb4⟩
  have hY4 : Blk w4 (w.heap.size + 1) (yc y0 y1 y2 y3) 52 := (Mod.of_below hb4 []).blk ((HY2.out.alloc _).alloc _) (by simp)
  have hW4 : Below w.heap.size w w4 := (alloc1' (alloc1' HW2.out _) _).trans (hb4.mono (alloc1' (alloc1' HW2.out _) _).size)
  have HY4 := Lib.hid hY4; have HW4 := Lib.hid hW4
  clear hb4 hY4 hW4
  cases hg : goodG A with
  | false =>
    rw [if_neg (by simp), if_neg (by simp)]
    go_wp2_with fail
    go_ret
    exact ⟨rfl, HW4.out⟩
  | true =>
    rw [if_pos rfl, if_pos rfl]
    obtain ⟨S, hS⟩ : ∃ S, str (encG A) = S := ⟨_, rfl⟩
    rw [hS]
    have hST : S.data.toList = encG A := by rw [← hS]; simp [str]
    obtain ⟨L, hS2⟩ : ∃ L, S.size = L := ⟨_, rfl⟩
    have hTL : (encG A).length = L := by rw [← hST]; exact hS2
    have hL64 : 64 ≤ L ∧ L ≤ 448 := by have := good_len hg; omega
    obtain ⟨g, hgz⟩ : ∃ g, w4.heap.size = g := ⟨_, rfl⟩
    obtain ⟨c, hc⟩ : ∃ c, grownCap w4 S.size 0 5 = c := ⟨_, rfl⟩
    have hcv := Lib.run_convert_string_bytes (P := Tryd.prog) w4 9 30 5 S Tryd.underlying9 Tryd.underlying30 Tryd.underlying5
    have hI5 := bytesIn_new w4 5 S
    have hY5 := blk_bytes HY4.out 5 S
    have hW5 : Below w.heap.size w (Lib.bytesWorld w4 5 S) := HW4.out.trans (below_bytes _ _ _ _ HW4.out.size)
    have hwg : w.heap.size + 1 < g := by rw [← hgz]; exact HY4.out.lt
    rw [hST] at hI5
    rw [hgz] at hI5 hcv
    rw [hc, hS2] at hcv
    generalize Lib.bytesWorld w4 5 S = w5 at hcv hI5 hY5 hW5
    have HI5 := Lib.hid hI5; have HY5 := Lib.hid hY5; have HW5 := Lib.hid hW5
    have HG := Lib.hid hg; have HSl := Lib.hid hS2; have HST := Lib.hid hST
    clear hg hS hST hc hI5 hY5 hW5 hgz
    have hand := i64_mask 1 (by decide) at0
    obtain ⟨T, hT⟩ : ∃ T, encG A = T := ⟨_, rfl⟩
    have hTl : T.length = L := by rw [← hT]; exact hTL
    have HIT : Hid (BytesIn w5 g T) := Lib.hid (by rw [← hT]; exact HI5.out)
    have HT := Lib.hid hT
    clear hT hTL
    by_cases hodd : bits .and .i64 at0 1 = 1
    · have hob : (bits .and .i64 at0 1 == 1) = true := by simpa using hodd
      clear hodd
      by_cases hbig : 64 < L
      · have hlen : decide ((64 : Int) < (L : Int)) = true := decide_eq_true (by omega)
        obtain ⟨D, hD⟩ : ∃ D : Int, (L : Int) - 64 = D := ⟨_, rfl⟩
        have hD0 : 0 < D := by omega
        have hDz : (D = 0) = False := eq_false (by omega)
        have hDb : (D == 0) = false := by simp; omega
        obtain ⟨p, p1, p2, hP0⟩ : ∃ p : Nat, 64 ≤ (p : Int) ∧ (p : Int) < (L : Int) ∧ wrap64 (64 + (wrap64 (wrap64 (at0.tmod D + (L : Int)) - 64)).tmod D) = (p : Int) := place at0 64 (L : Int) D (by omega) (by omega) (by omega) (by omega)
        go_wp2_with fail
        rw [hP0]
        clear hP0 hlen hcv hand hat hob hD hD0 hDz hDb
        go_loopw [14, 15] (fun s14 s15 wr => ∃ i : Nat, s15 = .int .i64 (i : Int) ∧ i ≤ 4 ∧ p + i ≤ L ∧ s14 = .bool (([y0, y1, y2, y3].take i).any (fun y => y != 0)) ∧ Below w.heap.size w wr ∧ BytesIn wr g (chg (T) p ([y0, y1, y2, y3].take i)) ∧ Blk wr (w.heap.size + 1) (yc y0 y1 y2 y3) 52) (fun _ s15 _ => 4 - (intOf s15).toNat)
        case atStart => exact ⟨0, rfl, by omega, by omega, rfl, HW5.out, by rw [List.take_zero, chg_nil]; exact HIT.out, HY5.out⟩
        case round =>
          obtain ⟨i, rfl, hi4, hito, rfl, hW, hI, hY⟩ := hrel
          obtain ⟨k, hk⟩ : ∃ k, p + i = k := ⟨_, rfl⟩
          have hq : (p : Int) + (i : Int) = (k : Int) := by omega
          obtain ⟨cb, hcb⟩ : ∃ cb, (([y0, y1, y2, y3].take i).any (fun y => y != 0)) = cb := ⟨_, rfl⟩
          rw [hcb]
          have HW := Lib.hid hW; have HI := Lib.hid hI; have HY := Lib.hid hY; have HCB := Lib.hid hcb; have HK := Lib.hid hk; have HQ := Lib.hid hq
          clear hcb hq
          by_cases h4 : i < 4
          · by_cases hto : k < L
            · obtain ⟨y, hy1, hy2⟩ := ycell y0 y1 y2 y3 i h4
              have hysl : ([y0, y1, y2, y3].take i).length = i := by rw [List.length_take]; show min i 4 = i; omega
              have hkT : p + ([y0, y1, y2, y3].take i).length < (T).length := by omega
              have hg1 := chg_get (T) p ([y0, y1, y2, y3].take i) hkT
              have hg2 := chg_snoc (T) p ([y0, y1, y2, y3].take i) y hkT
              have hcl := chg_len (T) p ([y0, y1, y2, y3].take i) (by omega)
              obtain ⟨v, hv⟩ : ∃ v, (T)[p + ([y0, y1, y2, y3].take i).length]'hkT = v := ⟨_, rfl⟩
              rw [hv] at hg1 hg2
              clear hv
              rw [hysl, hk] at hg1 hg2
              obtain ⟨c1, c2⟩ := hI.at hg1
              have c3 : wr.cell? ⟨w.heap.size + 1, i, none⟩ = some (.int .u8 (y.toNat : Int)) := hY.cell hy2
              have htk : [y0, y1, y2, y3].take i ++ [y] = [y0, y1, y2, y3].take (i + 1) := by
                obtain ⟨hl, he⟩ := List.getElem?_eq_some_iff.1 hy1
                rw [List.take_succ_eq_append_getElem hl, he]
              rw [htk] at hg2
              have hx8 := xor8 v y
              obtain ⟨r, hr⟩ : ∃ r, v ^^^ y = r := ⟨_, rfl⟩
              rw [hr] at hx8 hg2
              have HG2 := Lib.hid hg2
              have HSN := Lib.hid (any_snoc _ _ _ hy1)
              have hkL : k < (chg (T) p ([y0, y1, y2, y3].take i)).length := by rw [hcl]; omega
              have HKL := Lib.hid hkL
              have hgne : (g = w.heap.size + 1) = False := eq_false (by omega)
              clear hg1 hg2 hcl htk hr hy1 hy2 hysl hkT hW hI hY hk hkL
              have q4 : ((i : Int) < 4) = True := eq_true (by omega)
              have qk : ((k : Int) < L) = True := eq_true (by omega)
              have ql : ((k : Int) < L) = True := eq_true (by omega)
              have hq := HQ.out
              have k0 : ((0 : Int) ≤ (k : Int)) = True := eq_true (by omega)
              have i0 : ((0 : Int) ≤ (i : Int)) = True := eq_true (by omega)
              cases cb with
              | true =>
                go_wp2
                go_region
                go_wp2
                go_roundw
                case rel => exact ⟨i + 1, by go_num, by omega, by have := HK.out; omega, by rw [HSN.out, HCB.out]; rfl, by repeat (first | exact HW.out | (with_reducible apply Below.drew) | (refine Below.setCell ?_ (by show w.heap.size ≤ g; omega) _)), by rw [← HG2.out]; exact (HI.out.set k HKL.out r).heap rfl, (Blk.set_other HY.out (by show g ≠ w.heap.size + 1; omega) _)⟩
                case measure => simp [intOf]; omega
              | false =>
                cases hy0 : (y != 0) with
                | true =>
                  have hyn : ((y.toNat : Int) == 0) = false := ynz hy0
                  have hym : ((y.toNat : Int) != 0) = true := by simp only [bne, hyn]; rfl
                  go_wp2
                  go_region
                  go_wp2
                  go_roundw
                  case rel => exact ⟨i + 1, by go_num, by omega, by have := HK.out; omega, by rw [HSN.out, HCB.out, hy0]; rfl, by repeat (first | exact HW.out | (with_reducible apply Below.drew) | (refine Below.setCell ?_ (by show w.heap.size ≤ g; omega) _)), by rw [← HG2.out]; exact (HI.out.set k HKL.out r).heap rfl, (Blk.set_other HY.out (by show g ≠ w.heap.size + 1; omega) _)⟩
                  case measure => simp [intOf]; omega
                | false =>
                  have hyn : ((y.toNat : Int) == 0) = true := yz hy0
                  have hym : ((y.toNat : Int) != 0) = false := by simp only [bne, hyn]; rfl
                  go_wp2
                  go_region
                  go_wp2
                  go_roundw
                  case rel => exact ⟨i + 1, by go_num, by omega, by have := HK.out; omega, by rw [HSN.out, HCB.out, hy0]; rfl, by repeat (first | exact HW.out | (with_reducible apply Below.drew) | (refine Below.setCell ?_ (by show w.heap.size ≤ g; omega) _)), by rw [← HG2.out]; exact (HI.out.set k HKL.out r).heap rfl, (Blk.set_other HY.out (by show g ≠ w.heap.size + 1; omega) _)⟩
                  case measure => simp [intOf]; omega
            · have q4 : ((i : Int) < 4) = True := eq_true (by omega)
              have qk : ((k : Int) < L) = False := eq_false (by omega)
              have hysl : ([y0, y1, y2, y3].take i).length = i := by rw [List.length_take]; show min i 4 = i; omega
              obtain ⟨ys, hys⟩ : ∃ ys, [y0, y1, y2, y3].take i = ys := ⟨_, rfl⟩
              have hI9 := HI.out
              have hcb := HCB.out
              rw [hys] at hysl hI9 hcb
              have hl : (chg T p ys).length = L := by rw [chg_len T p ys (by omega)] <;> exact hTl
              have hcv := bytesIn_back (P := Tryd.prog) hI9 30 9 5 c L hl Tryd.underlying30 Tryd.underlying5 Tryd.underlying9
              have hpp : (2 ≤ p ∧ p + ys.length ≤ 8) ∨ (64 ≤ p ∧ p + ys.length ≤ T.length) := by omega
              have he0 := fun h => end_zero HG.out HT.out (p := p) (ys := ys) (by omega) h
              have he1 := fun h => end_turn HG.out HT.out (p := p) (ys := ys) (by omega) hpp h
              obtain ⟨Z, hZ⟩ : ∃ Z : ByteArray, (⟨(chg T p ys).toArray⟩ : ByteArray) = Z := ⟨_, rfl⟩
              have hZL : bl Z = chg T p ys := by rw [← hZ] <;> simp [bl]
              rw [hZ] at hcv
              have hZs : Z.size ≤ 1000 := by rw [← bl_size, hZL, hl] <;> omega
              obtain ⟨D, hD⟩ : ∃ D, decG (chg T p ys) = D := ⟨_, rfl⟩
              rw [hD] at he0 he1
              have HD : Hid (decG (bl Z) = D) := Lib.hid (by rw [hZL]; exact hD)
              have hTW := Lib.hid (HN.out.below HW.out hw0)
              clear hZ hZL hD hl hpp hys hI9 hI hY hW hysl hk
              have hq := HQ.out
              cases cb with
              | true =>
                obtain ⟨e1, e2, e3⟩ := he1 hcb
                clear he0 he1 hcb
                obtain ⟨Dr, Dn, Df⟩ := D
                obtain rfl : Dr = g0 := e2
                obtain rfl : Dn = 0 := e3
                have e1' : (Df == 0) = false := by simpa using e1
                have e4 : (Df != 0) = true := by simpa using e1
                have e5 : (Df = 0) = False := eq_false e1
                clear e1
                go_wp2_with fail
                refine (decode_tup2 Z _ hZs hTW.out _ HD.out).mono ?_
                rintro e w9 ⟨Az, nz, cz, Ay, ny, cy, rfl, hb9⟩
                have HW9 := Lib.hid (HW.out.trans (hb9.mono HW.out.size))
                clear hb9
                go_wp2_with fail
                all_goals first | (exfalso; exact e5.mp (by assumption)) | (exfalso; simp at e4; done) | (go_ret; exact ⟨rfl, alloc1' HW9.out _⟩)
              | false =>
                have e1 := he0 hcb
                clear he0 he1 hcb
                go_wp2_with fail
                refine (decode_tup2 Z _ hZs hTW.out D HD.out).mono ?_
                rintro e w9 ⟨Az, nz, cz, Ay, ny, cy, rfl, hb9⟩
                have HW9 := Lib.hid (HW.out.trans (hb9.mono HW.out.size))
                clear hb9
                rw [e1]
                go_wp2_with fail
                go_ret
                exact ⟨rfl, alloc1' HW9.out _⟩
          · have q4 : ((i : Int) < 4) = False := eq_false (by omega)
            have hysl : ([y0, y1, y2, y3].take i).length = i := by rw [List.length_take]; show min i 4 = i; omega
            obtain ⟨ys, hys⟩ : ∃ ys, [y0, y1, y2, y3].take i = ys := ⟨_, rfl⟩
            have hI9 := HI.out
            have hcb := HCB.out
            rw [hys] at hysl hI9 hcb
            have hl : (chg T p ys).length = L := by rw [chg_len T p ys (by omega)] <;> exact hTl
            have hcv := bytesIn_back (P := Tryd.prog) hI9 30 9 5 c L hl Tryd.underlying30 Tryd.underlying5 Tryd.underlying9
            have hpp : (2 ≤ p ∧ p + ys.length ≤ 8) ∨ (64 ≤ p ∧ p + ys.length ≤ T.length) := by omega
            have he0 := fun h => end_zero HG.out HT.out (p := p) (ys := ys) (by omega) h
            have he1 := fun h => end_turn HG.out HT.out (p := p) (ys := ys) (by omega) hpp h
            obtain ⟨Z, hZ⟩ : ∃ Z : ByteArray, (⟨(chg T p ys).toArray⟩ : ByteArray) = Z := ⟨_, rfl⟩
            have hZL : bl Z = chg T p ys := by rw [← hZ] <;> simp [bl]
            rw [hZ] at hcv
            have hZs : Z.size ≤ 1000 := by rw [← bl_size, hZL, hl] <;> omega
            obtain ⟨D, hD⟩ : ∃ D, decG (chg T p ys) = D := ⟨_, rfl⟩
            rw [hD] at he0 he1
            have HD : Hid (decG (bl Z) = D) := Lib.hid (by rw [hZL]; exact hD)
            have hTW := Lib.hid (HN.out.below HW.out hw0)
            clear hZ hZL hD hl hpp hys hI9 hI hY hW hysl hk
            have hq := HQ.out
            cases cb with
            | true =>
              obtain ⟨e1, e2, e3⟩ := he1 hcb
              clear he0 he1 hcb
              obtain ⟨Dr, Dn, Df⟩ := D
              obtain rfl : Dr = g0 := e2
              obtain rfl : Dn = 0 := e3
              have e1' : (Df == 0) = false := by simpa using e1
              have e4 : (Df != 0) = true := by simpa using e1
              have e5 : (Df = 0) = False := eq_false e1
              clear e1
              go_wp2_with fail
              refine (decode_tup2 Z _ hZs hTW.out _ HD.out).mono ?_
              rintro e w9 ⟨Az, nz, cz, Ay, ny, cy, rfl, hb9⟩
              have HW9 := Lib.hid (HW.out.trans (hb9.mono HW.out.size))
              clear hb9
              go_wp2_with fail
              all_goals first | (exfalso; exact e5.mp (by assumption)) | (exfalso; simp at e4; done) | (go_ret; exact ⟨rfl, alloc1' HW9.out _⟩)
            | false =>
              have e1 := he0 hcb
              clear he0 he1 hcb
              go_wp2_with fail
              refine (decode_tup2 Z _ hZs hTW.out D HD.out).mono ?_
              rintro e w9 ⟨Az, nz, cz, Ay, ny, cy, rfl, hb9⟩
              have HW9 := Lib.hid (HW.out.trans (hb9.mono HW.out.size))
              clear hb9
              rw [e1]
              go_wp2_with fail
              go_ret
              exact ⟨rfl, alloc1' HW9.out _⟩
      · have hlen : decide ((64 : Int) < (L : Int)) = false := decide_eq_false (by omega)
        obtain ⟨p, p1, p2, hP0⟩ : ∃ p : Nat, 2 ≤ (p : Int) ∧ (p : Int) < 8 ∧ wrap64 (2 + (wrap64 (wrap64 (at0.tmod 6 + 8) - 2)).tmod 6) = (p : Int) := place at0 2 8 6 (by omega) (by omega) (by omega) (by omega)
        go_wp2_with fail
        rw [hP0]
        clear hP0 hlen hcv hand hat hob
        go_loopw [14, 15] (fun s14 s15 wr => ∃ i : Nat, s15 = .int .i64 (i : Int) ∧ i ≤ 4 ∧ p + i ≤ 8 ∧ s14 = .bool (([y0, y1, y2, y3].take i).any (fun y => y != 0)) ∧ Below w.heap.size w wr ∧ BytesIn wr g (chg (T) p ([y0, y1, y2, y3].take i)) ∧ Blk wr (w.heap.size + 1) (yc y0 y1 y2 y3) 52) (fun _ s15 _ => 4 - (intOf s15).toNat)
        case atStart => exact ⟨0, rfl, by omega, by omega, rfl, HW5.out, by rw [List.take_zero, chg_nil]; exact HIT.out, HY5.out⟩
        case round =>
          obtain ⟨i, rfl, hi4, hito, rfl, hW, hI, hY⟩ := hrel
          obtain ⟨k, hk⟩ : ∃ k, p + i = k := ⟨_, rfl⟩
          have hq : (p : Int) + (i : Int) = (k : Int) := by omega
          obtain ⟨cb, hcb⟩ : ∃ cb, (([y0, y1, y2, y3].take i).any (fun y => y != 0)) = cb := ⟨_, rfl⟩
          rw [hcb]
          have HW := Lib.hid hW; have HI := Lib.hid hI; have HY := Lib.hid hY; have HCB := Lib.hid hcb; have HK := Lib.hid hk; have HQ := Lib.hid hq
          clear hcb hq
          by_cases h4 : i < 4
          · by_cases hto : k < 8
            · obtain ⟨y, hy1, hy2⟩ := ycell y0 y1 y2 y3 i h4
              have hysl : ([y0, y1, y2, y3].take i).length = i := by rw [List.length_take]; show min i 4 = i; omega
              have hkT : p + ([y0, y1, y2, y3].take i).length < (T).length := by omega
              have hg1 := chg_get (T) p ([y0, y1, y2, y3].take i) hkT
              have hg2 := chg_snoc (T) p ([y0, y1, y2, y3].take i) y hkT
              have hcl := chg_len (T) p ([y0, y1, y2, y3].take i) (by omega)
              obtain ⟨v, hv⟩ : ∃ v, (T)[p + ([y0, y1, y2, y3].take i).length]'hkT = v := ⟨_, rfl⟩
              rw [hv] at hg1 hg2
              clear hv
              rw [hysl, hk] at hg1 hg2
              obtain ⟨c1, c2⟩ := hI.at hg1
              have c3 : wr.cell? ⟨w.heap.size + 1, i, none⟩ = some (.int .u8 (y.toNat : Int)) := hY.cell hy2
              have htk : [y0, y1, y2, y3].take i ++ [y] = [y0, y1, y2, y3].take (i + 1) := by
                obtain ⟨hl, he⟩ := List.getElem?_eq_some_iff.1 hy1
                rw [List.take_succ_eq_append_getElem hl, he]
              rw [htk] at hg2
              have hx8 := xor8 v y
              obtain ⟨r, hr⟩ : ∃ r, v ^^^ y = r := ⟨_, rfl⟩
              rw [hr] at hx8 hg2
              have HG2 := Lib.hid hg2
              have HSN := Lib.hid (any_snoc _ _ _ hy1)
              have hkL : k < (chg (T) p ([y0, y1, y2, y3].take i)).length := by rw [hcl]; omega
              have HKL := Lib.hid hkL
              have hgne : (g = w.heap.size + 1) = False := eq_false (by omega)
              clear hg1 hg2 hcl htk hr hy1 hy2 hysl hkT hW hI hY hk hkL
              have q4 : ((i : Int) < 4) = True := eq_true (by omega)
              have qk : ((k : Int) < 8) = True := eq_true (by omega)
              have ql : ((k : Int) < L) = True := eq_true (by omega)
              have hq := HQ.out
              have k0 : ((0 : Int) ≤ (k : Int)) = True := eq_true (by omega)
              have i0 : ((0 : Int) ≤ (i : Int)) = True := eq_true (by omega)
              cases cb with
              | true =>
                go_wp2
                go_region
                go_wp2
                go_roundw
                case rel => exact ⟨i + 1, by go_num, by omega, by have := HK.out; omega, by rw [HSN.out, HCB.out]; rfl, by repeat (first | exact HW.out | (with_reducible apply Below.drew) | (refine Below.setCell ?_ (by show w.heap.size ≤ g; omega) _)), by rw [← HG2.out]; exact (HI.out.set k HKL.out r).heap rfl, (Blk.set_other HY.out (by show g ≠ w.heap.size + 1; omega) _)⟩
                case measure => simp [intOf]; omega
              | false =>
                cases hy0 : (y != 0) with
                | true =>
                  have hyn : ((y.toNat : Int) == 0) = false := ynz hy0
                  have hym : ((y.toNat : Int) != 0) = true := by simp only [bne, hyn]; rfl
                  go_wp2
                  go_region
                  go_wp2
                  go_roundw
                  case rel => exact ⟨i + 1, by go_num, by omega, by have := HK.out; omega, by rw [HSN.out, HCB.out, hy0]; rfl, by repeat (first | exact HW.out | (with_reducible apply Below.drew) | (refine Below.setCell ?_ (by show w.heap.size ≤ g; omega) _)), by rw [← HG2.out]; exact (HI.out.set k HKL.out r).heap rfl, (Blk.set_other HY.out (by show g ≠ w.heap.size + 1; omega) _)⟩
                  case measure => simp [intOf]; omega
                | false =>
                  have hyn : ((y.toNat : Int) == 0) = true := yz hy0
                  have hym : ((y.toNat : Int) != 0) = false := by simp only [bne, hyn]; rfl
                  go_wp2
                  go_region
                  go_wp2
                  go_roundw
                  case rel => exact ⟨i + 1, by go_num, by omega, by have := HK.out; omega, by rw [HSN.out, HCB.out, hy0]; rfl, by repeat (first | exact HW.out | (with_reducible apply Below.drew) | (refine Below.setCell ?_ (by show w.heap.size ≤ g; omega) _)), by rw [← HG2.out]; exact (HI.out.set k HKL.out r).heap rfl, (Blk.set_other HY.out (by show g ≠ w.heap.size + 1; omega) _)⟩
                  case measure => simp [intOf]; omega
            · have q4 : ((i : Int) < 4) = True := eq_true (by omega)
              have qk : ((k : Int) < 8) = False := eq_false (by omega)
              have hysl : ([y0, y1, y2, y3].take i).length = i := by rw [List.length_take]; show min i 4 = i; omega
              obtain ⟨ys, hys⟩ : ∃ ys, [y0, y1, y2, y3].take i = ys := ⟨_, rfl⟩
              have hI9 := HI.out
              have hcb := HCB.out
              rw [hys] at hysl hI9 hcb
              have hl : (chg T p ys).length = L := by rw [chg_len T p ys (by omega)] <;> exact hTl
              have hcv := bytesIn_back (P := Tryd.prog) hI9 30 9 5 c L hl Tryd.underlying30 Tryd.underlying5 Tryd.underlying9
              have hpp : (2 ≤ p ∧ p + ys.length ≤ 8) ∨ (64 ≤ p ∧ p + ys.length ≤ T.length) := by omega
              have he0 := fun h => end_zero HG.out HT.out (p := p) (ys := ys) (by omega) h
              have he1 := fun h => end_turn HG.out HT.out (p := p) (ys := ys) (by omega) hpp h
              obtain ⟨Z, hZ⟩ : ∃ Z : ByteArray, (⟨(chg T p ys).toArray⟩ : ByteArray) = Z := ⟨_, rfl⟩
              have hZL : bl Z = chg T p ys := by rw [← hZ] <;> simp [bl]
              rw [hZ] at hcv
              have hZs : Z.size ≤ 1000 := by rw [← bl_size, hZL, hl] <;> omega
              obtain ⟨D, hD⟩ : ∃ D, decG (chg T p ys) = D := ⟨_, rfl⟩
              rw [hD] at he0 he1
              have HD : Hid (decG (bl Z) = D) := Lib.hid (by rw [hZL]; exact hD)
              have hTW := Lib.hid (HN.out.below HW.out hw0)
              clear hZ hZL hD hl hpp hys hI9 hI hY hW hysl hk
              have hq := HQ.out
              cases cb with
              | true =>
                obtain ⟨e1, e2, e3⟩ := he1 hcb
                clear he0 he1 hcb
                obtain ⟨Dr, Dn, Df⟩ := D
                obtain rfl : Dr = g0 := e2
                obtain rfl : Dn = 0 := e3
                have e1' : (Df == 0) = false := by simpa using e1
                have e4 : (Df != 0) = true := by simpa using e1
                have e5 : (Df = 0) = False := eq_false e1
                clear e1
                go_wp2_with fail
                refine (decode_tup2 Z _ hZs hTW.out _ HD.out).mono ?_
                rintro e w9 ⟨Az, nz, cz, Ay, ny, cy, rfl, hb9⟩
                have HW9 := Lib.hid (HW.out.trans (hb9.mono HW.out.size))
                clear hb9
                go_wp2_with fail
                all_goals first | (exfalso; exact e5.mp (by assumption)) | (exfalso; simp at e4; done) | (go_ret; exact ⟨rfl, alloc1' HW9.out _⟩)
              | false =>
                have e1 := he0 hcb
                clear he0 he1 hcb
                go_wp2_with fail
                refine (decode_tup2 Z _ hZs hTW.out D HD.out).mono ?_
                rintro e w9 ⟨Az, nz, cz, Ay, ny, cy, rfl, hb9⟩
                have HW9 := Lib.hid (HW.out.trans (hb9.mono HW.out.size))
                clear hb9
                rw [e1]
                go_wp2_with fail
                go_ret
                exact ⟨rfl, alloc1' HW9.out _⟩
          · have q4 : ((i : Int) < 4) = False := eq_false (by omega)
            have hysl : ([y0, y1, y2, y3].take i).length = i := by rw [List.length_take]; show min i 4 = i; omega
            obtain ⟨ys, hys⟩ : ∃ ys, [y0, y1, y2, y3].take i = ys := ⟨_, rfl⟩
            have hI9 := HI.out
            have hcb := HCB.out
            rw [hys] at hysl hI9 hcb
            have hl : (chg T p ys).length = L := by rw [chg_len T p ys (by omega)] <;> exact hTl
            have hcv := bytesIn_back (P := Tryd.prog) hI9 30 9 5 c L hl Tryd.underlying30 Tryd.underlying5 Tryd.underlying9
            have hpp : (2 ≤ p ∧ p + ys.length ≤ 8) ∨ (64 ≤ p ∧ p + ys.length ≤ T.length) := by omega
            have he0 := fun h => end_zero HG.out HT.out (p := p) (ys := ys) (by omega) h
            have he1 := fun h => end_turn HG.out HT.out (p := p) (ys := ys) (by omega) hpp h
            obtain ⟨Z, hZ⟩ : ∃ Z : ByteArray, (⟨(chg T p ys).toArray⟩ : ByteArray) = Z := ⟨_, rfl⟩
            have hZL : bl Z = chg T p ys := by rw [← hZ] <;> simp [bl]
            rw [hZ] at hcv
            have hZs : Z.size ≤ 1000 := by rw [← bl_size, hZL, hl] <;> omega
            obtain ⟨D, hD⟩ : ∃ D, decG (chg T p ys) = D := ⟨_, rfl⟩
            rw [hD] at he0 he1
            have HD : Hid (decG (bl Z) = D) := Lib.hid (by rw [hZL]; exact hD)
            have hTW := Lib.hid (HN.out.below HW.out hw0)
            clear hZ hZL hD hl hpp hys hI9 hI hY hW hysl hk
            have hq := HQ.out
            cases cb with
            | true =>
              obtain ⟨e1, e2, e3⟩ := he1 hcb
              clear he0 he1 hcb
              obtain ⟨Dr, Dn, Df⟩ := D
              obtain rfl : Dr = g0 := e2
              obtain rfl : Dn = 0 := e3
              have e1' : (Df == 0) = false := by simpa using e1
              have e4 : (Df != 0) = true := by simpa using e1
              have e5 : (Df = 0) = False := eq_false e1
              clear e1
              go_wp2_with fail
              refine (decode_tup2 Z _ hZs hTW.out _ HD.out).mono ?_
              rintro e w9 ⟨Az, nz, cz, Ay, ny, cy, rfl, hb9⟩
              have HW9 := Lib.hid (HW.out.trans (hb9.mono HW.out.size))
              clear hb9
              go_wp2_with fail
              all_goals first | (exfalso; exact e5.mp (by assumption)) | (exfalso; simp at e4; done) | (go_ret; exact ⟨rfl, alloc1' HW9.out _⟩)
            | false =>
              have e1 := he0 hcb
              clear he0 he1 hcb
              go_wp2_with fail
              refine (decode_tup2 Z _ hZs hTW.out D HD.out).mono ?_
              rintro e w9 ⟨Az, nz, cz, Ay, ny, cy, rfl, hb9⟩
              have HW9 := Lib.hid (HW.out.trans (hb9.mono HW.out.size))
              clear hb9
              rw [e1]
              go_wp2_with fail
              go_ret
              exact ⟨rfl, alloc1' HW9.out _⟩
    · have hob : (bits .and .i64 at0 1 == 1) = false := by simpa using hodd
      clear hodd
      obtain ⟨p, p1, p2, hP0⟩ : ∃ p : Nat, 2 ≤ (p : Int) ∧ (p : Int) < 8 ∧ wrap64 (2 + (wrap64 (wrap64 (at0.tmod 6 + 8) - 2)).tmod 6) = (p : Int) := place at0 2 8 6 (by omega) (by omega) (by omega) (by omega)
      go_wp2_with fail
      rw [hP0]
      clear hP0 hcv hand hat hob
      go_loopw [14, 15] (fun s14 s15 wr => ∃ i : Nat, s15 = .int .i64 (i : Int) ∧ i ≤ 4 ∧ p + i ≤ 8 ∧ s14 = .bool (([y0, y1, y2, y3].take i).any (fun y => y != 0)) ∧ Below w.heap.size w wr ∧ BytesIn wr g (chg (T) p ([y0, y1, y2, y3].take i)) ∧ Blk wr (w.heap.size + 1) (yc y0 y1 y2 y3) 52) (fun _ s15 _ => 4 - (intOf s15).toNat)
      case atStart => exact ⟨0, rfl, by omega, by omega, rfl, HW5.out, by rw [List.take_zero, chg_nil]; exact HIT.out, HY5.out⟩
      case round =>
        obtain ⟨i, rfl, hi4, hito, rfl, hW, hI, hY⟩ := hrel
        obtain ⟨k, hk⟩ : ∃ k, p + i = k := ⟨_, rfl⟩
        have hq : (p : Int) + (i : Int) = (k : Int) := by omega
        obtain ⟨cb, hcb⟩ : ∃ cb, (([y0, y1, y2, y3].take i).any (fun y => y != 0)) = cb := ⟨_, rfl⟩
        rw [hcb]
        have HW := Lib.hid hW; have HI := Lib.hid hI; have HY := Lib.hid hY; have HCB := Lib.hid hcb; have HK := Lib.hid hk; have HQ := Lib.hid hq
        clear hcb hq
        by_cases h4 : i < 4
        · by_cases hto : k < 8
          · obtain ⟨y, hy1, hy2⟩ := ycell y0 y1 y2 y3 i h4
            have hysl : ([y0, y1, y2, y3].take i).length = i := by rw [List.length_take]; show min i 4 = i; omega
            have hkT : p + ([y0, y1, y2, y3].take i).length < (T).length := by omega
            have hg1 := chg_get (T) p ([y0, y1, y2, y3].take i) hkT
            have hg2 := chg_snoc (T) p ([y0, y1, y2, y3].take i) y hkT
            have hcl := chg_len (T) p ([y0, y1, y2, y3].take i) (by omega)
            obtain ⟨v, hv⟩ : ∃ v, (T)[p + ([y0, y1, y2, y3].take i).length]'hkT = v := ⟨_, rfl⟩
            rw [hv] at hg1 hg2
            clear hv
            rw [hysl, hk] at hg1 hg2
            obtain ⟨c1, c2⟩ := hI.at hg1
            have c3 : wr.cell? ⟨w.heap.size + 1, i, none⟩ = some (.int .u8 (y.toNat : Int)) := hY.cell hy2
            have htk : [y0, y1, y2, y3].take i ++ [y] = [y0, y1, y2, y3].take (i + 1) := by
              obtain ⟨hl, he⟩ := List.getElem?_eq_some_iff.1 hy1
              rw [List.take_succ_eq_append_getElem hl, he]
            rw [htk] at hg2
            have hx8 := xor8 v y
            obtain ⟨r, hr⟩ : ∃ r, v ^^^ y = r := ⟨_, rfl⟩
            rw [hr] at hx8 hg2
            have HG2 := Lib.hid hg2
            have HSN := Lib.hid (any_snoc _ _ _ hy1)
            have hkL : k < (chg (T) p ([y0, y1, y2, y3].take i)).length := by rw [hcl]; omega
            have HKL := Lib.hid hkL
            have hgne : (g = w.heap.size + 1) = False := eq_false (by omega)
            clear hg1 hg2 hcl htk hr hy1 hy2 hysl hkT hW hI hY hk hkL
            have q4 : ((i : Int) < 4) = True := eq_true (by omega)
            have qk : ((k : Int) < 8) = True := eq_true (by omega)
            have ql : ((k : Int) < L) = True := eq_true (by omega)
            have hq := HQ.out
            have k0 : ((0 : Int) ≤ (k : Int)) = True := eq_true (by omega)
            have i0 : ((0 : Int) ≤ (i : Int)) = True := eq_true (by omega)
            cases cb with
            | true =>
              go_wp2
              go_region
              go_wp2
              go_roundw
              case rel => exact ⟨i + 1, by go_num, by omega, by have := HK.out; omega, by rw [HSN.out, HCB.out]; rfl, by repeat (first | exact HW.out | (with_reducible apply Below.drew) | (refine Below.setCell ?_ (by show w.heap.size ≤ g; omega) _)), by rw [← HG2.out]; exact (HI.out.set k HKL.out r).heap rfl, (Blk.set_other HY.out (by show g ≠ w.heap.size + 1; omega) _)⟩
              case measure => simp [intOf]; omega
            | false =>
              cases hy0 : (y != 0) with
              | true =>
                have hyn : ((y.toNat : Int) == 0) = false := ynz hy0
                have hym : ((y.toNat : Int) != 0) = true := by simp only [bne, hyn]; rfl
                go_wp2
                go_region
                go_wp2
                go_roundw
                case rel => exact ⟨i + 1, by go_num, by omega, by have := HK.out; omega, by rw [HSN.out, HCB.out, hy0]; rfl, by repeat (first | exact HW.out | (with_reducible apply Below.drew) | (refine Below.setCell ?_ (by show w.heap.size ≤ g; omega) _)), by rw [← HG2.out]; exact (HI.out.set k HKL.out r).heap rfl, (Blk.set_other HY.out (by show g ≠ w.heap.size + 1; omega) _)⟩
                case measure => simp [intOf]; omega
              | false =>
                have hyn : ((y.toNat : Int) == 0) = true := yz hy0
                have hym : ((y.toNat : Int) != 0) = false := by simp only [bne, hyn]; rfl
                go_wp2
                go_region
                go_wp2
                go_roundw
                case rel => exact ⟨i + 1, by go_num, by omega, by have := HK.out; omega, by rw [HSN.out, HCB.out, hy0]; rfl, by repeat (first | exact HW.out | (with_reducible apply Below.drew) | (refine Below.setCell ?_ (by show w.heap.size ≤ g; omega) _)), by rw [← HG2.out]; exact (HI.out.set k HKL.out r).heap rfl, (Blk.set_other HY.out (by show g ≠ w.heap.size + 1; omega) _)⟩
                case measure => simp [intOf]; omega
          · have q4 : ((i : Int) < 4) = True := eq_true (by omega)
            have qk : ((k : Int) < 8) = False := eq_false (by omega)
            have hysl : ([y0, y1, y2, y3].take i).length = i := by rw [List.length_take]; show min i 4 = i; omega
            obtain ⟨ys, hys⟩ : ∃ ys, [y0, y1, y2, y3].take i = ys := ⟨_, rfl⟩
            have hI9 := HI.out
            have hcb := HCB.out
            rw [hys] at hysl hI9 hcb
            have hl : (chg T p ys).length = L := by rw [chg_len T p ys (by omega)] <;> exact hTl
            have hcv := bytesIn_back (P := Tryd.prog) hI9 30 9 5 c L hl Tryd.underlying30 Tryd.underlying5 Tryd.underlying9
            have hpp : (2 ≤ p ∧ p + ys.length ≤ 8) ∨ (64 ≤ p ∧ p + ys.length ≤ T.length) := by omega
            have he0 := fun h => end_zero HG.out HT.out (p := p) (ys := ys) (by omega) h
            have he1 := fun h => end_turn HG.out HT.out (p := p) (ys := ys) (by omega) hpp h
            obtain ⟨Z, hZ⟩ : ∃ Z : ByteArray, (⟨(chg T p ys).toArray⟩ : ByteArray) = Z := ⟨_, rfl⟩
            have hZL : bl Z = chg T p ys := by rw [← hZ] <;> simp [bl]
            rw [hZ] at hcv
            have hZs : Z.size ≤ 1000 := by rw [← bl_size, hZL, hl] <;> omega
            obtain ⟨D, hD⟩ : ∃ D, decG (chg T p ys) = D := ⟨_, rfl⟩
            rw [hD] at he0 he1
            have HD : Hid (decG (bl Z) = D) := Lib.hid (by rw [hZL]; exact hD)
            have hTW := Lib.hid (HN.out.below HW.out hw0)
            clear hZ hZL hD hl hpp hys hI9 hI hY hW hysl hk
            have hq := HQ.out
            cases cb with
            | true =>
              obtain ⟨e1, e2, e3⟩ := he1 hcb
              clear he0 he1 hcb
              obtain ⟨Dr, Dn, Df⟩ := D
              obtain rfl : Dr = g0 := e2
              obtain rfl : Dn = 0 := e3
              have e1' : (Df == 0) = false := by simpa using e1
              have e4 : (Df != 0) = true := by simpa using e1
              have e5 : (Df = 0) = False := eq_false e1
              clear e1
              go_wp2_with fail
              refine (decode_tup2 Z _ hZs hTW.out _ HD.out).mono ?_
              rintro e w9 ⟨Az, nz, cz, Ay, ny, cy, rfl, hb9⟩
              have HW9 := Lib.hid (HW.out.trans (hb9.mono HW.out.size))
              clear hb9
              go_wp2_with fail
              all_goals first | (exfalso; exact e5.mp (by assumption)) | (exfalso; simp at e4; done) | (go_ret; exact ⟨rfl, alloc1' HW9.out _⟩)
            | false =>
              have e1 := he0 hcb
              clear he0 he1 hcb
              go_wp2_with fail
              refine (decode_tup2 Z _ hZs hTW.out D HD.out).mono ?_
              rintro e w9 ⟨Az, nz, cz, Ay, ny, cy, rfl, hb9⟩
              have HW9 := Lib.hid (HW.out.trans (hb9.mono HW.out.size))
              clear hb9
              rw [e1]
              go_wp2_with fail
              go_ret
              exact ⟨rfl, alloc1' HW9.out _⟩
        · have q4 : ((i : Int) < 4) = False := eq_false (by omega)
          have hysl : ([y0, y1, y2, y3].take i).length = i := by rw [List.length_take]; show min i 4 = i; omega
          obtain ⟨ys, hys⟩ : ∃ ys, [y0, y1, y2, y3].take i = ys := ⟨_, rfl⟩
          have hI9 := HI.out
          have hcb := HCB.out
          rw [hys] at hysl hI9 hcb
          have hl : (chg T p ys).length = L := by rw [chg_len T p ys (by omega)] <;> exact hTl
          have hcv := bytesIn_back (P := Tryd.prog) hI9 30 9 5 c L hl Tryd.underlying30 Tryd.underlying5 Tryd.underlying9
          have hpp : (2 ≤ p ∧ p + ys.length ≤ 8) ∨ (64 ≤ p ∧ p + ys.length ≤ T.length) := by omega
          have he0 := fun h => end_zero HG.out HT.out (p := p) (ys := ys) (by omega) h
          have he1 := fun h => end_turn HG.out HT.out (p := p) (ys := ys) (by omega) hpp h
          obtain ⟨Z, hZ⟩ : ∃ Z : ByteArray, (⟨(chg T p ys).toArray⟩ : ByteArray) = Z := ⟨_, rfl⟩
          have hZL : bl Z = chg T p ys := by rw [← hZ] <;> simp [bl]
          rw [hZ] at hcv
          have hZs : Z.size ≤ 1000 := by rw [← bl_size, hZL, hl] <;> omega
          obtain ⟨D, hD⟩ : ∃ D, decG (chg T p ys) = D := ⟨_, rfl⟩
          rw [hD] at he0 he1
          have HD : Hid (decG (bl Z) = D) := Lib.hid (by rw [hZL]; exact hD)
          have hTW := Lib.hid (HN.out.below HW.out hw0)
          clear hZ hZL hD hl hpp hys hI9 hI hY hW hysl hk
          have hq := HQ.out
          cases cb with
          | true =>
            obtain ⟨e1, e2, e3⟩ := he1 hcb
            clear he0 he1 hcb
            obtain ⟨Dr, Dn, Df⟩ := D
            obtain rfl : Dr = g0 := e2
            obtain rfl : Dn = 0 := e3
            have e1' : (Df == 0) = false := by simpa using e1
            have e4 : (Df != 0) = true := by simpa using e1
            have e5 : (Df = 0) = False := eq_false e1
            clear e1
            go_wp2_with fail
            refine (decode_tup2 Z _ hZs hTW.out _ HD.out).mono ?_
            rintro e w9 ⟨Az, nz, cz, Ay, ny, cy, rfl, hb9⟩
            have HW9 := Lib.hid (HW.out.trans (hb9.mono HW.out.size))
            clear hb9
            go_wp2_with fail
            all_goals first | (exfalso; exact e5.mp (by assumption)) | (exfalso; simp at e4; done) | (go_ret; exact ⟨rfl, alloc1' HW9.out _⟩)
          | false =>
            have e1 := he0 hcb
            clear he0 he1 hcb
            go_wp2_with fail
            refine (decode_tup2 Z _ hZs hTW.out D HD.out).mono ?_
            rintro e w9 ⟨Az, nz, cz, Ay, ny, cy, rfl, hb9⟩
            have HW9 := Lib.hid (HW.out.trans (hb9.mono HW.out.size))
            clear hb9
            rw [e1]
            go_wp2_with fail
            go_ret
            exact ⟨rfl, alloc1' HW9.out _⟩

end Go.Proofs.YticpjnpafmehaaaDoor.U
