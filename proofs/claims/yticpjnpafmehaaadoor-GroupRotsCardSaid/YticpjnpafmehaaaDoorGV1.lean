/-
  Walk of corbellaw18.given.
-/
import Derived.Test.YticpjnpafmehaaaDoorGV0
import Derived.Test.YticpjnpafmehaaaDoorWWords
import Derived.Test.YticpjnpafmehaaaDoorWMore
import Derived.Deep.DeepCutAuto
import Derived.Deep.CutBlock
import Derived.Deep.QuietTactic
import Derived.BigQuiet
import Derived.Deep.RegionHeld3
import Derived.Laws.EntriesVeiled
namespace Go.Proofs.YticpjnpafmehaaaDoor
open Go.RowKit Go.Proofs.YticpjnpafmehaaaDoorW.PrintWords Go.Proofs.YticpjnpafmehaaaDoorW.PrintLast Go.Proofs.YticpjnpafmehaaaDoorW.PrintMore
attribute [local go_sem] max2_int min2_int max_two min_two
set_option linter.unusedVariables false
set_option linter.unusedSimpArgs false

theorem Tryd.gInfo3 : (Tryd.prog.info? 3).map (fun i => (i.zero, i.size, i.bytes)) = some (some (.int .i64 0), 1, 8) := by kernel_rfl
theorem Tryd.gInfo4 : (Tryd.prog.info? 4).map (fun i => (i.zero, i.size, i.bytes)) = some (some (.bool false), 1, 1) := by kernel_rfl
theorem Tryd.gInfo9 : (Tryd.prog.info? 9).map (fun i => (i.zero, i.size, i.bytes)) = some (some (.string ⟨#[]⟩), 1, 16) := by kernel_rfl
theorem Tryd.gInfo62 : (Tryd.prog.info? 62).map (fun i => (i.zero, i.size, i.bytes)) = some (some (.agg #[(.int .i64 0), (.bool false)]), 2, 16) := by kernel_rfl

theorem given_zeros (X : World) (g : Nat) (hB : Blk X g (Array.replicate 64 (.int .u8 0)) 5) : (convert 30 9 (.slice (some ⟨g, 0, none⟩) 64 64)).run Tryd.prog X = Result.ok (.string (zerosB 64)) X := by
  have h := run_convert_bytes_back (P := Tryd.prog) X 30 9 5 ⟨g, 0, none⟩ 64 (List.replicate 64 0) Tryd.underlying30 Tryd.underlying5 Tryd.underlying9 (fun j hj => by
    rw [Addr.add_lit, Nat.zero_add]
    have hj' : j < 64 := by simpa using hj
    refine (hB.cell (i := j) (v := .int .u8 0) (by simp [hj'])).trans ?_
    rw [show (List.replicate 64 (0 : UInt8))[j]'(by simpa using hj') = 0 from List.getElem_replicate ..]; rfl)
  rw [List.length_replicate] at h
  exact h

/-- The cells of the rows behind so many rounds. -/
def esC (bs : List Int) (ts : List Bool) (k : Nat) : List Value := (List.range k).flatMap fun j => [.int .i64 (bs.getD j 0), .bool (ts.getD j false)]
def bsC (bs : List Int) (k : Nat) : List Value := (List.range k).map fun j => .int .i64 (bs.getD j 0)
def tsC (ts : List Bool) (k : Nat) : List Value := (List.range k).map fun j => .bool (ts.getD j false)
def padD (d : ByteArray) : ByteArray := if d.size < 60 ∧ d.size ≠ 0 then (d ++ zerosB 64).extract 0 64 else d
def cut8 (d : ByteArray) : ByteArray := (padD d).extract 0 (min (padD d).size 70)
def dsC (ds : List ByteArray) (k : Nat) : List Value := (List.range k).map fun j => .string (cut8 (ds.getD j ⟨#[]⟩))
theorem esC_succ (bs : List Int) (ts : List Bool) (k : Nat) : esC bs ts (k + 1) = esC bs ts k ++ [.int .i64 (bs.getD k 0), .bool (ts.getD k false)] := by simp [esC, List.range_succ]
theorem bsC_succ (bs : List Int) (k : Nat) : bsC bs (k + 1) = bsC bs k ++ [.int .i64 (bs.getD k 0)] := by simp [bsC, List.range_succ]
theorem tsC_succ (ts : List Bool) (k : Nat) : tsC ts (k + 1) = tsC ts k ++ [.bool (ts.getD k false)] := by simp [tsC, List.range_succ]
theorem dsC_succ (ds : List ByteArray) (k : Nat) : dsC ds (k + 1) = dsC ds k ++ [.string (cut8 (ds.getD k ⟨#[]⟩))] := by simp [dsC, List.range_succ]

/-- Behind so many rounds of the first loop; of the second. -/
def Inv1 (g : Nat) (x : Array Value) (seq : Int) (bs : List Int) (ts : List Bool) (i : Nat) (W w : World) : Prop :=
  ∃ ra rb rt : Rw, (ra.n = i ∧ rb.n = i ∧ rt.n = i) ∧ (ra.xs = esC bs ts i ∧ rb.xs = bsC bs i ∧ rt.xs = tsC ts i) ∧ GT g x seq ra.v (.slice none 0 0) rb.v rt.v (.slice none 0 0) ra nilRw rb rt nilRw W w
def Inv2 (g : Nat) (x : Array Value) (seq : Int) (ra rb rt : Rw) (ds : List ByteArray) (i : Nat) (W w : World) : Prop :=
  ∃ rs rr : Rw, (rs.n = i ∧ rr.n = i) ∧ (rs.xs = dsC ds i ∧ rr.xs = dsC ds i) ∧ GT g x seq ra.v rs.v rb.v rt.v rr.v ra rs rb rt rr W w
/-- What given answers. -/
def GivenPost (seq : Int) (bs : List Int) (ts : List Bool) (ds : List ByteArray) (W : World) (e : Ending) (w : World) : Prop :=
  ∃ ra rs rb rt rr : Rw, e = .returned (.tuple #[.agg #[.int .i64 seq, ra.v, rs.v], .agg #[.int .i64 seq, rb.v, rt.v, rr.v]]) ∧
    (ra.n = min bs.length 9 ∧ rb.n = min bs.length 9 ∧ rt.n = min bs.length 9 ∧ rs.n = min ds.length 9 ∧ rr.n = min ds.length 9) ∧
    (ra.xs = esC bs ts (min bs.length 9) ∧ rb.xs = bsC bs (min bs.length 9) ∧ rt.xs = tsC ts (min bs.length 9) ∧ rs.xs = dsC ds (min ds.length 9) ∧ rr.xs = dsC ds (min ds.length 9)) ∧
    (Owns w (W.heap.size + 5) 62 2 ra ∧ Owns w (W.heap.size + 5) 9 1 rs ∧ Owns w (W.heap.size + 5) 3 1 rb ∧ Owns w (W.heap.size + 5) 4 1 rt ∧ Owns w (W.heap.size + 5) 9 1 rr) ∧
    (∀ k, rs.v.ownBlock = some k → rr.v.ownBlock ≠ some k) ∧ Below W.heap.size W w

set_option maxHeartbeats 8000000 in
set_option maxRecDepth 100000 in
theorem given_any (seq : Int) (A1 A2 A3 : Option Addr) (c1 c2 c3 : Nat) (bs : List Int) (ts : List Bool) (ds : List ByteArray) (w : World)
    (h1 : ∀ k, k < bs.length → ∃ ad, A1 = some ad ∧ w.cell? (ad.add k) = some (.int .i64 (bs.getD k 0))) (h2 : ∀ k, k < ts.length → ∃ ad, A2 = some ad ∧ w.cell? (ad.add k) = some (.bool (ts.getD k false)))
    (h3 : ∀ k, k < ds.length → ∃ ad, A3 = some ad ∧ w.cell? (ad.add k) = some (.string (ds.getD k ⟨#[]⟩))) (l1 : bs.length ≤ 9223372036854775807) (l2 : ts.length ≤ 9223372036854775807) (l3 : ds.length ≤ 9223372036854775807) (hd : ∀ k, (ds.getD k ⟨#[]⟩).size ≤ 140737488355328) :
    Calls Tryd.prog 23 #[.agg #[.int .i64 seq, .slice A1 bs.length c1, .slice A2 ts.length c2, .slice A3 ds.length c3]] w (GivenPost seq bs ts ds w) := by
  obtain ⟨i3, e30, e31, e32, e33⟩ := info_parts Tryd.gInfo3
  obtain ⟨i4, e40, e41, e42, e43⟩ := info_parts Tryd.gInfo4
  obtain ⟨i9, e90, e91, e92, e93⟩ := info_parts Tryd.gInfo9
  obtain ⟨i62, e620, e621, e622, e623⟩ := info_parts Tryd.gInfo62
  have I3 := Lib.hid (And.intro e30 (And.intro e31 (And.intro e32 e33)))
  have I4 := Lib.hid (And.intro e40 (And.intro e41 (And.intro e42 e43)))
  have I9 := Lib.hid (And.intro e90 (And.intro e91 (And.intro e92 e93)))
  have I62 := Lib.hid (And.intro e620 (And.intro e621 (And.intro e622 e623)))
  clear e30 e31 e32 e33 e40 e41 e42 e43 e90 e91 e92 e93 e620 e621 e622 e623
  have H1 := Lib.hid h1; have H2 := Lib.hid h2; have H3 := Lib.hid h3
  have HD := Lib.hid hd
  clear h1 h2 h3 hd
  obtain ⟨X, hX⟩ : ∃ X : Array Value, X = #[.int .i64 seq, .slice A1 bs.length c1, .slice A2 ts.length c2, .slice A3 ds.length c3] := ⟨_, rfl⟩
  have HX := Lib.hid hX
  clear hX
  go_enter Tryd.func23, Tryd.ntmps23
  go_upto_block 0 with (fail)
  go_cut [6] (fun v6 wc => Inv1 w.heap.size X seq bs ts (min bs.length 9) w wc)
  case first =>
    go_wp2
    go_loopw [6] (fun s6 wr => ∃ i : Nat, s6 = .int .i64 i ∧ i ≤ min bs.length 9 ∧ Inv1 w.heap.size X seq bs ts i w wr) (fun s6 _ => 9 - (intOf s6).toNat)
    case atStart => exact ⟨0, rfl, Nat.zero_le _, nilRw, nilRw, nilRw, ⟨rfl, rfl, rfl⟩, ⟨rfl, rfl, rfl⟩, by rw [HX.out]; exact GT.init w _ seq⟩
    case round =>
      obtain ⟨i, rfl, hi, ra, rb, rt, ⟨n1, n2, n3⟩, ⟨x1, x2, x3⟩, hG⟩ := hrel
      have HG := Lib.hid hG
      have X1 := Lib.hid x1; have X2 := Lib.hid x2; have X3 := Lib.hid x3
      have N1 := Lib.hid n1; have N2 := Lib.hid n2; have N3 := Lib.hid n3
      clear hG x1 x2 x3 n1 n2 n3
      have q0 : wr.cell? ⟨w.heap.size, 1, none⟩ = some (.slice A1 bs.length c1) := HG.out.hx.cell (by rw [HX.out]; rfl)
      have q1 : wr.cell? ⟨w.heap.size, 2, none⟩ = some (.slice A2 ts.length c2) := HG.out.hx.cell (by rw [HX.out]; rfl)
      by_cases hlt : i < min bs.length 9
      · have b1 : i < bs.length := by omega
        have b9 : i < 9 := by omega
        obtain ⟨tq, htq⟩ : ∃ t, ts.getD i false = t := ⟨_, rfl⟩
        have HTQ := Lib.hid htq
        clear htq hi hlt
        go_upto_region 6 with (fail)
        go_cut [7] (fun v7 wc => v7 = .bool tq ∧ wr = wc)
        case first =>
          by_cases ht : i < ts.length
          · obtain ⟨ad2, e2, hc2⟩ := H2.out i ht
            have q2 := HG.out.arg hc2
            rw [HTQ.out] at q2
            cases e2
            clear hc2
            go_wp2
            go_meet
            case rel => exact ⟨rfl, rfl⟩
          · have ht0 : tq = false := by rw [← HTQ.out, List.getD_eq_getElem?_getD, List.getElem?_eq_none (by omega)]; rfl
            subst ht0
            have hd2 : decide (i < ts.length) = false := decide_eq_false ht
            go_wp2
            go_meet
            case rel => exact ⟨rfl, rfl⟩
        case rest =>
          obtain ⟨rfl, rfl⟩ := hcut
          obtain ⟨ad1, e1, hc1⟩ := H1.out i b1
          have q3 := HG.out.arg hc1
          cases e1
          obtain ⟨b, hb⟩ : ∃ b, bs.getD i 0 = b := ⟨_, rfl⟩
          rw [hb] at q3 hc1
          have HBB := Lib.hid hb
          have HC1 := Lib.hid hc1
          clear hb hc1
          have g1 : wr.cell? ⟨w.heap.size + 3, 1, none⟩ = some ra.v := HG.out.ha.cell rfl
          go_wp2_with fail

          obtain ⟨m, hm⟩ : ∃ m, wr.heap.size = m := ⟨_, rfl⟩
          refine start_ (n := 13) (S := (fun w' => w'.cell? ⟨w.heap.size + 3, 1, none⟩ = some ra.v ∧ w'.cell? ⟨w.heap.size, 1, none⟩ = some (.slice (some ad1) bs.length c1) ∧ w'.cell? (ad1.add i) = some (.int .i64 b))) (ds := [12]) #[false, false, false, false, false, false, false, false, false, false, false, false, false] (by kernel_rfl) rfl rfl ⟨g1, q0, q3⟩ (fun hHeld => ?_)
          clear hHeld
          have HG1 := Lib.hid HG.out.drew
          have hHeld : (fun w' => w'.cell? ⟨w.heap.size + 3, 1, none⟩ = some ra.v ∧ w'.cell? ⟨w.heap.size, 1, none⟩ = some (.slice (some ad1) bs.length c1) ∧ w'.cell? (ad1.add i) = some (.int .i64 b)) wr.drew := ⟨g1, q0, q3⟩
          refine pure_ (i := 0) (N := some 39) (v := ?_) (a' := ?_) #[true, false, false, false, false, false, false, false, false, false, false, false, false] rfl rfl (by kernel_rfl) (fun _ _ _ h => h) (Or.inl ⟨by rfl, ?_⟩) ?_ ?_
          rotate_left
          · intro w'
            go_simp
            with_reducible rfl
          rotate_left
          · simp only [Act.put, List.setIfInBounds_toArray, List.set_cons_zero, List.set_cons_succ, i64_w, i32_w]
            rfl
          refine pure_ (i := 2) (N := some 41) (v := ?_) (a' := ?_) #[true, false, true, false, false, false, false, false, false, false, false, false, false] rfl rfl (by kernel_rfl) (fun _ _ _ h => h) (Or.inl ⟨by rfl, ?_⟩) ?_ ?_
          rotate_left
          · intro w'
            go_simp
            with_reducible rfl
          rotate_left
          · simp only [Act.put, List.setIfInBounds_toArray, List.set_cons_zero, List.set_cons_succ, i64_w, i32_w]
            rfl
          refine pure_ (i := 4) (N := some 43) (v := ?_) (a' := ?_) #[true, false, true, false, true, false, false, false, false, false, false, false, false] rfl rfl (by kernel_rfl) (fun _ _ _ h => h) (Or.inl ⟨by rfl, ?_⟩) ?_ ?_
          rotate_left
          · intro w'
            go_simp
            with_reducible rfl
          rotate_left
          · simp only [Act.put, List.setIfInBounds_toArray, List.set_cons_zero, List.set_cons_succ, i64_w, i32_w]
            rfl
          refine pure_ (i := 7) (N := some 46) (v := ?_) (a' := ?_) #[true, false, true, false, true, false, false, true, false, false, false, false, false] rfl rfl (by kernel_rfl) (fun _ _ _ h => h) (Or.inl ⟨by rfl, ?_⟩) ?_ ?_
          rotate_left
          · intro w'
            go_simp
            with_reducible rfl
          rotate_left
          · simp only [Act.put, List.setIfInBounds_toArray, List.set_cons_zero, List.set_cons_succ, i64_w, i32_w]
            rfl
          refine take_ (i := 1) (N := some 40) (v := ?_) (a' := ?_) #[true, true, true, false, true, false, false, true, false, false, false, false, false] rfl rfl (by kernel_rfl) (fun _ _ _ h => h) (Or.inl ⟨by rfl, ?_⟩) hHeld ?_ ?_
          rotate_left
          · rintro w' ⟨s0, s1, s2⟩
            go_simp
            with_reducible rfl
          rotate_left
          · simp only [Act.put, List.setIfInBounds_toArray, List.set_cons_zero, List.set_cons_succ, i64_w, i32_w]
            rfl
          refine take_ (i := 3) (N := some 42) (v := ?_) (a' := ?_) #[true, true, true, true, true, false, false, true, false, false, false, false, false] rfl rfl (by kernel_rfl) (fun _ _ _ h => h) (Or.inl ⟨by rfl, ?_⟩) hHeld ?_ ?_
          rotate_left
          · rintro w' ⟨s0, s1, s2⟩
            go_simp
            with_reducible rfl
          rotate_left
          · simp only [Act.put, List.setIfInBounds_toArray, List.set_cons_zero, List.set_cons_succ, i64_w, i32_w]
            rfl
          refine pure_ (i := 5) (N := some 44) (v := ?_) (a' := ?_) #[true, true, true, true, true, true, false, true, false, false, false, false, false] rfl rfl (by kernel_rfl) (fun _ _ _ h => h) (Or.inl ⟨by rfl, ?_⟩) ?_ ?_
          rotate_left
          · intro w'
            go_simp
            with_reducible rfl
          rotate_left
          · simp only [Act.put, List.setIfInBounds_toArray, List.set_cons_zero, List.set_cons_succ, i64_w, i32_w]
            rfl
          refine take_ (i := 6) (N := some 45) (v := ?_) (a' := ?_) #[true, true, true, true, true, true, true, true, false, false, false, false, false] rfl rfl (by kernel_rfl) (fun _ _ _ h => h) (Or.inl ⟨by rfl, ?_⟩) hHeld ?_ ?_
          rotate_left
          · rintro w' ⟨s0, s1, s2⟩
            go_simp
            with_reducible rfl
          rotate_left
          · simp only [Act.put, List.setIfInBounds_toArray, List.set_cons_zero, List.set_cons_succ, i64_w, i32_w]
            rfl
          refine pure_ (i := 8) (N := some 47) (v := ?_) (a' := ?_) #[true, true, true, true, true, true, true, true, true, false, false, false, false] rfl rfl (by kernel_rfl) (fun _ _ _ h => h) (Or.inl ⟨by rfl, ?_⟩) ?_ ?_
          rotate_left
          · intro w'
            go_simp
            with_reducible rfl
          rotate_left
          · simp only [Act.put, List.setIfInBounds_toArray, List.set_cons_zero, List.set_cons_succ, i64_w, i32_w]
            rfl
          refine one_ (i := 9) (N := some 48) #[true, true, true, true, true, true, true, true, true, true, false, false, false] rfl rfl (by kernel_rfl) (by decide) (fun K hK => ?_)
          go_simp
          have HG2 := Lib.hid (HG.out.alloc (.cells #[.int .i64 b, .bool tq] 62)).drew
          have HB2 : Hid (Blk (wr.alloc (.cells #[.int .i64 b, .bool tq] 62)).drew m #[.int .i64 b, .bool tq] 62) := Lib.hid (by rw [← hm]; exact (Blk.new wr _ _).drew)
          refine hK.out _ _ ⟨HG2.out.ha.cell rfl, HG2.out.hx.cell (by rw [HX.out]; rfl), HG2.out.arg HC1.out⟩ (fun hHeld => ?_)
          refine norm_ (a' := ?_) ?_ ?_
          rotate_left
          · (try simp only [Act.put, List.setIfInBounds_toArray, List.set_cons_zero, List.set_cons_succ, i64_w, i32_w])
            rfl
          refine one_ (i := 10) (N := some 49) #[true, true, true, true, true, true, true, true, true, true, true, false, false] rfl rfl (by kernel_rfl) (by decide) (fun K hK => ?_)
          refine step_app1 (by rfl) (.tmp 40) (.tmp 48) 40 (by rfl) (w.heap.size + 5) 62 i62 (.agg #[(.int .i64 0), (.bool false)]) 2 16 Tryd.underlying40 I62.out.1 I62.out.2.1 I62.out.2.2.1 I62.out.2.2.2 rfl (by omega) (by omega) ra m #[.int .i64 b, .bool tq] (by rfl) (by rfl) HG2.out.oa HB2.out (by rfl) (by simp [Value.oneCell']) (by have := N1.out; omega) (by have := HG2.out.lt; omega) ?_
          intro oag oac w2 oa oah oal
          have HG3 := Lib.hid (HG2.out.appa oah oa)
          refine hK.out _ _ ⟨HG3.out.ha.cell rfl, HG3.out.hx.cell (by rw [HX.out]; rfl), HG3.out.arg HC1.out⟩ (fun hHeld => ?_)
          refine norm_ (a' := ?_) ?_ ?_
          rotate_left
          · (try simp only [Act.put, List.setIfInBounds_toArray, List.set_cons_zero, List.set_cons_succ, i64_w, i32_w])
            rfl
          refine pure_ (i := 11) (N := some 50) (v := ?_) (a' := ?_) #[true, true, true, true, true, true, true, true, true, true, true, true, false] rfl rfl (by kernel_rfl) (fun _ _ _ h => h) (Or.inl ⟨by rfl, ?_⟩) ?_ ?_
          rotate_left
          · intro w'
            go_simp
            with_reducible rfl
          rotate_left
          · simp only [Act.put, List.setIfInBounds_toArray, List.set_cons_zero, List.set_cons_succ, i64_w, i32_w]
            rfl
          refine last_ (i := 12) (N := none) #[true, true, true, true, true, true, true, true, true, true, true, true, true] rfl rfl (by kernel_rfl) (by decide) (fun K hK => ?_)
          have s1 : w2.cell? ⟨w.heap.size + 3, 1, none⟩ = some ra.v := HG3.out.ha.cell rfl
          have f1 : w2.frozen? ⟨w.heap.size + 3, 1, none⟩ = false := HG3.out.ha.frozen 1
          clear oa oah oal hHeld
          refine skip_ (w1 := ?_) (by rfl) rfl ?_ ?_
          rotate_left
          · go_simp
            rfl
          refine hK.out _ _ ?_
          refine done_ (by kernel_rfl) ?_
          have HG4 := Lib.hid (HG3.out.seta1 (.slice (some ⟨oag, 0, none⟩) (ra.n + 1) oac))
          clear HG HG1 HG2 HG3 HB2 s1 f1 hm q0 q1 q3 g1
          generalize w2.setCell ⟨w.heap.size + 3, 1, none⟩ (.slice (some ⟨oag, 0, none⟩) (ra.n + 1) oac) = w3 at HG4 ⊢
          go_wp2_with fail
          have HG5 := Lib.hid HG4.out.drew
          have hHeld0 : w3.drew.cell? ⟨w.heap.size + 4, 1, none⟩ = some rb.v ∧ w3.drew.cell? ⟨w.heap.size + 4, 2, none⟩ = some rt.v ∧ w3.drew.cell? ⟨w.heap.size, 1, none⟩ = some (.slice (some ad1) bs.length c1) ∧ w3.drew.cell? (ad1.add i) = some (.int .i64 b) := ⟨HG5.out.hb.cell rfl, HG5.out.hb.cell rfl, HG5.out.hx.cell (by rw [HX.out]; rfl), HG5.out.arg HC1.out⟩
          refine start_ (n := 18) (S := (fun w' => w'.cell? ⟨w.heap.size + 4, 1, none⟩ = some rb.v ∧ w'.cell? ⟨w.heap.size + 4, 2, none⟩ = some rt.v ∧ w'.cell? ⟨w.heap.size, 1, none⟩ = some (.slice (some ad1) bs.length c1) ∧ w'.cell? (ad1.add i) = some (.int .i64 b))) (ds := [15, 17]) #[false, false, false, false, false, false, false, false, false, false, false, false, false, false, false, false, false, false] (by kernel_rfl) rfl rfl hHeld0 (fun hHeld => ?_)
          clear hHeld0 HG4
          generalize w3.drew = w4 at HG5 hHeld ⊢
          refine pure_ (i := 0) (N := some 51) (v := ?_) (a' := ?_) #[true, false, false, false, false, false, false, false, false, false, false, false, false, false, false, false, false, false] rfl rfl (by kernel_rfl) (fun _ _ _ h => h) (Or.inl ⟨by rfl, ?_⟩) ?_ ?_
          rotate_left
          · intro w'
            go_simp
            with_reducible rfl
          rotate_left
          · simp only [Act.put, List.setIfInBounds_toArray, List.set_cons_zero, List.set_cons_succ, i64_w, i32_w]
            rfl
          refine pure_ (i := 2) (N := some 53) (v := ?_) (a' := ?_) #[true, false, true, false, false, false, false, false, false, false, false, false, false, false, false, false, false, false] rfl rfl (by kernel_rfl) (fun _ _ _ h => h) (Or.inl ⟨by rfl, ?_⟩) ?_ ?_
          rotate_left
          · intro w'
            go_simp
            with_reducible rfl
          rotate_left
          · simp only [Act.put, List.setIfInBounds_toArray, List.set_cons_zero, List.set_cons_succ, i64_w, i32_w]
            rfl
          refine pure_ (i := 4) (N := some 55) (v := ?_) (a' := ?_) #[true, false, true, false, true, false, false, false, false, false, false, false, false, false, false, false, false, false] rfl rfl (by kernel_rfl) (fun _ _ _ h => h) (Or.inl ⟨by rfl, ?_⟩) ?_ ?_
          rotate_left
          · intro w'
            go_simp
            with_reducible rfl
          rotate_left
          · simp only [Act.put, List.setIfInBounds_toArray, List.set_cons_zero, List.set_cons_succ, i64_w, i32_w]
            rfl
          refine pure_ (i := 9) (N := some 60) (v := ?_) (a' := ?_) #[true, false, true, false, true, false, false, false, false, true, false, false, false, false, false, false, false, false] rfl rfl (by kernel_rfl) (fun _ _ _ h => h) (Or.inl ⟨by rfl, ?_⟩) ?_ ?_
          rotate_left
          · intro w'
            go_simp
            with_reducible rfl
          rotate_left
          · simp only [Act.put, List.setIfInBounds_toArray, List.set_cons_zero, List.set_cons_succ, i64_w, i32_w]
            rfl
          refine pure_ (i := 11) (N := some 62) (v := ?_) (a' := ?_) #[true, false, true, false, true, false, false, false, false, true, false, true, false, false, false, false, false, false] rfl rfl (by kernel_rfl) (fun _ _ _ h => h) (Or.inl ⟨by rfl, ?_⟩) ?_ ?_
          rotate_left
          · intro w'
            go_simp
            with_reducible rfl
          rotate_left
          · simp only [Act.put, List.setIfInBounds_toArray, List.set_cons_zero, List.set_cons_succ, i64_w, i32_w]
            rfl
          refine take_ (i := 1) (N := some 52) (v := ?_) (a' := ?_) #[true, true, true, false, true, false, false, false, false, true, false, true, false, false, false, false, false, false] rfl rfl (by kernel_rfl) (fun _ _ _ h => h) (Or.inl ⟨by rfl, ?_⟩) hHeld ?_ ?_
          rotate_left
          · rintro w' ⟨s0, s1, s2, s3⟩
            go_simp
            with_reducible rfl
          rotate_left
          · simp only [Act.put, List.setIfInBounds_toArray, List.set_cons_zero, List.set_cons_succ, i64_w, i32_w]
            rfl
          refine take_ (i := 3) (N := some 54) (v := ?_) (a' := ?_) #[true, true, true, true, true, false, false, false, false, true, false, true, false, false, false, false, false, false] rfl rfl (by kernel_rfl) (fun _ _ _ h => h) (Or.inl ⟨by rfl, ?_⟩) hHeld ?_ ?_
          rotate_left
          · rintro w' ⟨s0, s1, s2, s3⟩
            go_simp
            with_reducible rfl
          rotate_left
          · simp only [Act.put, List.setIfInBounds_toArray, List.set_cons_zero, List.set_cons_succ, i64_w, i32_w]
            rfl
          refine pure_ (i := 5) (N := some 56) (v := ?_) (a' := ?_) #[true, true, true, true, true, true, false, false, false, true, false, true, false, false, false, false, false, false] rfl rfl (by kernel_rfl) (fun _ _ _ h => h) (Or.inl ⟨by rfl, ?_⟩) ?_ ?_
          rotate_left
          · intro w'
            go_simp
            with_reducible rfl
          rotate_left
          · simp only [Act.put, List.setIfInBounds_toArray, List.set_cons_zero, List.set_cons_succ, i64_w, i32_w]
            rfl
          refine take_ (i := 6) (N := some 57) (v := ?_) (a' := ?_) #[true, true, true, true, true, true, true, false, false, true, false, true, false, false, false, false, false, false] rfl rfl (by kernel_rfl) (fun _ _ _ h => h) (Or.inl ⟨by rfl, ?_⟩) hHeld ?_ ?_
          rotate_left
          · rintro w' ⟨s0, s1, s2, s3⟩
            go_simp
            with_reducible rfl
          rotate_left
          · simp only [Act.put, List.setIfInBounds_toArray, List.set_cons_zero, List.set_cons_succ, i64_w, i32_w]
            rfl
          refine take_ (i := 10) (N := some 61) (v := ?_) (a' := ?_) #[true, true, true, true, true, true, true, false, false, true, true, true, false, false, false, false, false, false] rfl rfl (by kernel_rfl) (fun _ _ _ h => h) (Or.inl ⟨by rfl, ?_⟩) hHeld ?_ ?_
          rotate_left
          · rintro w' ⟨s0, s1, s2, s3⟩
            go_simp
            with_reducible rfl
          rotate_left
          · simp only [Act.put, List.setIfInBounds_toArray, List.set_cons_zero, List.set_cons_succ, i64_w, i32_w]
            rfl
          obtain ⟨m4, hm4⟩ : ∃ m, w4.heap.size = m := ⟨_, rfl⟩
          refine two_ (i := 7) (j := 12) (Ni := some 58) (Nj := some 63) #[true, true, true, true, true, true, true, true, false, true, true, true, false, false, false, false, false, false] #[true, true, true, true, true, true, true, false, false, true, true, true, true, false, false, false, false, false] rfl rfl rfl rfl (by kernel_rfl) (by decide) (by decide) (fun K hK => ?_) (fun K hK => ?_)
          · skip
            go_simp
            have HGA := Lib.hid (HG5.out.alloc (.cells #[.int .i64 b] 3))
            have HNA : Hid ((∀ k, rb.v.ownBlock = some k → k ≠ m4) ∧ (∀ k, rt.v.ownBlock = some k → k ≠ m4)) := Lib.hid ⟨fun k hk e => by have := (HG5.out.ob.lt hk).2.1; omega, fun k hk e => by have := (HG5.out.ot.lt hk).2.1; omega⟩
            have HBA : Hid (Blk (w4.alloc (.cells #[.int .i64 b] 3)) m4 #[.int .i64 b] 3) := Lib.hid (by rw [← hm4]; exact Blk.new w4 _ _)
            refine hK.out _ _ ⟨HGA.out.hb.cell rfl, HGA.out.hb.cell rfl, HGA.out.hx.cell (by rw [HX.out]; rfl), HGA.out.arg HC1.out⟩ (fun hHeld => ?_)
            refine norm_ (a' := ?_) ?_ ?_
            rotate_left
            · (try simp only [Act.put, List.setIfInBounds_toArray, List.set_cons_zero, List.set_cons_succ, i64_w, i32_w])
              rfl
            clear hm4
            generalize w4.alloc (.cells #[.int .i64 b] 3) = wA at HGA HBA  hHeld ⊢
            obtain ⟨mA, hmA⟩ : ∃ m, wA.heap.size = m := ⟨_, rfl⟩
            refine two_ (i := 8) (j := 12) (Ni := some 59) (Nj := some 63) #[true, true, true, true, true, true, true, true, true, true, true, true, false, false, false, false, false, false] #[true, true, true, true, true, true, true, true, false, true, true, true, true, false, false, false, false, false] rfl rfl rfl rfl (by kernel_rfl) (by decide) (by decide) (fun K hK => ?_) (fun K hK => ?_)
            · skip
              refine step_app1 (by rfl) (.tmp 52) (.tmp 58) 36 (by rfl) (w.heap.size + 5) 3 i3 (.int .i64 0) 1 8 Tryd.underlying36 I3.out.1 I3.out.2.1 I3.out.2.2.1 I3.out.2.2.2 rfl (by omega) (by omega) rb m4 #[.int .i64 b] (by rfl) (by rfl) HGA.out.ob HBA.out (by rfl) (by simp [Value.oneCell']) (by have := N2.out; omega) (by have := HGA.out.lt; omega) ?_
              intro obg obc wB ob obh obl
              have HGB := Lib.hid (HGA.out.appb obh ob)
              refine hK.out _ _ ⟨HGB.out.hb.cell rfl, HGB.out.hb.cell rfl, HGB.out.hx.cell (by rw [HX.out]; rfl), HGB.out.arg HC1.out⟩ (fun hHeld => ?_)
              refine norm_ (a' := ?_) ?_ ?_
              rotate_left
              · (try simp only [Act.put, List.setIfInBounds_toArray, List.set_cons_zero, List.set_cons_succ, i64_w, i32_w])
                rfl
              obtain ⟨mB, hmB⟩ : ∃ m, wB.heap.size = m := ⟨_, rfl⟩
              refine pure_ (i := 14) (N := some 65) (v := ?_) (a' := ?_) #[true, true, true, true, true, true, true, true, true, true, true, true, false, false, true, false, false, false] rfl rfl (by kernel_rfl) (fun _ _ _ h => h) (Or.inl ⟨by rfl, ?_⟩) ?_ ?_
              rotate_left
              · intro w'
                go_simp
                with_reducible rfl
              rotate_left
              · simp only [Act.put, List.setIfInBounds_toArray, List.set_cons_zero, List.set_cons_succ, i64_w, i32_w]
                rfl
              refine one_ (i := 12) (N := some 63) #[true, true, true, true, true, true, true, true, true, true, true, true, true, false, true, false, false, false] rfl rfl (by kernel_rfl) (by decide) (fun K hK => ?_)
              go_simp
              have HGC := Lib.hid (HGB.out.alloc (.cells #[.bool tq] 4))
              skip
              have HBC : Hid (Blk (wB.alloc (.cells #[.bool tq] 4)) mB #[.bool tq] 4) := Lib.hid (by rw [← hmB]; exact Blk.new wB _ _)
              refine hK.out _ _ ⟨HGC.out.hb.cell rfl, HGC.out.hb.cell rfl, HGC.out.hx.cell (by rw [HX.out]; rfl), HGC.out.arg HC1.out⟩ (fun hHeld => ?_)
              refine norm_ (a' := ?_) ?_ ?_
              rotate_left
              · (try simp only [Act.put, List.setIfInBounds_toArray, List.set_cons_zero, List.set_cons_succ, i64_w, i32_w])
                rfl
              clear hmB
              generalize wB.alloc (.cells #[.bool tq] 4) = wC at HGC HBC  hHeld ⊢
              obtain ⟨mC, hmC⟩ : ∃ m, wC.heap.size = m := ⟨_, rfl⟩
              refine one_ (i := 13) (N := some 64) #[true, true, true, true, true, true, true, true, true, true, true, true, true, true, true, false, false, false] rfl rfl (by kernel_rfl) (by decide) (fun K hK => ?_)
              refine step_app1 (by rfl) (.tmp 61) (.tmp 63) 37 (by rfl) (w.heap.size + 5) 4 i4 (.bool false) 1 1 Tryd.underlying37 I4.out.1 I4.out.2.1 I4.out.2.2.1 I4.out.2.2.2 rfl (by omega) (by omega) rt mB #[.bool tq] (by rfl) (by rfl) HGC.out.ot HBC.out (by rfl) (by simp [Value.oneCell']) (by have := N3.out; omega) (by have := HGC.out.lt; omega) ?_
              intro otg otc wE ot oth otl
              have HGE := Lib.hid (HGC.out.appt oth ot)
              refine hK.out _ _ ⟨HGE.out.hb.cell rfl, HGE.out.hb.cell rfl, HGE.out.hx.cell (by rw [HX.out]; rfl), HGE.out.arg HC1.out⟩ (fun hHeld => ?_)
              refine norm_ (a' := ?_) ?_ ?_
              rotate_left
              · (try simp only [Act.put, List.setIfInBounds_toArray, List.set_cons_zero, List.set_cons_succ, i64_w, i32_w])
                rfl
              clear hHeld
              refine last_ (i := 15) (N := none) #[true, true, true, true, true, true, true, true, true, true, true, true, true, true, true, true, false, false] rfl rfl (by kernel_rfl) (by decide) (fun K hK => ?_)
              have s1 : wE.cell? ⟨w.heap.size + 4, 1, none⟩ = some rb.v := HGE.out.hb.cell rfl
              have f1 : wE.frozen? ⟨w.heap.size + 4, 1, none⟩ = false := HGE.out.hb.frozen 1
              refine skip_ (w1 := ?_) (by rfl) rfl ?_ ?_
              rotate_left
              · go_simp
                rfl
              refine hK.out _ _ ?_
              have HGF := Lib.hid (HGE.out.setb1 (.slice (some ⟨obg, 0, none⟩) (rb.n + 1) obc))
              clear s1 f1 HGE
              generalize wE.setCell ⟨w.heap.size + 4, 1, none⟩ (.slice (some ⟨obg, 0, none⟩) (rb.n + 1) obc) = wF at HGF ⊢
              refine pure_ (i := 16) (N := some 66) (v := ?_) (a' := ?_) #[true, true, true, true, true, true, true, true, true, true, true, true, true, true, true, true, true, false] rfl rfl (by kernel_rfl) (fun _ _ _ h => h) (Or.inl ⟨by rfl, ?_⟩) ?_ ?_
              rotate_left
              · intro w'
                go_simp
                with_reducible rfl
              rotate_left
              · simp only [Act.put, List.setIfInBounds_toArray, List.set_cons_zero, List.set_cons_succ, i64_w, i32_w]
                rfl
              refine last_ (i := 17) (N := none) #[true, true, true, true, true, true, true, true, true, true, true, true, true, true, true, true, true, true] rfl rfl (by kernel_rfl) (by decide) (fun K hK => ?_)
              have s1 : wF.cell? ⟨w.heap.size + 4, 2, none⟩ = some rt.v := HGF.out.hb.cell rfl
              have f1 : wF.frozen? ⟨w.heap.size + 4, 2, none⟩ = false := HGF.out.hb.frozen 2
              refine skip_ (w1 := ?_) (by rfl) rfl ?_ ?_
              rotate_left
              · go_simp
                rfl
              refine hK.out _ _ ?_
              refine done_ (by kernel_rfl) ?_
              have HGH := Lib.hid (HGF.out.setb2 (.slice (some ⟨otg, 0, none⟩) (rt.n + 1) otc))
              clear s1 f1 HGF
              generalize wF.setCell ⟨w.heap.size + 4, 2, none⟩ (.slice (some ⟨otg, 0, none⟩) (rt.n + 1) otc) = wH at HGH ⊢
              go_wp2_with fail
              go_roundw
              case rel =>
                refine ⟨i + 1, by go_num, by omega, ⟨some ⟨oag, 0, none⟩, ra.n + 1, oac, ra.xs ++ [.int .i64 b, .bool tq]⟩, ⟨some ⟨obg, 0, none⟩, rb.n + 1, obc, rb.xs ++ [.int .i64 b]⟩, ⟨some ⟨otg, 0, none⟩, rt.n + 1, otc, rt.xs ++ [.bool tq]⟩, ?_, ?_, HGH.out⟩
                · exact ⟨by show ra.n + 1 = i + 1; rw [N1.out], by show rb.n + 1 = i + 1; rw [N2.out], by show rt.n + 1 = i + 1; rw [N3.out]⟩
                · exact ⟨by rw [esC_succ, ← X1.out, HBB.out, HTQ.out], by rw [bsC_succ, ← X2.out, HBB.out], by rw [tsC_succ, ← X3.out, HTQ.out]⟩
              case measure => simp [intOf]; omega
            · skip
              go_simp
              have HGC := Lib.hid (HGA.out.alloc (.cells #[.bool tq] 4))
              have HNC : Hid ((∀ k, rb.v.ownBlock = some k → k ≠ mA) ∧ (∀ k, rt.v.ownBlock = some k → k ≠ mA)) := Lib.hid ⟨fun k hk e => by have := (HGA.out.ob.lt hk).2.1; omega, fun k hk e => by have := (HGA.out.ot.lt hk).2.1; omega⟩
              have HBC : Hid (Blk (wA.alloc (.cells #[.bool tq] 4)) mA #[.bool tq] 4) := Lib.hid (by rw [← hmA]; exact Blk.new wA _ _)
              have HBA_ := Lib.hid (HBA.out.alloc (.cells #[.bool tq] 4))
              clear HBA
              have HBA := HBA_
              clear HBA_
              refine hK.out _ _ ⟨HGC.out.hb.cell rfl, HGC.out.hb.cell rfl, HGC.out.hx.cell (by rw [HX.out]; rfl), HGC.out.arg HC1.out⟩ (fun hHeld => ?_)
              refine norm_ (a' := ?_) ?_ ?_
              rotate_left
              · (try simp only [Act.put, List.setIfInBounds_toArray, List.set_cons_zero, List.set_cons_succ, i64_w, i32_w])
                rfl
              clear hmA
              generalize wA.alloc (.cells #[.bool tq] 4) = wC at HGC HBC HBA hHeld ⊢
              obtain ⟨mC, hmC⟩ : ∃ m, wC.heap.size = m := ⟨_, rfl⟩
              refine one_ (i := 8) (N := some 59) #[true, true, true, true, true, true, true, true, true, true, true, true, true, false, false, false, false, false] rfl rfl (by kernel_rfl) (by decide) (fun K hK => ?_)
              refine step_app1 (by rfl) (.tmp 52) (.tmp 58) 36 (by rfl) (w.heap.size + 5) 3 i3 (.int .i64 0) 1 8 Tryd.underlying36 I3.out.1 I3.out.2.1 I3.out.2.2.1 I3.out.2.2.2 rfl (by omega) (by omega) rb m4 #[.int .i64 b] (by rfl) (by rfl) HGC.out.ob HBA.out (by rfl) (by simp [Value.oneCell']) (by have := N2.out; omega) (by have := HGC.out.lt; omega) ?_
              intro obg obc wB ob obh obl
              have HGB := Lib.hid (HGC.out.appb obh ob)
              have HBD : Hid (Blk wB mA #[.bool tq] 4) := Lib.hid (blk_grown' HBC.out obh (fun e => HNC.out.1 _ e rfl))
              refine hK.out _ _ ⟨HGB.out.hb.cell rfl, HGB.out.hb.cell rfl, HGB.out.hx.cell (by rw [HX.out]; rfl), HGB.out.arg HC1.out⟩ (fun hHeld => ?_)
              refine norm_ (a' := ?_) ?_ ?_
              rotate_left
              · (try simp only [Act.put, List.setIfInBounds_toArray, List.set_cons_zero, List.set_cons_succ, i64_w, i32_w])
                rfl
              refine pure_ (i := 14) (N := some 65) (v := ?_) (a' := ?_) #[true, true, true, true, true, true, true, true, true, true, true, true, true, false, true, false, false, false] rfl rfl (by kernel_rfl) (fun _ _ _ h => h) (Or.inl ⟨by rfl, ?_⟩) ?_ ?_
              rotate_left
              · intro w'
                go_simp
                with_reducible rfl
              rotate_left
              · simp only [Act.put, List.setIfInBounds_toArray, List.set_cons_zero, List.set_cons_succ, i64_w, i32_w]
                rfl
              refine one_ (i := 13) (N := some 64) #[true, true, true, true, true, true, true, true, true, true, true, true, true, true, true, false, false, false] rfl rfl (by kernel_rfl) (by decide) (fun K hK => ?_)
              refine step_app1 (by rfl) (.tmp 61) (.tmp 63) 37 (by rfl) (w.heap.size + 5) 4 i4 (.bool false) 1 1 Tryd.underlying37 I4.out.1 I4.out.2.1 I4.out.2.2.1 I4.out.2.2.2 rfl (by omega) (by omega) rt mA #[.bool tq] (by rfl) (by rfl) HGB.out.ot HBD.out (by rfl) (by simp [Value.oneCell']) (by have := N3.out; omega) (by have := HGB.out.lt; omega) ?_
              intro otg otc wE ot oth otl
              have HGE := Lib.hid (HGB.out.appt oth ot)
              refine hK.out _ _ ⟨HGE.out.hb.cell rfl, HGE.out.hb.cell rfl, HGE.out.hx.cell (by rw [HX.out]; rfl), HGE.out.arg HC1.out⟩ (fun hHeld => ?_)
              refine norm_ (a' := ?_) ?_ ?_
              rotate_left
              · (try simp only [Act.put, List.setIfInBounds_toArray, List.set_cons_zero, List.set_cons_succ, i64_w, i32_w])
                rfl
              clear hHeld
              refine last_ (i := 15) (N := none) #[true, true, true, true, true, true, true, true, true, true, true, true, true, true, true, true, false, false] rfl rfl (by kernel_rfl) (by decide) (fun K hK => ?_)
              have s1 : wE.cell? ⟨w.heap.size + 4, 1, none⟩ = some rb.v := HGE.out.hb.cell rfl
              have f1 : wE.frozen? ⟨w.heap.size + 4, 1, none⟩ = false := HGE.out.hb.frozen 1
              refine skip_ (w1 := ?_) (by rfl) rfl ?_ ?_
              rotate_left
              · go_simp
                rfl
              refine hK.out _ _ ?_
              have HGF := Lib.hid (HGE.out.setb1 (.slice (some ⟨obg, 0, none⟩) (rb.n + 1) obc))
              clear s1 f1 HGE
              generalize wE.setCell ⟨w.heap.size + 4, 1, none⟩ (.slice (some ⟨obg, 0, none⟩) (rb.n + 1) obc) = wF at HGF ⊢
              refine pure_ (i := 16) (N := some 66) (v := ?_) (a' := ?_) #[true, true, true, true, true, true, true, true, true, true, true, true, true, true, true, true, true, false] rfl rfl (by kernel_rfl) (fun _ _ _ h => h) (Or.inl ⟨by rfl, ?_⟩) ?_ ?_
              rotate_left
              · intro w'
                go_simp
                with_reducible rfl
              rotate_left
              · simp only [Act.put, List.setIfInBounds_toArray, List.set_cons_zero, List.set_cons_succ, i64_w, i32_w]
                rfl
              refine last_ (i := 17) (N := none) #[true, true, true, true, true, true, true, true, true, true, true, true, true, true, true, true, true, true] rfl rfl (by kernel_rfl) (by decide) (fun K hK => ?_)
              have s1 : wF.cell? ⟨w.heap.size + 4, 2, none⟩ = some rt.v := HGF.out.hb.cell rfl
              have f1 : wF.frozen? ⟨w.heap.size + 4, 2, none⟩ = false := HGF.out.hb.frozen 2
              refine skip_ (w1 := ?_) (by rfl) rfl ?_ ?_
              rotate_left
              · go_simp
                rfl
              refine hK.out _ _ ?_
              refine done_ (by kernel_rfl) ?_
              have HGH := Lib.hid (HGF.out.setb2 (.slice (some ⟨otg, 0, none⟩) (rt.n + 1) otc))
              clear s1 f1 HGF
              generalize wF.setCell ⟨w.heap.size + 4, 2, none⟩ (.slice (some ⟨otg, 0, none⟩) (rt.n + 1) otc) = wH at HGH ⊢
              go_wp2_with fail
              go_roundw
              case rel =>
                refine ⟨i + 1, by go_num, by omega, ⟨some ⟨oag, 0, none⟩, ra.n + 1, oac, ra.xs ++ [.int .i64 b, .bool tq]⟩, ⟨some ⟨obg, 0, none⟩, rb.n + 1, obc, rb.xs ++ [.int .i64 b]⟩, ⟨some ⟨otg, 0, none⟩, rt.n + 1, otc, rt.xs ++ [.bool tq]⟩, ?_, ?_, HGH.out⟩
                · exact ⟨by show ra.n + 1 = i + 1; rw [N1.out], by show rb.n + 1 = i + 1; rw [N2.out], by show rt.n + 1 = i + 1; rw [N3.out]⟩
                · exact ⟨by rw [esC_succ, ← X1.out, HBB.out, HTQ.out], by rw [bsC_succ, ← X2.out, HBB.out], by rw [tsC_succ, ← X3.out, HTQ.out]⟩
              case measure => simp [intOf]; omega
          · skip
            go_simp
            have HGA := Lib.hid (HG5.out.alloc (.cells #[.bool tq] 4))
            have HNA : Hid ((∀ k, rb.v.ownBlock = some k → k ≠ m4) ∧ (∀ k, rt.v.ownBlock = some k → k ≠ m4)) := Lib.hid ⟨fun k hk e => by have := (HG5.out.ob.lt hk).2.1; omega, fun k hk e => by have := (HG5.out.ot.lt hk).2.1; omega⟩
            have HBA : Hid (Blk (w4.alloc (.cells #[.bool tq] 4)) m4 #[.bool tq] 4) := Lib.hid (by rw [← hm4]; exact Blk.new w4 _ _)
            refine hK.out _ _ ⟨HGA.out.hb.cell rfl, HGA.out.hb.cell rfl, HGA.out.hx.cell (by rw [HX.out]; rfl), HGA.out.arg HC1.out⟩ (fun hHeld => ?_)
            refine norm_ (a' := ?_) ?_ ?_
            rotate_left
            · (try simp only [Act.put, List.setIfInBounds_toArray, List.set_cons_zero, List.set_cons_succ, i64_w, i32_w])
              rfl
            clear hm4
            generalize w4.alloc (.cells #[.bool tq] 4) = wA at HGA HBA  hHeld ⊢
            obtain ⟨mA, hmA⟩ : ∃ m, wA.heap.size = m := ⟨_, rfl⟩
            refine one_ (i := 7) (N := some 58) #[true, true, true, true, true, true, true, true, false, true, true, true, true, false, false, false, false, false] rfl rfl (by kernel_rfl) (by decide) (fun K hK => ?_)
            go_simp
            have HGC := Lib.hid (HGA.out.alloc (.cells #[.int .i64 b] 3))
            skip
            have HBC : Hid (Blk (wA.alloc (.cells #[.int .i64 b] 3)) mA #[.int .i64 b] 3) := Lib.hid (by rw [← hmA]; exact Blk.new wA _ _)
            have HBA_ := Lib.hid (HBA.out.alloc (.cells #[.int .i64 b] 3))
            clear HBA
            have HBA := HBA_
            clear HBA_
            refine hK.out _ _ ⟨HGC.out.hb.cell rfl, HGC.out.hb.cell rfl, HGC.out.hx.cell (by rw [HX.out]; rfl), HGC.out.arg HC1.out⟩ (fun hHeld => ?_)
            refine norm_ (a' := ?_) ?_ ?_
            rotate_left
            · (try simp only [Act.put, List.setIfInBounds_toArray, List.set_cons_zero, List.set_cons_succ, i64_w, i32_w])
              rfl
            clear hmA
            generalize wA.alloc (.cells #[.int .i64 b] 3) = wC at HGC HBC HBA hHeld ⊢
            obtain ⟨mC, hmC⟩ : ∃ m, wC.heap.size = m := ⟨_, rfl⟩
            refine one_ (i := 8) (N := some 59) #[true, true, true, true, true, true, true, true, true, true, true, true, true, false, false, false, false, false] rfl rfl (by kernel_rfl) (by decide) (fun K hK => ?_)
            refine step_app1 (by rfl) (.tmp 52) (.tmp 58) 36 (by rfl) (w.heap.size + 5) 3 i3 (.int .i64 0) 1 8 Tryd.underlying36 I3.out.1 I3.out.2.1 I3.out.2.2.1 I3.out.2.2.2 rfl (by omega) (by omega) rb mA #[.int .i64 b] (by rfl) (by rfl) HGC.out.ob HBC.out (by rfl) (by simp [Value.oneCell']) (by have := N2.out; omega) (by have := HGC.out.lt; omega) ?_
            intro obg obc wB ob obh obl
            have HGB := Lib.hid (HGC.out.appb obh ob)
            have HBD : Hid (Blk wB m4 #[.bool tq] 4) := Lib.hid (blk_grown' HBA.out obh (fun e => HNA.out.1 _ e rfl))
            refine hK.out _ _ ⟨HGB.out.hb.cell rfl, HGB.out.hb.cell rfl, HGB.out.hx.cell (by rw [HX.out]; rfl), HGB.out.arg HC1.out⟩ (fun hHeld => ?_)
            refine norm_ (a' := ?_) ?_ ?_
            rotate_left
            · (try simp only [Act.put, List.setIfInBounds_toArray, List.set_cons_zero, List.set_cons_succ, i64_w, i32_w])
              rfl
            refine pure_ (i := 14) (N := some 65) (v := ?_) (a' := ?_) #[true, true, true, true, true, true, true, true, true, true, true, true, true, false, true, false, false, false] rfl rfl (by kernel_rfl) (fun _ _ _ h => h) (Or.inl ⟨by rfl, ?_⟩) ?_ ?_
            rotate_left
            · intro w'
              go_simp
              with_reducible rfl
            rotate_left
            · simp only [Act.put, List.setIfInBounds_toArray, List.set_cons_zero, List.set_cons_succ, i64_w, i32_w]
              rfl
            refine one_ (i := 13) (N := some 64) #[true, true, true, true, true, true, true, true, true, true, true, true, true, true, true, false, false, false] rfl rfl (by kernel_rfl) (by decide) (fun K hK => ?_)
            refine step_app1 (by rfl) (.tmp 61) (.tmp 63) 37 (by rfl) (w.heap.size + 5) 4 i4 (.bool false) 1 1 Tryd.underlying37 I4.out.1 I4.out.2.1 I4.out.2.2.1 I4.out.2.2.2 rfl (by omega) (by omega) rt m4 #[.bool tq] (by rfl) (by rfl) HGB.out.ot HBD.out (by rfl) (by simp [Value.oneCell']) (by have := N3.out; omega) (by have := HGB.out.lt; omega) ?_
            intro otg otc wE ot oth otl
            have HGE := Lib.hid (HGB.out.appt oth ot)
            refine hK.out _ _ ⟨HGE.out.hb.cell rfl, HGE.out.hb.cell rfl, HGE.out.hx.cell (by rw [HX.out]; rfl), HGE.out.arg HC1.out⟩ (fun hHeld => ?_)
            refine norm_ (a' := ?_) ?_ ?_
            rotate_left
            · (try simp only [Act.put, List.setIfInBounds_toArray, List.set_cons_zero, List.set_cons_succ, i64_w, i32_w])
              rfl
            clear hHeld
            refine last_ (i := 15) (N := none) #[true, true, true, true, true, true, true, true, true, true, true, true, true, true, true, true, false, false] rfl rfl (by kernel_rfl) (by decide) (fun K hK => ?_)
            have s1 : wE.cell? ⟨w.heap.size + 4, 1, none⟩ = some rb.v := HGE.out.hb.cell rfl
            have f1 : wE.frozen? ⟨w.heap.size + 4, 1, none⟩ = false := HGE.out.hb.frozen 1
            refine skip_ (w1 := ?_) (by rfl) rfl ?_ ?_
            rotate_left
            · go_simp
              rfl
            refine hK.out _ _ ?_
            have HGF := Lib.hid (HGE.out.setb1 (.slice (some ⟨obg, 0, none⟩) (rb.n + 1) obc))
            clear s1 f1 HGE
            generalize wE.setCell ⟨w.heap.size + 4, 1, none⟩ (.slice (some ⟨obg, 0, none⟩) (rb.n + 1) obc) = wF at HGF ⊢
            refine pure_ (i := 16) (N := some 66) (v := ?_) (a' := ?_) #[true, true, true, true, true, true, true, true, true, true, true, true, true, true, true, true, true, false] rfl rfl (by kernel_rfl) (fun _ _ _ h => h) (Or.inl ⟨by rfl, ?_⟩) ?_ ?_
            rotate_left
            · intro w'
              go_simp
              with_reducible rfl
            rotate_left
            · simp only [Act.put, List.setIfInBounds_toArray, List.set_cons_zero, List.set_cons_succ, i64_w, i32_w]
              rfl
            refine last_ (i := 17) (N := none) #[true, true, true, true, true, true, true, true, true, true, true, true, true, true, true, true, true, true] rfl rfl (by kernel_rfl) (by decide) (fun K hK => ?_)
            have s1 : wF.cell? ⟨w.heap.size + 4, 2, none⟩ = some rt.v := HGF.out.hb.cell rfl
            have f1 : wF.frozen? ⟨w.heap.size + 4, 2, none⟩ = false := HGF.out.hb.frozen 2
            refine skip_ (w1 := ?_) (by rfl) rfl ?_ ?_
            rotate_left
            · go_simp
              rfl
            refine hK.out _ _ ?_
            refine done_ (by kernel_rfl) ?_
            have HGH := Lib.hid (HGF.out.setb2 (.slice (some ⟨otg, 0, none⟩) (rt.n + 1) otc))
            clear s1 f1 HGF
            generalize wF.setCell ⟨w.heap.size + 4, 2, none⟩ (.slice (some ⟨otg, 0, none⟩) (rt.n + 1) otc) = wH at HGH ⊢
            go_wp2_with fail
            go_roundw
            case rel =>
              refine ⟨i + 1, by go_num, by omega, ⟨some ⟨oag, 0, none⟩, ra.n + 1, oac, ra.xs ++ [.int .i64 b, .bool tq]⟩, ⟨some ⟨obg, 0, none⟩, rb.n + 1, obc, rb.xs ++ [.int .i64 b]⟩, ⟨some ⟨otg, 0, none⟩, rt.n + 1, otc, rt.xs ++ [.bool tq]⟩, ?_, ?_, HGH.out⟩
              · exact ⟨by show ra.n + 1 = i + 1; rw [N1.out], by show rb.n + 1 = i + 1; rw [N2.out], by show rt.n + 1 = i + 1; rw [N3.out]⟩
              · exact ⟨by rw [esC_succ, ← X1.out, HBB.out, HTQ.out], by rw [bsC_succ, ← X2.out, HBB.out], by rw [tsC_succ, ← X3.out, HTQ.out]⟩
            case measure => simp [intOf]; omega
      · have hin : i = min bs.length 9 := by omega
        have HIN := Lib.hid hin
        clear hin
        have hfin : Hid (Inv1 w.heap.size X seq bs ts (min bs.length 9) w wr) := Lib.hid (by rw [← HIN.out]; exact ⟨ra, rb, rt, ⟨N1.out, N2.out, N3.out⟩, ⟨X1.out, X2.out, X3.out⟩, HG.out⟩)
        by_cases hb : i < bs.length
        · have h9 : decide ((i : Int) < 9) = false := decide_eq_false (by omega)
          clear hlt hi
          go_wp2
          go_meet
          case rel => exact hfin.out
        · have h9 : decide (i < bs.length) = false := decide_eq_false hb
          clear hlt hi
          go_wp2
          go_meet
          case rel => exact hfin.out
  case rest =>
    obtain ⟨ra, rb, rt, ⟨n1, n2, n3⟩, ⟨x1, x2, x3⟩, hG⟩ := hcut
    have X1 := Lib.hid x1; have X2 := Lib.hid x2; have X3 := Lib.hid x3
    have N1 := Lib.hid n1; have N2 := Lib.hid n2; have N3 := Lib.hid n3
    have HG0 := Lib.hid hG
    clear hG x1 x2 x3 n1 n2 n3
    go_wp2
    go_loopw [8] (fun s8 wr => ∃ i : Nat, s8 = .int .i64 i ∧ i ≤ min ds.length 9 ∧ Inv2 w.heap.size X seq ra rb rt ds i w wr) (fun s8 _ => 9 - (intOf s8).toNat)
    case atStart => exact ⟨0, rfl, Nat.zero_le _, nilRw, nilRw, ⟨rfl, rfl⟩, ⟨rfl, rfl⟩, HG0.out⟩
    case round =>
      clear HG0
      obtain ⟨i, rfl, hi, rs, rr, ⟨n4, n5⟩, ⟨x4, x5⟩, hG⟩ := hrel
      have HG := Lib.hid hG
      have X4 := Lib.hid x4; have X5 := Lib.hid x5
      have N4 := Lib.hid n4; have N5 := Lib.hid n5
      clear hG x4 x5 n4 n5
      have q0 : wr.cell? ⟨w.heap.size, 3, none⟩ = some (.slice A3 ds.length c3) := HG.out.hx.cell (by rw [HX.out]; rfl)
      by_cases hlt : i < min ds.length 9
      · have b1 : i < ds.length := by omega
        have b9 : i < 9 := by omega
        obtain ⟨ad1, e1, hc1⟩ := H3.out i b1
        have hdl := HD.out i
        have q3 := HG.out.arg hc1
        cases e1
        obtain ⟨d, hb⟩ : ∃ d, ds.getD i ⟨#[]⟩ = d := ⟨_, rfl⟩
        rw [hb] at q3 hc1 hdl
        have HDD := Lib.hid hb
        have HC1 := Lib.hid hc1
        clear hb hc1 hlt hi
        obtain ⟨dp, hdp⟩ : ∃ dp, padD d = dp := ⟨_, rfl⟩
        obtain ⟨dq, hdq⟩ : ∃ dq, cut8 d = dq := ⟨_, rfl⟩
        obtain ⟨tp, htp⟩ : ∃ tp, decide (d.size < 60 ∧ d.size ≠ 0) = tp := ⟨_, rfl⟩
        have HDP := Lib.hid hdp; have HDQ := Lib.hid hdq; have HTP := Lib.hid htp
        clear hdp hdq htp
        go_upto_region 13 with (fail)
        go_cut [89] (fun v89 wc => v89 = .bool tp ∧ wr = wc)
        case first =>
          by_cases hs : d.size < 60
          · have d1 : decide ((d.size : Int) < 60) = true := decide_eq_true (by omega)
            by_cases h0 : d.size = 0
            · have e0 : d.toList = [] := by rw [toL]; exact List.eq_nil_of_length_eq_zero h0
              have e1 : d.toList.isEmpty = true := by rw [e0]; rfl
              have ht : tp = false := by rw [← HTP.out]; exact decide_eq_false (fun h => h.2 h0)
              subst ht
              clear e0
              go_wp2
              go_meet
              case rel => exact ⟨rfl, rfl⟩
            · have e1 : d.toList.isEmpty = false := by
                rw [toL]
                cases hl : bl d with
                | nil => exact absurd (congrArg List.length hl) h0
                | cons _ _ => rfl
              have ht : tp = true := by rw [← HTP.out]; exact decide_eq_true ⟨hs, h0⟩
              subst ht
              go_wp2
              go_meet
              case rel => exact ⟨rfl, rfl⟩
          · have d1 : decide ((d.size : Int) < 60) = false := decide_eq_false (by omega)
            have ht : tp = false := by rw [← HTP.out]; exact decide_eq_false (fun h => hs h.1)
            subst ht
            go_wp2
            go_meet
            case rel => exact ⟨rfl, rfl⟩
        case rest =>
          obtain ⟨rfl, rfl⟩ := hcut
          go_upto_if 89 with (fail)
          go_cut [9] (fun v9 wc => v9 = .string dp ∧ GT w.heap.size X seq ra.v rs.v rb.v rt.v rr.v ra rs rb rt rr w wc)
          case first =>
            cases tp with
            | true =>
              have hs := of_decide_eq_true HTP.out
              have hmk := make_u8 64 (by omega) 64 rfl
              have hcv := fun W : World => given_zeros (W.alloc (.cells (Array.replicate 64 (.int .u8 0)) 5)) W.heap.size (Blk.new W _ _)
              obtain ⟨Z, hZ⟩ : ∃ Z, zerosB 64 = Z := ⟨_, rfl⟩
              have hZs : Z.size = 64 := by rw [← hZ]; rfl
              have HZ := Lib.hid hZ
              rw [hZ] at hcv
              have hZ1 : 64 ≤ Z.size := by omega
              have hZ2 : Z.size ≤ 64 := by omega
              have hds := hs.1
              have hbz : d.size + Z.size ≤ 9223372036854775807 := by omega
              have hbw : (64 : Int) ≤ (d.size : Int) + (Z.size : Int) := by omega
              clear hZ hZs hs
              go_wp2
              go_meet
              case rel => exact ⟨by rw [← HDP.out, ← HZ.out]; unfold padD; rw [if_pos (of_decide_eq_true HTP.out)], HG.out.alloc _⟩
            | false =>
              go_wp2
              go_meet
              case rel => exact ⟨by rw [← HDP.out]; unfold padD; rw [if_neg (of_decide_eq_false HTP.out)], HG.out⟩
          case rest =>
            obtain ⟨rfl, hG1⟩ := hcut
            have HG1 := Lib.hid hG1
            have hpz : dp.size ≤ 140737488355328 := by
              rw [← HDP.out]; unfold padD
              split
              · rw [ByteArray.size_extract]; omega
              · exact hdl
            clear hG1 HG q0 q3
            obtain ⟨wz, hwz⟩ : ∃ wz : World, wz = wc := ⟨_, rfl⟩
            subst hwz
            go_upto_region 15 with (fail)
            go_cut [9] (fun v9 w2 => v9 = .string dq ∧ wz = w2)
            case first =>
              by_cases hq : dp.size ≤ 70
              · have e70 : ¬(70 : Int) < (dp.size : Int) := by omega
                have hdq : dp.extract 0 dp.size = dq := by rw [← HDQ.out]; unfold cut8; rw [HDP.out, Nat.min_eq_left hq]
                have HQ := Lib.hid hdq
                clear hdq hq
                go_wp2
                go_meet
                case rel => exact ⟨by rw [← HQ.out]; simp, rfl⟩
              · have e70 : (70 : Int) < (dp.size : Int) := by omega
                have e71 : (70 : Int) ≤ (dp.size : Int) := by omega
                have hdq : dp.extract 0 70 = dq := by rw [← HDQ.out]; unfold cut8; rw [HDP.out, Nat.min_eq_right (by omega)]
                have HQ := Lib.hid hdq
                clear hdq hq
                go_wp2
                go_meet
                case rel => exact ⟨by rw [← HQ.out], rfl⟩
            case rest =>
              obtain ⟨rfl, rfl⟩ := hcut
              go_wp2_with fail

              have HG2 := Lib.hid HG1.out.drew
              have hHeld0 : wz.drew.cell? ⟨w.heap.size + 3, 2, none⟩ = some rs.v ∧ wz.drew.cell? ⟨w.heap.size + 4, 3, none⟩ = some rr.v := ⟨HG2.out.ha.cell rfl, HG2.out.hb.cell rfl⟩
              refine start_ (n := 14) (S := (fun w' => w'.cell? ⟨w.heap.size + 3, 2, none⟩ = some rs.v ∧ w'.cell? ⟨w.heap.size + 4, 3, none⟩ = some rr.v)) (ds := [11, 13]) #[false, false, false, false, false, false, false, false, false, false, false, false, false, false] (by kernel_rfl) rfl rfl hHeld0 (fun hHeld => ?_)
              clear hHeld0 HG1
              generalize wz.drew = w4 at HG2 hHeld ⊢
              refine pure_ (i := 0) (N := some 100) (v := ?_) (a' := ?_) #[true, false, false, false, false, false, false, false, false, false, false, false, false, false] rfl rfl (by kernel_rfl) (fun _ _ _ h => h) (Or.inl ⟨by rfl, ?_⟩) ?_ ?_
              rotate_left
              · intro w'
                go_simp
                with_reducible rfl
              rotate_left
              · simp only [Act.put, List.setIfInBounds_toArray, List.set_cons_zero, List.set_cons_succ, i64_w, i32_w]
                rfl
              refine pure_ (i := 2) (N := some 102) (v := ?_) (a' := ?_) #[true, false, true, false, false, false, false, false, false, false, false, false, false, false] rfl rfl (by kernel_rfl) (fun _ _ _ h => h) (Or.inl ⟨by rfl, ?_⟩) ?_ ?_
              rotate_left
              · intro w'
                go_simp
                with_reducible rfl
              rotate_left
              · simp only [Act.put, List.setIfInBounds_toArray, List.set_cons_zero, List.set_cons_succ, i64_w, i32_w]
                rfl
              refine pure_ (i := 5) (N := some 105) (v := ?_) (a' := ?_) #[true, false, true, false, false, true, false, false, false, false, false, false, false, false] rfl rfl (by kernel_rfl) (fun _ _ _ h => h) (Or.inl ⟨by rfl, ?_⟩) ?_ ?_
              rotate_left
              · intro w'
                go_simp
                with_reducible rfl
              rotate_left
              · simp only [Act.put, List.setIfInBounds_toArray, List.set_cons_zero, List.set_cons_succ, i64_w, i32_w]
                rfl
              refine pure_ (i := 7) (N := some 107) (v := ?_) (a' := ?_) #[true, false, true, false, false, true, false, true, false, false, false, false, false, false] rfl rfl (by kernel_rfl) (fun _ _ _ h => h) (Or.inl ⟨by rfl, ?_⟩) ?_ ?_
              rotate_left
              · intro w'
                go_simp
                with_reducible rfl
              rotate_left
              · simp only [Act.put, List.setIfInBounds_toArray, List.set_cons_zero, List.set_cons_succ, i64_w, i32_w]
                rfl
              refine take_ (i := 1) (N := some 101) (v := ?_) (a' := ?_) #[true, true, true, false, false, true, false, true, false, false, false, false, false, false] rfl rfl (by kernel_rfl) (fun _ _ _ h => h) (Or.inl ⟨by rfl, ?_⟩) hHeld ?_ ?_
              rotate_left
              · rintro w' ⟨s0, s1⟩
                go_simp
                with_reducible rfl
              rotate_left
              · simp only [Act.put, List.setIfInBounds_toArray, List.set_cons_zero, List.set_cons_succ, i64_w, i32_w]
                rfl
              refine take_ (i := 6) (N := some 106) (v := ?_) (a' := ?_) #[true, true, true, false, false, true, true, true, false, false, false, false, false, false] rfl rfl (by kernel_rfl) (fun _ _ _ h => h) (Or.inl ⟨by rfl, ?_⟩) hHeld ?_ ?_
              rotate_left
              · rintro w' ⟨s0, s1⟩
                go_simp
                with_reducible rfl
              rotate_left
              · simp only [Act.put, List.setIfInBounds_toArray, List.set_cons_zero, List.set_cons_succ, i64_w, i32_w]
                rfl
              obtain ⟨m4, hm4⟩ : ∃ m, w4.heap.size = m := ⟨_, rfl⟩
              refine two_ (i := 3) (j := 8) (Ni := some 103) (Nj := some 108) #[true, true, true, true, false, true, true, true, false, false, false, false, false, false] #[true, true, true, false, false, true, true, true, true, false, false, false, false, false] rfl rfl rfl rfl (by kernel_rfl) (by decide) (by decide) (fun K hK => ?_) (fun K hK => ?_)
              · skip
                go_simp
                have HGA := Lib.hid (HG2.out.alloc (.cells #[.string dq] 9))
                have HNA : Hid ((∀ k, rs.v.ownBlock = some k → k ≠ m4)) := Lib.hid (fun k hk e => by have := (HG2.out.os.lt hk).2.1; omega)
                have HBA : Hid (Blk (w4.alloc (.cells #[.string dq] 9)) m4 #[.string dq] 9) := Lib.hid (by rw [← hm4]; exact Blk.new w4 _ _)
                refine hK.out _ _ ⟨HGA.out.ha.cell rfl, HGA.out.hb.cell rfl⟩ (fun hHeld => ?_)
                refine norm_ (a' := ?_) ?_ ?_
                rotate_left
                · (try simp only [Act.put, List.setIfInBounds_toArray, List.set_cons_zero, List.set_cons_succ, i64_w, i32_w])
                  rfl
                clear hm4
                generalize w4.alloc (.cells #[.string dq] 9) = wA at HGA HBA  hHeld ⊢
                obtain ⟨mA, hmA⟩ : ∃ m, wA.heap.size = m := ⟨_, rfl⟩
                refine two_ (i := 4) (j := 8) (Ni := some 104) (Nj := some 108) #[true, true, true, true, true, true, true, true, false, false, false, false, false, false] #[true, true, true, true, false, true, true, true, true, false, false, false, false, false] rfl rfl rfl rfl (by kernel_rfl) (by decide) (by decide) (fun K hK => ?_) (fun K hK => ?_)
                · skip
                  refine step_app1 (by rfl) (.tmp 101) (.tmp 103) 22 (by rfl) (w.heap.size + 5) 9 i9 (.string ⟨#[]⟩) 1 16 Tryd.underlying22 I9.out.1 I9.out.2.1 I9.out.2.2.1 I9.out.2.2.2 rfl (by omega) (by omega) rs m4 #[.string dq] (by rfl) (by rfl) HGA.out.os HBA.out (by rfl) (by simp [Value.oneCell']) (by have := N4.out; omega) (by have := HGA.out.lt; omega) ?_
                  intro osg osc wB os osh osl
                  have HGB := Lib.hid (HGA.out.apps osh os (fun k hk => by cases hk; exact osl))
                  refine hK.out _ _ ⟨HGB.out.ha.cell rfl, HGB.out.hb.cell rfl⟩ (fun hHeld => ?_)
                  refine norm_ (a' := ?_) ?_ ?_
                  rotate_left
                  · (try simp only [Act.put, List.setIfInBounds_toArray, List.set_cons_zero, List.set_cons_succ, i64_w, i32_w])
                    rfl
                  obtain ⟨mB, hmB⟩ : ∃ m, wB.heap.size = m := ⟨_, rfl⟩
                  refine pure_ (i := 10) (N := some 110) (v := ?_) (a' := ?_) #[true, true, true, true, true, true, true, true, false, false, true, false, false, false] rfl rfl (by kernel_rfl) (fun _ _ _ h => h) (Or.inl ⟨by rfl, ?_⟩) ?_ ?_
                  rotate_left
                  · intro w'
                    go_simp
                    with_reducible rfl
                  rotate_left
                  · simp only [Act.put, List.setIfInBounds_toArray, List.set_cons_zero, List.set_cons_succ, i64_w, i32_w]
                    rfl
                  refine one_ (i := 8) (N := some 108) #[true, true, true, true, true, true, true, true, true, false, true, false, false, false] rfl rfl (by kernel_rfl) (by decide) (fun K hK => ?_)
                  go_simp
                  have HGC := Lib.hid (HGB.out.alloc (.cells #[.string dq] 9))
                  skip
                  have HBC : Hid (Blk (wB.alloc (.cells #[.string dq] 9)) mB #[.string dq] 9) := Lib.hid (by rw [← hmB]; exact Blk.new wB _ _)
                  refine hK.out _ _ ⟨HGC.out.ha.cell rfl, HGC.out.hb.cell rfl⟩ (fun hHeld => ?_)
                  refine norm_ (a' := ?_) ?_ ?_
                  rotate_left
                  · (try simp only [Act.put, List.setIfInBounds_toArray, List.set_cons_zero, List.set_cons_succ, i64_w, i32_w])
                    rfl
                  clear hmB
                  generalize wB.alloc (.cells #[.string dq] 9) = wC at HGC HBC  hHeld ⊢
                  obtain ⟨mC, hmC⟩ : ∃ m, wC.heap.size = m := ⟨_, rfl⟩
                  refine one_ (i := 9) (N := some 109) #[true, true, true, true, true, true, true, true, true, true, true, false, false, false] rfl rfl (by kernel_rfl) (by decide) (fun K hK => ?_)
                  refine step_app1 (by rfl) (.tmp 106) (.tmp 108) 22 (by rfl) (w.heap.size + 5) 9 i9 (.string ⟨#[]⟩) 1 16 Tryd.underlying22 I9.out.1 I9.out.2.1 I9.out.2.2.1 I9.out.2.2.2 rfl (by omega) (by omega) rr mB #[.string dq] (by rfl) (by rfl) HGC.out.oq HBC.out (by rfl) (by simp [Value.oneCell']) (by have := N5.out; omega) (by have := HGC.out.lt; omega) ?_
                  intro oqg oqc wE oq oqh oql
                  have HGE := Lib.hid (HGC.out.appr oqh oq (fun k hk => by cases hk; exact oql))
                  refine hK.out _ _ ⟨HGE.out.ha.cell rfl, HGE.out.hb.cell rfl⟩ (fun hHeld => ?_)
                  refine norm_ (a' := ?_) ?_ ?_
                  rotate_left
                  · (try simp only [Act.put, List.setIfInBounds_toArray, List.set_cons_zero, List.set_cons_succ, i64_w, i32_w])
                    rfl
                  clear hHeld
                  refine last_ (i := 11) (N := none) #[true, true, true, true, true, true, true, true, true, true, true, true, false, false] rfl rfl (by kernel_rfl) (by decide) (fun K hK => ?_)
                  have s1 : wE.cell? ⟨w.heap.size + 3, 2, none⟩ = some rs.v := HGE.out.ha.cell rfl
                  have f1 : wE.frozen? ⟨w.heap.size + 3, 2, none⟩ = false := HGE.out.ha.frozen 2
                  refine skip_ (w1 := ?_) (by rfl) rfl ?_ ?_
                  rotate_left
                  · go_simp
                    rfl
                  refine hK.out _ _ ?_
                  have HGF := Lib.hid (HGE.out.seta2 (.slice (some ⟨osg, 0, none⟩) (rs.n + 1) osc))
                  clear s1 f1 HGE
                  generalize wE.setCell ⟨w.heap.size + 3, 2, none⟩ (.slice (some ⟨osg, 0, none⟩) (rs.n + 1) osc) = wF at HGF ⊢
                  refine pure_ (i := 12) (N := some 111) (v := ?_) (a' := ?_) #[true, true, true, true, true, true, true, true, true, true, true, true, true, false] rfl rfl (by kernel_rfl) (fun _ _ _ h => h) (Or.inl ⟨by rfl, ?_⟩) ?_ ?_
                  rotate_left
                  · intro w'
                    go_simp
                    with_reducible rfl
                  rotate_left
                  · simp only [Act.put, List.setIfInBounds_toArray, List.set_cons_zero, List.set_cons_succ, i64_w, i32_w]
                    rfl
                  refine last_ (i := 13) (N := none) #[true, true, true, true, true, true, true, true, true, true, true, true, true, true] rfl rfl (by kernel_rfl) (by decide) (fun K hK => ?_)
                  have s1 : wF.cell? ⟨w.heap.size + 4, 3, none⟩ = some rr.v := HGF.out.hb.cell rfl
                  have f1 : wF.frozen? ⟨w.heap.size + 4, 3, none⟩ = false := HGF.out.hb.frozen 3
                  refine skip_ (w1 := ?_) (by rfl) rfl ?_ ?_
                  rotate_left
                  · go_simp
                    rfl
                  refine hK.out _ _ ?_
                  refine done_ (by kernel_rfl) ?_
                  have HGH := Lib.hid (HGF.out.setb3 (.slice (some ⟨oqg, 0, none⟩) (rr.n + 1) oqc))
                  clear s1 f1 HGF
                  generalize wF.setCell ⟨w.heap.size + 4, 3, none⟩ (.slice (some ⟨oqg, 0, none⟩) (rr.n + 1) oqc) = wH at HGH ⊢
                  go_wp2_with fail
                  go_roundw
                  case rel =>
                    refine ⟨i + 1, by go_num, by omega, ⟨some ⟨osg, 0, none⟩, rs.n + 1, osc, rs.xs ++ [.string dq]⟩, ⟨some ⟨oqg, 0, none⟩, rr.n + 1, oqc, rr.xs ++ [.string dq]⟩, ?_, ?_, HGH.out⟩
                    · exact ⟨by show rs.n + 1 = i + 1; rw [N4.out], by show rr.n + 1 = i + 1; rw [N5.out]⟩
                    · exact ⟨by rw [dsC_succ, ← X4.out, HDD.out, HDQ.out], by rw [dsC_succ, ← X5.out, HDD.out, HDQ.out]⟩
                  case measure => simp [intOf]; omega
                · skip
                  go_simp
                  have HGC := Lib.hid (HGA.out.alloc (.cells #[.string dq] 9))
                  have HNC : Hid ((∀ k, rs.v.ownBlock = some k → k ≠ mA)) := Lib.hid (fun k hk e => by have := (HGA.out.os.lt hk).2.1; omega)
                  have HBC : Hid (Blk (wA.alloc (.cells #[.string dq] 9)) mA #[.string dq] 9) := Lib.hid (by rw [← hmA]; exact Blk.new wA _ _)
                  have HBA_ := Lib.hid (HBA.out.alloc (.cells #[.string dq] 9))
                  clear HBA
                  have HBA := HBA_
                  clear HBA_
                  refine hK.out _ _ ⟨HGC.out.ha.cell rfl, HGC.out.hb.cell rfl⟩ (fun hHeld => ?_)
                  refine norm_ (a' := ?_) ?_ ?_
                  rotate_left
                  · (try simp only [Act.put, List.setIfInBounds_toArray, List.set_cons_zero, List.set_cons_succ, i64_w, i32_w])
                    rfl
                  clear hmA
                  generalize wA.alloc (.cells #[.string dq] 9) = wC at HGC HBC HBA hHeld ⊢
                  obtain ⟨mC, hmC⟩ : ∃ m, wC.heap.size = m := ⟨_, rfl⟩
                  refine one_ (i := 4) (N := some 104) #[true, true, true, true, true, true, true, true, true, false, false, false, false, false] rfl rfl (by kernel_rfl) (by decide) (fun K hK => ?_)
                  refine step_app1 (by rfl) (.tmp 101) (.tmp 103) 22 (by rfl) (w.heap.size + 5) 9 i9 (.string ⟨#[]⟩) 1 16 Tryd.underlying22 I9.out.1 I9.out.2.1 I9.out.2.2.1 I9.out.2.2.2 rfl (by omega) (by omega) rs m4 #[.string dq] (by rfl) (by rfl) HGC.out.os HBA.out (by rfl) (by simp [Value.oneCell']) (by have := N4.out; omega) (by have := HGC.out.lt; omega) ?_
                  intro osg osc wB os osh osl
                  have HGB := Lib.hid (HGC.out.apps osh os (fun k hk => by cases hk; exact osl))
                  have HBD : Hid (Blk wB mA #[.string dq] 9) := Lib.hid (blk_grown' HBC.out osh (fun e => HNC.out _ e rfl))
                  refine hK.out _ _ ⟨HGB.out.ha.cell rfl, HGB.out.hb.cell rfl⟩ (fun hHeld => ?_)
                  refine norm_ (a' := ?_) ?_ ?_
                  rotate_left
                  · (try simp only [Act.put, List.setIfInBounds_toArray, List.set_cons_zero, List.set_cons_succ, i64_w, i32_w])
                    rfl
                  refine pure_ (i := 10) (N := some 110) (v := ?_) (a' := ?_) #[true, true, true, true, true, true, true, true, true, false, true, false, false, false] rfl rfl (by kernel_rfl) (fun _ _ _ h => h) (Or.inl ⟨by rfl, ?_⟩) ?_ ?_
                  rotate_left
                  · intro w'
                    go_simp
                    with_reducible rfl
                  rotate_left
                  · simp only [Act.put, List.setIfInBounds_toArray, List.set_cons_zero, List.set_cons_succ, i64_w, i32_w]
                    rfl
                  refine one_ (i := 9) (N := some 109) #[true, true, true, true, true, true, true, true, true, true, true, false, false, false] rfl rfl (by kernel_rfl) (by decide) (fun K hK => ?_)
                  refine step_app1 (by rfl) (.tmp 106) (.tmp 108) 22 (by rfl) (w.heap.size + 5) 9 i9 (.string ⟨#[]⟩) 1 16 Tryd.underlying22 I9.out.1 I9.out.2.1 I9.out.2.2.1 I9.out.2.2.2 rfl (by omega) (by omega) rr mA #[.string dq] (by rfl) (by rfl) HGB.out.oq HBD.out (by rfl) (by simp [Value.oneCell']) (by have := N5.out; omega) (by have := HGB.out.lt; omega) ?_
                  intro oqg oqc wE oq oqh oql
                  have HGE := Lib.hid (HGB.out.appr oqh oq (fun k hk => by cases hk; exact oql))
                  refine hK.out _ _ ⟨HGE.out.ha.cell rfl, HGE.out.hb.cell rfl⟩ (fun hHeld => ?_)
                  refine norm_ (a' := ?_) ?_ ?_
                  rotate_left
                  · (try simp only [Act.put, List.setIfInBounds_toArray, List.set_cons_zero, List.set_cons_succ, i64_w, i32_w])
                    rfl
                  clear hHeld
                  refine last_ (i := 11) (N := none) #[true, true, true, true, true, true, true, true, true, true, true, true, false, false] rfl rfl (by kernel_rfl) (by decide) (fun K hK => ?_)
                  have s1 : wE.cell? ⟨w.heap.size + 3, 2, none⟩ = some rs.v := HGE.out.ha.cell rfl
                  have f1 : wE.frozen? ⟨w.heap.size + 3, 2, none⟩ = false := HGE.out.ha.frozen 2
                  refine skip_ (w1 := ?_) (by rfl) rfl ?_ ?_
                  rotate_left
                  · go_simp
                    rfl
                  refine hK.out _ _ ?_
                  have HGF := Lib.hid (HGE.out.seta2 (.slice (some ⟨osg, 0, none⟩) (rs.n + 1) osc))
                  clear s1 f1 HGE
                  generalize wE.setCell ⟨w.heap.size + 3, 2, none⟩ (.slice (some ⟨osg, 0, none⟩) (rs.n + 1) osc) = wF at HGF ⊢
                  refine pure_ (i := 12) (N := some 111) (v := ?_) (a' := ?_) #[true, true, true, true, true, true, true, true, true, true, true, true, true, false] rfl rfl (by kernel_rfl) (fun _ _ _ h => h) (Or.inl ⟨by rfl, ?_⟩) ?_ ?_
                  rotate_left
                  · intro w'
                    go_simp
                    with_reducible rfl
                  rotate_left
                  · simp only [Act.put, List.setIfInBounds_toArray, List.set_cons_zero, List.set_cons_succ, i64_w, i32_w]
                    rfl
                  refine last_ (i := 13) (N := none) #[true, true, true, true, true, true, true, true, true, true, true, true, true, true] rfl rfl (by kernel_rfl) (by decide) (fun K hK => ?_)
                  have s1 : wF.cell? ⟨w.heap.size + 4, 3, none⟩ = some rr.v := HGF.out.hb.cell rfl
                  have f1 : wF.frozen? ⟨w.heap.size + 4, 3, none⟩ = false := HGF.out.hb.frozen 3
                  refine skip_ (w1 := ?_) (by rfl) rfl ?_ ?_
                  rotate_left
                  · go_simp
                    rfl
                  refine hK.out _ _ ?_
                  refine done_ (by kernel_rfl) ?_
                  have HGH := Lib.hid (HGF.out.setb3 (.slice (some ⟨oqg, 0, none⟩) (rr.n + 1) oqc))
                  clear s1 f1 HGF
                  generalize wF.setCell ⟨w.heap.size + 4, 3, none⟩ (.slice (some ⟨oqg, 0, none⟩) (rr.n + 1) oqc) = wH at HGH ⊢
                  go_wp2_with fail
                  go_roundw
                  case rel =>
                    refine ⟨i + 1, by go_num, by omega, ⟨some ⟨osg, 0, none⟩, rs.n + 1, osc, rs.xs ++ [.string dq]⟩, ⟨some ⟨oqg, 0, none⟩, rr.n + 1, oqc, rr.xs ++ [.string dq]⟩, ?_, ?_, HGH.out⟩
                    · exact ⟨by show rs.n + 1 = i + 1; rw [N4.out], by show rr.n + 1 = i + 1; rw [N5.out]⟩
                    · exact ⟨by rw [dsC_succ, ← X4.out, HDD.out, HDQ.out], by rw [dsC_succ, ← X5.out, HDD.out, HDQ.out]⟩
                  case measure => simp [intOf]; omega
              · skip
                go_simp
                have HGA := Lib.hid (HG2.out.alloc (.cells #[.string dq] 9))
                have HNA : Hid ((∀ k, rs.v.ownBlock = some k → k ≠ m4)) := Lib.hid (fun k hk e => by have := (HG2.out.os.lt hk).2.1; omega)
                have HBA : Hid (Blk (w4.alloc (.cells #[.string dq] 9)) m4 #[.string dq] 9) := Lib.hid (by rw [← hm4]; exact Blk.new w4 _ _)
                refine hK.out _ _ ⟨HGA.out.ha.cell rfl, HGA.out.hb.cell rfl⟩ (fun hHeld => ?_)
                refine norm_ (a' := ?_) ?_ ?_
                rotate_left
                · (try simp only [Act.put, List.setIfInBounds_toArray, List.set_cons_zero, List.set_cons_succ, i64_w, i32_w])
                  rfl
                clear hm4
                generalize w4.alloc (.cells #[.string dq] 9) = wA at HGA HBA  hHeld ⊢
                obtain ⟨mA, hmA⟩ : ∃ m, wA.heap.size = m := ⟨_, rfl⟩
                refine one_ (i := 3) (N := some 103) #[true, true, true, true, false, true, true, true, true, false, false, false, false, false] rfl rfl (by kernel_rfl) (by decide) (fun K hK => ?_)
                go_simp
                have HGC := Lib.hid (HGA.out.alloc (.cells #[.string dq] 9))
                have HNC : Hid ((∀ k, rs.v.ownBlock = some k → k ≠ mA)) := Lib.hid (fun k hk e => by have := (HGA.out.os.lt hk).2.1; omega)
                have HBC : Hid (Blk (wA.alloc (.cells #[.string dq] 9)) mA #[.string dq] 9) := Lib.hid (by rw [← hmA]; exact Blk.new wA _ _)
                have HBA_ := Lib.hid (HBA.out.alloc (.cells #[.string dq] 9))
                clear HBA
                have HBA := HBA_
                clear HBA_
                refine hK.out _ _ ⟨HGC.out.ha.cell rfl, HGC.out.hb.cell rfl⟩ (fun hHeld => ?_)
                refine norm_ (a' := ?_) ?_ ?_
                rotate_left
                · (try simp only [Act.put, List.setIfInBounds_toArray, List.set_cons_zero, List.set_cons_succ, i64_w, i32_w])
                  rfl
                clear hmA
                generalize wA.alloc (.cells #[.string dq] 9) = wC at HGC HBC HBA hHeld ⊢
                obtain ⟨mC, hmC⟩ : ∃ m, wC.heap.size = m := ⟨_, rfl⟩
                refine one_ (i := 4) (N := some 104) #[true, true, true, true, true, true, true, true, true, false, false, false, false, false] rfl rfl (by kernel_rfl) (by decide) (fun K hK => ?_)
                refine step_app1 (by rfl) (.tmp 101) (.tmp 103) 22 (by rfl) (w.heap.size + 5) 9 i9 (.string ⟨#[]⟩) 1 16 Tryd.underlying22 I9.out.1 I9.out.2.1 I9.out.2.2.1 I9.out.2.2.2 rfl (by omega) (by omega) rs mA #[.string dq] (by rfl) (by rfl) HGC.out.os HBC.out (by rfl) (by simp [Value.oneCell']) (by have := N4.out; omega) (by have := HGC.out.lt; omega) ?_
                intro osg osc wB os osh osl
                have HGB := Lib.hid (HGC.out.apps osh os (fun k hk => by cases hk; exact osl))
                have HBD : Hid (Blk wB m4 #[.string dq] 9) := Lib.hid (blk_grown' HBA.out osh (fun e => HNA.out _ e rfl))
                refine hK.out _ _ ⟨HGB.out.ha.cell rfl, HGB.out.hb.cell rfl⟩ (fun hHeld => ?_)
                refine norm_ (a' := ?_) ?_ ?_
                rotate_left
                · (try simp only [Act.put, List.setIfInBounds_toArray, List.set_cons_zero, List.set_cons_succ, i64_w, i32_w])
                  rfl
                refine pure_ (i := 10) (N := some 110) (v := ?_) (a' := ?_) #[true, true, true, true, true, true, true, true, true, false, true, false, false, false] rfl rfl (by kernel_rfl) (fun _ _ _ h => h) (Or.inl ⟨by rfl, ?_⟩) ?_ ?_
                rotate_left
                · intro w'
                  go_simp
                  with_reducible rfl
                rotate_left
                · simp only [Act.put, List.setIfInBounds_toArray, List.set_cons_zero, List.set_cons_succ, i64_w, i32_w]
                  rfl
                refine one_ (i := 9) (N := some 109) #[true, true, true, true, true, true, true, true, true, true, true, false, false, false] rfl rfl (by kernel_rfl) (by decide) (fun K hK => ?_)
                refine step_app1 (by rfl) (.tmp 106) (.tmp 108) 22 (by rfl) (w.heap.size + 5) 9 i9 (.string ⟨#[]⟩) 1 16 Tryd.underlying22 I9.out.1 I9.out.2.1 I9.out.2.2.1 I9.out.2.2.2 rfl (by omega) (by omega) rr m4 #[.string dq] (by rfl) (by rfl) HGB.out.oq HBD.out (by rfl) (by simp [Value.oneCell']) (by have := N5.out; omega) (by have := HGB.out.lt; omega) ?_
                intro oqg oqc wE oq oqh oql
                have HGE := Lib.hid (HGB.out.appr oqh oq (fun k hk => by cases hk; exact oql))
                refine hK.out _ _ ⟨HGE.out.ha.cell rfl, HGE.out.hb.cell rfl⟩ (fun hHeld => ?_)
                refine norm_ (a' := ?_) ?_ ?_
                rotate_left
                · (try simp only [Act.put, List.setIfInBounds_toArray, List.set_cons_zero, List.set_cons_succ, i64_w, i32_w])
                  rfl
                clear hHeld
                refine last_ (i := 11) (N := none) #[true, true, true, true, true, true, true, true, true, true, true, true, false, false] rfl rfl (by kernel_rfl) (by decide) (fun K hK => ?_)
                have s1 : wE.cell? ⟨w.heap.size + 3, 2, none⟩ = some rs.v := HGE.out.ha.cell rfl
                have f1 : wE.frozen? ⟨w.heap.size + 3, 2, none⟩ = false := HGE.out.ha.frozen 2
                refine skip_ (w1 := ?_) (by rfl) rfl ?_ ?_
                rotate_left
                · go_simp
                  rfl
                refine hK.out _ _ ?_
                have HGF := Lib.hid (HGE.out.seta2 (.slice (some ⟨osg, 0, none⟩) (rs.n + 1) osc))
                clear s1 f1 HGE
                generalize wE.setCell ⟨w.heap.size + 3, 2, none⟩ (.slice (some ⟨osg, 0, none⟩) (rs.n + 1) osc) = wF at HGF ⊢
                refine pure_ (i := 12) (N := some 111) (v := ?_) (a' := ?_) #[true, true, true, true, true, true, true, true, true, true, true, true, true, false] rfl rfl (by kernel_rfl) (fun _ _ _ h => h) (Or.inl ⟨by rfl, ?_⟩) ?_ ?_
                rotate_left
                · intro w'
                  go_simp
                  with_reducible rfl
                rotate_left
                · simp only [Act.put, List.setIfInBounds_toArray, List.set_cons_zero, List.set_cons_succ, i64_w, i32_w]
                  rfl
                refine last_ (i := 13) (N := none) #[true, true, true, true, true, true, true, true, true, true, true, true, true, true] rfl rfl (by kernel_rfl) (by decide) (fun K hK => ?_)
                have s1 : wF.cell? ⟨w.heap.size + 4, 3, none⟩ = some rr.v := HGF.out.hb.cell rfl
                have f1 : wF.frozen? ⟨w.heap.size + 4, 3, none⟩ = false := HGF.out.hb.frozen 3
                refine skip_ (w1 := ?_) (by rfl) rfl ?_ ?_
                rotate_left
                · go_simp
                  rfl
                refine hK.out _ _ ?_
                refine done_ (by kernel_rfl) ?_
                have HGH := Lib.hid (HGF.out.setb3 (.slice (some ⟨oqg, 0, none⟩) (rr.n + 1) oqc))
                clear s1 f1 HGF
                generalize wF.setCell ⟨w.heap.size + 4, 3, none⟩ (.slice (some ⟨oqg, 0, none⟩) (rr.n + 1) oqc) = wH at HGH ⊢
                go_wp2_with fail
                go_roundw
                case rel =>
                  refine ⟨i + 1, by go_num, by omega, ⟨some ⟨osg, 0, none⟩, rs.n + 1, osc, rs.xs ++ [.string dq]⟩, ⟨some ⟨oqg, 0, none⟩, rr.n + 1, oqc, rr.xs ++ [.string dq]⟩, ?_, ?_, HGH.out⟩
                  · exact ⟨by show rs.n + 1 = i + 1; rw [N4.out], by show rr.n + 1 = i + 1; rw [N5.out]⟩
                  · exact ⟨by rw [dsC_succ, ← X4.out, HDD.out, HDQ.out], by rw [dsC_succ, ← X5.out, HDD.out, HDQ.out]⟩
                case measure => simp [intOf]; omega
      · have hin : i = min ds.length 9 := by omega
        have HIN := Lib.hid hin
        clear hin
        have e4 : rs.n = min ds.length 9 := by rw [← HIN.out]; exact N4.out
        have e5 : rr.n = min ds.length 9 := by rw [← HIN.out]; exact N5.out
        have e6 : rs.xs = dsC ds (min ds.length 9) := by rw [← HIN.out]; exact X4.out
        have e7 : rr.xs = dsC ds (min ds.length 9) := by rw [← HIN.out]; exact X5.out
        have E4 := Lib.hid e4; have E5 := Lib.hid e5; have E6 := Lib.hid e6; have E7 := Lib.hid e7
        clear e4 e5 e6 e7
        have c0 : wr.cell? ⟨w.heap.size + 3, 0, none⟩ = some (.int .i64 seq) := HG.out.ha.cell rfl
        have c1 : wr.cell? ⟨w.heap.size + 3, 1, none⟩ = some ra.v := HG.out.ha.cell rfl
        have c2 : wr.cell? ⟨w.heap.size + 3, 2, none⟩ = some rs.v := HG.out.ha.cell rfl
        have d0 : wr.cell? ⟨w.heap.size + 4, 0, none⟩ = some (.int .i64 seq) := HG.out.hb.cell rfl
        have d1 : wr.cell? ⟨w.heap.size + 4, 1, none⟩ = some rb.v := HG.out.hb.cell rfl
        have d2 : wr.cell? ⟨w.heap.size + 4, 2, none⟩ = some rt.v := HG.out.hb.cell rfl
        have d3 : wr.cell? ⟨w.heap.size + 4, 3, none⟩ = some rr.v := HG.out.hb.cell rfl
        obtain ⟨wz, hwz⟩ : ∃ wz : World, wz = wr := ⟨_, rfl⟩
        have hex : decide (i < ds.length) = false ∨ decide ((i : Int) < 9) = false := by
          by_cases hb : i < ds.length
          · exact .inr (decide_eq_false (by omega))
          · exact .inl (decide_eq_false hb)
        have hb1 : decide (i < ds.length) = true ∨ decide (i < ds.length) = false := by cases decide (i < ds.length) <;> simp
        clear hlt hi
        subst hwz
        rcases hex with hx | hx
        · go_wp2_with fail
          have HZ := Lib.hid HG.out.drew
          refine start_ (n := 4) (S := (fun w' => w'.cell? ⟨w.heap.size + 3, 0, none⟩ = some (.int .i64 seq) ∧ w'.cell? ⟨w.heap.size + 3, 1, none⟩ = some ra.v ∧ w'.cell? ⟨w.heap.size + 3, 2, none⟩ = some rs.v ∧ w'.cell? ⟨w.heap.size + 4, 0, none⟩ = some (.int .i64 seq) ∧ w'.cell? ⟨w.heap.size + 4, 1, none⟩ = some rb.v ∧ w'.cell? ⟨w.heap.size + 4, 2, none⟩ = some rt.v ∧ w'.cell? ⟨w.heap.size + 4, 3, none⟩ = some rr.v)) (ds := [3]) #[false, false, false, false] (by kernel_rfl) rfl rfl ⟨c0, c1, c2, d0, d1, d2, d3⟩ (fun hHeld => ?_)
          clear hHeld c0 c1 c2 d0 d1 d2 d3
          have hHeld : (fun w' => w'.cell? ⟨w.heap.size + 3, 0, none⟩ = some (.int .i64 seq) ∧ w'.cell? ⟨w.heap.size + 3, 1, none⟩ = some ra.v ∧ w'.cell? ⟨w.heap.size + 3, 2, none⟩ = some rs.v ∧ w'.cell? ⟨w.heap.size + 4, 0, none⟩ = some (.int .i64 seq) ∧ w'.cell? ⟨w.heap.size + 4, 1, none⟩ = some rb.v ∧ w'.cell? ⟨w.heap.size + 4, 2, none⟩ = some rt.v ∧ w'.cell? ⟨w.heap.size + 4, 3, none⟩ = some rr.v) wz.drew := ⟨HZ.out.ha.cell rfl, HZ.out.ha.cell rfl, HZ.out.ha.cell rfl, HZ.out.hb.cell rfl, HZ.out.hb.cell rfl, HZ.out.hb.cell rfl, HZ.out.hb.cell rfl⟩
          generalize wz.drew = wd at HZ hHeld ⊢
          refine take_ (i := 0) (N := some 112) (v := ?_) (a' := ?_) #[true, false, false, false] rfl rfl (by kernel_rfl) (fun _ _ _ h => h) (Or.inl ⟨by rfl, ?_⟩) hHeld ?_ ?_
          rotate_left
          · rintro w' ⟨s0, s1, s2, s3, s4, s5, s6⟩
            go_simp
            with_reducible rfl
          rotate_left
          · simp only [Act.put, List.setIfInBounds_toArray, List.set_cons_zero, List.set_cons_succ, i64_w, i32_w]
            rfl
          refine take_ (i := 1) (N := some 113) (v := ?_) (a' := ?_) #[true, true, false, false] rfl rfl (by kernel_rfl) (fun _ _ _ h => h) (Or.inl ⟨by rfl, ?_⟩) hHeld ?_ ?_
          rotate_left
          · rintro w' ⟨s0, s1, s2, s3, s4, s5, s6⟩
            go_simp
            with_reducible rfl
          rotate_left
          · simp only [Act.put, List.setIfInBounds_toArray, List.set_cons_zero, List.set_cons_succ, i64_w, i32_w]
            rfl
          refine one_ (i := 2) (N := none) #[true, true, true, false] rfl rfl (by kernel_rfl) (by decide) (fun K hK => ?_)
          have z0 := HZ.out.h2.cell (i := 0) rfl
          have f0 := HZ.out.h2.frozen 0
          have z1 := HZ.out.h2.cell (i := 1) rfl
          have f1 := HZ.out.h2.frozen 1
          have z2 := HZ.out.h2.cell (i := 2) rfl
          have f2 := HZ.out.h2.frozen 2
          have HF := Lib.hid HZ.out.final1
          refine skip_ (w1 := ?_) (by rfl) rfl ?_ ?_
          rotate_left
          · go_simp
            rfl
          refine hK.out _ _ ⟨HF.out.2.2.1.cell rfl, HF.out.2.2.1.cell rfl, HF.out.2.2.1.cell rfl, HF.out.2.2.2.cell rfl, HF.out.2.2.2.cell rfl, HF.out.2.2.2.cell rfl, HF.out.2.2.2.cell rfl⟩ (fun hHeld => ?_)
          clear z0 z1 z2 f0 f1 f2
          refine last_ (i := 3) (N := none) #[true, true, true, true] rfl rfl (by kernel_rfl) (by decide) (fun K hK => ?_)
          have z0 := HF.out.2.1.cell (i := 0) rfl
          have f0 := HF.out.2.1.frozen 0
          have z1 := HF.out.2.1.cell (i := 1) rfl
          have f1 := HF.out.2.1.frozen 1
          have z2 := HF.out.2.1.cell (i := 2) rfl
          have f2 := HF.out.2.1.frozen 2
          have z3 := HF.out.2.1.cell (i := 3) rfl
          have f3 := HF.out.2.1.frozen 3
          refine skip_ (w1 := ?_) (by rfl) rfl ?_ ?_
          rotate_left
          · go_simp
            rfl
          refine hK.out _ _ ?_
          refine done_ (by kernel_rfl) ?_
          go_wp2_with fail
          refine bodyPost_ret (results_cc rfl _ _ (w.heap.size + 1) (w.heap.size + 2) 42 43 #[.int .i64 seq, ra.v, rs.v] #[.int .i64 seq, rb.v, rt.v, rr.v] (0, 0) (0, 0) _ _ rfl ?r1 Tryd.underlying42 rfl (by kernel_rfl) rfl ?r2 Tryd.underlying43 rfl (by kernel_rfl)) rfl ?r3
          case r1 => exact (((HF.out.1.set_other (by show w.heap.size + 2 ≠ w.heap.size + 1; omega) _).set_other (by show w.heap.size + 2 ≠ w.heap.size + 1; omega) _).set_other (by show w.heap.size + 2 ≠ w.heap.size + 1; omega) _).set_other (by show w.heap.size + 2 ≠ w.heap.size + 1; omega) _
          case r2 => exact (((HF.out.2.1.set 0 _).set 1 _).set 2 _).set 3 _
          case r3 =>
            refine ⟨ra, rs, rb, rt, rr, rfl, ⟨N1.out, N2.out, N3.out, E4.out, E5.out⟩, ⟨X1.out, X2.out, X3.out, E6.out, E7.out⟩, ⟨?_, ?_, ?_, ?_, ?_⟩, HZ.out.ap, ?_⟩
            · exact owns7 HZ.out.oa (by omega) _ _ _ _ _ _ _
            · exact owns7 HZ.out.os (by omega) _ _ _ _ _ _ _
            · exact owns7 HZ.out.ob (by omega) _ _ _ _ _ _ _
            · exact owns7 HZ.out.ot (by omega) _ _ _ _ _ _ _
            · exact owns7 HZ.out.oq (by omega) _ _ _ _ _ _ _
            · exact below7 HZ.out.bel (Nat.le_refl _) _ _ _ _ _ _ _
        · rcases hb1 with hy | hy
          · go_wp2_with fail
            have HZ := Lib.hid HG.out.drew
            refine start_ (n := 4) (S := (fun w' => w'.cell? ⟨w.heap.size + 3, 0, none⟩ = some (.int .i64 seq) ∧ w'.cell? ⟨w.heap.size + 3, 1, none⟩ = some ra.v ∧ w'.cell? ⟨w.heap.size + 3, 2, none⟩ = some rs.v ∧ w'.cell? ⟨w.heap.size + 4, 0, none⟩ = some (.int .i64 seq) ∧ w'.cell? ⟨w.heap.size + 4, 1, none⟩ = some rb.v ∧ w'.cell? ⟨w.heap.size + 4, 2, none⟩ = some rt.v ∧ w'.cell? ⟨w.heap.size + 4, 3, none⟩ = some rr.v)) (ds := [3]) #[false, false, false, false] (by kernel_rfl) rfl rfl ⟨c0, c1, c2, d0, d1, d2, d3⟩ (fun hHeld => ?_)
            clear hHeld c0 c1 c2 d0 d1 d2 d3
            have hHeld : (fun w' => w'.cell? ⟨w.heap.size + 3, 0, none⟩ = some (.int .i64 seq) ∧ w'.cell? ⟨w.heap.size + 3, 1, none⟩ = some ra.v ∧ w'.cell? ⟨w.heap.size + 3, 2, none⟩ = some rs.v ∧ w'.cell? ⟨w.heap.size + 4, 0, none⟩ = some (.int .i64 seq) ∧ w'.cell? ⟨w.heap.size + 4, 1, none⟩ = some rb.v ∧ w'.cell? ⟨w.heap.size + 4, 2, none⟩ = some rt.v ∧ w'.cell? ⟨w.heap.size + 4, 3, none⟩ = some rr.v) wz.drew := ⟨HZ.out.ha.cell rfl, HZ.out.ha.cell rfl, HZ.out.ha.cell rfl, HZ.out.hb.cell rfl, HZ.out.hb.cell rfl, HZ.out.hb.cell rfl, HZ.out.hb.cell rfl⟩
            generalize wz.drew = wd at HZ hHeld ⊢
            refine take_ (i := 0) (N := some 112) (v := ?_) (a' := ?_) #[true, false, false, false] rfl rfl (by kernel_rfl) (fun _ _ _ h => h) (Or.inl ⟨by rfl, ?_⟩) hHeld ?_ ?_
            rotate_left
            · rintro w' ⟨s0, s1, s2, s3, s4, s5, s6⟩
              go_simp
              with_reducible rfl
            rotate_left
            · simp only [Act.put, List.setIfInBounds_toArray, List.set_cons_zero, List.set_cons_succ, i64_w, i32_w]
              rfl
            refine take_ (i := 1) (N := some 113) (v := ?_) (a' := ?_) #[true, true, false, false] rfl rfl (by kernel_rfl) (fun _ _ _ h => h) (Or.inl ⟨by rfl, ?_⟩) hHeld ?_ ?_
            rotate_left
            · rintro w' ⟨s0, s1, s2, s3, s4, s5, s6⟩
              go_simp
              with_reducible rfl
            rotate_left
            · simp only [Act.put, List.setIfInBounds_toArray, List.set_cons_zero, List.set_cons_succ, i64_w, i32_w]
              rfl
            refine one_ (i := 2) (N := none) #[true, true, true, false] rfl rfl (by kernel_rfl) (by decide) (fun K hK => ?_)
            have z0 := HZ.out.h2.cell (i := 0) rfl
            have f0 := HZ.out.h2.frozen 0
            have z1 := HZ.out.h2.cell (i := 1) rfl
            have f1 := HZ.out.h2.frozen 1
            have z2 := HZ.out.h2.cell (i := 2) rfl
            have f2 := HZ.out.h2.frozen 2
            have HF := Lib.hid HZ.out.final1
            refine skip_ (w1 := ?_) (by rfl) rfl ?_ ?_
            rotate_left
            · go_simp
              rfl
            refine hK.out _ _ ⟨HF.out.2.2.1.cell rfl, HF.out.2.2.1.cell rfl, HF.out.2.2.1.cell rfl, HF.out.2.2.2.cell rfl, HF.out.2.2.2.cell rfl, HF.out.2.2.2.cell rfl, HF.out.2.2.2.cell rfl⟩ (fun hHeld => ?_)
            clear z0 z1 z2 f0 f1 f2
            refine last_ (i := 3) (N := none) #[true, true, true, true] rfl rfl (by kernel_rfl) (by decide) (fun K hK => ?_)
            have z0 := HF.out.2.1.cell (i := 0) rfl
            have f0 := HF.out.2.1.frozen 0
            have z1 := HF.out.2.1.cell (i := 1) rfl
            have f1 := HF.out.2.1.frozen 1
            have z2 := HF.out.2.1.cell (i := 2) rfl
            have f2 := HF.out.2.1.frozen 2
            have z3 := HF.out.2.1.cell (i := 3) rfl
            have f3 := HF.out.2.1.frozen 3
            refine skip_ (w1 := ?_) (by rfl) rfl ?_ ?_
            rotate_left
            · go_simp
              rfl
            refine hK.out _ _ ?_
            refine done_ (by kernel_rfl) ?_
            go_wp2_with fail
            refine bodyPost_ret (results_cc rfl _ _ (w.heap.size + 1) (w.heap.size + 2) 42 43 #[.int .i64 seq, ra.v, rs.v] #[.int .i64 seq, rb.v, rt.v, rr.v] (0, 0) (0, 0) _ _ rfl ?r1 Tryd.underlying42 rfl (by kernel_rfl) rfl ?r2 Tryd.underlying43 rfl (by kernel_rfl)) rfl ?r3
            case r1 => exact (((HF.out.1.set_other (by show w.heap.size + 2 ≠ w.heap.size + 1; omega) _).set_other (by show w.heap.size + 2 ≠ w.heap.size + 1; omega) _).set_other (by show w.heap.size + 2 ≠ w.heap.size + 1; omega) _).set_other (by show w.heap.size + 2 ≠ w.heap.size + 1; omega) _
            case r2 => exact (((HF.out.2.1.set 0 _).set 1 _).set 2 _).set 3 _
            case r3 =>
              refine ⟨ra, rs, rb, rt, rr, rfl, ⟨N1.out, N2.out, N3.out, E4.out, E5.out⟩, ⟨X1.out, X2.out, X3.out, E6.out, E7.out⟩, ⟨?_, ?_, ?_, ?_, ?_⟩, HZ.out.ap, ?_⟩
              · exact owns7 HZ.out.oa (by omega) _ _ _ _ _ _ _
              · exact owns7 HZ.out.os (by omega) _ _ _ _ _ _ _
              · exact owns7 HZ.out.ob (by omega) _ _ _ _ _ _ _
              · exact owns7 HZ.out.ot (by omega) _ _ _ _ _ _ _
              · exact owns7 HZ.out.oq (by omega) _ _ _ _ _ _ _
              · exact below7 HZ.out.bel (Nat.le_refl _) _ _ _ _ _ _ _
          · go_wp2_with fail
            have HZ := Lib.hid HG.out.drew
            refine start_ (n := 4) (S := (fun w' => w'.cell? ⟨w.heap.size + 3, 0, none⟩ = some (.int .i64 seq) ∧ w'.cell? ⟨w.heap.size + 3, 1, none⟩ = some ra.v ∧ w'.cell? ⟨w.heap.size + 3, 2, none⟩ = some rs.v ∧ w'.cell? ⟨w.heap.size + 4, 0, none⟩ = some (.int .i64 seq) ∧ w'.cell? ⟨w.heap.size + 4, 1, none⟩ = some rb.v ∧ w'.cell? ⟨w.heap.size + 4, 2, none⟩ = some rt.v ∧ w'.cell? ⟨w.heap.size + 4, 3, none⟩ = some rr.v)) (ds := [3]) #[false, false, false, false] (by kernel_rfl) rfl rfl ⟨c0, c1, c2, d0, d1, d2, d3⟩ (fun hHeld => ?_)
            clear hHeld c0 c1 c2 d0 d1 d2 d3
            have hHeld : (fun w' => w'.cell? ⟨w.heap.size + 3, 0, none⟩ = some (.int .i64 seq) ∧ w'.cell? ⟨w.heap.size + 3, 1, none⟩ = some ra.v ∧ w'.cell? ⟨w.heap.size + 3, 2, none⟩ = some rs.v ∧ w'.cell? ⟨w.heap.size + 4, 0, none⟩ = some (.int .i64 seq) ∧ w'.cell? ⟨w.heap.size + 4, 1, none⟩ = some rb.v ∧ w'.cell? ⟨w.heap.size + 4, 2, none⟩ = some rt.v ∧ w'.cell? ⟨w.heap.size + 4, 3, none⟩ = some rr.v) wz.drew := ⟨HZ.out.ha.cell rfl, HZ.out.ha.cell rfl, HZ.out.ha.cell rfl, HZ.out.hb.cell rfl, HZ.out.hb.cell rfl, HZ.out.hb.cell rfl, HZ.out.hb.cell rfl⟩
            generalize wz.drew = wd at HZ hHeld ⊢
            refine take_ (i := 0) (N := some 112) (v := ?_) (a' := ?_) #[true, false, false, false] rfl rfl (by kernel_rfl) (fun _ _ _ h => h) (Or.inl ⟨by rfl, ?_⟩) hHeld ?_ ?_
            rotate_left
            · rintro w' ⟨s0, s1, s2, s3, s4, s5, s6⟩
              go_simp
              with_reducible rfl
            rotate_left
            · simp only [Act.put, List.setIfInBounds_toArray, List.set_cons_zero, List.set_cons_succ, i64_w, i32_w]
              rfl
            refine take_ (i := 1) (N := some 113) (v := ?_) (a' := ?_) #[true, true, false, false] rfl rfl (by kernel_rfl) (fun _ _ _ h => h) (Or.inl ⟨by rfl, ?_⟩) hHeld ?_ ?_
            rotate_left
            · rintro w' ⟨s0, s1, s2, s3, s4, s5, s6⟩
              go_simp
              with_reducible rfl
            rotate_left
            · simp only [Act.put, List.setIfInBounds_toArray, List.set_cons_zero, List.set_cons_succ, i64_w, i32_w]
              rfl
            refine one_ (i := 2) (N := none) #[true, true, true, false] rfl rfl (by kernel_rfl) (by decide) (fun K hK => ?_)
            have z0 := HZ.out.h2.cell (i := 0) rfl
            have f0 := HZ.out.h2.frozen 0
            have z1 := HZ.out.h2.cell (i := 1) rfl
            have f1 := HZ.out.h2.frozen 1
            have z2 := HZ.out.h2.cell (i := 2) rfl
            have f2 := HZ.out.h2.frozen 2
            have HF := Lib.hid HZ.out.final1
            refine skip_ (w1 := ?_) (by rfl) rfl ?_ ?_
            rotate_left
            · go_simp
              rfl
            refine hK.out _ _ ⟨HF.out.2.2.1.cell rfl, HF.out.2.2.1.cell rfl, HF.out.2.2.1.cell rfl, HF.out.2.2.2.cell rfl, HF.out.2.2.2.cell rfl, HF.out.2.2.2.cell rfl, HF.out.2.2.2.cell rfl⟩ (fun hHeld => ?_)
            clear z0 z1 z2 f0 f1 f2
            refine last_ (i := 3) (N := none) #[true, true, true, true] rfl rfl (by kernel_rfl) (by decide) (fun K hK => ?_)
            have z0 := HF.out.2.1.cell (i := 0) rfl
            have f0 := HF.out.2.1.frozen 0
            have z1 := HF.out.2.1.cell (i := 1) rfl
            have f1 := HF.out.2.1.frozen 1
            have z2 := HF.out.2.1.cell (i := 2) rfl
            have f2 := HF.out.2.1.frozen 2
            have z3 := HF.out.2.1.cell (i := 3) rfl
            have f3 := HF.out.2.1.frozen 3
            refine skip_ (w1 := ?_) (by rfl) rfl ?_ ?_
            rotate_left
            · go_simp
              rfl
            refine hK.out _ _ ?_
            refine done_ (by kernel_rfl) ?_
            go_wp2_with fail
            refine bodyPost_ret (results_cc rfl _ _ (w.heap.size + 1) (w.heap.size + 2) 42 43 #[.int .i64 seq, ra.v, rs.v] #[.int .i64 seq, rb.v, rt.v, rr.v] (0, 0) (0, 0) _ _ rfl ?r1 Tryd.underlying42 rfl (by kernel_rfl) rfl ?r2 Tryd.underlying43 rfl (by kernel_rfl)) rfl ?r3
            case r1 => exact (((HF.out.1.set_other (by show w.heap.size + 2 ≠ w.heap.size + 1; omega) _).set_other (by show w.heap.size + 2 ≠ w.heap.size + 1; omega) _).set_other (by show w.heap.size + 2 ≠ w.heap.size + 1; omega) _).set_other (by show w.heap.size + 2 ≠ w.heap.size + 1; omega) _
            case r2 => exact (((HF.out.2.1.set 0 _).set 1 _).set 2 _).set 3 _
            case r3 =>
              refine ⟨ra, rs, rb, rt, rr, rfl, ⟨N1.out, N2.out, N3.out, E4.out, E5.out⟩, ⟨X1.out, X2.out, X3.out, E6.out, E7.out⟩, ⟨?_, ?_, ?_, ?_, ?_⟩, HZ.out.ap, ?_⟩
              · exact owns7 HZ.out.oa (by omega) _ _ _ _ _ _ _
              · exact owns7 HZ.out.os (by omega) _ _ _ _ _ _ _
              · exact owns7 HZ.out.ob (by omega) _ _ _ _ _ _ _
              · exact owns7 HZ.out.ot (by omega) _ _ _ _ _ _ _
              · exact owns7 HZ.out.oq (by omega) _ _ _ _ _ _ _
              · exact below7 HZ.out.bel (Nat.le_refl _) _ _ _ _ _ _ _

end Go.Proofs.YticpjnpafmehaaaDoor
