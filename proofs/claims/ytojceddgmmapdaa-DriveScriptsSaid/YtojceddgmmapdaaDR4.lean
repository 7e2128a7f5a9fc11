/-
  Walk of the document's drive: Do, where the machine is asked.
-/
import Derived.Test.YtojceddgmmapdaaDR1
import Derived.Test.YtojceddgmmapdaaZQ7
import Derived.Test.YtojceddgmmapdaaWLast
namespace Go.Proofs.Ytojceddgmmapdaa
open Go.RowKit Go.Proofs.YtojceddgmmapdaaW.PrintLast

theorem Try.infoStr7 : (Try.prog.info? 9).map (fun i => (i.zero, i.size, i.bytes)) = some (some (.string ⟨#[]⟩), 1, 16) := by kernel_rfl

theorem chunks_succ (s : ByteArray) (j : Nat) : chunks s (j + 1) = chunks s j ++ [s.extract (64 * j) (64 * j + 64)] := by
  simp [chunks, List.range_succ]

theorem sc_get (l : List ByteArray) (j : Nat) (h : j < l.length) : (sc l)[j]? = some (.string l[j]) := by
  simp [sc, h]

/-- The rows of a zone, one more behind. -/
theorem RDoing.app {bd bm bz bb bl : Nat} {vs : List Value} {k z a n : Int} {w wx wy : World} {r : Rv} {vx : List Value} (h : RDoing bd bm bz bb bl vs k z a n w wx r vx) (i : Nat) (hi : i < r.m.zs.length) {o : Obj} (hg : (wx.alloc o).drew.grownBy wy (vx.getD i (.bool false)).ownBlock)
    (g c : Nat) (l : List ByteArray) (hv : wy.ownsRow 0 9 1 (.slice (some ⟨g, 0, none⟩) l.length c) l.length (sc l)) (hv2 : (vx.getD i (.bool false)).ownBlock = some g ∨ g = wx.heap.size + 1) :
    RDoing bd bm bz bb bl vs k z a n w (wy.setCell ⟨bb, i, none⟩ (.slice (some ⟨g, 0, none⟩) l.length c)) { r with bs := r.bs.set i l } (vx.set i (.slice (some ⟨g, 0, none⟩) l.length c)) := by
  refine h.setB i hi ?_ _ l hv (fun x hx => ?_)
  · have h1 : Mod (vx.getD i (.bool false)).ownBlock.toList (wx.alloc o).drew wy := Mod.of_grown hg _ (fun g hg => Option.mem_toList.2 hg)
    exact ((Mod.refl _ wx).alloc o).drew.trans' h1
  · have : g = x := by simpa [Value.ownBlock] using hx
    subst this
    exact hv2.imp id (fun e => by omega)

theorem str_cat (a b : List UInt8) : str (a ++ b) = str a ++ str b := by
  show (⟨(a ++ b).toArray⟩ : ByteArray) = ⟨a.toArray⟩ ++ ⟨b.toArray⟩
  apply ByteArray.ext; simp
theorem str_data (x : ByteArray) : str x.data.toList = x := by cases x; simp [str]
theorem cat_snoc (B : List ByteArray) (j : Nat) (h : j < B.length) : str (catB (B.take (j + 1))) = str (catB (B.take j)) ++ B[j] := by
  rw [List.take_succ_eq_append_getElem h, catB_append, str_cat, catB_cons, catB_nil, List.append_nil, str_data]

set_option maxHeartbeats 8000000 in
set_option maxRecDepth 100000 in
theorem rddo_live (bd bm bz bb bl : Nat) (r : Rv) (vs : List Value) (k z a n : Int) (s : ByteArray) (w : World) (hI : IsRd w bd bm bz bb bl r vs) (hok : r.ok) (hd : r.dead = false) (hs : s.size ≤ 68719476736)
    (hb1 : ¬((k = 1 ∨ k = 2) ∧ 1073741824 < n)) (hb2 : (s.size : Int) = (if (k = 1 ∨ k = 2) ∧ 0 < n then 64 * n else 0)) :
    Calls Try.prog 37 #[.pointer (some ⟨bd, 0, none⟩), .agg #[.int .i64 k, .int .i64 z, .int .i64 a, .int .i64 n], .string s] w (RDPost bd bm bz bb bl vs (rddoF r k z a n s) w) := by
  have c3 := hI.cells.c3
  have c0 := hI.cells.c0
  have hlt := hI.cells.lt
  rw [hd] at c3
  have H0 := Lib.hid (RDoing.start k z a n hI); clear hI
  have Hok := Lib.hid hok; clear hok
  have Hb1 := Lib.hid hb1; clear hb1
  have Hb2 := Lib.hid hb2; clear hb2
  have Hd := Lib.hid hd; clear hd
  go_enter Try.func37, Try.ntmps37
  obtain ⟨B, hB⟩ : ∃ B : Bool, B = decide ((k = 1 ∨ k = 2) ∧ 0 < n) := ⟨_, rfl⟩
  have HB := Lib.hid hB; clear hB
  go_upto_region 4 with fail
  go_cut [31] (fun s31 wx => s31 = .bool B ∧ wx = w.alloc (.cells #[.int .i64 k, .int .i64 z, .int .i64 a, .int .i64 n] 50))
  case first =>
    by_cases hk : k = 1 ∨ k = 2
    · have HB2 : Hid (B = decide (0 < n)) := by show B = _; rw [HB.out]; simp [hk]
      rcases hk with rfl | rfl
      · go_wp2_with (first | go_quiet (fail))
        go_meet
        exact ⟨by rw [HB2.out], rfl⟩
      · go_wp2_with (first | go_quiet (fail))
        go_meet
        exact ⟨by rw [HB2.out], rfl⟩
    · have h1 : (k == 1) = false := by simpa using (fun h => hk (.inl h))
      have h2 : (k == 2) = false := by simpa using (fun h => hk (.inr h))
      have HB2 : Hid (B = false) := by show B = _; rw [HB.out]; simp [hk]
      clear hk
      go_wp2_with (first | go_quiet (fail))
      go_meet
      exact ⟨by rw [HB2.out], rfl⟩
  case rest =>
  obtain ⟨rfl, rfl⟩ := hcut
  go_upto_if 31 with fail
  go_cut [9] (fun s9 wx => s9 = .int .i64 (s.size : Int) ∧ wx = w.alloc (.cells #[.int .i64 k, .int .i64 z, .int .i64 a, .int .i64 n] 50))
  case first =>
    cases B with
    | true =>
      have hkn := Lib.hid (of_decide_eq_true HB.out.symm)
      have hn2 : decide (1073741824 < n) = false := by simpa using (fun h => Hb1.out ⟨hkn.out.1, h⟩ : ¬ 1073741824 < n)
      have hq : Hid ((s.size : Int) = 64 * n) := by have := Hb2.out; rw [if_pos hkn.out] at this; exact this
      have hw : IntKind.i64.wrap (64 * n) = 64 * n := IntWalk.i64_in _ (by have := hq.out; have := hkn.out.2; omega)
      go_wp2_with (first | go_quiet (fail))
      go_meet
      exact ⟨by rw [hq.out], rfl⟩
    | false =>
      have hq : Hid ((s.size : Int) = 0) := by have := Hb2.out; rw [if_neg (of_decide_eq_false HB.out.symm)] at this; exact this
      go_wp2_with (first | go_quiet (fail))
      go_meet
      exact ⟨by rw [hq.out], rfl⟩
  case rest =>
    obtain ⟨rfl, rfl⟩ := hcut
    have hq : ∃ q, doF r.m k z a n = q := ⟨_, rfl⟩
    obtain ⟨⟨⟨at_, e⟩, m2⟩, hq⟩ := hq
    have hdn := do_done r.m k z a n
    have hlen := (like_do r.m k z a n).len
    rw [hq] at hdn hlen
    have Hdn := Lib.hid hdn
    have Hlen := Lib.hid hlen
    have Hq := Lib.hid hq
    clear hdn hlen hq
    have q0 := H0.out.C.cell (i := 0) rfl
    have q1 := H0.out.C.cell (i := 1) rfl
    have q2 := H0.out.C.cell (i := 2) rfl
    have q3 := H0.out.C.cell (i := 3) rfl
    have c0 := H0.out.I.cells.c0
    have hlw := H0.out.C.lt
    have hlt := H0.out.I.cells.lt
    have Hdo : Hid (∀ u : World, RDoing bd bm bz bb bl vs k z a n w u r vs → Calls Try.prog 21 #[.pointer (some ⟨bm, 0, none⟩), .agg #[.int .i64 k, .int .i64 z, .int .i64 a, .int .i64 n]] u (fun E u' => E = .returned (.tuple #[.int .i64 at_, .int .i64 e]) ∧ RDoing bd bm bz bb bl vs k z a n w u' { r with m := m2 } vs)) := fun u hu => by
      refine (rdo_any bm bz r.m k z a n u hu.I.m Hok.out.m Hok.out.held).mono ?_
      rw [Hq.out]
      rintro E u' ⟨hE, hM, hm⟩
      exact ⟨hE, hu.mach hM Hlen.out hm⟩
    generalize w.alloc (.cells #[.int .i64 k, .int .i64 z, .int .i64 a, .int .i64 n] 50) = wa at *
    go_upto_region 10 with fail
    go_cut [10, 11] (fun s10 s11 wx => s10 = .int .i64 at_ ∧ s11 = .int .i64 e ∧ RDoing bd bm bz bb bl vs k z a n w wx { r with m := m2 } vs)
    case first =>
      go_region_with (go_at_call 21; refine (Hdo.out _ (by first | exact H0.out | exact H0.out.drewN _ | exact H0.out.drew)).mono ?_; rintro E u ⟨rfl, hR2⟩; have HR2 := Lib.hid hR2; clear hR2)
      all_goals
        go_wp2_with fail
        go_meet
        exact ⟨rfl, rfl, by first | exact HR2.out | exact HR2.out.drew | exact HR2.out.drewN _⟩
    case rest =>
      obtain ⟨rfl, rfl, hR⟩ := hcut
      have HR := Lib.hid hR
      clear hR H0 Hdo q0 q1 q2 q3 c0 c3
      have hrd : rddoF r k z a n s = if e ≠ 0 then ((ByteArray.empty, 0, e), { r with m := m2 })
          else if k = 1 ∨ k = 2 then ((ByteArray.empty, at_, 0), { r with m := m2, bs := r.bs.set z.toNat (r.bs.getD z.toNat [] ++ chunks s n.toNat) })
          else if k = 7 then ((str (catB (((r.bs.getD z.toNat []).drop at_.toNat).take n.toNat)), at_, 0), { r with m := m2 })
          else if k = 3 then ((ByteArray.empty, at_, 0), { r with m := m2, bs := r.bs.set z.toNat [], la := r.la.set z.toNat 0 })
          else if k = 4 then ((ByteArray.empty, at_, 0), { r with m := m2, la := r.la.set z.toNat (r.bs.getD z.toNat []).length })
          else ((ByteArray.empty, at_, 0), { r with m := m2 }) := by
        unfold rddoF
        rw [Hd.out, if_neg (by simp), if_neg Hb1.out, if_neg (by rw [Hb2.out]; simp), Hq.out]
      by_cases he : e = 0
      · subst he
        rw [if_neg (by simp)] at hrd
        obtain ⟨hz, D⟩ := Hdn.out rfl
        obtain ⟨i, rfl⟩ := Int.eq_ofNat_of_zero_le hz
        rw [Int.toNat_natCast] at D hrd
        have hi := D.hi
        have hi2 : i < m2.zs.length := by rw [Hlen.out]; exact hi
        have HD := Lib.hid D
        clear D hz
        have q0 := HR.out.C.cell (i := 0) rfl
        have q1 := HR.out.C.cell (i := 1) rfl
        have q3 := HR.out.C.cell (i := 3) rfl
        have hlw := HR.out.C.lt
        have hlt := HR.out.I.cells.lt
        have hwl : ∀ x ∈ [bd, bm, bz, bb, bl], x ≠ w.heap.size := fun x hx => by have := HR.out.L x (feet_head hx); omega
        have d1 : wc.cell? ⟨bd, 1, none⟩ = some (.slice (some ⟨bb, 0, none⟩) m2.zs.length m2.zs.length) := HR.out.I.cells.c1
        have d2 : wc.cell? ⟨bd, 2, none⟩ = some (.slice (some ⟨bl, 0, none⟩) m2.zs.length m2.zs.length) := HR.out.I.cells.c2
        have v1 := HR.out.I.cellB (i := i) hi2
        have v2 := HR.out.I.cellL (i := i) hi2
        have y1 := HR.out.I.byt.frozen i
        have y2 := HR.out.I.las.frozen i
        by_cases hk12 : k = 1 ∨ k = 2
        · rw [if_pos hk12] at hrd
          have Hrd := Lib.hid hrd; clear hrd
          obtain ⟨-, hn1, hn2, -⟩ := HD.out.w hk12
          obtain ⟨jn, rfl⟩ := Int.eq_ofNat_of_zero_le (show 0 ≤ n by omega)
          rw [Int.toNat_natCast] at Hrd
          have hjs : s.size = 64 * jn := by
            have := Hb2.out
            rw [if_pos ⟨hk12, by omega⟩] at this
            omega
          have hBl : (r.bs.getD i []).length + jn ≤ 4096 := by
            have h1 := Hok.out.ln i hi
            have h2 : r.m.ln i = lnOf r.m.zs i := rfl
            have h3 := Hok.out.m.b2
            omega
          obtain ⟨i0, ei0, ei1, ei2, ei3⟩ := info_parts Try.infoStr7
          have ib0 : (0 : Int) ≤ (i : Int) := by omega
          have ib1 : (i : Int) < (m2.zs.length : Int) := by omega
          have Hjs := Lib.hid hjs
          have HBl := Lib.hid hBl
          clear hjs hBl hn1 hn2 q0 q1 q3 d1 d2 v1 v2 y1 y2 hlw hlt
          have Hset : Hid (r.bs.set i (r.bs.getD i []) = r.bs) := by
            show r.bs.set i (r.bs.getD i []) = r.bs
            apply List.ext_getElem?
            intro j
            rw [List.getElem?_set]
            split
            · rename_i hij
              subst hij
              split
              · rename_i hl; simp [List.getD_eq_getElem?_getD, hl]
              · rename_i hl; rw [List.getElem?_eq_none (by omega)]
            · rfl
          have q0 := HR.out.C.cell (i := 0) rfl
          have hlw := HR.out.C.lt
          go_upto_block 0 with fail
          go_cut [12] (fun s12 wx => s12 = .string ByteArray.empty ∧ ∃ vx, RDoing bd bm bz bb bl vs k i a jn w wx { r with m := m2, bs := r.bs.set i (r.bs.getD i [] ++ chunks s jn) } vx)
          case first =>
            rcases hk12 with rfl | rfl
            all_goals
              go_wp2_with fail
              go_loopw [13] (fun s13 wr => ∃ (j : Nat) (vx : List Value), s13 = .int .i64 j ∧ j ≤ jn ∧ RDoing bd bm bz bb bl vs _ i a jn w wr { r with m := m2, bs := r.bs.set i (r.bs.getD i [] ++ chunks s j) } vx) (fun s13 _ => jn - (intOf s13).toNat)
              case atStart =>
                refine ⟨0, vs, rfl, Nat.zero_le _, ?_⟩
                rw [show r.bs.getD i [] ++ chunks s 0 = r.bs.getD i [] by simp [chunks], Hset.out]
                exact HR.out
              case round =>
                obtain ⟨j, vx, rfl, hj, hRj⟩ := hrel
                have HRj := Lib.hid hRj; clear hRj
                have q3 := HRj.out.C.cell (i := 3) rfl
                have hlw2 := HRj.out.C.lt
                by_cases hlt3 : j < jn
                · have q1 := HRj.out.C.cell (i := 1) rfl
                  have d1 : wr.cell? ⟨bd, 1, none⟩ = some (.slice (some ⟨bb, 0, none⟩) m2.zs.length m2.zs.length) := HRj.out.I.cells.c1
                  have v1 := HRj.out.I.cellB (i := i) hi2
                  have y1 := HRj.out.I.byt.frozen i
                  have hlt2 := HRj.out.I.cells.lt
                  obtain ⟨ra, rc, hv⟩ := HRj.out.I.slice (i := i) hi2
                  have hown := HRj.out.I.row i hi2
                  have hgi : (r.bs.set i (r.bs.getD i [] ++ chunks s j)).getD i [] = r.bs.getD i [] ++ chunks s j := by
                    have : i < r.bs.length := by have := HR.out.I.nb; have h : r.bs.length = m2.zs.length := this; omega
                    simp [List.getD_eq_getElem?_getD, this]
                  replace hv : vx.getD i (.bool false) = .slice ra (r.bs.getD i [] ++ chunks s j).length rc := by rw [hv]; show Value.slice ra ((r.bs.set i (r.bs.getD i [] ++ chunks s j)).getD i []).length rc = _; rw [hgi]
                  replace hown : wr.ownsRow 0 9 1 (.slice ra (r.bs.getD i [] ++ chunks s j).length rc) (r.bs.getD i [] ++ chunks s j).length (sc (r.bs.getD i [] ++ chunks s j)) := by
                    rw [← hv]; show wr.ownsRow 0 9 1 _ _ _
                    have h : wr.ownsRow 0 9 1 (vx.getD i (.bool false)) ((r.bs.set i (r.bs.getD i [] ++ chunks s j)).getD i []).length (sc ((r.bs.set i (r.bs.getD i [] ++ chunks s j)).getD i [])) := hown
                    rwa [hgi] at h
                  rw [hv] at v1
                  have hcl : (r.bs.getD i [] ++ chunks s j).length ≤ 4096 := by rw [List.length_append]; have := HBl.out; have h : (chunks s j).length = j := by simp [chunks]
                                                                                omega
                  have hnx : (r.bs.getD i [] ++ chunks s j) ++ [s.extract (64 * j) (64 * j + 64)] = r.bs.getD i [] ++ chunks s (j + 1) := by rw [chunks_succ, List.append_assoc]
                  have hset : (r.bs.set i (r.bs.getD i [] ++ chunks s j)).set i (r.bs.getD i [] ++ chunks s (j + 1)) = r.bs.set i (r.bs.getD i [] ++ chunks s (j + 1)) := List.set_set ..
                  have hXe : ∃ X, r.bs.getD i [] ++ chunks s j = X := ⟨_, rfl⟩
                  obtain ⟨X, hXe⟩ := hXe
                  rw [hXe] at hv hown v1 hcl hnx hset HRj
                  have Hv := Lib.hid hv
                  have Hown := Lib.hid hown
                  clear hXe
                  have Hnx := Lib.hid hnx
                  have Hset2 := Lib.hid hset
                  clear hv hown hnx hset hgi
                  have hjs := Hjs.out
                  have e1 : IntKind.i64.wrap (64 * (j : Int)) = 64 * (j : Int) := IntWalk.i64_in _ (by omega)
                  have e2 : IntKind.i64.wrap (64 * (j : Int) + 64) = 64 * (j : Int) + 64 := IntWalk.i64_in _ (by omega)
                  have l1 : (0 : Int) ≤ 64 * (j : Int) := by omega
                  have l2 : (0 : Int) ≤ 64 * (j : Int) + 64 := by omega
                  have l3 : 64 * (j : Int) ≤ 64 * (j : Int) + 64 := by omega
                  have l4 : 64 * (j : Int) + 64 ≤ (s.size : Int) := by omega
                  have l5 : (64 * (j : Int)).toNat = 64 * j := by omega
                  have l6 : (64 * (j : Int) + 64).toNat = 64 * j + 64 := by omega
                  clear hjs
                  have hnw := Blk.new wr #[.string (s.extract (64 * j) (64 * j + 64))] 9
                  have Hoff : Hid (∀ g, (Value.slice ra X.length rc).ownBlock = some g → g ≠ bd ∧ g ≠ bb ∧ g ≠ w.heap.size ∧ g < wr.heap.size) := fun g hg => by
                    rw [← Hv.out] at hg
                    have h1 := HRj.out.I.rowOff hi2 hg
                    exact ⟨h1.1, h1.2.2.2.1, fun e => HRj.out.off (e ▸ feet_row hg), ownsRow_lt (HRj.out.I.row i hi2) hg⟩
                  go_upto_region 20 with (fail)
                  refine start_ (n := 27) (S := (fun w' => w'.cell? ⟨bd, 1, none⟩ = some (.slice (some ⟨bb, 0, none⟩) m2.zs.length m2.zs.length) ∧ w'.cell? ⟨w.heap.size, 1, none⟩ = some (.int .i64 i) ∧ w'.cell? ⟨bb, i, none⟩ = some (.slice ra X.length rc))) (ds := [26]) #[false, false, false, false, false, false, false, false, false, false, false, false, false, false, false, false, false, false, false, false, false, false, false, false, false, false, false] (by kernel_rfl) rfl rfl ⟨d1, q1, v1⟩ (fun hHeld => ?_)
                  refine pure_ (i := 0) (N := some 65) (v := ?_) (a' := ?_) #[true, false, false, false, false, false, false, false, false, false, false, false, false, false, false, false, false, false, false, false, false, false, false, false, false, false, false] rfl rfl (by kernel_rfl) (fun _ _ _ h => h) (Or.inl ⟨by rfl, ?_⟩) ?_ ?_
                  rotate_left
                  · intro w'
                    go_simp
                    with_reducible rfl
                  rotate_left
                  · simp only [Act.put, List.setIfInBounds_toArray, List.set_cons_zero, List.set_cons_succ, i64_w, i32_w]
                    rfl
                  refine pure_ (i := 1) (N := some 66) (v := ?_) (a' := ?_) #[true, true, false, false, false, false, false, false, false, false, false, false, false, false, false, false, false, false, false, false, false, false, false, false, false, false, false] rfl rfl (by kernel_rfl) (fun _ _ _ h => h) (Or.inl ⟨by rfl, ?_⟩) ?_ ?_
                  rotate_left
                  · intro w'
                    go_simp
                    with_reducible rfl
                  rotate_left
                  · simp only [Act.put, List.setIfInBounds_toArray, List.set_cons_zero, List.set_cons_succ, i64_w, i32_w]
                    rfl
                  refine pure_ (i := 2) (N := some 67) (v := ?_) (a' := ?_) #[true, true, true, false, false, false, false, false, false, false, false, false, false, false, false, false, false, false, false, false, false, false, false, false, false, false, false] rfl rfl (by kernel_rfl) (fun _ _ _ h => h) (Or.inl ⟨by rfl, ?_⟩) ?_ ?_
                  rotate_left
                  · intro w'
                    go_simp
                    with_reducible rfl
                  rotate_left
                  · simp only [Act.put, List.setIfInBounds_toArray, List.set_cons_zero, List.set_cons_succ, i64_w, i32_w]
                    rfl
                  refine pure_ (i := 4) (N := some 69) (v := ?_) (a' := ?_) #[true, true, true, false, true, false, false, false, false, false, false, false, false, false, false, false, false, false, false, false, false, false, false, false, false, false, false] rfl rfl (by kernel_rfl) (fun _ _ _ h => h) (Or.inl ⟨by rfl, ?_⟩) ?_ ?_
                  rotate_left
                  · intro w'
                    go_simp
                    with_reducible rfl
                  rotate_left
                  · simp only [Act.put, List.setIfInBounds_toArray, List.set_cons_zero, List.set_cons_succ, i64_w, i32_w]
                    rfl
                  refine pure_ (i := 6) (N := some 71) (v := ?_) (a' := ?_) #[true, true, true, false, true, false, true, false, false, false, false, false, false, false, false, false, false, false, false, false, false, false, false, false, false, false, false] rfl rfl (by kernel_rfl) (fun _ _ _ h => h) (Or.inl ⟨by rfl, ?_⟩) ?_ ?_
                  rotate_left
                  · intro w'
                    go_simp
                    with_reducible rfl
                  rotate_left
                  · simp only [Act.put, List.setIfInBounds_toArray, List.set_cons_zero, List.set_cons_succ, i64_w, i32_w]
                    rfl
                  refine pure_ (i := 7) (N := some 72) (v := ?_) (a' := ?_) #[true, true, true, false, true, false, true, true, false, false, false, false, false, false, false, false, false, false, false, false, false, false, false, false, false, false, false] rfl rfl (by kernel_rfl) (fun _ _ _ h => h) (Or.inl ⟨by rfl, ?_⟩) ?_ ?_
                  rotate_left
                  · intro w'
                    go_simp
                    with_reducible rfl
                  rotate_left
                  · simp only [Act.put, List.setIfInBounds_toArray, List.set_cons_zero, List.set_cons_succ, i64_w, i32_w]
                    rfl
                  refine pure_ (i := 8) (N := some 73) (v := ?_) (a' := ?_) #[true, true, true, false, true, false, true, true, true, false, false, false, false, false, false, false, false, false, false, false, false, false, false, false, false, false, false] rfl rfl (by kernel_rfl) (fun _ _ _ h => h) (Or.inl ⟨by rfl, ?_⟩) ?_ ?_
                  rotate_left
                  · intro w'
                    go_simp
                    with_reducible rfl
                  rotate_left
                  · simp only [Act.put, List.setIfInBounds_toArray, List.set_cons_zero, List.set_cons_succ, i64_w, i32_w]
                    rfl
                  refine pure_ (i := 10) (N := some 75) (v := ?_) (a' := ?_) #[true, true, true, false, true, false, true, true, true, false, true, false, false, false, false, false, false, false, false, false, false, false, false, false, false, false, false] rfl rfl (by kernel_rfl) (fun _ _ _ h => h) (Or.inl ⟨by rfl, ?_⟩) ?_ ?_
                  rotate_left
                  · intro w'
                    go_simp
                    with_reducible rfl
                  rotate_left
                  · simp only [Act.put, List.setIfInBounds_toArray, List.set_cons_zero, List.set_cons_succ, i64_w, i32_w]
                    rfl
                  refine pure_ (i := 15) (N := some 80) (v := ?_) (a' := ?_) #[true, true, true, false, true, false, true, true, true, false, true, false, false, false, false, true, false, false, false, false, false, false, false, false, false, false, false] rfl rfl (by kernel_rfl) (fun _ _ _ h => h) (Or.inl ⟨by rfl, ?_⟩) ?_ ?_
                  rotate_left
                  · intro w'
                    go_simp
                    with_reducible rfl
                  rotate_left
                  · simp only [Act.put, List.setIfInBounds_toArray, List.set_cons_zero, List.set_cons_succ, i64_w, i32_w]
                    rfl
                  refine pure_ (i := 16) (N := some 81) (v := ?_) (a' := ?_) #[true, true, true, false, true, false, true, true, true, false, true, false, false, false, false, true, true, false, false, false, false, false, false, false, false, false, false] rfl rfl (by kernel_rfl) (fun _ _ _ h => h) (Or.inl ⟨by rfl, ?_⟩) ?_ ?_
                  rotate_left
                  · intro w'
                    go_simp
                    with_reducible rfl
                  rotate_left
                  · simp only [Act.put, List.setIfInBounds_toArray, List.set_cons_zero, List.set_cons_succ, i64_w, i32_w]
                    rfl
                  refine pure_ (i := 17) (N := some 82) (v := ?_) (a' := ?_) #[true, true, true, false, true, false, true, true, true, false, true, false, false, false, false, true, true, true, false, false, false, false, false, false, false, false, false] rfl rfl (by kernel_rfl) (fun _ _ _ h => h) (Or.inl ⟨by rfl, ?_⟩) ?_ ?_
                  rotate_left
                  · intro w'
                    go_simp
                    with_reducible rfl
                  rotate_left
                  · simp only [Act.put, List.setIfInBounds_toArray, List.set_cons_zero, List.set_cons_succ, i64_w, i32_w]
                    rfl
                  refine pure_ (i := 18) (N := some 83) (v := ?_) (a' := ?_) #[true, true, true, false, true, false, true, true, true, false, true, false, false, false, false, true, true, true, true, false, false, false, false, false, false, false, false] rfl rfl (by kernel_rfl) (fun _ _ _ h => h) (Or.inl ⟨by rfl, ?_⟩) ?_ ?_
                  rotate_left
                  · intro w'
                    go_simp
                    with_reducible rfl
                  rotate_left
                  · simp only [Act.put, List.setIfInBounds_toArray, List.set_cons_zero, List.set_cons_succ, i64_w, i32_w]
                    rfl
                  refine pure_ (i := 19) (N := some 84) (v := ?_) (a' := ?_) #[true, true, true, false, true, false, true, true, true, false, true, false, false, false, false, true, true, true, true, true, false, false, false, false, false, false, false] rfl rfl (by kernel_rfl) (fun _ _ _ h => h) (Or.inl ⟨by rfl, ?_⟩) ?_ ?_
                  rotate_left
                  · intro w'
                    go_simp
                    with_reducible rfl
                  rotate_left
                  · simp only [Act.put, List.setIfInBounds_toArray, List.set_cons_zero, List.set_cons_succ, i64_w, i32_w]
                    rfl
                  refine pure_ (i := 20) (N := some 85) (v := ?_) (a' := ?_) #[true, true, true, false, true, false, true, true, true, false, true, false, false, false, false, true, true, true, true, true, true, false, false, false, false, false, false] rfl rfl (by kernel_rfl) (fun _ _ _ h => h) (Or.inl ⟨by rfl, ?_⟩) ?_ ?_
                  rotate_left
                  · intro w'
                    go_simp
                    with_reducible rfl
                  rotate_left
                  · simp only [Act.put, List.setIfInBounds_toArray, List.set_cons_zero, List.set_cons_succ, i64_w, i32_w]
                    rfl
                  refine pure_ (i := 21) (N := some 86) (v := ?_) (a' := ?_) #[true, true, true, false, true, false, true, true, true, false, true, false, false, false, false, true, true, true, true, true, true, true, false, false, false, false, false] rfl rfl (by kernel_rfl) (fun _ _ _ h => h) (Or.inl ⟨by rfl, ?_⟩) ?_ ?_
                  rotate_left
                  · intro w'
                    go_simp
                    with_reducible rfl
                  rotate_left
                  · simp only [Act.put, List.setIfInBounds_toArray, List.set_cons_zero, List.set_cons_succ, i64_w, i32_w]
                    rfl
                  refine take_ (i := 3) (N := some 68) (v := ?_) (a' := ?_) #[true, true, true, true, true, false, true, true, true, false, true, false, false, false, false, true, true, true, true, true, true, true, false, false, false, false, false] rfl rfl (by kernel_rfl) (fun _ _ _ h => h) (Or.inl ⟨by rfl, ?_⟩) hHeld ?_ ?_
                  rotate_left
                  · rintro w' ⟨s0, s1, s2⟩
                    go_simp
                    with_reducible rfl
                  rotate_left
                  · simp only [Act.put, List.setIfInBounds_toArray, List.set_cons_zero, List.set_cons_succ, i64_w, i32_w]
                    rfl
                  refine take_ (i := 5) (N := some 70) (v := ?_) (a' := ?_) #[true, true, true, true, true, true, true, true, true, false, true, false, false, false, false, true, true, true, true, true, true, true, false, false, false, false, false] rfl rfl (by kernel_rfl) (fun _ _ _ h => h) (Or.inl ⟨by rfl, ?_⟩) hHeld ?_ ?_
                  rotate_left
                  · rintro w' ⟨s0, s1, s2⟩
                    go_simp
                    with_reducible rfl
                  rotate_left
                  · simp only [Act.put, List.setIfInBounds_toArray, List.set_cons_zero, List.set_cons_succ, i64_w, i32_w]
                    rfl
                  refine take_ (i := 9) (N := some 74) (v := ?_) (a' := ?_) #[true, true, true, true, true, true, true, true, true, true, true, false, false, false, false, true, true, true, true, true, true, true, false, false, false, false, false] rfl rfl (by kernel_rfl) (fun _ _ _ h => h) (Or.inl ⟨by rfl, ?_⟩) hHeld ?_ ?_
                  rotate_left
                  · rintro w' ⟨s0, s1, s2⟩
                    go_simp
                    with_reducible rfl
                  rotate_left
                  · simp only [Act.put, List.setIfInBounds_toArray, List.set_cons_zero, List.set_cons_succ, i64_w, i32_w]
                    rfl
                  refine take_ (i := 11) (N := some 76) (v := ?_) (a' := ?_) #[true, true, true, true, true, true, true, true, true, true, true, true, false, false, false, true, true, true, true, true, true, true, false, false, false, false, false] rfl rfl (by kernel_rfl) (fun _ _ _ h => h) (Or.inl ⟨by rfl, ?_⟩) hHeld ?_ ?_
                  rotate_left
                  · rintro w' ⟨s0, s1, s2⟩
                    go_simp
                    with_reducible rfl
                  rotate_left
                  · simp only [Act.put, List.setIfInBounds_toArray, List.set_cons_zero, List.set_cons_succ, i64_w, i32_w]
                    rfl
                  refine pure_ (i := 12) (N := some 77) (v := ?_) (a' := ?_) #[true, true, true, true, true, true, true, true, true, true, true, true, true, false, false, true, true, true, true, true, true, true, false, false, false, false, false] rfl rfl (by kernel_rfl) (fun _ _ _ h => h) (Or.inl ⟨by rfl, ?_⟩) ?_ ?_
                  rotate_left
                  · intro w'
                    go_simp
                    with_reducible rfl
                  rotate_left
                  · simp only [Act.put, List.setIfInBounds_toArray, List.set_cons_zero, List.set_cons_succ, i64_w, i32_w]
                    rfl
                  refine pure_ (i := 13) (N := some 78) (v := ?_) (a' := ?_) #[true, true, true, true, true, true, true, true, true, true, true, true, true, true, false, true, true, true, true, true, true, true, false, false, false, false, false] rfl rfl (by kernel_rfl) (fun _ _ _ h => h) (Or.inl ⟨by rfl, ?_⟩) ?_ ?_
                  rotate_left
                  · intro w'
                    go_simp
                    with_reducible rfl
                  rotate_left
                  · simp only [Act.put, List.setIfInBounds_toArray, List.set_cons_zero, List.set_cons_succ, i64_w, i32_w]
                    rfl
                  refine take_ (i := 14) (N := some 79) (v := ?_) (a' := ?_) #[true, true, true, true, true, true, true, true, true, true, true, true, true, true, true, true, true, true, true, true, true, true, false, false, false, false, false] rfl rfl (by kernel_rfl) (fun _ _ _ h => h) (Or.inl ⟨by rfl, ?_⟩) hHeld ?_ ?_
                  rotate_left
                  · rintro w' ⟨s0, s1, s2⟩
                    go_simp
                    with_reducible rfl
                  rotate_left
                  · simp only [Act.put, List.setIfInBounds_toArray, List.set_cons_zero, List.set_cons_succ, i64_w, i32_w]
                    rfl
                  refine one_ (i := 22) (N := some 87) #[true, true, true, true, true, true, true, true, true, true, true, true, true, true, true, true, true, true, true, true, true, true, true, false, false, false, false] rfl rfl (by kernel_rfl) (by decide) (fun K hK => ?_)
                  go_simp
                  have t1 := (((Mod.refl [] wr).alloc (.cells #[.string (s.extract (64 * j) (64 * j + 64))] 9)).cell (o := 1) hlt2.1 (by simp)).trans d1
                  have t2 := (((Mod.refl [] wr).alloc (.cells #[.string (s.extract (64 * j) (64 * j + 64))] 9)).cell (o := 1) hlw2 (by simp)).trans q1
                  have t3 := (((Mod.refl [] wr).alloc (.cells #[.string (s.extract (64 * j) (64 * j + 64))] 9)).cell (o := i) hlt2.2.2.2.1 (by simp)).trans v1
                  refine hK.out _ _ ⟨t1, t2, t3⟩ (fun hHeld => ?_)
                  refine norm_ (a' := ?_) ?_ ?_
                  rotate_left
                  · (try simp only [Act.put, List.setIfInBounds_toArray, List.set_cons_zero, List.set_cons_succ, i64_w, i32_w])
                    rfl
                  refine one_ (i := 23) (N := some 88) #[true, true, true, true, true, true, true, true, true, true, true, true, true, true, true, true, true, true, true, true, true, true, true, true, false, false, false] rfl rfl (by kernel_rfl) (by decide) (fun K hK => ?_)
                  refine step_append_lies _ rfl (.tmp 79) (.tmp 87) 103 rfl 0 9 i0 (.string ⟨#[]⟩) 1 16 Try.underlying103 ei0 ei1 ei2 ei3 rfl (by decide) (.slice ra X.length rc) X.length (sc X) rfl (ownsRow_block Hown.out (fun g hg => Below.heap_alloc _ _ _ (ownsRow_lt Hown.out hg))) ⟨wr.heap.size, 0, none⟩ 1 1 [.string (s.extract (64 * j) (64 * j + 64))] rfl rfl (World.news_of_block (B := wr.heap.size) (cs := #[.string (s.extract (64 * j) (64 * j + 64))]) (t := 9) (fr := (0, 0)) hnw) (by simp [Value.oneCell']) (by decide) (by unfold maxLen; omega) (by omega) (Nat.zero_le _) _ rfl ?_
                  intro g cp w3 hown3 hgrow3 hat3 hlt3
                  have u1 : w3.cell? ⟨bd, 1, none⟩ = _ := (grown_cell hgrow3 (b := bd) (by show bd < (wr.alloc _).heap.size; simp; omega) (fun g hg => (Hoff.out g hg).1) 1).trans t1
                  have u2 : w3.cell? ⟨w.heap.size, 1, none⟩ = _ := (grown_cell hgrow3 (b := w.heap.size) (by show w.heap.size < (wr.alloc _).heap.size; simp; omega) (fun g hg => (Hoff.out g hg).2.2.1) 1).trans t2
                  have u3 : w3.cell? ⟨bb, i, none⟩ = _ := (grown_cell hgrow3 (b := bb) (by show bb < (wr.alloc _).heap.size; simp; omega) (fun g hg => (Hoff.out g hg).2.1) i).trans t3
                  have u4 : w3.frozen? ⟨bb, i, none⟩ = false := (grown_frozen hgrow3 (b := bb) (by show bb < (wr.alloc _).heap.size; simp; omega) (fun g hg => (Hoff.out g hg).2.1) i).trans ((((Mod.refl [] wr).alloc _).frozen hlt2.2.2.2.1 (by simp)).trans y1)
                  have Hown3 := Lib.hid hown3
                  have Hgrow3 := Lib.hid hgrow3
                  have Hat3 := Lib.hid hat3
                  clear hown3 hgrow3 hat3
                  refine hK.out _ _ ⟨u1, u2, u3⟩ (fun hHeld => ?_)
                  refine norm_ (a' := ?_) ?_ ?_
                  rotate_left
                  · (try simp only [Act.put, List.setIfInBounds_toArray, List.set_cons_zero, List.set_cons_succ, i64_w, i32_w])
                    rfl
                  refine pure_ (i := 24) (N := some 89) (v := ?_) (a' := ?_) #[true, true, true, true, true, true, true, true, true, true, true, true, true, true, true, true, true, true, true, true, true, true, true, true, true, false, false] rfl rfl (by kernel_rfl) (fun _ _ _ h => h) (Or.inl ⟨by rfl, ?_⟩) ?_ ?_
                  rotate_left
                  · intro w'
                    go_simp
                    with_reducible rfl
                  rotate_left
                  · simp only [Act.put, List.setIfInBounds_toArray, List.set_cons_zero, List.set_cons_succ, i64_w, i32_w]
                    rfl
                  refine pure_ (i := 25) (N := some 90) (v := ?_) (a' := ?_) #[true, true, true, true, true, true, true, true, true, true, true, true, true, true, true, true, true, true, true, true, true, true, true, true, true, true, false] rfl rfl (by kernel_rfl) (fun _ _ _ h => h) (Or.inl ⟨by rfl, ?_⟩) ?_ ?_
                  rotate_left
                  · intro w'
                    go_simp
                    with_reducible rfl
                  rotate_left
                  · simp only [Act.put, List.setIfInBounds_toArray, List.set_cons_zero, List.set_cons_succ, i64_w, i32_w]
                    rfl
                  refine last_ (i := 26) (N := none) #[true, true, true, true, true, true, true, true, true, true, true, true, true, true, true, true, true, true, true, true, true, true, true, true, true, true, true] rfl rfl (by kernel_rfl) (by decide) (fun K hK => ?_)
                  refine skip_ (w1 := ?_) (by rfl) rfl ?_ ?_
                  rotate_left
                  · go_simp
                    rfl
                  refine hK.out _ _ ?_
                  refine done_ (by kernel_rfl) ?_
                  have HRn := HRj.out.app i hi2 (o := .cells #[.string (s.extract (64 * j) (64 * j + 64))] 9) (wy := w3) (by rw [Hv.out]; exact Hgrow3.out) g cp (X ++ [s.extract (64 * j) (64 * j + 64)]) (by rw [sc_append, List.length_append]; exact Hown3.out) (by rw [Hv.out]; exact Hat3.out.imp id (fun e => by simpa using e))
                  rw [List.length_append] at HRn
                  rw [Hnx.out] at HRn
                  replace HRn := (congrArg (fun B => RDoing bd bm bz bb bl vs _ i a jn w _ { r with m := m2, bs := B } _) Hset2.out).mp HRn
                  have HRN := Lib.hid HRn
                  clear HRn
                  generalize w3.setCell ⟨bb, i, none⟩ (.slice (some ⟨g, 0, none⟩) (X.length + 1) cp) = w4 at *
                  go_wp2_with fail
                  go_roundw
                  case rel => exact ⟨j + 1, _, by go_num, by omega, HRN.out⟩
                  case measure => simp [intOf]; omega
                · have hdd : decide ((j : Int) < (jn : Int)) = false := by simpa using hlt3
                  have hje : j = jn := by omega
                  subst hje
                  go_wp2_with fail
                  go_meet
                  exact ⟨rfl, vx, HRj.out⟩
          case rest =>
            obtain ⟨rfl, vx, hF⟩ := hcut
            have HF := Lib.hid hF
            clear hF
            go_wp2_with fail
            exact bodyPost_ret (results_tmp3 rfl _ _ _) rfl (by rw [Hrd.out]; exact HF.out.post _ _ _)
        · rw [if_neg hk12] at hrd
          have g1 : (k == 1) = false := by simpa using (fun h => hk12 (.inl h))
          have g2 : (k == 2) = false := by simpa using (fun h => hk12 (.inr h))
          by_cases h7 : k = 7
          · rw [if_pos h7] at hrd
            subst h7
            have Hrd := Lib.hid hrd; clear hrd
            obtain ⟨hae, ha1, hn1, han⟩ := HD.out.r7 rfl
            replace hae : at_ = a := hae
            subst hae
            obtain ⟨ja, rfl⟩ := Int.eq_ofNat_of_zero_le ha1
            obtain ⟨jn, rfl⟩ := Int.eq_ofNat_of_zero_le (show 0 ≤ n by omega)
            rw [Int.toNat_natCast, Int.toNat_natCast] at Hrd
            have hLn := Hok.out.ln i hi
            have h2 : r.m.ln i = lnOf r.m.zs i := rfl
            have hb2 := Hok.out.m.b2
            have hlb := (Hok.out.m.each i hi).2.2.2
            have hL : ja + jn ≤ (r.bs.getD i []).length := by omega
            have hL2 : (r.bs.getD i []).length ≤ 4096 := by omega
            have hown := HR.out.I.row i hi2
            obtain ⟨g, cp, hv, -, -⟩ := hown.form (by show 0 < (r.bs.getD i []).length; omega)
            rw [hv] at v1
            replace v1 : wc.cell? ⟨bb, i, none⟩ = some (.slice (some ⟨g, 0, none⟩) (r.bs.getD i []).length cp) := v1
            have Hcell : Hid (∀ j (hj : j < (r.bs.getD i []).length), wc.cell? ⟨g, j, none⟩ = some (.string (r.bs.getD i [])[j])) := fun j hj => by
              rw [hv] at hown
              have := hown.cells (g := g) rfl j _ (sc_get _ j hj)
              rw [Addr.add_lit] at this
              simpa using this
            have Hsz : Hid (∀ x ∈ r.bs.getD i [], x.size = 64) := Hok.out.sz i
            have HL := Lib.hid hL
            clear hown hv hLn h2 hb2 hlb ha1 han
            generalize r.bs.getD i [] = Bi at *
            go_wp2_with fail
            go_loopw [12, 14] (fun s12 s14 wr => ∃ j : Nat, s14 = .int .i64 j ∧ j ≤ jn ∧ s12 = .string (str (catB ((Bi.drop ja).take j))) ∧ ∃ nd, wr = wc.drewN nd) (fun _ s14 _ => jn - (intOf s14).toNat)
            case atStart => exact ⟨0, rfl, Nat.zero_le _, rfl, 0, rfl⟩
            case round =>
              obtain ⟨j, rfl, hj, rfl, nd, rfl⟩ := hrel
              by_cases hlt3 : j < jn
              · have hjl : ja + j < Bi.length := by omega
                have hcell := Hcell.out (ja + j) hjl
                have hs64 := Hsz.out Bi[ja + j] (List.getElem_mem hjl)
                have hbs : (catB ((Bi.drop ja).take j)).length = 64 * j := by
                  rw [catB_len (fun x hx => Hsz.out x (List.mem_of_mem_drop (List.mem_of_mem_take hx))), List.length_take, List.length_drop]; congr 1; omega
                have hA : ∃ A, str (catB ((Bi.drop ja).take j)) = A := ⟨_, rfl⟩
                obtain ⟨A, hA⟩ := hA
                have hAs : A.size = 64 * j := by rw [← hA]; exact hbs
                have hnx : str (catB ((Bi.drop ja).take (j + 1))) = A ++ Bi[ja + j] := by
                  rw [cat_snoc _ j (by rw [List.length_drop]; omega), hA]
                  congr 1
                  simp
                rw [hA]
                generalize Bi[ja + j] = S at *
                have hcat : A.size + S.size ≤ 1000000 := by omega
                have Hnx := Lib.hid hnx
                have m1 : IntKind.i64.wrap ((ja : Int) + (j : Int)) = ((ja + j : Nat) : Int) := by rw [IntWalk.i64_in _ (by omega)]; omega
                clear hA hbs hnx hAs hs64
                go_wp2_with (first | go_quiet (fail))
                go_roundw
                case rel => exact ⟨j + 1, by go_num, by omega, by rw [Hnx.out], _, rfl⟩
                case measure => simp [intOf]; omega
              · have hdd : decide ((j : Int) < (jn : Int)) = false := by simpa using hlt3
                have hje : j = jn := by omega
                subst hje
                go_wp2_with fail
                exact bodyPost_ret (results_tmp3 rfl _ _ _) rfl (by rw [Hrd.out]; exact (HR.out.drewN nd).post _ _ _)
          · rw [if_neg h7] at hrd
            by_cases h3 : k = 3
            · rw [if_pos h3] at hrd
              subst h3
              have Hrd := Lib.hid hrd; clear hrd
              have hS : RDoing bd bm bz bb bl vs 3 i a n w (wc.setCell ⟨bb, i, none⟩ (.slice none 0 0)) { { r with m := m2 } with bs := r.bs.set i [] } (vs.set i (.slice none 0 0)) := HR.out.setB i hi2 (Mod.refl _ _) (.slice none 0 0) [] (World.ownsRow_nil _ _ _ _) (by simp [Value.ownBlock])
              have HS := Lib.hid hS.drew
              clear hS
              go_upto_region 22 with fail
              go_still_tail 7, (by kernel_rfl)
              go_upto_region 23 with fail
              generalize (wc.setCell ⟨bb, i, none⟩ (.slice none 0 0)).drew = wy at *
              clear d1 d2 v1 v2 y1 y2 q0 q1 q3 hlw hlt
              have q1 := HS.out.C.cell (i := 1) rfl
              have d2 : wy.cell? ⟨bd, 2, none⟩ = some (.slice (some ⟨bl, 0, none⟩) m2.zs.length m2.zs.length) := HS.out.I.cells.c2
              have v2 := HS.out.I.cellL (i := i) hi2
              have y2 := HS.out.I.las.frozen i
              have HT := Lib.hid (HS.out.setL i 0).drew
              have hlw := HS.out.C.lt
              have hlt := HS.out.I.cells.lt
              go_still_tail 6, (by kernel_rfl)
              go_wp2_with fail
              exact bodyPost_ret (results_tmp3 rfl _ _ _) rfl (by rw [Hrd.out]; exact HT.out.post _ _ _)
            · rw [if_neg h3] at hrd
              have g3 : (k == 3) = false := by simpa using h3
              by_cases h4 : k = 4
              · rw [if_pos h4] at hrd
                subst h4
                have Hrd := Lib.hid hrd; clear hrd
                obtain ⟨ra, rc, hv⟩ := HR.out.I.slice (i := i) hi2
                rw [hv] at v1
                replace v1 : wc.cell? ⟨bb, i, none⟩ = some (.slice ra (r.bs.getD i []).length rc) := v1
                have HT : Hid (RDoing bd bm bz bb bl vs 4 i a n w (wc.setCell ⟨bl, i, none⟩ (.int .i64 ((r.bs.getD i []).length : Int))).drew { r with m := m2, la := r.la.set i (r.bs.getD i []).length } vs) := (HR.out.setL i (r.bs.getD i []).length).drew
                clear hv
                generalize (r.bs.getD i []).length = L at *
                go_upto_region 25 with fail
                go_still_tail 16, (by kernel_rfl)
                go_wp2_with fail
                exact bodyPost_ret (results_tmp3 rfl _ _ _) rfl (by rw [Hrd.out]; exact HT.out.post _ _ _)
              · rw [if_neg h4] at hrd
                have g4 : (k == 4) = false := by simpa using h4
                have g7 : (k == 7) = false := by simpa using h7
                have Hrd := Lib.hid hrd; clear hrd h7 h3 h4
                go_wp2_with fail
                exact bodyPost_ret (results_tmp3 rfl _ _ _) rfl (by rw [Hrd.out]; exact HR.out.post _ _ _)
      · rw [if_pos he] at hrd
        have heb : (e != 0) = true := by simpa using he
        have Hrd := Lib.hid hrd; clear hrd he
        go_wp2_with fail
        exact bodyPost_ret (results_tmp3 rfl _ _ _) rfl (by rw [Hrd.out]; exact HR.out.post _ _ _)

end Go.Proofs.Ytojceddgmmapdaa
