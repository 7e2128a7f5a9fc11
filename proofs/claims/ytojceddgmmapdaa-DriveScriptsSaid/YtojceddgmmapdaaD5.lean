/-
  Walk of the drive's New.
-/
import Derived.Test.YtojceddgmmapdaaD4
namespace Go.Proofs.Ytojceddgmmapdaa
open Go.RowKit

theorem Try.infoBs : (Try.prog.info? 97).map (fun i => (i.zero, i.size, i.bytes)) = some (some (.slice none 0 0), 1, 24) := by kernel_rfl
theorem Try.infoIn : (Try.prog.info? 3).map (fun i => (i.zero, i.size, i.bytes)) = some (some (.int .i64 0), 1, 8) := by kernel_rfl

theorem make_bytess (n : Nat) (hn : n ≤ 64) (W : World) : (Instr.makeSlice 98 (.int .i64 (n : Int)) (.int .i64 (n : Int))).run Try.prog W = .ok (.slice (some ⟨W.heap.size, 0, none⟩) n n) (W.alloc (.cells (Array.replicate n (.slice none 0 0)) 97)) := by
  obtain ⟨i0, hi, hz0, hz1, hz2⟩ := info_parts Try.infoBs
  have h := run_make W 98 97 i0 _ Try.underlying98 hi hz0 .i64 .i64 (n : Int) (n : Int) (by omega) (by omega) (by rw [hz2]; omega) (by omega)
  rw [h, hz1, Int.toNat_natCast, madeCells_const _ (.slice none 0 0) _ (by decide) (by intro j hj; match j, hj with | 0, _ => rfl)]
  simp

theorem make_ints (n : Nat) (hn : n ≤ 64) (W : World) : (Instr.makeSlice 41 (.int .i64 (n : Int)) (.int .i64 (n : Int))).run Try.prog W = .ok (.slice (some ⟨W.heap.size, 0, none⟩) n n) (W.alloc (.cells (Array.replicate n (.int .i64 0)) 3)) := by
  obtain ⟨i0, hi, hz0, hz1, hz2⟩ := info_parts Try.infoIn
  have h := run_make W 41 3 i0 _ Try.underlying41 hi hz0 .i64 .i64 (n : Int) (n : Int) (by omega) (by omega) (by rw [hz2]; omega) (by omega)
  rw [h, hz1, Int.toNat_natCast, madeCells_const _ (.int .i64 0) _ (by decide) (by intro j hj; match j, hj with | 0, _ => rfl)]
  simp

theorem Blk.new1 (w : World) (o : Obj) (C : Array Value) (E : TypeId) : Blk ((w.alloc o).alloc (.cells C E)) (w.heap.size + 1) C E := by
  have := Blk.new (w.alloc o) C E
  simpa using this
theorem Blk.new2 (w : World) (o o' : Obj) (C : Array Value) (E : TypeId) : Blk (((w.alloc o).alloc o').alloc (.cells C E)) (w.heap.size + 1 + 1) C E := by
  have := Blk.new ((w.alloc o).alloc o') C E
  simpa using this

theorem isD_new {W : World} {bd bm bz bb bl n : Nat} {b o a : Int} (hI : IsM TM TZ W bm bz (newF n b o a))
    (hd : Blk W bd #[.pointer (some ⟨bm, 0, none⟩), .slice (some ⟨bb, 0, none⟩) n n, .slice (some ⟨bl, 0, none⟩) n n, .bool false] 100)
    (hb : Blk W bb (Array.replicate n (.slice none 0 0)) 97) (hl : Blk W bl (Array.replicate n (.int .i64 0)) 3) (hne : [bd, bm, bz, bb, bl].Nodup) :
    IsD W bd bm bz bb bl (dnewF n b o a) (List.replicate n (.slice none 0 0)) := by
  have hn : (dnewF n b o a).m.zs.length = n := by simp [dnewF, newF]
  have hg : ∀ i, i < n → (List.replicate n (Value.slice none 0 0)).getD i (.bool false) = .slice none 0 0 := fun i hi => by simp [List.getD_eq_getElem?_getD, hi]
  refine ⟨hI, by rw [hn]; exact hd, by simpa using hb, by simpa [dnewF] using hl, by simp [hn], by simp [dnewF, newF], by simp [dnewF, newF], fun i hi => ?_, fun i j g hi _ _ h => ?_, fun i g hi h => ?_, hne⟩
  · rw [hn] at hi
    have hb0 : (dnewF n b o a).bs.getD i [] = [] := by simp [dnewF, List.getD_eq_getElem?_getD, hi]
    rw [hg i hi, hb0]
    exact ⟨rfl, .inl ⟨rfl, rfl⟩⟩
  · rw [hn] at hi
    rw [hg i hi] at h
    cases h
  · rw [hn] at hi
    rw [hg i hi] at h
    cases h

set_option maxHeartbeats 2000000 in
theorem dnew_no (z b o a : Int) (w : World) (h : newOk z b o a = false) :
    Calls Try.prog 26 #[.int .i64 z, .int .i64 b, .int .i64 o, .int .i64 a] w fun e w' => e = .returned (.tuple #[.pointer none, .int .i64 1]) ∧ w = w' := by
  go_enter Try.func26, Try.ntmps26
  go_wp2_with fail
  refine (znew_no z b o a _ h).mono ?_
  rintro e w1 ⟨rfl, rfl⟩
  go_wp2_with fail
  go_ret2
  exact ⟨rfl, rfl⟩

set_option maxHeartbeats 2000000 in
theorem dnew_ok (z b o a : Int) (w : World) (h : newOk z b o a = true) :
    Calls Try.prog 26 #[.int .i64 z, .int .i64 b, .int .i64 o, .int .i64 a] w fun e w' => ∃ bd bm bz bb bl vs, e = .returned (.tuple #[.pointer (some ⟨bd, 0, none⟩), .int .i64 0]) ∧ IsD w' bd bm bz bb bl (dnewF z b o a) vs ∧ Mod [] w w' ∧ ∀ x ∈ feet bd bm bz bb bl vs, w.heap.size ≤ x := by
  have h' := h
  simp only [newOk, Bool.and_eq_true, decide_eq_true_eq] at h'
  obtain ⟨⟨⟨⟨⟨⟨h1, h2⟩, h3⟩, h4⟩, h5⟩, h6⟩, h7⟩ := h'
  obtain ⟨n, rfl⟩ := Int.eq_ofNat_of_zero_le (show 0 ≤ z by omega)
  have hmb := make_bytess n (by omega)
  have hmi := make_ints n (by omega)
  go_enter Try.func26, Try.ntmps26
  go_wp2_with fail
  refine (znew_ok n b o a _ h).mono ?_
  rintro e w1 ⟨bm, bz, rfl, hI, hm, hb1, hb2⟩
  have HI := Lib.hid hI
  have Hm := Lib.hid hm
  have hsz := hm.size
  clear hI hm
  have hlt := HI.out.lt
  have hne := HI.out.ne
  have hfe : ∀ bd bb bl x, w.heap.size ≤ bd → w.heap.size ≤ bb → w.heap.size ≤ bl → x ∈ feet bd bm bz bb bl (List.replicate n (.slice none 0 0)) → w.heap.size ≤ x := by
    intro bd bb bl x g1 g2 g3 hx
    rcases List.mem_append.1 hx with hx | hx
    · simp only [List.mem_cons, List.not_mem_nil, or_false] at hx; omega
    · obtain ⟨v, hv, hx⟩ := List.mem_filterMap.1 hx
      rw [(List.mem_replicate.1 hv).2] at hx
      cases hx
  have Hfe := Lib.hid hfe
  clear hfe
  go_wp2_with (first | go_region)
  · go_ret2
    refine ⟨w1.heap.size + 1 + 1, bm, bz, w1.heap.size, w1.heap.size + 1, _, rfl, isD_new (((HI.out.alloc _).alloc _).alloc _).drew (Blk.new2 w1 _ _ _ _).drew (((Blk.new w1 _ _).alloc _).alloc _).drew ((Blk.new1 w1 _ _ _).alloc _).drew ?_, (((Hm.out.alloc _).alloc _).alloc _).drew, fun x hx => Hfe.out _ _ _ x (by omega) (by omega) (by omega) hx⟩
    simp only [List.nodup_cons, List.mem_cons, List.not_mem_nil, or_false, not_or, not_false_eq_true, List.nodup_nil, and_true]
    omega
  · go_ret2
    refine ⟨w1.heap.size + 1 + 1, bm, bz, w1.heap.size + 1, w1.heap.size, _, rfl, isD_new (((HI.out.alloc _).alloc _).alloc _).drew (Blk.new2 w1 _ _ _ _).drew ((Blk.new1 w1 _ _ _).alloc _).drew (((Blk.new w1 _ _).alloc _).alloc _).drew ?_, (((Hm.out.alloc _).alloc _).alloc _).drew, fun x hx => Hfe.out _ _ _ x (by omega) (by omega) (by omega) hx⟩
    simp only [List.nodup_cons, List.mem_cons, List.not_mem_nil, or_false, not_or, not_false_eq_true, List.nodup_nil, and_true]
    omega

end Go.Proofs.Ytojceddgmmapdaa
