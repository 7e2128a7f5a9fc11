/-
  The document's drive in the heap (printed by tools/gendr1.py).
  Walks of the document's drive: New, Flush.
  Walk of the document's drive: Do, where nothing is done.
-/
import Derived.Test.YtojceddgmmapdaaDR0
import Derived.Test.YtojceddgmmapdaaD3
import Derived.Test.YtojceddgmmapdaaZQ2
import Derived.Test.YtojceddgmmapdaaD6
import Derived.StillTailTactics
import Derived.Test.YtojceddgmmapdaaD7P
import Derived.Test.YtojceddgmmapdaaZQ7
import Derived.Deep.RegionLaw
import Derived.Deep.AppendLies
import Derived.IntWalk
namespace Go.Proofs.Ytojceddgmmapdaa
open Go.RowKit

def sc (l : List ByteArray) : List Value := l.map Value.string
theorem sc_length (l : List ByteArray) : (sc l).length = l.length := by simp [sc]
theorem sc_append (a b : List ByteArray) : sc (a ++ b) = sc a ++ sc b := by simp [sc]

/-- The document's drive in the heap. -/
structure IsRd (w : World) (bd bm bz bb bl : Nat) (d : Rv) (vs : List Value) : Prop where
  m : IsM RM RZ w bm bz d.m
  drv : Blk w bd #[.pointer (some ⟨bm, 0, none⟩), .slice (some ⟨bb, 0, none⟩) d.m.zs.length d.m.zs.length, .slice (some ⟨bl, 0, none⟩) d.m.zs.length d.m.zs.length, .bool d.dead] 76
  byt : Blk w bb vs.toArray 105
  las : Blk w bl (d.la.map fun n : Nat => Value.int .i64 (n : Int)).toArray 3
  nv : vs.length = d.m.zs.length
  nb : d.bs.length = d.m.zs.length
  nl : d.la.length = d.m.zs.length
  row : ∀ i, i < d.m.zs.length → w.ownsRow 0 9 1 (vs.getD i (.bool false)) (d.bs.getD i []).length (sc (d.bs.getD i []))
  apart : ∀ i j g, i < d.m.zs.length → j < d.m.zs.length → i ≠ j → (vs.getD i (.bool false)).ownBlock = some g → (vs.getD j (.bool false)).ownBlock ≠ some g
  off : ∀ i g, i < d.m.zs.length → (vs.getD i (.bool false)).ownBlock = some g → g ∉ [bd, bm, bz, bb, bl]
  ne : [bd, bm, bz, bb, bl].Nodup

theorem IsRd.mod {w w' : World} {bd bm bz bb bl : Nat} {d : Rv} {vs : List Value} {S : List Nat} (h : IsRd w bd bm bz bb bl d vs) (hm : Mod S w w') (hS : ∀ x ∈ feet bd bm bz bb bl vs, x ∉ S) : IsRd w' bd bm bz bb bl d vs := by
  have h0 : ∀ x ∈ [bd, bm, bz, bb, bl], x ∉ S := fun x hx => hS x (List.mem_append_left _ hx)
  refine ⟨h.m.mod hm (h0 _ (by simp)) (h0 _ (by simp)), hm.blk h.drv (h0 _ (by simp)), hm.blk h.byt (h0 _ (by simp)), hm.blk h.las (h0 _ (by simp)), h.nv, h.nb, h.nl, fun i hi => ?_, h.apart, h.off, h.ne⟩
  refine ownsRow_block (h.row i hi) fun g hg => hm.block g (ownsRow_lt (h.row i hi) hg) (hS g (feet_row hg))

structure RCells (w : World) (bd bm bz bb bl : Nat) (d : Rv) (vs : List Value) : Prop where
  c0 : w.cell? ⟨bd, 0, none⟩ = some (.pointer (some ⟨bm, 0, none⟩))
  c1 : w.cell? ⟨bd, 1, none⟩ = some (.slice (some ⟨bb, 0, none⟩) d.m.zs.length d.m.zs.length)
  c2 : w.cell? ⟨bd, 2, none⟩ = some (.slice (some ⟨bl, 0, none⟩) d.m.zs.length d.m.zs.length)
  c3 : w.cell? ⟨bd, 3, none⟩ = some (.bool d.dead)
  lt : bd < w.heap.size ∧ bm < w.heap.size ∧ bz < w.heap.size ∧ bb < w.heap.size ∧ bl < w.heap.size

theorem IsRd.cells {w : World} {bd bm bz bb bl : Nat} {d : Rv} {vs : List Value} (h : IsRd w bd bm bz bb bl d vs) : RCells w bd bm bz bb bl d vs :=
  ⟨h.drv.cell rfl, h.drv.cell rfl, h.drv.cell rfl, h.drv.cell rfl, h.drv.lt, h.m.lt.1, h.m.lt.2, h.byt.lt, h.las.lt⟩

theorem IsRd.cellB {w : World} {bd bm bz bb bl : Nat} {d : Rv} {vs : List Value} (h : IsRd w bd bm bz bb bl d vs) {i : Nat} (hi : i < d.m.zs.length) : w.cell? ⟨bb, i, none⟩ = some (vs.getD i (.bool false)) := by
  refine h.byt.cell ?_
  have : i < vs.length := by rw [h.nv]; exact hi
  simp [List.getD_eq_getElem?_getD, this]
theorem IsRd.cellL {w : World} {bd bm bz bb bl : Nat} {d : Rv} {vs : List Value} (h : IsRd w bd bm bz bb bl d vs) {i : Nat} (hi : i < d.m.zs.length) : w.cell? ⟨bl, i, none⟩ = some (.int .i64 ((d.la.getD i 0 : Nat) : Int)) := by
  refine h.las.cell ?_
  have : i < d.la.length := by rw [h.nl]; exact hi
  simp [List.getD_eq_getElem?_getD, this]
/-- The slice of a zone's bytes. -/
theorem IsRd.slice {w : World} {bd bm bz bb bl : Nat} {d : Rv} {vs : List Value} (h : IsRd w bd bm bz bb bl d vs) {i : Nat} (hi : i < d.m.zs.length) : ∃ (a : Option Addr) (c : Nat), vs.getD i (.bool false) = .slice a (d.bs.getD i []).length c := by
  obtain ⟨hl, ⟨h1, h2⟩ | ⟨g, cap, cur, h1, _⟩⟩ := h.row i hi
  · exact ⟨none, 0, by rw [h1, h2]⟩
  · exact ⟨_, _, h1⟩

theorem IsRd.nes {w : World} {bd bm bz bb bl : Nat} {d : Rv} {vs : List Value} (h : IsRd w bd bm bz bb bl d vs) : bd ≠ bm ∧ bd ≠ bz ∧ bd ≠ bb ∧ bd ≠ bl ∧ bm ≠ bz ∧ bm ≠ bb ∧ bm ≠ bl ∧ bz ≠ bb ∧ bz ≠ bl ∧ bb ≠ bl := by
  have := h.ne
  simp only [List.nodup_cons, List.mem_cons, List.not_mem_nil, or_false, not_or, not_false_eq_true, List.nodup_nil, and_true] at this
  omega

theorem IsRd.rowOff {w : World} {bd bm bz bb bl : Nat} {d : Rv} {vs : List Value} (h : IsRd w bd bm bz bb bl d vs) {i g : Nat} (hi : i < d.m.zs.length) (hg : (vs.getD i (.bool false)).ownBlock = some g) : g ≠ bd ∧ g ≠ bm ∧ g ≠ bz ∧ g ≠ bb ∧ g ≠ bl := by
  have := h.off i g hi hg
  simp only [List.mem_cons, List.not_mem_nil, or_false, not_or] at this
  exact this

/-- The machine has made a step. -/
theorem IsRd.mach {w w' : World} {bd bm bz bb bl : Nat} {d : Rv} {vs : List Value} {m2 : Mc} (h : IsRd w bd bm bz bb bl d vs) (hM : IsM RM RZ w' bm bz m2) (hl : m2.zs.length = d.m.zs.length) (hm : Mod [bz] w w') : IsRd w' bd bm bz bb bl { d with m := m2 } vs := by
  have hn := h.nes
  refine ⟨hM, by simpa only [hl] using hm.blk h.drv (by simp; omega), hm.blk h.byt (by simp; omega), hm.blk h.las (by simp; omega), h.nv.trans hl.symm, h.nb.trans hl.symm, h.nl.trans hl.symm, fun i hi => ?_, fun i j g hi hj => h.apart i j g (hl ▸ hi) (hl ▸ hj), fun i g hi => h.off i g (hl ▸ hi), h.ne⟩
  have hi' : i < d.m.zs.length := hl ▸ hi
  exact ownsRow_block (h.row i hi') fun g hg => hm.block g (ownsRow_lt (h.row i hi') hg) (by have := h.rowOff hi' hg; simp; omega)

/-- What lasts of zone i is put. -/
theorem IsRd.setL {w : World} {bd bm bz bb bl : Nat} {d : Rv} {vs : List Value} (h : IsRd w bd bm bz bb bl d vs) (i n : Nat) : IsRd (w.setCell ⟨bl, i, none⟩ (.int .i64 (n : Int))) bd bm bz bb bl { d with la := d.la.set i n } vs := by
  have hn := h.nes
  have hm : Mod [bl] w (w.setCell ⟨bl, i, none⟩ (.int .i64 (n : Int))) := (Mod.refl [bl] w).set (by simp) _
  refine ⟨h.m.mod hm (by simp; omega) (by simp; omega), hm.blk h.drv (by simp; omega), hm.blk h.byt (by simp; omega), ?_, h.nv, h.nb, by simpa using h.nl, fun j hj => ?_, h.apart, h.off, h.ne⟩
  · have := h.las.set i (.int .i64 (n : Int))
    rw [List.setIfInBounds_toArray] at this
    simpa only [List.map_set] using this
  · exact ownsRow_block (h.row j hj) fun g hg => hm.block g (ownsRow_lt (h.row j hj) hg) (by have := h.rowOff hj hg; simp; omega)

/-- The bytes of zone i are put: a row of its own, in its old block or in a new one. -/
theorem IsRd.setB {w w1 : World} {bd bm bz bb bl : Nat} {d : Rv} {vs : List Value} (h : IsRd w bd bm bz bb bl d vs) (i : Nat) (hi : i < d.m.zs.length) (S : List Nat) (hm : Mod S w w1)
    (hS : ∀ x ∈ S, (vs.getD i (.bool false)).ownBlock = some x) (v : Value) (l : List ByteArray) (hv : w1.ownsRow 0 9 1 v l.length (sc l)) (hv2 : ∀ g, v.ownBlock = some g → (vs.getD i (.bool false)).ownBlock = some g ∨ w.heap.size ≤ g) :
    IsRd (w1.setCell ⟨bb, i, none⟩ v) bd bm bz bb bl { d with bs := d.bs.set i l } (vs.set i v) := by
  have hn := h.nes
  have hS' : ∀ x ∈ [bd, bm, bz, bb, bl], x ∉ S := fun x hx hs => h.off i x hi (hS x hs) hx
  have hm2 : Mod (bb :: S) w (w1.setCell ⟨bb, i, none⟩ v) := (hm.mono (fun x _ hx => List.mem_cons_of_mem _ hx)).set (by simp) _
  have hc := h.cells.lt
  have hiv : i < vs.length := by rw [h.nv]; exact hi
  have hib : i < d.bs.length := by rw [h.nb]; exact hi
  have hne : ∀ x ∈ [bd, bm, bz, bl], x ∉ bb :: S := by
    intro x hx
    simp only [List.mem_cons, List.not_mem_nil, or_false] at hx
    simp only [List.mem_cons, not_or]
    exact ⟨by omega, hS' x (by simp; omega)⟩
  have hgi : (vs.set i v).getD i (.bool false) = v := by simp [List.getD_eq_getElem?_getD, hiv]
  have hgj : ∀ j, j ≠ i → (vs.set i v).getD j (.bool false) = vs.getD j (.bool false) := fun j hj => by simp [List.getD_eq_getElem?_getD, Ne.symm hj]
  have hbi : (d.bs.set i l).getD i [] = l := by simp [List.getD_eq_getElem?_getD, hib]
  have hbj : ∀ j, j ≠ i → (d.bs.set i l).getD j [] = d.bs.getD j [] := fun j hj => by simp [List.getD_eq_getElem?_getD, Ne.symm hj]
  have hvb : ∀ g, v.ownBlock = some g → g ≠ bb := by
    intro g hg e
    subst e
    rcases hv2 g hg with h1 | h1
    · exact h.off i g hi h1 (by simp)
    · omega
  refine ⟨h.m.mod hm2 (hne _ (by simp)) (hne _ (by simp)), hm2.blk h.drv (hne _ (by simp)), ?_, hm2.blk h.las (hne _ (by simp)), by simpa using h.nv, by simpa using h.nb, h.nl, fun j hj => ?_, fun j k g hj hk hjk hg hg' => ?_, fun j g hj hg hx => ?_, h.ne⟩
  · have := (hm.blk h.byt (hS' _ (by simp))).set i v
    rwa [List.setIfInBounds_toArray] at this
  · show World.ownsRow _ 0 _ 1 ((vs.set i v).getD j _) ((d.bs.set i l).getD j []).length (sc ((d.bs.set i l).getD j []))
    by_cases hji : j = i
    · subst hji
      rw [hgi, hbi]
      exact ownsRow_block hv fun g hg => Below.heap_setCell _ _ _ _ (hvb g hg)
    · rw [hgj j hji, hbj j hji]
      refine ownsRow_block (h.row j hj) fun g hg => hm2.block g (ownsRow_lt (h.row j hj) hg) ?_
      have := h.rowOff hj hg
      simp only [List.mem_cons, not_or]
      exact ⟨by omega, fun hs => h.apart j i g hj hi hji hg (hS g hs)⟩
  · have hlt : ∀ t, t < d.m.zs.length → (vs.getD t (.bool false)).ownBlock = some g → g < w.heap.size := fun t ht e => ownsRow_lt (h.row t ht) e
    by_cases hji : j = i
    · subst hji
      rw [hgi] at hg
      rw [hgj k (Ne.symm hjk)] at hg'
      rcases hv2 g hg with h1 | h1
      · exact h.apart j k g hj hk hjk h1 hg'
      · have := hlt k hk hg'; omega
    · rw [hgj j hji] at hg
      by_cases hki : k = i
      · subst hki
        rw [hgi] at hg'
        rcases hv2 g hg' with h1 | h1
        · exact h.apart j k g hj hk hjk hg h1
        · have := hlt j hj hg; omega
      · rw [hgj k hki] at hg'
        exact h.apart j k g hj hk hjk hg hg'
  · by_cases hji : j = i
    · subst hji
      rw [hgi] at hg
      rcases hv2 g hg with h1 | h1
      · exact h.off j g hj h1 hx
      · simp only [List.mem_cons, List.not_mem_nil, or_false] at hx
        omega
    · rw [hgj j hji] at hg
      exact h.off j g hj hg hx

end Go.Proofs.Ytojceddgmmapdaa

namespace Go.Proofs.Ytojceddgmmapdaa
open Go.RowKit

theorem Try.infoRB : (Try.prog.info? 105).map (fun i => (i.zero, i.size, i.bytes)) = some (some (.agg #[.slice none 0 0]), 1, 24) := by kernel_rfl

theorem make_blocks (n : Nat) (hn : n ≤ 64) (W : World) : (Instr.makeSlice 74 (.int .i64 (n : Int)) (.int .i64 (n : Int))).run Try.prog W = .ok (.slice (some ⟨W.heap.size, 0, none⟩) n n) (W.alloc (.cells (Array.replicate n (.slice none 0 0)) 105)) := by
  obtain ⟨i0, hi, hz0, hz1, hz2⟩ := info_parts Try.infoRB
  have h := run_make W 74 105 i0 _ Try.underlying74 hi hz0 .i64 .i64 (n : Int) (n : Int) (by omega) (by omega) (by rw [hz2]; omega) (by omega)
  rw [h, hz1, Int.toNat_natCast, madeCells_const _ (.slice none 0 0) _ (by decide) (by intro j hj; match j, hj with | 0, _ => rfl)]
  simp

theorem isRd_new {W : World} {bd bm bz bb bl n : Nat} {b o a : Int} (hI : IsM RM RZ W bm bz (newF n b o a))
    (hd : Blk W bd #[.pointer (some ⟨bm, 0, none⟩), .slice (some ⟨bb, 0, none⟩) n n, .slice (some ⟨bl, 0, none⟩) n n, .bool false] 76)
    (hb : Blk W bb (Array.replicate n (.slice none 0 0)) 105) (hl : Blk W bl (Array.replicate n (.int .i64 0)) 3) (hne : [bd, bm, bz, bb, bl].Nodup) :
    IsRd W bd bm bz bb bl (rnewF n b o a) (List.replicate n (.slice none 0 0)) := by
  have hn : (rnewF n b o a).m.zs.length = n := by simp [rnewF, newF]
  have hg : ∀ i, i < n → (List.replicate n (Value.slice none 0 0)).getD i (.bool false) = .slice none 0 0 := fun i hi => by simp [List.getD_eq_getElem?_getD, hi]
  refine ⟨hI, by rw [hn]; exact hd, by simpa using hb, by simpa [rnewF] using hl, by simp [hn], by simp [rnewF, newF], by simp [rnewF, newF], fun i hi => ?_, fun i j g hi _ _ h => ?_, fun i g hi h => ?_, hne⟩
  · rw [hn] at hi
    have hb0 : (rnewF n b o a).bs.getD i [] = [] := by simp [rnewF, List.getD_eq_getElem?_getD, hi]
    rw [hg i hi, hb0]
    exact ⟨rfl, .inl ⟨rfl, rfl⟩⟩
  · rw [hn] at hi
    rw [hg i hi] at h
    cases h
  · rw [hn] at hi
    rw [hg i hi] at h
    cases h

set_option maxHeartbeats 2000000 in
theorem rdnew_no (z b o a : Int) (w : World) (h : newOk z b o a = false) :
    Calls Try.prog 33 #[.int .i64 z, .int .i64 b, .int .i64 o, .int .i64 a] w fun e w' => e = .returned (.pointer none) ∧ w = w' := by
  go_enter Try.func33, Try.ntmps33
  go_wp2_with fail
  refine (rnew_no z b o a _ h).mono ?_
  rintro e w1 ⟨rfl, rfl⟩
  go_wp2_with fail
  go_ret
  exact ⟨rfl, rfl⟩

set_option maxHeartbeats 2000000 in
theorem rdnew_ok (z b o a : Int) (w : World) (h : newOk z b o a = true) :
    Calls Try.prog 33 #[.int .i64 z, .int .i64 b, .int .i64 o, .int .i64 a] w fun e w' => ∃ bd bm bz bb bl vs, e = .returned (.pointer (some ⟨bd, 0, none⟩)) ∧ IsRd w' bd bm bz bb bl (rnewF z b o a) vs ∧ Mod [] w w' ∧ ∀ x ∈ feet bd bm bz bb bl vs, w.heap.size ≤ x := by
  have h' := h
  simp only [newOk, Bool.and_eq_true, decide_eq_true_eq] at h'
  obtain ⟨⟨⟨⟨⟨⟨h1, h2⟩, h3⟩, h4⟩, h5⟩, h6⟩, h7⟩ := h'
  obtain ⟨n, rfl⟩ := Int.eq_ofNat_of_zero_le (show 0 ≤ z by omega)
  have hmb := make_blocks n (by omega)
  have hmi := make_ints n (by omega)
  go_enter Try.func33, Try.ntmps33
  go_wp2_with fail
  refine (rnew_ok n b o a _ h).mono ?_
  rintro e w1 ⟨bm, bz, rfl, hI, hm, hb1, hb2⟩
  have HI := Lib.hid hI
  have Hm := Lib.hid hm
  have hsz := hm.size
  clear hI hm
  have hlt := HI.out.lt
  have hne := HI.out.ne
  have hfe : ∀ bd bb bl x, w.heap.size ≤ bd → w.heap.size ≤ bb → w.heap.size ≤ bl → x ∈ feet bd bm bz bb bl (List.replicate n (.slice none 0 0)) → w.heap.size ≤ x := by
    intro bd bb bl x g1 g2 g3 hx
    rcases List.mem_append.1 hx with hx | hx
    · simp only [List.mem_cons, List.not_mem_nil, or_false] at hx; omega
    · obtain ⟨v, hv, hx⟩ := List.mem_filterMap.1 hx
      rw [(List.mem_replicate.1 hv).2] at hx
      cases hx
  have Hfe := Lib.hid hfe
  clear hfe
  go_wp2_with (first | go_region)
  · go_ret
    refine ⟨w1.heap.size + 1 + 1, bm, bz, w1.heap.size, w1.heap.size + 1, _, rfl, isRd_new (((HI.out.alloc _).alloc _).alloc _).drew (Blk.new2 w1 _ _ _ _).drew (((Blk.new w1 _ _).alloc _).alloc _).drew ((Blk.new1 w1 _ _ _).alloc _).drew ?_, (((Hm.out.alloc _).alloc _).alloc _).drew, fun x hx => Hfe.out _ _ _ x (by omega) (by omega) (by omega) hx⟩
    simp only [List.nodup_cons, List.mem_cons, List.not_mem_nil, or_false, not_or, not_false_eq_true, List.nodup_nil, and_true]
    omega
  · go_ret
    refine ⟨w1.heap.size + 1 + 1, bm, bz, w1.heap.size + 1, w1.heap.size, _, rfl, isRd_new (((HI.out.alloc _).alloc _).alloc _).drew (Blk.new2 w1 _ _ _ _).drew ((Blk.new1 w1 _ _ _).alloc _).drew (((Blk.new w1 _ _).alloc _).alloc _).drew ?_, (((Hm.out.alloc _).alloc _).alloc _).drew, fun x hx => Hfe.out _ _ _ x (by omega) (by omega) (by omega) hx⟩
    simp only [List.nodup_cons, List.mem_cons, List.not_mem_nil, or_false, not_or, not_false_eq_true, List.nodup_nil, and_true]
    omega

theorem IsRd.same {w w' : World} {bd bm bz bb bl : Nat} {d : Rv} {vs : List Value} (h : IsRd w bd bm bz bb bl d vs) (hm : Mod [] w w') : IsRd w' bd bm bz bb bl d vs := h.mod hm (by simp)

/-- The drive with the first k zones flushed. -/
def rflushK (d : Rv) (k : Nat) : Rv := { d with la := (d.bs.map List.length).take k ++ d.la.drop k }

theorem rflushK_zero (d : Rv) : rflushK d 0 = d := by simp [rflushK]
theorem rflushK_succ (d : Rv) (k : Nat) (h1 : k < d.bs.length) (h2 : d.la.length = d.bs.length) : ({ rflushK d k with la := (rflushK d k).la.set k (d.bs.getD k []).length } : Rv) = rflushK d (k + 1) := by
  simp only [rflushK]
  congr 1
  apply List.ext_getElem?
  intro j
  have hl : ((d.bs.map List.length).take k).length = k := by simp; omega
  have hl1 : ((d.bs.map List.length).take (k + 1)).length = k + 1 := by simp; omega
  by_cases hj : j = k
  · subst hj
    rw [List.getElem?_set_self (by simp; omega), List.getElem?_append_left (by omega)]
    simp [List.getD_eq_getElem?_getD, h1]
  · rw [List.getElem?_set_ne (Ne.symm hj)]
    by_cases hlt : j < k
    · rw [List.getElem?_append_left (by omega), List.getElem?_append_left (by omega), List.getElem?_take_of_lt hlt, List.getElem?_take_of_lt (by omega)]
    · rw [List.getElem?_append_right (by omega), List.getElem?_append_right (by omega), hl, hl1, List.getElem?_drop, List.getElem?_drop]
      congr 1; omega
theorem rflushK_all (d : Rv) (h1 : d.la.length = d.bs.length) : rflushK d d.bs.length = { d with la := d.bs.map List.length } := by
  simp only [rflushK]
  congr 1
  rw [List.drop_of_length_le (by omega), List.append_nil, List.take_of_length_le (by simp)]

set_option maxHeartbeats 2000000 in
set_option maxRecDepth 100000 in
theorem rdflush_any (bd bm bz bb bl : Nat) (d : Rv) (vs : List Value) (w : World) (hI : IsRd w bd bm bz bb bl d vs) (h64 : d.m.zs.length ≤ 64) :
    Calls Try.prog 34 #[.pointer (some ⟨bd, 0, none⟩)] w fun e w' => e = .returned (.int .i64 (rflushF d).1) ∧ IsRd w' bd bm bz bb bl (rflushF d).2 vs ∧ Mod [bl] w w' := by
  have c3 := hI.cells.c3
  have HI := Lib.hid hI; clear hI
  have hn1 := HI.out.nb
  have hn2 := HI.out.nl
  cases hd : d.dead with
  | true =>
    have hf : rflushF d = (7, d) := by simp [rflushF, hd]
    rw [hf]
    rw [hd] at c3
    go_enter Try.func34, Try.ntmps34
    go_wp2_with fail
    go_ret
    exact ⟨rfl, HI.out, Mod.refl _ _⟩
  | false =>
    have hf : rflushF d = (0, rflushK d d.bs.length) := by rw [rflushK_all d (by omega)]; simp [rflushF, hd]
    rw [hf]
    rw [hd] at c3
    have Hd := Lib.hid hd
    clear hf hd
    go_enter Try.func34, Try.ntmps34
    go_wp2_with fail
    go_loopw [3] (fun s wr => ∃ k : Nat, s = .int .i64 k ∧ k ≤ d.m.zs.length ∧ IsRd wr bd bm bz bb bl (rflushK d k) vs ∧ Mod [bl] w wr) (fun s _ => 64 - (intOf s).toNat)
    case atStart => exact ⟨0, rfl, Nat.zero_le _, by rw [rflushK_zero]; exact HI.out, Mod.refl _ _⟩
    case round =>
      obtain ⟨k, rfl, hk, hIk, hmk⟩ := hrel
      have HIk := Lib.hid hIk; have Hmk := Lib.hid hmk
      clear hIk hmk
      have c1 : wr.cell? ⟨bd, 1, none⟩ = some (.slice (some ⟨bb, 0, none⟩) d.m.zs.length d.m.zs.length) := HIk.out.cells.c1
      by_cases hlt : k < d.m.zs.length
      · have c2 : wr.cell? ⟨bd, 2, none⟩ = some (.slice (some ⟨bl, 0, none⟩) d.m.zs.length d.m.zs.length) := HIk.out.cells.c2
        have hfz := HIk.out.las.frozen k
        have hlt2 := HIk.out.cells.lt
        have cl := HIk.out.cellL (i := k) hlt
        have cb := HIk.out.cellB (i := k) hlt
        obtain ⟨ra, rc, hv⟩ := HIk.out.slice (i := k) hlt
        rw [hv] at cb
        replace cb : wr.cell? ⟨bb, k, none⟩ = some (.slice ra (d.bs.getD k []).length rc) := cb
        have hst := HIk.out.setL k (d.bs.getD k []).length
        have hst : IsRd (wr.setCell ⟨bl, k, none⟩ (.int .i64 ((d.bs.getD k []).length : Int))) bd bm bz bb bl (rflushK d (k + 1)) vs := by
          rw [← rflushK_succ d k (by omega) (by omega)]; exact hst
        have Hst := Lib.hid hst
        clear hst hv
        generalize (d.bs.getD k []).length = L at *
        go_upto_region 6 with fail
        go_still_tail 14, (by kernel_rfl)
        go_wp2_with fail
        all_goals
          refine ⟨⟨k + 1, rfl, by omega, Hst.out.same (Mod.refl [] _).drew, (Hmk.out.set (by simp) _).drew⟩, by simp [intOf]; omega⟩
      · have hdd : decide (k < d.m.zs.length) = false := by simpa using hlt
        go_wp2_with fail
        go_ret
        have e : k = d.bs.length := by omega
        subst e
        exact ⟨rfl, HIk.out, Hmk.out⟩

end Go.Proofs.Ytojceddgmmapdaa

namespace Go.Proofs.Ytojceddgmmapdaa
open Go.RowKit

/-- What the document's drive holds to. -/
structure Rv.ok (r : Rv) : Prop where
  m : r.m.ok
  held : r.m.held
  sz : ∀ i, ∀ s ∈ r.bs.getD i [], s.size = 64
  ln : ∀ i, i < r.m.zs.length → ((r.bs.getD i []).length : Int) = lnOf r.m.zs i
  la : ∀ i, i < r.m.zs.length → r.la.getD i 0 ≤ (r.bs.getD i []).length

theorem Sim.ok {d : Dv} {r : Rv} (h : Sim d r) (hok : d.ok) (hh : d.m.held) : r.ok := by
  refine ⟨h.m ▸ hok.m, h.m ▸ hh, fun i => (h.each i).1, fun i hi => ?_, fun i hi => ?_⟩
  · rw [← h.m] at hi ⊢
    have h1 := (hok.each i hi).1
    have h2 := h.len i
    omega
  · rw [← h.m] at hi
    have h1 := (hok.each i hi).2
    have h2 := h.len i
    rw [← h.la]
    omega

/-- What Do leaves. -/
def RDPost (bd bm bz bb bl : Nat) (vs : List Value) (r : (ByteArray × Int × Int) × Rv) (w : World) (e : Ending) (w' : World) : Prop :=
  e = .returned (.tuple #[.string r.1.1, .int .i64 r.1.2.1, .int .i64 r.1.2.2]) ∧ ∃ vs', IsRd w' bd bm bz bb bl r.2 vs' ∧ Mod (feet bd bm bz bb bl vs) w w' ∧ ∀ x ∈ feet bd bm bz bb bl vs', x ∈ feet bd bm bz bb bl vs ∨ w.heap.size ≤ x

/-- Within Do: the drive, the command's block. -/
structure RDoing (bd bm bz bb bl : Nat) (vs : List Value) (k z a n : Int) (w wx : World) (r : Rv) (vx : List Value) : Prop where
  I : IsRd wx bd bm bz bb bl r vx
  C : Blk wx w.heap.size #[.int .i64 k, .int .i64 z, .int .i64 a, .int .i64 n] 50
  M : Mod (feet bd bm bz bb bl vs) w wx
  F : ∀ x ∈ feet bd bm bz bb bl vx, x ∈ feet bd bm bz bb bl vs ∨ w.heap.size < x
  L : ∀ x ∈ feet bd bm bz bb bl vs, x < w.heap.size

theorem IsRd.feet_lt {w : World} {bd bm bz bb bl : Nat} {d : Rv} {vs : List Value} (h : IsRd w bd bm bz bb bl d vs) : ∀ x ∈ feet bd bm bz bb bl vs, x < w.heap.size := by
  intro x hx
  rcases List.mem_append.1 hx with hx | hx
  · have := h.cells.lt
    simp only [List.mem_cons, List.not_mem_nil, or_false] at hx
    omega
  · obtain ⟨v, hv, hx⟩ := List.mem_filterMap.1 hx
    obtain ⟨i, hi, rfl⟩ := List.getElem_of_mem hv
    have hi' : i < d.m.zs.length := by rw [← h.nv]; exact hi
    refine ownsRow_lt (h.row i hi') ?_
    rw [List.getD_eq_getElem?_getD, List.getElem?_eq_getElem hi]
    exact hx

theorem RDoing.start {bd bm bz bb bl : Nat} {vs : List Value} (k z a n : Int) {w : World} {r : Rv} (h : IsRd w bd bm bz bb bl r vs) :
    RDoing bd bm bz bb bl vs k z a n w (w.alloc (.cells #[.int .i64 k, .int .i64 z, .int .i64 a, .int .i64 n] 50)) r vs :=
  ⟨h.same ((Mod.refl [] w).alloc _), Blk.new w _ _, (Mod.refl _ w).alloc _, fun _ hx => .inl hx, h.feet_lt⟩

theorem RDoing.post {bd bm bz bb bl : Nat} {vs : List Value} {k z a n : Int} {w wx : World} {r : Rv} {vx : List Value} (h : RDoing bd bm bz bb bl vs k z a n w wx r vx) (s : ByteArray) (p e : Int) :
    RDPost bd bm bz bb bl vs ((s, p, e), r) w (.returned (.tuple #[.string s, .int .i64 p, .int .i64 e])) wx :=
  ⟨rfl, vx, h.I, h.M, fun x hx => (h.F x hx).imp id (fun h => Nat.le_of_lt h)⟩

theorem RDoing.same {bd bm bz bb bl : Nat} {vs : List Value} {k z a n : Int} {w wx wy : World} {r : Rv} {vx : List Value} (h : RDoing bd bm bz bb bl vs k z a n w wx r vx) (hm : Mod [] wx wy) : RDoing bd bm bz bb bl vs k z a n w wy r vx :=
  ⟨h.I.same hm, hm.blk h.C (by simp), h.M.trans' (hm.mono (by simp)), h.F, h.L⟩
theorem RDoing.drew {bd bm bz bb bl : Nat} {vs : List Value} {k z a n : Int} {w wx : World} {r : Rv} {vx : List Value} (h : RDoing bd bm bz bb bl vs k z a n w wx r vx) : RDoing bd bm bz bb bl vs k z a n w wx.drew r vx := h.same (Mod.refl [] _).drew
theorem RDoing.drewN {bd bm bz bb bl : Nat} {vs : List Value} {k z a n : Int} {w wx : World} {r : Rv} {vx : List Value} (h : RDoing bd bm bz bb bl vs k z a n w wx r vx) (j : Nat) : RDoing bd bm bz bb bl vs k z a n w (wx.drewN j) r vx := h.same ((Mod.refl [] _).drewN _)

theorem RDoing.off {bd bm bz bb bl : Nat} {vs : List Value} {k z a n : Int} {w wx : World} {r : Rv} {vx : List Value} (h : RDoing bd bm bz bb bl vs k z a n w wx r vx) : w.heap.size ∉ feet bd bm bz bb bl vx := fun hx => by
  rcases h.F _ hx with h1 | h1
  · have := h.L _ h1; omega
  · omega

/-- The machine has made a step. -/
theorem RDoing.mach {bd bm bz bb bl : Nat} {vs : List Value} {k z a n : Int} {w wx wy : World} {r : Rv} {vx : List Value} {m2 : Mc} (h : RDoing bd bm bz bb bl vs k z a n w wx r vx) (hM : IsM RM RZ wy bm bz m2) (hl : m2.zs.length = r.m.zs.length) (hm : Mod [bz] wx wy) : RDoing bd bm bz bb bl vs k z a n w wy { r with m := m2 } vx :=
  ⟨h.I.mach hM hl hm, hm.blk h.C (by intro hx; simp at hx; have := h.L bz (feet_head (by simp)); omega), h.M.trans' (hm.mono (fun i _ hi => by simp at hi; subst hi; exact feet_head (by simp))), h.F, h.L⟩

/-- What lasts is put. -/
theorem RDoing.setL {bd bm bz bb bl : Nat} {vs : List Value} {k z a n : Int} {w wx : World} {r : Rv} {vx : List Value} (h : RDoing bd bm bz bb bl vs k z a n w wx r vx) (i x : Nat) : RDoing bd bm bz bb bl vs k z a n w (wx.setCell ⟨bl, i, none⟩ (.int .i64 (x : Int))) { r with la := r.la.set i x } vx :=
  ⟨h.I.setL i x, h.C.set_other (by show bl ≠ w.heap.size; have := h.L bl (feet_head (by simp)); omega) _, h.M.set (.inl (feet_head (by simp))) _, h.F, h.L⟩

/-- The rows of a zone are put. -/
theorem RDoing.setB {bd bm bz bb bl : Nat} {vs : List Value} {k z a n : Int} {w wx wy : World} {r : Rv} {vx : List Value} (h : RDoing bd bm bz bb bl vs k z a n w wx r vx) (i : Nat) (hi : i < r.m.zs.length) (hm : Mod (vx.getD i (.bool false)).ownBlock.toList wx wy)
    (v : Value) (l : List ByteArray) (hv : wy.ownsRow 0 9 1 v l.length (sc l)) (hv2 : ∀ g, v.ownBlock = some g → (vx.getD i (.bool false)).ownBlock = some g ∨ wx.heap.size ≤ g) :
    RDoing bd bm bz bb bl vs k z a n w (wy.setCell ⟨bb, i, none⟩ v) { r with bs := r.bs.set i l } (vx.set i v) := by
  have hw := h.C.lt
  have hrow : ∀ g, (vx.getD i (.bool false)).ownBlock = some g → g ∈ feet bd bm bz bb bl vx := fun g hg => feet_row hg
  refine ⟨h.I.setB i hi _ hm (fun x hx => Option.mem_toList.1 hx) v l hv hv2, ?_, ?_, fun x hx => ?_, h.L⟩
  · refine Blk.set_other (hm.blk h.C (fun hx => h.off (hrow _ (Option.mem_toList.1 hx)))) ?_ _
    show bb ≠ w.heap.size
    have := h.L bb (feet_head (by simp)); omega
  · refine Mod.set (h.M.trans hm (T := feet bd bm bz bb bl vs) (fun j hj hx => ?_)) (.inl (feet_head (by simp))) _
    rcases hx with hx | hx
    · exact hx
    · rcases h.F j (hrow _ (Option.mem_toList.1 hx)) with h1 | h1
      · exact h1
      · omega
  · rcases feet_set hx with hx | hx
    · exact h.F x hx
    · rcases hv2 x hx with h1 | h1
      · exact h.F x (hrow x h1)
      · right; omega

set_option maxRecDepth 100000 in
theorem rddo_dead (bd bm bz bb bl : Nat) (r : Rv) (vs : List Value) (k z a n : Int) (s : ByteArray) (w : World) (hI : IsRd w bd bm bz bb bl r vs) (hd : r.dead = true) :
    Calls Try.prog 37 #[.pointer (some ⟨bd, 0, none⟩), .agg #[.int .i64 k, .int .i64 z, .int .i64 a, .int .i64 n], .string s] w (RDPost bd bm bz bb bl vs (rddoF r k z a n s) w) := by
  have c3 := hI.cells.c3
  have hlt := hI.cells.lt
  rw [hd] at c3
  have H0 := Lib.hid (RDoing.start k z a n hI); clear hI
  have hf : rddoF r k z a n s = ((ByteArray.empty, 0, 7), r) := by simp [rddoF, hd]
  rw [hf]
  go_enter Try.func37, Try.ntmps37
  go_wp2_with fail
  refine bodyPost_ret (results_tmp3 rfl _ _ _) rfl ?_
  exact H0.out.post _ _ _

set_option maxHeartbeats 2000000 in
set_option maxRecDepth 100000 in
theorem rddo_bad (bd bm bz bb bl : Nat) (r : Rv) (vs : List Value) (k z a n : Int) (s : ByteArray) (w : World) (hI : IsRd w bd bm bz bb bl r vs) (hd : r.dead = false) (hs : s.size ≤ 68719476736)
    (hb : ((k = 1 ∨ k = 2) ∧ 1073741824 < n) ∨ (s.size : Int) ≠ (if (k = 1 ∨ k = 2) ∧ 0 < n then 64 * n else 0)) :
    Calls Try.prog 37 #[.pointer (some ⟨bd, 0, none⟩), .agg #[.int .i64 k, .int .i64 z, .int .i64 a, .int .i64 n], .string s] w (RDPost bd bm bz bb bl vs (rddoF r k z a n s) w) := by
  have c3 := hI.cells.c3
  have hlt := hI.cells.lt
  rw [hd] at c3
  have H0 := Lib.hid (RDoing.start k z a n hI); clear hI
  have hf : rddoF r k z a n s = ((ByteArray.empty, 0, 1), r) := by
    unfold rddoF
    rw [hd, if_neg (by simp)]
    by_cases h1 : (k = 1 ∨ k = 2) ∧ 1073741824 < n
    · rw [if_pos h1]
    · rw [if_neg h1, if_pos (hb.resolve_left h1)]
  rw [hf]
  have Hb := Lib.hid hb; clear hb hf
  by_cases hk : k = 1 ∨ k = 2
  · by_cases hn : 0 < n
    · by_cases hn2 : 1073741824 < n
      · rcases hk with rfl | rfl
        · go_enter Try.func37, Try.ntmps37
          go_wp2_with (first | go_quiet (fail))
          exact bodyPost_ret (results_tmp3 rfl _ _ _) rfl (H0.out.post _ _ _)
        · go_enter Try.func37, Try.ntmps37
          go_wp2_with (first | go_quiet (fail))
          exact bodyPost_ret (results_tmp3 rfl _ _ _) rfl (H0.out.post _ _ _)
      · have hn3 : decide (1073741824 < n) = false := by simpa using hn2
        have hq : ((s.size : Int) != 64 * n) = true := by
          have := Hb.out.resolve_left (fun h => hn2 h.2)
          rw [if_pos ⟨hk, hn⟩] at this
          simpa using this
        have hw : IntKind.i64.wrap (64 * n) = 64 * n := IntWalk.i64_in _ (by omega)
        rcases hk with rfl | rfl
        · go_enter Try.func37, Try.ntmps37
          go_wp2_with (first | go_quiet (fail))
          exact bodyPost_ret (results_tmp3 rfl _ _ _) rfl (H0.out.post _ _ _)
        · go_enter Try.func37, Try.ntmps37
          go_wp2_with (first | go_quiet (fail))
          exact bodyPost_ret (results_tmp3 rfl _ _ _) rfl (H0.out.post _ _ _)
    · have hn3 : decide (0 < n) = false := by simpa using hn
      have hq : ((s.size : Int) != 0) = true := by
        have := Hb.out.resolve_left (fun h => by omega)
        rw [if_neg (fun h => hn h.2)] at this
        simpa using this
      rcases hk with rfl | rfl
      · go_enter Try.func37, Try.ntmps37
        go_wp2_with (first | go_quiet (fail))
        exact bodyPost_ret (results_tmp3 rfl _ _ _) rfl (H0.out.post _ _ _)
      · go_enter Try.func37, Try.ntmps37
        go_wp2_with (first | go_quiet (fail))
        exact bodyPost_ret (results_tmp3 rfl _ _ _) rfl (H0.out.post _ _ _)
  · have h1 : (k == 1) = false := by simpa using (fun h => hk (.inl h))
    have h2 : (k == 2) = false := by simpa using (fun h => hk (.inr h))
    have hq : ((s.size : Int) != 0) = true := by
      have := Hb.out.resolve_left (fun h => hk h.1)
      rw [if_neg (fun h => hk h.1)] at this
      simpa using this
    go_enter Try.func37, Try.ntmps37
    go_wp2_with (first | go_quiet (fail))
    exact bodyPost_ret (results_tmp3 rfl _ _ _) rfl (H0.out.post _ _ _)

end Go.Proofs.Ytojceddgmmapdaa
