/-
  The drive as a plain Lean function, and how it lies in the heap.
-/
import Derived.Test.YtojceddgmmapdaaZ9
import Derived.Test.YtojceddgmmapdaaZP2
import Derived.Lib.AppendStr
namespace Go.Proofs.Ytojceddgmmapdaa
open Go.RowKit

/-- A drive: its zones' machine, the bytes of each zone, how many blocks of each last, whether it died. -/
structure Dv where
  m : Mc
  bs : List (List UInt8)
  la : List Nat
  dead : Bool

/-- What a drive holds to: of each zone 64 bytes a block; no more lasts than there is. -/
structure Dv.ok (d : Dv) : Prop where
  m : d.m.ok
  nb : d.bs.length = d.m.zs.length
  nl : d.la.length = d.m.zs.length
  each : ∀ i, i < d.m.zs.length → ((d.bs.getD i []).length : Int) = 64 * lnOf d.m.zs i ∧ d.la.getD i 0 * 64 ≤ (d.bs.getD i []).length

def bc (l : List UInt8) : List Value := l.map fun b => Value.int .u8 b.toNat

theorem bc_length (l : List UInt8) : (bc l).length = l.length := by simp [bc]
theorem bc_append (a b : List UInt8) : bc (a ++ b) = bc a ++ bc b := by simp [bc]
theorem strCells_bc (s : ByteArray) : Lib.strCells s = bc s.data.toList := rfl

def writesF (k : Int) : Bool := k == 1 || k == 2
def fitsF (k n : Int) (s : ByteArray) : Bool :=
  if writesF k = false ∨ n < 0 then s.toList.isEmpty else decide ((s.size : Int) % 64 = 0) && ((s.size : Int) / 64 == n)

def str (l : List UInt8) : ByteArray := ⟨l.toArray⟩

/-- Do, with data. -/
def ddoF (d : Dv) (k z a n : Int) (s : ByteArray) : (ByteArray × Int × Int) × Dv :=
  if d.dead then ((ByteArray.empty, 0, 7), d)
  else if !fitsF k n s then ((ByteArray.empty, 0, 1), d)
  else
    let r := doF d.m k z a n
    if r.1.2 ≠ 0 then ((ByteArray.empty, 0, r.1.2), { d with m := r.2 })
    else if k = 1 ∨ k = 2 then ((ByteArray.empty, r.1.1, 0), { d with m := r.2, bs := d.bs.set z.toNat (d.bs.getD z.toNat [] ++ s.data.toList) })
    else if k = 7 then ((str (((d.bs.getD z.toNat []).drop (r.1.1.toNat * 64)).take (n.toNat * 64)), r.1.1, 0), { d with m := r.2 })
    else if k = 3 then ((ByteArray.empty, r.1.1, 0), { d with m := r.2, bs := d.bs.set z.toNat [], la := d.la.set z.toNat 0 })
    else if k = 4 then ((ByteArray.empty, r.1.1, 0), { d with m := r.2, la := d.la.set z.toNat ((d.bs.getD z.toNat []).length / 64) })
    else ((ByteArray.empty, r.1.1, 0), { d with m := r.2 })

def dflushF (d : Dv) : Int × Dv :=
  if d.dead then (7, d) else (0, { d with la := d.bs.map fun b => b.length / 64 })

def drestF (n by_ : Int) : Int := (if n < 0 then -(n + 1) else n) % by_

/-- How many blocks a loss of power leaves of zone i. -/
def leftF (d : Dv) (keep : List Int) (i : Nat) : Nat :=
  if keep.length = 0 then d.la.getD i 0
  else d.la.getD i 0 + (drestF (keep.getD (i % keep.length) 0) (((d.bs.getD i []).length / 64 : Nat) - (d.la.getD i 0 : Int) + 1)).toNat

def leftsF (d : Dv) (keep : List Int) : List Nat := (List.range d.m.zs.length).map (leftF d keep)

def dloseF (d : Dv) (keep : List Int) : Dv :=
  { d with
    m := { d.m with zs := lostL ((leftsF d keep).map fun n : Nat => (n : Int)) d.m.zs }
    bs := (List.range d.m.zs.length).map fun i => (d.bs.getD i []).take (leftF d keep i * 64)
    la := leftsF d keep }

def dnewF (z b o a : Int) : Dv := ⟨newF z b o a, List.replicate z.toNat [], List.replicate z.toNat 0, false⟩

/-- A drive in the heap. -/
structure IsD (w : World) (bd bm bz bb bl : Nat) (d : Dv) (vs : List Value) : Prop where
  m : IsM TM TZ w bm bz d.m
  drv : Blk w bd #[.pointer (some ⟨bm, 0, none⟩), .slice (some ⟨bb, 0, none⟩) d.m.zs.length d.m.zs.length, .slice (some ⟨bl, 0, none⟩) d.m.zs.length d.m.zs.length, .bool d.dead] 100
  byt : Blk w bb vs.toArray 97
  las : Blk w bl (d.la.map fun n : Nat => Value.int .i64 (n : Int)).toArray 3
  nv : vs.length = d.m.zs.length
  nb : d.bs.length = d.m.zs.length
  nl : d.la.length = d.m.zs.length
  row : ∀ i, i < d.m.zs.length → w.ownsRow 0 5 1 (vs.getD i (.bool false)) (d.bs.getD i []).length (bc (d.bs.getD i []))
  apart : ∀ i j g, i < d.m.zs.length → j < d.m.zs.length → i ≠ j → (vs.getD i (.bool false)).ownBlock = some g → (vs.getD j (.bool false)).ownBlock ≠ some g
  off : ∀ i g, i < d.m.zs.length → (vs.getD i (.bool false)).ownBlock = some g → g ∉ [bd, bm, bz, bb, bl]
  ne : [bd, bm, bz, bb, bl].Nodup

def feet (bd bm bz bb bl : Nat) (vs : List Value) : List Nat := [bd, bm, bz, bb, bl] ++ vs.filterMap Value.ownBlock

theorem ownsRow_block {w w' : World} {base e size n : Nat} {v : Value} {xs : List Value} (h : w.ownsRow base e size v n xs) (hb : ∀ g, v.ownBlock = some g → w'.heap[g]? = w.heap[g]?) : w'.ownsRow base e size v n xs := by
  obtain ⟨hl, h | ⟨g, cap, cur, rfl, hg, hc, h1, h2, h3, h4⟩⟩ := h
  · exact ⟨hl, .inl h⟩
  · exact ⟨hl, .inr ⟨g, cap, cur, rfl, hg, (hb g rfl).trans hc, h1, h2, h3, h4⟩⟩

theorem ownsRow_lt {w : World} {base e size n : Nat} {v : Value} {xs : List Value} (h : w.ownsRow base e size v n xs) {g : Nat} (hg : v.ownBlock = some g) : g < w.heap.size := by
  obtain ⟨hl, ⟨rfl, _⟩ | ⟨g', cap, cur, rfl, _, hc, _⟩⟩ := h
  · cases hg
  · cases hg
    exact Blk.lt hc

theorem feet_row {bd bm bz bb bl : Nat} {vs : List Value} {i g : Nat} (h : (vs.getD i (.bool false)).ownBlock = some g) : g ∈ feet bd bm bz bb bl vs := by
  refine List.mem_append_right _ (List.mem_filterMap.2 ⟨vs.getD i (.bool false), ?_, h⟩)
  rw [List.getD_eq_getElem?_getD] at h ⊢
  cases hi : vs[i]? with
  | none => rw [hi] at h; cases h
  | some v => exact List.mem_of_getElem? hi

theorem IsD.mod {w w' : World} {bd bm bz bb bl : Nat} {d : Dv} {vs : List Value} {S : List Nat} (h : IsD w bd bm bz bb bl d vs) (hm : Mod S w w') (hS : ∀ x ∈ feet bd bm bz bb bl vs, x ∉ S) : IsD w' bd bm bz bb bl d vs := by
  have h0 : ∀ x ∈ [bd, bm, bz, bb, bl], x ∉ S := fun x hx => hS x (List.mem_append_left _ hx)
  refine ⟨h.m.mod hm (h0 _ (by simp)) (h0 _ (by simp)), hm.blk h.drv (h0 _ (by simp)), hm.blk h.byt (h0 _ (by simp)), hm.blk h.las (h0 _ (by simp)), h.nv, h.nb, h.nl, fun i hi => ?_, h.apart, h.off, h.ne⟩
  refine ownsRow_block (h.row i hi) fun g hg => hm.block g (ownsRow_lt (h.row i hi) hg) (hS g (feet_row hg))

end Go.Proofs.Ytojceddgmmapdaa
