/-
  The rig as a plain Lean function, and how it lies in the heap.
-/
import Derived.Test.YtadpeopbfoppjaaDA
import Derived.Test.YtadpeopbfoppjaaDN0
namespace Go.Proofs.Ytadpeopbfoppjaa
open Go.RowKit

/-- A rig: its drives, a zone's blocks, the cut that is set (commands left, what it keeps), off, how many commands were done. -/
structure Rg where
  ds : List Dv
  bl : Int
  set : Option (Int × List Int)
  off : Bool
  cnt : Int

def dv0 : Dv := ⟨⟨[], 0, 0, 0⟩, [], [], true⟩

/-- What a drive keeps of the list: turned by its place. -/
def rot (keep : List Int) (i : Nat) : List Int := if keep.length = 0 then keep else keep.drop (i % keep.length) ++ keep.take (i % keep.length)

def gfailF (r : Rg) (keep : List Int) : Rg := { r with ds := (List.range r.ds.length).map fun i => dloseF (r.ds.getD i dv0) (rot keep i), off := true, set := none }

def gstepF (r : Rg) : Int × Rg :=
  match r.set with
  | none => (0, { r with cnt := wrap64 (r.cnt + 1) })
  | some (l, k) => if l - 1 = 0 then (6, gfailF r k) else (0, { r with set := some (l - 1, k), cnt := wrap64 (r.cnt + 1) })

def thereF (r : Rg) (n : Int) : Bool := decide (0 ≤ n) && decide (n < r.ds.length)

/-- What stands ahead of a drive's own answer. -/
def greachF (r : Rg) (n : Int) (ch : Bool) : Int × Rg :=
  if !thereF r n then (1, r)
  else if r.off then (6, r)
  else if (r.ds.getD n.toNat dv0).dead then (7, r)
  else if ch then gstepF r
  else (0, r)

def Rg.put (r : Rg) (i : Nat) (d : Dv) : Rg := { r with ds := r.ds.set i d }

def gdoF (r : Rg) (n k z a l : Int) (s : ByteArray) : (ByteArray × Int × Int) × Rg :=
  if (greachF r n (!(k == 7))).1 ≠ 0 then ((ByteArray.empty, 0, (greachF r n (!(k == 7))).1), (greachF r n (!(k == 7))).2)
  else ((ddoF ((greachF r n (!(k == 7))).2.ds.getD n.toNat dv0) k z a l s).1, (greachF r n (!(k == 7))).2.put n.toNat (ddoF ((greachF r n (!(k == 7))).2.ds.getD n.toNat dv0) k z a l s).2)

def gflushF (r : Rg) (n : Int) : Int × Rg :=
  if (greachF r n true).1 ≠ 0 then ((greachF r n true).1, (greachF r n true).2)
  else ((dflushF ((greachF r n true).2.ds.getD n.toNat dv0)).1, (greachF r n true).2.put n.toNat (dflushF ((greachF r n true).2.ds.getD n.toNat dv0)).2)

def gzoneF (r : Rg) (n z : Int) : (Int × Int) × Bool := if thereF r n then getF (r.ds.getD n.toNat dv0).m z else ((0, 0), false)
def gdeadF (r : Rg) (n : Int) : Bool := if thereF r n then (r.ds.getD n.toNat dv0).dead else true
def gcutF (r : Rg) (n : Int) (keep : List Int) : Rg := { r with set := some (max n 1, keep) }
def gcrashF (r : Rg) (keep : List Int) : Rg := { gfailF r keep with off := false }
def gonF (r : Rg) : Rg := { r with off := false, set := none }
def gkillF (r : Rg) (n : Int) : Rg := if thereF r n then r.put n.toNat { r.ds.getD n.toNat dv0 with dead := true } else r

/-- A drive in the heap, with the blocks that it lies in. -/
def DrvIn (w : World) (bd : Nat) (F : List Nat) (d : Dv) : Prop := ∃ bm bz bb bl vs, IsD w bd bm bz bb bl d vs ∧ d.ok ∧ F = feet bd bm bz bb bl vs

theorem DrvIn.mod {w w' : World} {bd : Nat} {F : List Nat} {d : Dv} {S : List Nat} (h : DrvIn w bd F d) (hm : Mod S w w') (hS : ∀ x ∈ F, x ∉ S) : DrvIn w' bd F d := by
  obtain ⟨bm, bz, bb, bl, vs, h1, h2, rfl⟩ := h
  exact ⟨bm, bz, bb, bl, vs, h1.mod hm hS, h2, rfl⟩
theorem DrvIn.lt {w : World} {bd : Nat} {F : List Nat} {d : Dv} (h : DrvIn w bd F d) : ∀ x ∈ F, x < w.heap.size := by
  obtain ⟨bm, bz, bb, bl, vs, h1, h2, rfl⟩ := h
  exact h1.feet_lt
theorem DrvIn.mem {w : World} {bd : Nat} {F : List Nat} {d : Dv} (h : DrvIn w bd F d) : bd ∈ F := by
  obtain ⟨bm, bz, bb, bl, vs, h1, h2, rfl⟩ := h
  exact feet_head (by simp)

/-- A step of a drive: it lies in its own blocks or in new ones, and nothing else was touched. -/
def DrvStep (w w' : World) (bd : Nat) (F : List Nat) (d' : Dv) : Prop := ∃ F', DrvIn w' bd F' d' ∧ Mod F w w' ∧ ∀ x ∈ F', x ∈ F ∨ w.heap.size ≤ x

def IntIn (x : Int) : Prop := -9223372036854775808 ≤ x ∧ x ≤ 9223372036854775807
/-- A slice's length is at most its capacity. -/
def CapOk (v : Value) : Prop := ∀ a n c, v = .slice a n c → n ≤ c ∧ c ≤ 9223372036854775807
def KeepOk (k : List Int) : Prop := k.length ≤ 17592186044416 ∧ ∀ j, IntIn (k.getD j 0)

/-- The cut in the heap. -/
def SetIn (w : World) (sv : Value) (G : List Nat) : Option (Int × List Int) → Prop
  | none => sv = .pointer none
  | some (l, k) => ∃ bc bk kv, sv = .pointer (some ⟨bc, 0, none⟩) ∧ bc ∈ G ∧ (0 < k.length → bk ∈ G ∧ bk ≠ bc) ∧ Blk w bc #[.int .i64 l, kv] 60 ∧ IntsAt w kv k bk ∧ CapOk kv ∧ 0 ≤ l ∧ l ≤ 9223372036854775807 ∧ KeepOk k

theorem IntsAt.mod' {w w' : World} {v : Value} {ls : List Int} {b : Nat} {S : List Nat} (h : IntsAt w v ls b) (hm : Mod S w w') (hb : 0 < ls.length → b ∉ S) : IntsAt w' v ls b := by
  by_cases h0 : 0 < ls.length
  · exact h.mod hm (hb h0)
  · obtain ⟨a, c, hv, _⟩ := h
    exact ⟨a, c, hv, fun h => absurd h h0⟩

theorem SetIn.mod {w w' : World} {sv : Value} {G S : List Nat} {s : Option (Int × List Int)} (h : SetIn w sv G s) (hm : Mod S w w') (hS : ∀ x ∈ G, x ∉ S) : SetIn w' sv G s := by
  cases s with
  | none => exact h
  | some p =>
    obtain ⟨l, k⟩ := p
    obtain ⟨bc, bk, kv, h1, h2, h3, h4, h5, h6⟩ := h
    exact ⟨bc, bk, kv, h1, h2, h3, hm.blk h4 (hS _ h2), h5.mod' hm (fun h => hS _ (h3 h).1), h6⟩

/-- The places of a rig: its block, its drives' slice, their blocks, the blocks that each lies in, the pointer to the cut, the cut's blocks. -/
structure Pl where
  br : Nat
  dv : Value
  ps : List Nat
  Fs : List (List Nat)
  sv : Value
  G : List Nat

def Pl.own (P : Pl) : List Nat := P.dv.ownBlock.toList
def Pl.hd (P : Pl) : List Nat := P.br :: (P.own ++ P.G)
def Pl.feet (P : Pl) : List Nat := P.hd ++ P.Fs.flatten

structure IsR (w : World) (P : Pl) (r : Rg) : Prop where
  rig : Blk w P.br #[P.dv, .int .i64 r.bl, P.sv, .bool r.off, .int .i64 r.cnt] 54
  row : w.ownsRow 0 55 1 P.dv r.ds.length (P.ps.map fun b => Value.pointer (some ⟨b, 0, none⟩))
  np : P.ps.length = r.ds.length
  nF : P.Fs.length = r.ds.length
  each : ∀ i, i < r.ds.length → DrvIn w (P.ps.getD i 0) (P.Fs.getD i []) (r.ds.getD i dv0)
  set : SetIn w P.sv P.G r.set
  gs : ∀ x ∈ P.G, x < w.heap.size
  hd1 : P.br ∉ P.own ++ P.G
  hd2 : ∀ x ∈ P.own, x ∉ P.G
  off : ∀ i x, i < r.ds.length → x ∈ P.Fs.getD i [] → x ∉ P.hd
  apart : ∀ i j x, i < r.ds.length → j < r.ds.length → i ≠ j → x ∈ P.Fs.getD i [] → x ∉ P.Fs.getD j []
  len : r.ds.length ≤ 17

theorem mem_getD_flatten {Fs : List (List Nat)} {x : Nat} : x ∈ Fs.flatten ↔ ∃ i, i < Fs.length ∧ x ∈ Fs.getD i [] := by
  rw [List.mem_flatten]
  constructor
  · rintro ⟨l, hl, hx⟩
    obtain ⟨i, hi, rfl⟩ := List.getElem_of_mem hl
    exact ⟨i, hi, by simpa [List.getD_eq_getElem?_getD, hi] using hx⟩
  · rintro ⟨i, hi, hx⟩
    exact ⟨Fs[i], List.getElem_mem hi, by simpa [List.getD_eq_getElem?_getD, hi] using hx⟩

theorem IsR.feet_of {w : World} {P : Pl} {r : Rg} (h : IsR w P r) {i x : Nat} (hi : i < r.ds.length) (hx : x ∈ P.Fs.getD i []) : x ∈ P.feet :=
  List.mem_append_right _ (mem_getD_flatten.2 ⟨i, by rw [h.nF]; exact hi, hx⟩)
theorem IsR.feet_hd {P : Pl} {x : Nat} (hx : x ∈ P.hd) : x ∈ P.feet := List.mem_append_left _ hx
theorem IsR.own_hd {P : Pl} {x : Nat} (hx : x ∈ P.own) : x ∈ P.hd := List.mem_cons_of_mem _ (List.mem_append_left _ hx)
theorem IsR.G_hd {P : Pl} {x : Nat} (hx : x ∈ P.G) : x ∈ P.hd := List.mem_cons_of_mem _ (List.mem_append_right _ hx)
theorem IsR.br_hd {P : Pl} : P.br ∈ P.hd := List.mem_cons_self ..

theorem IsR.lt {w : World} {P : Pl} {r : Rg} (h : IsR w P r) : ∀ x ∈ P.feet, x < w.heap.size := by
  intro x hx
  rcases List.mem_append.1 hx with hx | hx
  · rcases List.mem_cons.1 hx with rfl | hx
    · exact h.rig.lt
    · rcases List.mem_append.1 hx with hx | hx
      · exact ownsRow_lt h.row (by simpa [Pl.own] using hx)
      · exact h.gs x hx
  · obtain ⟨i, hi, hx⟩ := mem_getD_flatten.1 hx
    exact (h.each i (by rw [← h.nF]; exact hi)).lt x hx

theorem IsR.mod {w w' : World} {P : Pl} {r : Rg} {S : List Nat} (h : IsR w P r) (hm : Mod S w w') (hS : ∀ x ∈ P.feet, x ∉ S) : IsR w' P r := by
  have hh : ∀ x ∈ P.hd, x ∉ S := fun x hx => hS x (IsR.feet_hd hx)
  refine ⟨hm.blk h.rig (hh _ IsR.br_hd), ?_, h.np, h.nF, fun i hi => (h.each i hi).mod hm (fun x hx => hS x (h.feet_of hi hx)), h.set.mod hm (fun x hx => hh x (IsR.G_hd hx)), fun x hx => Nat.lt_of_lt_of_le (h.gs x hx) hm.size, h.hd1, h.hd2, h.off, h.apart, h.len⟩
  exact ownsRow_block h.row fun g hg => hm.block g (ownsRow_lt h.row hg) (hh g (IsR.own_hd (by simpa [Pl.own] using hg)))
theorem IsR.same {w w' : World} {P : Pl} {r : Rg} (h : IsR w P r) (hm : Mod [] w w') : IsR w' P r := h.mod hm (by simp)

theorem getD_set_self {α : Type} (l : List α) (i : Nat) (x y : α) (hi : i < l.length) : (l.set i x).getD i y = x := by simp [List.getD_eq_getElem?_getD, hi]
theorem getD_set_ne {α : Type} (l : List α) (i j : Nat) (x y : α) (h : j ≠ i) : (l.set i x).getD j y = l.getD j y := by simp [List.getD_eq_getElem?_getD, Ne.symm h]

/-- One drive has made a step. -/
theorem IsR.drive {w w' : World} {P : Pl} {r : Rg} {i : Nat} {d' : Dv} {F' : List Nat} (h : IsR w P r) (hi : i < r.ds.length) (hd : DrvIn w' (P.ps.getD i 0) F' d') (hm : Mod (P.Fs.getD i []) w w')
    (hF : ∀ x ∈ F', x ∈ P.Fs.getD i [] ∨ w.heap.size ≤ x) : IsR w' { P with Fs := P.Fs.set i F' } (r.put i d') := by
  have hiF : i < P.Fs.length := by rw [h.nF]; exact hi
  have hh : ∀ x ∈ P.hd, x ∉ P.Fs.getD i [] := fun x hx hx' => h.off i x hi hx' hx
  have hhl : ∀ x ∈ P.hd, x < w.heap.size := fun x hx => h.lt x (IsR.feet_hd hx)
  have hln : (r.put i d').ds.length = r.ds.length := by simp [Rg.put]
  refine ⟨hm.blk h.rig (hh _ IsR.br_hd), ?_, by rw [hln]; exact h.np, by rw [hln, List.length_set]; exact h.nF, fun j hj => ?_, h.set.mod hm (fun x hx => hh x (IsR.G_hd hx)), fun x hx => Nat.lt_of_lt_of_le (h.gs x hx) hm.size, h.hd1, h.hd2, fun j x hj hx => ?_, fun j k x hj hk hjk hx hx' => ?_, by rw [hln]; exact h.len⟩
  · rw [hln]
    exact ownsRow_block h.row fun g hg => hm.block g (ownsRow_lt h.row hg) (hh g (IsR.own_hd (by simpa [Pl.own] using hg)))
  · rw [hln] at hj
    show DrvIn w' (P.ps.getD j 0) ((P.Fs.set i F').getD j []) ((r.ds.set i d').getD j dv0)
    by_cases hji : j = i
    · subst hji
      rw [getD_set_self _ _ _ _ hiF, getD_set_self _ _ _ _ hi]
      exact hd
    · rw [getD_set_ne _ _ _ _ _ hji, getD_set_ne _ _ _ _ _ hji]
      exact (h.each j hj).mod hm (fun x hx => h.apart j i x hj hi hji hx)
  · rw [hln] at hj
    have hx : x ∈ (P.Fs.set i F').getD j [] := hx
    intro hx'
    have hx' : x ∈ P.hd := hx'
    by_cases hji : j = i
    · subst hji
      rw [getD_set_self _ _ _ _ hiF] at hx
      rcases hF x hx with hx | hx
      · exact h.off j x hj hx hx'
      · have := hhl x hx'; omega
    · rw [getD_set_ne _ _ _ _ _ hji] at hx
      exact h.off j x hj hx hx'
  · rw [hln] at hj hk
    replace hx : x ∈ (P.Fs.set i F').getD j [] := hx
    replace hx' : x ∈ (P.Fs.set i F').getD k [] := hx'
    by_cases hji : j = i
    · subst hji
      rw [getD_set_self _ _ _ _ hiF] at hx
      rw [getD_set_ne _ _ _ _ _ (Ne.symm hjk)] at hx'
      rcases hF x hx with hx | hx
      · exact h.apart j k x hj hk hjk hx hx'
      · have := (h.each k hk).lt x hx'; omega
    · rw [getD_set_ne _ _ _ _ _ hji] at hx
      by_cases hki : k = i
      · subst hki
        rw [getD_set_self _ _ _ _ hiF] at hx'
        rcases hF x hx' with hx' | hx'
        · exact h.apart j k x hj hk hjk hx hx'
        · have := (h.each j hj).lt x hx; omega
      · rw [getD_set_ne _ _ _ _ _ hki] at hx'
        exact h.apart j k x hj hk hjk hx hx'

theorem IsR.drive_feet {w : World} {P : Pl} {r : Rg} {i : Nat} {F' : List Nat} (h : IsR w P r) (hi : i < r.ds.length) (hF : ∀ x ∈ F', x ∈ P.Fs.getD i [] ∨ w.heap.size ≤ x) :
    ∀ x ∈ Pl.feet { P with Fs := P.Fs.set i F' }, x ∈ P.feet ∨ w.heap.size ≤ x := by
  intro x hx
  rcases List.mem_append.1 hx with hx | hx
  · exact .inl (List.mem_append_left _ hx)
  · obtain ⟨j, hj, hx⟩ := mem_getD_flatten.1 hx
    have hj' : j < r.ds.length := by rw [← h.nF]; simpa using hj
    by_cases hji : j = i
    · subst hji
      have hx : x ∈ (P.Fs.set j F').getD j [] := hx
      rw [getD_set_self _ _ _ _ (by rw [h.nF]; exact hi)] at hx
      rcases hF x hx with hx | hx
      · exact .inl (h.feet_of hi hx)
      · exact .inr hx
    · have hx : x ∈ (P.Fs.set i F').getD j [] := hx
      rw [getD_set_ne _ _ _ _ _ hji] at hx
      exact .inl (h.feet_of hj' hx)

/-- Only the rig's own block was written; the cut may be another one. -/
theorem IsR.heads {w w' : World} {P : Pl} {r r' : Rg} {sv' : Value} {G' : List Nat} (h : IsR w P r) (hm : Mod [P.br] w w') (hds : r'.ds = r.ds) (hset : SetIn w' sv' G' r'.set) (hG : ∀ x ∈ G', x ∈ P.G ∨ w.heap.size ≤ x) (hl : ∀ x ∈ G', x < w'.heap.size)
    (hb : Blk w' P.br #[P.dv, .int .i64 r'.bl, sv', .bool r'.off, .int .i64 r'.cnt] 54) : IsR w' { P with sv := sv', G := G' } r' := by
  have hbr : ∀ x, x ∈ P.own → x ∉ [P.br] := fun x hx hx' => by
    rw [List.mem_singleton] at hx'
    subst hx'
    exact h.hd1 (List.mem_append.2 (.inl hx))
  have hF : ∀ i x, i < r.ds.length → x ∈ P.Fs.getD i [] → x ∉ [P.br] := fun i x hi hx hx' => by
    rw [List.mem_singleton] at hx'
    subst hx'
    exact h.off i _ hi hx IsR.br_hd
  have hlt : ∀ x ∈ P.hd, x < w.heap.size := fun x hx => h.lt x (IsR.feet_hd hx)
  refine ⟨hb, ?_, hds ▸ h.np, hds ▸ h.nF, fun i hi => ?_, hset, hl, fun hx => ?_, fun x hx hx' => ?_, fun i x hi hx hx' => ?_, fun i j x hi hj => h.apart i j x (hds ▸ hi) (hds ▸ hj), hds ▸ h.len⟩
  · rw [hds]
    exact ownsRow_block h.row fun g hg => hm.block g (ownsRow_lt h.row hg) (hbr g (by simpa [Pl.own] using hg))
  · rw [hds]
    exact (h.each i (hds ▸ hi)).mod hm (fun x hx => hF i x (hds ▸ hi) hx)
  · rcases List.mem_append.1 hx with hx | hx
    · exact h.hd1 (List.mem_append_left _ hx)
    · rcases hG _ hx with h1 | h1
      · exact h.hd1 (List.mem_append_right _ h1)
      · have h2 : P.br < w.heap.size := hlt _ IsR.br_hd
        have h3 : w.heap.size ≤ P.br := h1
        omega
  · rcases hG _ hx' with h1 | h1
    · exact h.hd2 x hx h1
    · have := hlt x (IsR.own_hd hx); omega
  · have hi' : i < r.ds.length := hds ▸ hi
    rcases List.mem_cons.1 hx' with rfl | hx'
    · exact h.off i _ hi' hx IsR.br_hd
    · rcases List.mem_append.1 hx' with hx' | hx'
      · exact h.off i _ hi' hx (IsR.own_hd hx')
      · rcases hG _ hx' with h1 | h1
        · exact h.off i _ hi' hx (IsR.G_hd h1)
        · have := h.lt x (h.feet_of hi' hx); omega

theorem Pl.feet_heads {w : World} {P : Pl} {sv' : Value} {G' : List Nat} (hG : ∀ x ∈ G', x ∈ P.G ∨ w.heap.size ≤ x) : ∀ x ∈ Pl.feet { P with sv := sv', G := G' }, x ∈ P.feet ∨ w.heap.size ≤ x := by
  intro x hx
  rcases List.mem_append.1 hx with hx | hx
  · rcases List.mem_cons.1 hx with rfl | hx
    · exact .inl (IsR.feet_hd IsR.br_hd)
    · rcases List.mem_append.1 hx with hx | hx
      · exact .inl (IsR.feet_hd (IsR.own_hd hx))
      · rcases hG x hx with h | h
        · exact .inl (IsR.feet_hd (IsR.G_hd h))
        · exact .inr h
  · exact .inl (List.mem_append_right _ hx)

/-- A cut that is set is still to come. -/
def Rg.live (r : Rg) : Prop := ∀ l k, r.set = some (l, k) → 1 ≤ l

/-- A step of a rig. -/
def RStep (w w' : World) (P : Pl) (r' : Rg) : Prop := ∃ P', (P'.br = P.br ∧ P'.ps = P.ps) ∧ IsR w' P' r' ∧ Mod P.feet w w' ∧ ∀ x ∈ P'.feet, x ∈ P.feet ∨ w.heap.size ≤ x

theorem RStep.from {a b c : World} {P P1 : Pl} {r2 : Rg} (e : P1.br = P.br ∧ P1.ps = P.ps) (m1 : Mod P.feet a b) (f1 : ∀ x ∈ P1.feet, x ∈ P.feet ∨ a.heap.size ≤ x) (k : RStep b c P1 r2) : RStep a c P r2 := by
  obtain ⟨P2, e2, h2, m2, f2⟩ := k
  refine ⟨P2, ⟨e2.1.trans e.1, e2.2.trans e.2⟩, h2, m1.trans m2 (fun i hi hx => ?_), fun x hx => ?_⟩
  · rcases hx with hx | hx
    · exact hx
    · rcases f1 i hx with h | h
      · exact h
      · omega
  · rcases f2 x hx with h | h
    · exact f1 x h
    · exact .inr (Nat.le_trans m1.size h)
theorem RStep.trans {a b c : World} {P : Pl} {r1 r2 : Rg} (h : RStep a b P r1) (k : ∀ P', P'.br = P.br ∧ P'.ps = P.ps → IsR b P' r1 → RStep b c P' r2) : RStep a c P r2 := by
  obtain ⟨P', e1, h1, m1, f1⟩ := h
  exact RStep.from e1 m1 f1 (k P' e1 h1)
theorem RStep.same' {a b c : World} {P : Pl} {r : Rg} (h : RStep a b P r) (hm : Mod [] b c) : RStep a c P r := by
  obtain ⟨P', e1, h1, m1, f1⟩ := h
  exact ⟨P', e1, h1.same hm, m1.trans hm (fun i _ h => h.elim id (by simp)), f1⟩

theorem RStep.heads {w w' : World} {P : Pl} {r r' : Rg} {sv' : Value} {G' : List Nat} (h : IsR w P r) (hm : Mod [P.br] w w') (hds : r'.ds = r.ds) (hset : SetIn w' sv' G' r'.set) (hG : ∀ x ∈ G', x ∈ P.G ∨ w.heap.size ≤ x) (hl : ∀ x ∈ G', x < w'.heap.size)
    (hb : Blk w' P.br #[P.dv, .int .i64 r'.bl, sv', .bool r'.off, .int .i64 r'.cnt] 54) : RStep w w' P r' :=
  ⟨{ P with sv := sv', G := G' }, ⟨rfl, rfl⟩, h.heads hm hds hset hG hl hb, hm.mono (fun i _ hi => by rw [List.mem_singleton] at hi; subst hi; exact IsR.feet_hd IsR.br_hd), Pl.feet_heads hG⟩

theorem RStep.same {w w' : World} {P : Pl} {r : Rg} (h : IsR w P r) (hm : Mod [] w w') : RStep w w' P r := ⟨P, ⟨rfl, rfl⟩, h.same hm, hm.mono (by simp), fun _ hx => .inl hx⟩

end Go.Proofs.Ytadpeopbfoppjaa
