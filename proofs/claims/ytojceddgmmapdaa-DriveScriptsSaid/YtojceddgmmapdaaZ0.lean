/-
  The zones' machine as a plain Lean function (no program in sight): what each command answers, and what the machine is then.
-/
import Derived.Test.YtojceddgmmapdaaB0
namespace Go.Proofs.Ytojceddgmmapdaa
open Go.RowKit

/-- The machine: of each zone its state and its length; the blocks of a zone; how many may be open, and active. -/
structure Mc where
  zs : List (Int × Int)
  bl : Int
  op : Int
  ac : Int

def isOp (s : Int) : Bool := s == 1 || s == 2
def isAc (s : Int) : Bool := s == 1 || s == 2 || s == 3
def cntO (zs : List (Int × Int)) : Int := (zs.filter fun z => isOp z.1).length
def cntA (zs : List (Int × Int)) : Int := (zs.filter fun z => isAc z.1).length

def stOf (zs : List (Int × Int)) (i : Nat) : Int := (zs.getD i (0, 0)).1
def lnOf (zs : List (Int × Int)) (i : Nat) : Int := (zs.getD i (0, 0)).2
def Mc.st (m : Mc) (i : Nat) : Int := stOf m.zs i
def Mc.ln (m : Mc) (i : Nat) : Int := lnOf m.zs i
def Mc.setSt (m : Mc) (i : Nat) (s : Int) : Mc := { m with zs := m.zs.set i (s, m.ln i) }
def Mc.setLn (m : Mc) (i : Nat) (l : Int) : Mc := { m with zs := m.zs.set i (m.st i, l) }

/-- The least zone of state 1, or -1. -/
def fidx (zs : List (Int × Int)) : Int := match zs.findIdx? (fun z => z.1 == 1) with | some j => j | none => -1

/-- To open zone i in state s (1 or 2): the error, the machine then. -/
def enterF (m : Mc) (i : Nat) (s : Int) : Int × Mc :=
  if isOp (m.st i) then (0, m.setSt i (if m.st i < s then s else m.st i))
  else if m.st i = 0 ∧ m.ac ≤ cntA m.zs then (5, m)
  else if m.op ≤ cntO m.zs then
    if fidx m.zs < 0 then (5, m)
    else (0, (m.setSt (fidx m.zs).toNat 3).setSt i s)
  else (0, m.setSt i s)

def growF (m : Mc) (i : Nat) (n : Int) : (Int × Int) × Mc :=
  let r := enterF m i 1
  if r.1 ≠ 0 then ((0, r.1), r.2)
  else
    let m1 := r.2.setLn i (m.ln i + n)
    ((m.ln i, 0), if m.ln i + n = m.bl then m1.setSt i 4 else m1)

def spanF (a n b : Int) : Bool := decide (0 ≤ a) && decide (1 ≤ n) && decide (a ≤ b) && decide (n ≤ b - a)

def restF (l : Int) : Int := if l = 0 then 0 else 3

/-- A command of a kind from 1 to 7 to a zone that is there. -/
def verbF (m : Mc) (k : Int) (i : Nat) (a n : Int) : (Int × Int) × Mc :=
  if k = 1 then
    if !spanF a n m.bl then ((0, 2), m)
    else if m.st i = 4 then ((0, 4), m)
    else if a ≠ m.ln i then ((0, 3), m)
    else growF m i n
  else if k = 2 then
    if !spanF 0 n m.bl then ((0, 2), m)
    else if m.st i = 4 then ((0, 4), m)
    else if !spanF (m.ln i) n m.bl then ((0, 2), m)
    else growF m i n
  else if k = 3 then ((0, 0), { m with zs := m.zs.set i (0, 0) })
  else if k = 4 then ((0, 0), m.setSt i 4)
  else if k = 5 then
    if m.st i = 4 then ((0, 4), m) else ((0, (enterF m i 2).1), (enterF m i 2).2)
  else if k = 6 then
    if isOp (m.st i) then ((0, 0), m.setSt i (restF (m.ln i)))
    else if m.st i ≠ 3 then ((0, 3), m)
    else ((0, 0), m)
  else
    if !spanF a n (m.ln i) then ((0, 2), m) else ((a, 0), m)

def doF (m : Mc) (k z a n : Int) : (Int × Int) × Mc :=
  if k < 1 ∨ 7 < k then ((0, 1), m)
  else if z < 0 ∨ (m.zs.length : Int) ≤ z then ((0, 2), m)
  else verbF m k z.toNat a n

def lostZ (l : Option Int) (z : Int × Int) : Int × Int :=
  match l with
  | some x => if 0 ≤ x ∧ x < z.2 then (restF x, x) else if z.1 = 4 then z else (restF z.2, z.2)
  | none => if z.1 = 4 then z else (restF z.2, z.2)

def lostL (ls : List Int) (zs : List (Int × Int)) : List (Int × Int) := zs.mapIdx fun i z => lostZ ls[i]? z

def newOk (z b o a : Int) : Bool := decide (1 ≤ z) && decide (z ≤ 64) && decide (1 ≤ b) && decide (b ≤ 4096) && decide (1 ≤ o) && decide (o ≤ a) && decide (a ≤ z)
def newF (z b o a : Int) : Mc := ⟨List.replicate z.toNat (0, 0), b, o, a⟩

/-- What holds of every machine that was made by New. -/
structure Mc.ok (m : Mc) : Prop where
  n1 : 1 ≤ m.zs.length
  n2 : m.zs.length ≤ 64
  b1 : 1 ≤ m.bl
  b2 : m.bl ≤ 4096
  o1 : 1 ≤ m.op
  o2 : m.op ≤ m.ac
  a2 : m.ac ≤ m.zs.length
  each : ∀ i, i < m.zs.length → 0 ≤ stOf m.zs i ∧ stOf m.zs i ≤ 4 ∧ 0 ≤ lnOf m.zs i ∧ lnOf m.zs i ≤ m.bl

/-! ### The cells of a list of zones -/
def zc (zs : List (Int × Int)) : List Value := zs.flatMap fun z => [.int .i64 z.1, .int .i64 z.2]

theorem zc_nil : zc [] = [] := rfl
theorem zc_cons (z : Int × Int) (zs : List (Int × Int)) : zc (z :: zs) = .int .i64 z.1 :: .int .i64 z.2 :: zc zs := rfl
theorem zc_length (zs : List (Int × Int)) : (zc zs).length = zs.length * 2 := by
  induction zs with
  | nil => rfl
  | cons z zs ih => rw [zc_cons]; simp [ih]; omega
theorem zc_append (a b : List (Int × Int)) : zc (a ++ b) = zc a ++ zc b := by simp [zc]
theorem zc_replicate (n : Nat) : zc (List.replicate n (0, 0)) = List.replicate (n * 2) (.int .i64 0) := by
  induction n with
  | zero => rfl
  | succ n ih => rw [List.replicate_succ, zc_cons, ih, Nat.succ_mul]; rfl

theorem zc_st (zs : List (Int × Int)) (r : List Value) (k : Nat) (h : k < zs.length) : (zc zs ++ r).toArray[k * 2]? = some (.int .i64 (stOf zs k)) := by
  rw [List.getElem?_toArray, List.getElem?_append_left (by rw [zc_length]; omega)]
  induction zs generalizing k with
  | nil => simp at h
  | cons z zs ih =>
    cases k with
    | zero => rfl
    | succ k => rw [Nat.succ_mul, zc_cons]; simpa [stOf] using ih k (by simpa using h)
theorem zc_ln (zs : List (Int × Int)) (r : List Value) (k : Nat) (h : k < zs.length) : (zc zs ++ r).toArray[k * 2 + 1]? = some (.int .i64 (lnOf zs k)) := by
  rw [List.getElem?_toArray, List.getElem?_append_left (by rw [zc_length]; omega)]
  induction zs generalizing k with
  | nil => simp at h
  | cons z zs ih =>
    cases k with
    | zero => rfl
    | succ k => rw [Nat.succ_mul, zc_cons]; simpa [lnOf] using ih k (by simpa using h)
theorem zc_setSt (zs : List (Int × Int)) (r : List Value) (k : Nat) (h : k < zs.length) (s : Int) :
    (zc zs ++ r).toArray.setIfInBounds (k * 2) (.int .i64 s) = (zc (zs.set k (s, lnOf zs k)) ++ r).toArray := by
  simp only [List.setIfInBounds_toArray]
  congr 1
  rw [List.set_append_left _ _ (by rw [zc_length]; omega)]
  congr 1
  induction zs generalizing k with
  | nil => simp at h
  | cons z zs ih =>
    cases k with
    | zero => rfl
    | succ k => rw [Nat.succ_mul, zc_cons]; simpa [lnOf, zc_cons] using ih k (by simpa using h)
theorem zc_setLn (zs : List (Int × Int)) (r : List Value) (k : Nat) (h : k < zs.length) (l : Int) :
    (zc zs ++ r).toArray.setIfInBounds (k * 2 + 1) (.int .i64 l) = (zc (zs.set k (stOf zs k, l)) ++ r).toArray := by
  simp only [List.setIfInBounds_toArray]
  congr 1
  rw [List.set_append_left _ _ (by rw [zc_length]; omega)]
  congr 1
  induction zs generalizing k with
  | nil => simp at h
  | cons z zs ih =>
    cases k with
    | zero => rfl
    | succ k => rw [Nat.succ_mul, zc_cons]; simpa [stOf, zc_cons] using ih k (by simpa using h)

theorem stOf_set (zs : List (Int × Int)) (k : Nat) (h : k < zs.length) (p : Int × Int) (j : Nat) : stOf (zs.set k p) j = if k = j then p.1 else stOf zs j := by
  simp only [stOf, List.getD_eq_getElem?_getD, List.getElem?_set]
  split
  · subst_vars; simp
  · rfl
theorem lnOf_set (zs : List (Int × Int)) (k : Nat) (h : k < zs.length) (p : Int × Int) (j : Nat) : lnOf (zs.set k p) j = if k = j then p.2 else lnOf zs j := by
  simp only [lnOf, List.getD_eq_getElem?_getD, List.getElem?_set]
  split
  · subst_vars; simp
  · rfl

/-! ### Counting -/
theorem take_snoc' (zs : List (Int × Int)) (k : Nat) (h : k < zs.length) : zs.take (k + 1) = zs.take k ++ [(stOf zs k, lnOf zs k)] := by
  rw [List.take_succ_eq_append_getElem h]; congr 1; simp [stOf, lnOf, List.getD_eq_getElem?_getD, List.getElem?_eq_getElem h]
theorem cntO_snoc (zs : List (Int × Int)) (k : Nat) (h : k < zs.length) : cntO (zs.take (k + 1)) = cntO (zs.take k) + if isOp (stOf zs k) then 1 else 0 := by
  rw [take_snoc' zs k h]; unfold cntO; rw [List.filter_append]; simp only [List.length_append, Int.natCast_add]; congr 1
  by_cases e : isOp (stOf zs k) <;> simp [e]
theorem cntA_snoc (zs : List (Int × Int)) (k : Nat) (h : k < zs.length) : cntA (zs.take (k + 1)) = cntA (zs.take k) + if isAc (stOf zs k) then 1 else 0 := by
  rw [take_snoc' zs k h]; unfold cntA; rw [List.filter_append]; simp only [List.length_append, Int.natCast_add]; congr 1
  by_cases e : isAc (stOf zs k) <;> simp [e]
theorem cntO_le (zs : List (Int × Int)) : 0 ≤ cntO zs ∧ cntO zs ≤ zs.length := by
  unfold cntO; have := List.length_filter_le (fun z : Int × Int => isOp z.1) zs; omega
theorem cntA_le (zs : List (Int × Int)) : 0 ≤ cntA zs ∧ cntA zs ≤ zs.length := by
  unfold cntA; have := List.length_filter_le (fun z : Int × Int => isAc z.1) zs; omega

theorem stOf_eq (zs : List (Int × Int)) (k : Nat) (h : k < zs.length) : stOf zs k = zs[k].1 := by simp [stOf, List.getD_eq_getElem?_getD, List.getElem?_eq_getElem h]
theorem lnOf_eq (zs : List (Int × Int)) (k : Nat) (h : k < zs.length) : lnOf zs k = zs[k].2 := by simp [lnOf, List.getD_eq_getElem?_getD, List.getElem?_eq_getElem h]

theorem fidx_none (zs : List (Int × Int)) (h : ∀ j, j < zs.length → stOf zs j ≠ 1) : fidx zs = -1 := by
  unfold fidx
  rw [List.findIdx?_eq_none_iff.2]
  intro x hx
  obtain ⟨j, hj, rfl⟩ := List.getElem_of_mem hx
  have := h j hj
  rw [stOf_eq _ _ hj] at this
  simpa using this
theorem fidx_some (zs : List (Int × Int)) (k : Nat) (hk : k < zs.length) (h1 : stOf zs k = 1) (h : ∀ j, j < k → stOf zs j ≠ 1) : fidx zs = k := by
  unfold fidx
  have : zs.findIdx? (fun z => z.1 == 1) = some k := by
    rw [List.findIdx?_eq_some_iff_getElem]
    refine ⟨hk, by rw [stOf_eq _ _ hk] at h1; simp [h1], fun j hj => ?_⟩
    have := h j hj
    rw [stOf_eq _ _ (by omega)] at this
    simpa using this
  rw [this]
theorem fidx_cases (zs : List (Int × Int)) : (fidx zs = -1 ∧ ∀ j, j < zs.length → stOf zs j ≠ 1) ∨ (∃ k, k < zs.length ∧ fidx zs = k ∧ stOf zs k = 1 ∧ ∀ j, j < k → stOf zs j ≠ 1) := by
  unfold fidx
  cases h : zs.findIdx? (fun z => z.1 == 1) with
  | none =>
    refine .inl ⟨rfl, fun j hj => ?_⟩
    have := List.findIdx?_eq_none_iff.1 h zs[j] (List.getElem_mem hj)
    rw [stOf_eq _ _ hj]; simpa using this
  | some k =>
    obtain ⟨hk, h1, h2⟩ := List.findIdx?_eq_some_iff_getElem.1 h
    refine .inr ⟨k, hk, rfl, by rw [stOf_eq _ _ hk]; simpa using h1, fun j hj => ?_⟩
    have := h2 j hj
    rw [stOf_eq _ _ (by omega)]; simpa using this

end Go.Proofs.Ytojceddgmmapdaa
