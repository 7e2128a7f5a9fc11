/-
  The document's drive as a plain Lean function (rows of blocks), and that it answers as the drive does (no program in sight).
-/
import Derived.Test.YtojceddgmmapdaaD8L
import Derived.Test.YtojceddgmmapdaaD4
namespace Go.Proofs.Ytojceddgmmapdaa
open Go.RowKit

structure Rv where
  m : Mc
  bs : List (List ByteArray)
  la : List Nat
  dead : Bool

def catB (l : List ByteArray) : List UInt8 := l.flatMap fun s => s.data.toList
def chunks (s : ByteArray) (n : Nat) : List ByteArray := (List.range n).map fun i => s.extract (64 * i) (64 * i + 64)

/-- Do, of the document's drive. -/
def rddoF (r : Rv) (k z a n : Int) (s : ByteArray) : (ByteArray × Int × Int) × Rv :=
  if r.dead then ((ByteArray.empty, 0, 7), r)
  else if (k = 1 ∨ k = 2) ∧ 1073741824 < n then ((ByteArray.empty, 0, 1), r)
  else if (s.size : Int) ≠ (if (k = 1 ∨ k = 2) ∧ 0 < n then 64 * n else 0) then ((ByteArray.empty, 0, 1), r)
  else
    let q := doF r.m k z a n
    if q.1.2 ≠ 0 then ((ByteArray.empty, 0, q.1.2), { r with m := q.2 })
    else if k = 1 ∨ k = 2 then ((ByteArray.empty, q.1.1, 0), { r with m := q.2, bs := r.bs.set z.toNat (r.bs.getD z.toNat [] ++ chunks s n.toNat) })
    else if k = 7 then ((str (catB (((r.bs.getD z.toNat []).drop q.1.1.toNat).take n.toNat)), q.1.1, 0), { r with m := q.2 })
    else if k = 3 then ((ByteArray.empty, q.1.1, 0), { r with m := q.2, bs := r.bs.set z.toNat [], la := r.la.set z.toNat 0 })
    else if k = 4 then ((ByteArray.empty, q.1.1, 0), { r with m := q.2, la := r.la.set z.toNat (r.bs.getD z.toNat []).length })
    else ((ByteArray.empty, q.1.1, 0), { r with m := q.2 })

def rflushF (r : Rv) : Int × Rv := if r.dead then (7, r) else (0, { r with la := r.bs.map List.length })

def rleftF (r : Rv) (keep : List Int) (i : Nat) : Nat :=
  r.la.getD i 0 + (drestF (if keep.length = 0 then 0 else keep.getD (i % keep.length) 0) (((r.bs.getD i []).length : Int) - (r.la.getD i 0 : Int) + 1)).toNat
def rleftsF (r : Rv) (keep : List Int) : List Nat := (List.range r.m.zs.length).map (rleftF r keep)
def rloseF (r : Rv) (keep : List Int) : Rv :=
  { r with
    m := { r.m with zs := lostL ((rleftsF r keep).map fun n : Nat => (n : Int)) r.m.zs }
    bs := (List.range r.m.zs.length).map fun i => (r.bs.getD i []).take (rleftF r keep i)
    la := rleftsF r keep }
def rnewF (z b o a : Int) : Rv := ⟨newF z b o a, List.replicate z.toNat [], List.replicate z.toNat 0, false⟩

/-- The two drives are alike. -/
structure Sim (d : Dv) (r : Rv) : Prop where
  m : d.m = r.m
  la : d.la = r.la
  dead : d.dead = r.dead
  nb : r.bs.length = d.m.zs.length
  each : ∀ i, (∀ s ∈ r.bs.getD i [], s.size = 64) ∧ catB (r.bs.getD i []) = d.bs.getD i []

theorem catB_nil : catB [] = [] := rfl
theorem catB_cons (s : ByteArray) (l : List ByteArray) : catB (s :: l) = s.data.toList ++ catB l := by simp [catB]
theorem catB_append (a b : List ByteArray) : catB (a ++ b) = catB a ++ catB b := by simp [catB]
theorem catB_len : ∀ {l : List ByteArray}, (∀ s ∈ l, s.size = 64) → (catB l).length = 64 * l.length
  | [], _ => rfl
  | s :: l, h => by
    have h1 : s.data.toList.length = 64 := h s (by simp)
    rw [catB_cons, List.length_append, h1, catB_len (fun x hx => h x (by simp [hx])), List.length_cons]; omega
theorem catB_drop : ∀ {l : List ByteArray} (_ : ∀ s ∈ l, s.size = 64) (a : Nat), catB (l.drop a) = (catB l).drop (64 * a)
  | [], _, a => by simp [catB]
  | s :: l, h, 0 => by simp
  | s :: l, h, a + 1 => by
    have h1 : s.data.toList.length = 64 := h s (by simp)
    rw [List.drop_succ_cons, catB_drop (fun x hx => h x (by simp [hx])) a, catB_cons, List.drop_append, h1, List.drop_of_length_le (show s.data.toList.length ≤ 64 * (a + 1) by omega), List.nil_append]
    congr 1
theorem catB_take : ∀ {l : List ByteArray} (_ : ∀ s ∈ l, s.size = 64) (a : Nat), catB (l.take a) = (catB l).take (64 * a)
  | [], _, a => by simp [catB]
  | s :: l, h, 0 => by simp [catB]
  | s :: l, h, a + 1 => by
    have h1 : s.data.toList.length = 64 := h s (by simp)
    rw [List.take_succ_cons, catB_cons, catB_take (fun x hx => h x (by simp [hx])) a, catB_cons, List.take_append, h1, List.take_of_length_le (show s.data.toList.length ≤ 64 * (a + 1) by omega)]
    congr 1
theorem chunks_size {s : ByteArray} {n : Nat} (h : s.size = 64 * n) : ∀ x ∈ chunks s n, x.size = 64 := by
  intro x hx
  obtain ⟨i, hi, rfl⟩ := List.mem_map.1 hx
  have := List.mem_range.1 hi
  rw [ByteArray.size_extract]; omega
theorem chunks_cat {s : ByteArray} : ∀ {n : Nat}, 64 * n ≤ s.size → catB (chunks s n) = s.data.toList.take (64 * n)
  | 0, _ => by simp [chunks, catB]
  | n + 1, h => by
    have ih := chunks_cat (s := s) (n := n) (by omega)
    unfold chunks at ih ⊢
    rw [List.range_succ, List.map_append, catB_append, ih]
    have e : (s.extract (64 * n) (64 * n + 64)).data.toList = (s.data.toList.drop (64 * n)).take 64 := by
      rw [ByteArray.data_extract, Array.toList_extract, List.extract_eq_take_drop]; congr 1; omega
    rw [List.map_cons, List.map_nil, catB_cons, catB_nil, List.append_nil, e, ← List.take_add]
    congr 1

theorem sim_fits (k n : Int) (s : ByteArray) (hs : s.size ≤ 68719476736) :
    fitsF k n s = true ↔ ¬((k = 1 ∨ k = 2) ∧ 1073741824 < n) ∧ ¬((s.size : Int) ≠ (if (k = 1 ∨ k = 2) ∧ 0 < n then 64 * n else 0)) := by
  have he : s.toList.isEmpty = true ↔ s.size = 0 := by
    have : s.toList = s.data.toList := ByteArray.toList_eq s
    rw [List.isEmpty_iff_length_eq_zero, this]; rfl
  have hw : writesF k = true ↔ (k = 1 ∨ k = 2) := by simp [writesF]
  unfold fitsF
  by_cases h : writesF k = false ∨ n < 0
  · rw [if_pos h, he]
    have h2 : ¬((k = 1 ∨ k = 2) ∧ 0 < n) := by
      rintro ⟨hk, hn⟩
      rcases h with h | h
      · rw [hw.2 hk] at h; cases h
      · omega
    rw [if_neg h2]
    constructor
    · intro h0; exact ⟨fun hc => h2 ⟨hc.1, by omega⟩, by omega⟩
    · intro h0; omega
  · rw [if_neg h]
    have hk : k = 1 ∨ k = 2 := hw.1 (by cases hx : writesF k with | true => rfl | false => exact absurd (.inl hx) h)
    have hn : 0 ≤ n := by omega
    simp only [Bool.and_eq_true, decide_eq_true_eq, beq_iff_eq]
    by_cases h0 : 0 < n
    · rw [if_pos ⟨hk, h0⟩]
      constructor
      · rintro ⟨a, b⟩; exact ⟨fun hc => by omega, by omega⟩
      · rintro ⟨a, b⟩; exact ⟨by omega, by omega⟩
    · rw [if_neg (fun hc => h0 hc.2)]
      constructor
      · rintro ⟨a, b⟩; exact ⟨fun hc => by omega, by omega⟩
      · rintro ⟨a, b⟩; exact ⟨by omega, by omega⟩

theorem Sim.len {d : Dv} {r : Rv} (h : Sim d r) (i : Nat) : (d.bs.getD i []).length = 64 * (r.bs.getD i []).length := by
  rw [← (h.each i).2, catB_len (h.each i).1]

theorem sim_flush {d : Dv} {r : Rv} (h : Sim d r) (hok : d.ok) : (rflushF r).1 = (dflushF d).1 ∧ Sim (dflushF d).2 (rflushF r).2 := by
  unfold rflushF dflushF
  rw [← h.dead]
  cases hd : d.dead with
  | true => exact ⟨rfl, h⟩
  | false =>
    refine ⟨rfl, h.m, ?_, rfl, h.nb, h.each⟩
    show d.bs.map (fun b => b.length / 64) = r.bs.map List.length
    apply List.ext_getElem
    · rw [List.length_map, List.length_map, h.nb, hok.nb]
    · intro i h1 h2
      rw [List.length_map] at h1 h2
      have := h.len i
      rw [List.getD_eq_getElem?_getD, List.getD_eq_getElem?_getD, List.getElem?_eq_getElem h1, List.getElem?_eq_getElem h2] at this
      simp only [Option.getD_some] at this
      rw [List.getElem_map, List.getElem_map, this]; omega
theorem sim_new {z b o a : Int} : Sim (dnewF z b o a) (rnewF z b o a) := by
  refine ⟨rfl, rfl, rfl, by simp [rnewF, dnewF, newF], fun i => ?_⟩
  have e1 : (rnewF z b o a).bs.getD i [] = [] := by simp only [rnewF, List.getD_eq_getElem?_getD, List.getElem?_replicate]; split <;> rfl
  have e2 : (dnewF z b o a).bs.getD i [] = [] := by simp only [dnewF, List.getD_eq_getElem?_getD, List.getElem?_replicate]; split <;> rfl
  rw [e1, e2]
  exact ⟨by simp, rfl⟩

theorem Sim.set {d : Dv} {r : Rv} (h : Sim d r) {i : Nat} (hi : i < d.m.zs.length) (hnb : d.bs.length = d.m.zs.length) {b : List UInt8} {l : List ByteArray} (h1 : ∀ s ∈ l, s.size = 64) (h2 : catB l = b) :
    ∀ j, (∀ s ∈ (r.bs.set i l).getD j [], s.size = 64) ∧ catB ((r.bs.set i l).getD j []) = (d.bs.set i b).getD j [] := by
  intro j
  rw [getD_set _ _ _ _ _ (by rw [h.nb]; exact hi), getD_set _ _ _ _ _ (by rw [hnb]; exact hi)]
  by_cases hj : i = j
  · rw [if_pos hj, if_pos hj]; exact ⟨h1, h2⟩
  · rw [if_neg hj, if_neg hj]; exact h.each j

theorem sim_do {d : Dv} {r : Rv} (h : Sim d r) (hok : d.ok) (k z a n : Int) (s : ByteArray) (hs : s.size ≤ 68719476736) :
    (rddoF r k z a n s).1 = (ddoF d k z a n s).1 ∧ Sim (ddoF d k z a n s).2 (rddoF r k z a n s).2 := by
  have hok2 := ok_ddo hok k z a n s
  have hft := sim_fits k n s hs
  have hdn := do_done d.m k z a n
  revert hok2
  unfold ddoF rddoF
  rw [← h.dead, ← h.m]
  cases hd : d.dead with
  | true => exact fun _ => ⟨rfl, h⟩
  | false =>
    simp only [Bool.false_eq_true, ↓reduceIte]
    cases hf : fitsF k n s with
    | false =>
      have hn : ¬(¬((k = 1 ∨ k = 2) ∧ 1073741824 < n) ∧ ¬((s.size : Int) ≠ (if (k = 1 ∨ k = 2) ∧ 0 < n then 64 * n else 0))) := fun hc => by rw [hft.2 hc] at hf; cases hf
      simp only [Bool.not_false, ↓reduceIte]
      intro _
      by_cases hc : (k = 1 ∨ k = 2) ∧ 1073741824 < n
      · rw [if_pos hc]; exact ⟨rfl, h⟩
      · by_cases hc2 : (s.size : Int) ≠ (if (k = 1 ∨ k = 2) ∧ 0 < n then 64 * n else 0)
        · rw [if_neg hc, if_pos hc2]; exact ⟨rfl, h⟩
        · exact absurd ⟨hc, hc2⟩ hn
    | true =>
      obtain ⟨f1, f2⟩ := hft.1 hf
      simp only [Bool.not_true, Bool.false_eq_true, ↓reduceIte]
      rw [if_neg f1, if_neg f2]
      obtain ⟨⟨⟨at_, e⟩, m'⟩, hq⟩ : ∃ q, doF d.m k z a n = q := ⟨_, rfl⟩
      rw [hq] at hdn ⊢
      simp only []
      by_cases he : e ≠ 0
      · rw [if_pos he, if_pos he]
        intro ok2
        exact ⟨rfl, rfl, h.la, rfl, by rw [h.nb]; exact hok.nb.symm.trans ok2.nb, h.each⟩
      · have he0 : e = 0 := by omega
        obtain ⟨hz, D⟩ := hdn he0
        rw [if_neg he, if_neg he]
        have hi := D.hi
        by_cases hk : k = 1 ∨ k = 2
        · rw [if_pos hk, if_pos hk]
          intro ok2
          have hn1 := (D.w hk).2.1
          have hsz : s.size = 64 * n.toNat := by
            have : (s.size : Int) = 64 * n := by rw [if_pos ⟨hk, by omega⟩] at f2; omega
            omega
          refine ⟨rfl, rfl, h.la, rfl, ?_, h.set hi hok.nb ?_ ?_⟩
          · show (r.bs.set _ _).length = m'.zs.length
            rw [List.length_set, h.nb, ← hok.nb]
            have := ok2.nb
            simpa using this
          · intro x hx
            rcases List.mem_append.1 hx with hx | hx
            · exact (h.each _).1 x hx
            · exact chunks_size hsz x hx
          · rw [catB_append, (h.each _).2, chunks_cat (by omega), List.take_of_length_le (show s.data.toList.length ≤ _ from by show s.size ≤ _; omega)]
        · rw [if_neg hk, if_neg hk]
          have nb2 : ∀ {x : Dv}, x.ok → x.m = m' → x.bs.length = d.bs.length → r.bs.length = m'.zs.length := fun o e l => by rw [h.nb, ← hok.nb, ← l, o.nb, e]
          by_cases h7 : k = 7
          · rw [if_pos h7, if_pos h7]
            intro ok2
            refine ⟨?_, rfl, h.la, rfl, nb2 ok2 rfl rfl, h.each⟩
            simp only []
            rw [catB_take (fun x hx => (h.each _).1 x (List.mem_of_mem_drop hx)), catB_drop (h.each _).1, (h.each _).2, Nat.mul_comm 64, Nat.mul_comm 64]
          · rw [if_neg h7, if_neg h7]
            by_cases h3 : k = 3
            · rw [if_pos h3, if_pos h3]
              intro ok2
              refine ⟨rfl, rfl, by simp only [h.la], rfl, ?_, h.set hi hok.nb (by simp) rfl⟩
              show (r.bs.set _ _).length = m'.zs.length
              rw [List.length_set, h.nb, ← hok.nb]
              have := ok2.nb
              simpa using this
            · rw [if_neg h3, if_neg h3]
              by_cases h4 : k = 4
              · rw [if_pos h4, if_pos h4]
                intro ok2
                refine ⟨rfl, rfl, ?_, rfl, nb2 ok2 rfl rfl, h.each⟩
                simp only []
                rw [h.la, h.len, Nat.mul_div_cancel_left _ (by omega)]
              · rw [if_neg h4, if_neg h4]
                intro ok2
                exact ⟨rfl, rfl, h.la, rfl, nb2 ok2 rfl rfl, h.each⟩

theorem sim_left {d : Dv} {r : Rv} (h : Sim d r) (keep : List Int) (i : Nat) : rleftF r keep i = leftF d keep i := by
  unfold rleftF leftF
  rw [h.len, Nat.mul_div_cancel_left _ (by omega), ← h.la]
  by_cases hk : keep.length = 0
  · rw [if_pos hk, if_pos hk]
    have : drestF 0 (((r.bs.getD i []).length : Int) - (d.la.getD i 0 : Int) + 1) = 0 := by unfold drestF; rw [if_neg (by omega)]; exact Int.zero_emod _
    rw [this]; rfl
  · rw [if_neg hk, if_neg hk]
theorem sim_lefts {d : Dv} {r : Rv} (h : Sim d r) (keep : List Int) : rleftsF r keep = leftsF d keep := by
  unfold rleftsF leftsF
  rw [← h.m]
  exact List.map_congr_left fun i _ => sim_left h keep i
theorem sim_lose {d : Dv} {r : Rv} (h : Sim d r) (keep : List Int) : Sim (dloseF d keep) (rloseF r keep) := by
  refine ⟨?_, (sim_lefts h keep).symm, h.dead, ?_, fun i => ?_⟩
  · simp only [dloseF, rloseF, sim_lefts h keep, h.m]
  · simp [rloseF, dloseF, lostL, h.m]
  · by_cases hi : i < d.m.zs.length
    · have e1 : (rloseF r keep).bs.getD i [] = (r.bs.getD i []).take (leftF d keep i) := by
        rw [← sim_left h keep i]; exact range_get _ i (fun i => (r.bs.getD i []).take (rleftF r keep i)) [] (by rw [← h.m]; exact hi)
      have e2 : (dloseF d keep).bs.getD i [] = (d.bs.getD i []).take (leftF d keep i * 64) := range_get _ i (fun i => (d.bs.getD i []).take (leftF d keep i * 64)) [] hi
      rw [e1, e2]
      exact ⟨fun s hs => (h.each i).1 s (List.mem_of_mem_take hs), by rw [catB_take (h.each i).1, (h.each i).2, Nat.mul_comm]⟩
    · have e1 : (rloseF r keep).bs.getD i [] = [] := by
        rw [List.getD_eq_getElem?_getD, List.getElem?_eq_none (by simp [rloseF, ← h.m]; omega)]; rfl
      have e2 : (dloseF d keep).bs.getD i [] = [] := by
        rw [List.getD_eq_getElem?_getD, List.getElem?_eq_none (by simp [dloseF]; omega)]; rfl
      rw [e1, e2]
      exact ⟨by simp, rfl⟩

end Go.Proofs.Ytojceddgmmapdaa
