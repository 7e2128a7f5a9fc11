/-
  Walks of geom.Good, the rig's New.
-/
import Derived.Test.YtadpeopbfoppjaaG5
import Derived.Maps.AppendAt
namespace Go.Proofs.Ytadpeopbfoppjaa
open Go.RowKit

theorem within_any (n lo hi : Int) (w : World) : Calls Try.prog 32 #[.int .i64 n, .int .i64 lo, .int .i64 hi] w fun e w' => e = .returned (.bool (decide (lo ≤ n) && decide (n ≤ hi))) ∧ w = w' := by
  by_cases h1 : lo ≤ n
  · by_cases h2 : n ≤ hi
    · go_enter Try.func32, Try.ntmps32
      go_wp2_with fail
      go_ret
      exact ⟨by simp [h1, h2], rfl⟩
    · go_enter Try.func32, Try.ntmps32
      go_wp2_with fail
      go_ret
      exact ⟨by simp [h2], rfl⟩
  · have h3 : decide (lo ≤ n) = false := by simpa using h1
    go_enter Try.func32, Try.ntmps32
    go_wp2_with fail
    go_ret
    exact ⟨by simp, rfl⟩

def goodF (d z b o a : Int) : Bool := decide (3 ≤ d ∧ d ≤ 16 ∧ 5 ≤ z ∧ z ≤ 64 ∧ 4 ≤ b ∧ b ≤ 256 ∧ 1 ≤ o ∧ o ≤ a ∧ a ≤ z)

theorem within_yes (n lo hi : Int) (w : World) (h1 : lo ≤ n) (h2 : n ≤ hi) : Calls Try.prog 32 #[.int .i64 n, .int .i64 lo, .int .i64 hi] w fun e w' => e = .returned (.bool true) ∧ w = w' :=
  (within_any n lo hi w).mono fun _ _ ⟨he, hw⟩ => ⟨by rw [he]; simp [h1, h2], hw⟩

theorem good_yes (d z b o a : Int) (w : World) (h : goodF d z b o a = true) :
    Calls Try.prog 21 #[.agg #[.int .i64 d, .int .i64 z, .int .i64 b, .int .i64 o, .int .i64 a]] w fun e w' => e = .returned (.bool true) ∧ Below w.heap.size w w' := by
  unfold goodF at h
  obtain ⟨h1, h2, h3, h4, h5, h6, h7, h8, h9⟩ := of_decide_eq_true h
  clear h
  go_enter Try.func21, Try.ntmps21
  go_wp2_with fail
  refine (within_yes _ _ _ _ h1 h2).mono ?_
  rintro e w1 ⟨rfl, rfl⟩
  go_wp2_with fail
  refine (within_yes _ _ _ _ h3 h4).mono ?_
  rintro e w1 ⟨rfl, rfl⟩
  go_wp2_with fail
  refine (within_yes _ _ _ _ h5 h6).mono ?_
  rintro e w1 ⟨rfl, rfl⟩
  go_wp2_with fail
  refine (within_yes _ _ _ _ h7 h8).mono ?_
  rintro e w1 ⟨rfl, rfl⟩
  go_wp2_with fail
  go_ret
  exact ⟨rfl, (Below.refl _ _).alloc (Nat.le_refl _) _⟩

theorem getD_snoc_lt {α : Type} (l : List α) (x y : α) (i : Nat) (h : i < l.length) : (l ++ [x]).getD i y = l.getD i y := by
  simp [List.getD_eq_getElem?_getD, List.getElem?_append_left h]
theorem getD_snoc_at {α : Type} (l : List α) (x y : α) (i : Nat) (h : i = l.length) : (l ++ [x]).getD i y = x := by
  subst h; simp [List.getD_eq_getElem?_getD]

theorem own_slice {w : World} {B E n : Nat} {v : Value} {xs : List Value} (h : w.ownsRow B E 1 v n xs) : ∃ a c, v = .slice a n c := by
  obtain ⟨hl, ⟨h1, h2⟩ | ⟨g, cap, cur, h1, _⟩⟩ := h
  · exact ⟨none, 0, by rw [h1, h2]⟩
  · exact ⟨_, _, h1⟩

/-- One drive more. -/
theorem IsR.snoc {w w2 w3 : World} {P : Pl} {r : Rg} {bd : Nat} {F : List Nat} {d : Dv} {v' : Value} (h : IsR w P r) (hm : Mod [] w w2) (hd : DrvIn w2 bd F d) (hF : ∀ x ∈ F, w.heap.size ≤ x)
    (hg : w2.grownBy w3 P.dv.ownBlock) (ho : w3.ownsRow 0 55 1 v' (r.ds.length + 1) ((P.ps.map fun b => Value.pointer (some ⟨b, 0, none⟩)) ++ [.pointer (some ⟨bd, 0, none⟩)])) (hv : v'.ownBlock = P.dv.ownBlock ∨ ∃ g, v'.ownBlock = some g ∧ w.heap.size ≤ g ∧ ∀ x ∈ F, x ≠ g) (hl : r.ds.length + 1 ≤ 17) :
    IsR (w3.setCell ⟨P.br, 0, none⟩ v') { P with dv := v', ps := P.ps ++ [bd], Fs := P.Fs ++ [F] } { r with ds := r.ds ++ [d] } ∧ Mod (P.br :: P.own) w (w3.setCell ⟨P.br, 0, none⟩ v') ∧ ∀ x ∈ Pl.feet { P with dv := v', ps := P.ps ++ [bd], Fs := P.Fs ++ [F] }, x ∈ P.feet ∨ w.heap.size ≤ x := by
  have hm3 : Mod P.own w2 w3 := Mod.of_grown hg _ (fun g hg => Option.mem_toList.2 hg)
  have hm4 : Mod P.own w w3 := hm.trans hm3 (fun i _ h => h.elim (by simp) id)
  have hm5 : Mod (P.br :: P.own) w (w3.setCell ⟨P.br, 0, none⟩ v') := (hm4.mono (fun i _ hi => List.mem_cons_of_mem _ hi)).set (.inl (by simp)) _
  have hown : ∀ x ∈ P.own, x < w.heap.size := fun x hx => h.lt x (IsR.feet_hd (IsR.own_hd hx))
  have hbr : P.br < w.heap.size := h.rig.lt
  have hbo : P.br ∉ P.own := fun hx => h.hd1 (List.mem_append_left _ hx)
  have hvo : ∀ g, v'.ownBlock = some g → g ∈ P.own ∨ (w.heap.size ≤ g ∧ ∀ x ∈ F, x ≠ g) := fun g hg => by
    rcases hv with hv | ⟨g', hv, h1, h2⟩
    · exact .inl (Option.mem_toList.2 (hv ▸ hg))
    · rw [hv] at hg
      injection hg with hg
      subst hg
      exact .inr ⟨h1, h2⟩
  have hno : ∀ i x, i < r.ds.length → x ∈ P.Fs.getD i [] → x ∉ P.br :: P.own := fun i x hi hx hx' => by
    rcases List.mem_cons.1 hx' with rfl | hx'
    · exact h.off i _ hi hx IsR.br_hd
    · exact h.off i _ hi hx (IsR.own_hd hx')
  have hln : (r.ds ++ [d]).length = r.ds.length + 1 := by simp
  have hnF : P.Fs.length = r.ds.length := h.nF
  have hGo : ∀ x ∈ P.G, x ∉ P.br :: P.own := fun x hx hx' => by
    rcases List.mem_cons.1 hx' with rfl | hx'
    · exact h.hd1 (List.mem_append_right _ hx)
    · exact h.hd2 x hx' hx
  have hgetF : ∀ i, i < r.ds.length + 1 → (i < r.ds.length ∧ (P.Fs ++ [F]).getD i [] = P.Fs.getD i []) ∨ (i = r.ds.length ∧ (P.Fs ++ [F]).getD i [] = F) := fun i hi => by
    by_cases hlt : i < r.ds.length
    · exact .inl ⟨hlt, getD_snoc_lt _ _ _ _ (by omega)⟩
    · exact .inr ⟨by omega, getD_snoc_at _ _ _ _ (by omega)⟩
  refine ⟨⟨(hm4.blk h.rig hbo).set 0 _, ?_, by simp [h.np], by simp [h.nF], fun i hi => ?_, ?_, fun x hx => Nat.lt_of_lt_of_le (h.gs x hx) hm5.size, fun hx => ?_, fun x hx hx' => ?_, fun i x hi hx hx' => ?_, fun i j x hi hj hij hx hx' => ?_, by rw [hln]; exact hl⟩, hm5, fun x hx => ?_⟩
  · show World.ownsRow _ 0 _ 1 v' (r.ds ++ [d]).length ((P.ps ++ [bd]).map _)
    rw [hln, List.map_append]
    refine ownsRow_block ho fun g hg => Below.heap_setCell _ _ _ _ ?_
    show g ≠ P.br
    rintro rfl
    rcases hvo _ hg with h1 | h1
    · exact hbo h1
    · omega
  · rw [hln] at hi
    show DrvIn _ ((P.ps ++ [bd]).getD i 0) ((P.Fs ++ [F]).getD i []) ((r.ds ++ [d]).getD i dv0)
    rcases hgetF i hi with ⟨hlt, e⟩ | ⟨rfl, e⟩
    · rw [e, getD_snoc_lt _ _ _ _ (by rw [h.np]; exact hlt), getD_snoc_lt _ _ _ _ hlt]
      exact (h.each i hlt).mod hm5 (fun x hx => hno i x hlt hx)
    · rw [e, getD_snoc_at _ _ _ _ h.np.symm, getD_snoc_at _ _ _ _ rfl]
      refine (hd.mod hm3 (fun x hx hx' => ?_)).mod (mod_put (b := P.br)) (fun x hx hx' => ?_)
      · have := hF x hx; have := hown x hx'; omega
      · rw [List.mem_singleton] at hx'
        have := hF x hx; omega
  · exact h.set.mod hm5 hGo
  · rcases List.mem_append.1 hx with hx | hx
    · rcases hvo _ (Option.mem_toList.1 hx) with h1 | h1
      · exact hbo h1
      · have : w.heap.size ≤ P.br := h1.1
        omega
    · exact h.hd1 (List.mem_append_right _ hx)
  · rcases hvo _ (Option.mem_toList.1 hx) with h1 | h1
    · exact h.hd2 x h1 hx'
    · have := h.gs x hx'; omega
  · rw [hln] at hi
    have hx : x ∈ (P.Fs ++ [F]).getD i [] := hx
    rcases hgetF i hi with ⟨hlt, e⟩ | ⟨_, e⟩
    · rw [e] at hx
      have hxl := h.lt x (h.feet_of hlt hx)
      rcases List.mem_cons.1 hx' with rfl | hx'
      · exact h.off i _ hlt hx IsR.br_hd
      · rcases List.mem_append.1 hx' with hx' | hx'
        · rcases hvo _ (Option.mem_toList.1 hx') with h1 | h1
          · exact h.off i _ hlt hx (IsR.own_hd h1)
          · omega
        · exact h.off i _ hlt hx (IsR.G_hd hx')
    · rw [e] at hx
      have hxl := hF x hx
      rcases List.mem_cons.1 hx' with rfl | hx'
      · have : w.heap.size ≤ P.br := hxl
        omega
      · rcases List.mem_append.1 hx' with hx' | hx'
        · rcases hvo _ (Option.mem_toList.1 hx') with h1 | h1
          · have := hown x h1; omega
          · exact h1.2 x hx rfl
        · have := h.gs x hx'; omega
  · rw [hln] at hi hj
    replace hx : x ∈ (P.Fs ++ [F]).getD i [] := hx
    replace hx' : x ∈ (P.Fs ++ [F]).getD j [] := hx'
    rcases hgetF i hi with ⟨hli, ei⟩ | ⟨hi', ei⟩
    · rw [ei] at hx
      have hxl := h.lt x (h.feet_of hli hx)
      rcases hgetF j hj with ⟨hlj, ej⟩ | ⟨_, ej⟩
      · rw [ej] at hx'
        exact h.apart i j x hli hlj hij hx hx'
      · rw [ej] at hx'
        have := hF x hx'; omega
    · rw [ei] at hx
      have hxl := hF x hx
      rcases hgetF j hj with ⟨hlj, ej⟩ | ⟨hj', _⟩
      · rw [ej] at hx'
        have := h.lt x (h.feet_of hlj hx'); omega
      · omega
  · rcases List.mem_append.1 hx with hx | hx
    · rcases List.mem_cons.1 hx with rfl | hx
      · exact .inl (IsR.feet_hd IsR.br_hd)
      · rcases List.mem_append.1 hx with hx | hx
        · rcases hvo _ (Option.mem_toList.1 hx) with h1 | h1
          · exact .inl (IsR.feet_hd (IsR.own_hd h1))
          · exact .inr h1.1
        · exact .inl (IsR.feet_hd (IsR.G_hd hx))
    · rw [List.flatten_append, List.mem_append] at hx
      rcases hx with hx | hx
      · exact .inl (List.mem_append_right _ hx)
      · simp at hx
        exact .inr (hF x hx)

/-- The rounds of New: k drives are made. -/
def NewRel (w : World) (bn : Nat) (z b o a : Int) (k : Nat) (wr : World) : Prop :=
  ∃ P, P.br = bn ∧ IsR wr P ⟨List.replicate k (dnewF z b o a), b, none, false, 0⟩ ∧ Mod [] w wr ∧ ∀ x ∈ P.feet, w.heap.size < x

def gnewF (n : Nat) (z b o a : Int) : Rg := ⟨List.replicate n (dnewF z b o a), b, none, false, 0⟩

theorem infoPD : (Try.prog.info? 55).map (fun i => (i.zero, i.size, i.bytes)) = some (some (.pointer none), 1, 8) := by kernel_rfl

set_option maxHeartbeats 4000000 in
set_option maxRecDepth 100000 in
theorem gnew_any (d z b o a : Int) (n : Nat) (w : World) (hg : goodF d z b o a = true) (h1 : 1 ≤ n) (h2 : n ≤ 17) :
    Calls Try.prog 8 #[.agg #[.int .i64 d, .int .i64 z, .int .i64 b, .int .i64 o, .int .i64 a], .int .i64 n] w fun e w' => ∃ P, e = .returned (.tuple #[.pointer (some ⟨P.br, 0, none⟩), .int .i64 0]) ∧ IsR w' P (gnewF n z b o a) ∧ Mod [] w w' ∧ ∀ x ∈ P.feet, w.heap.size ≤ x := by
  have hok : newOk z b o a = true := by
    unfold goodF at hg
    obtain ⟨g1, g2, g3, g4, g5, g6, g7, g8, g9⟩ := of_decide_eq_true hg
    simp only [newOk, Bool.and_eq_true, decide_eq_true_eq]
    omega
  have hn1 : decide ((n : Int) < 1) = false := by simp; omega
  have hn2 : decide ((17 : Int) < (n : Int)) = false := by simp; omega
  have hn3 : decide (n < 1) = false := by simp; omega
  have hn4 : decide (17 < n) = false := by simp; omega
  go_enter Try.func8, Try.ntmps8
  go_wp2_with fail
  refine (good_yes d z b o a _ hg).mono ?_
  rintro e w1 ⟨rfl, hb1⟩
  have hbg : Blk w1 w.heap.size #[.int .i64 d, .int .i64 z, .int .i64 b, .int .i64 o, .int .i64 a] 28 := (Mod.of_below hb1 []).blk (Blk.new w _ _) (by simp)
  have HM1 : Hid (Mod [] w w1) := ((Mod.refl [] w).alloc _).trans' (Mod.of_below hb1 [])
  have p1 := hbg.cell (i := 1) rfl
  have p2 := hbg.cell (i := 2) rfl
  have p3 := hbg.cell (i := 3) rfl
  have p4 := hbg.cell (i := 4) rfl
  have hgl := hbg.lt
  have Hbg := Lib.hid hbg
  clear hb1 hbg
  obtain ⟨i0, ei0, ei1, ei2, ei3⟩ := info_parts infoPD
  go_wp2_with fail
  go_loopw [25] (fun s25 wr => ∃ k : Nat, s25 = .int .i64 k ∧ k ≤ n ∧ NewRel w w1.heap.size z b o a k wr ∧ Blk wr w.heap.size #[.int .i64 d, .int .i64 z, .int .i64 b, .int .i64 o, .int .i64 a] 28) (fun s25 _ => 20 - (intOf s25).toNat)
  case atStart =>
    refine ⟨0, rfl, Nat.zero_le _, ⟨⟨w1.heap.size, .slice none 0 0, [], [], .pointer none, []⟩, rfl, ⟨Blk.new w1 _ _, ⟨rfl, .inl ⟨rfl, rfl⟩⟩, rfl, rfl, fun i hi => by simp at hi, rfl, by simp, by simp [Pl.own, Value.ownBlock], by simp, fun i x hi => by simp at hi, fun i j x hi => by simp at hi, by simp⟩, HM1.out.alloc _, fun x hx => ?_⟩, Hbg.out.alloc _⟩
    simp [Pl.feet, Pl.hd, Pl.own, Value.ownBlock] at hx
    omega
  case round =>
    obtain ⟨k, rfl, hk, ⟨P, hbn, hIk, hmk, hfk⟩, hbk⟩ := hrel
    have HIk := Lib.hid hIk; have Hmk := Lib.hid hmk; have Hfk := Lib.hid hfk; have Hbk := Lib.hid hbk; have Hbn := Lib.hid hbn
    have q1 := hbk.cell (i := 1) rfl
    have q2 := hbk.cell (i := 2) rfl
    have q3 := hbk.cell (i := 3) rfl
    have q4 := hbk.cell (i := 4) rfl
    have hgk := hbk.lt
    have hlb := hIk.rig.lt
    have c0 := hIk.cells.c0
    have f0 := hIk.rig.frozen 0
    have hrow := hIk.row
    rw [hbn] at hlb c0 f0
    clear hIk hmk hfk hbk hbn
    by_cases hlt : k < n
    · go_wp2_with fail
      refine (dnewI z b o a _ hok).mono ?_
      rintro e w2 ⟨bd, F, rfl, hd, hm2, hF⟩
      have u0 : w2.cell? ⟨w1.heap.size, 0, none⟩ = some P.dv := (hm2.cell hlb (by simp)).trans c0
      have v0 : w2.frozen? ⟨w1.heap.size, 0, none⟩ = false := (hm2.frozen hlb (by simp)).trans f0
      have hlb2 : w1.heap.size < w2.heap.size := Nat.lt_of_lt_of_le hlb hm2.size
      have hrow2 : Hid (w2.ownsRow 0 55 1 P.dv k (P.ps.map fun b => Value.pointer (some ⟨b, 0, none⟩))) := by
        have h1 := ownsRow_block hrow (w' := w2) fun g hg => hm2.block g (ownsRow_lt hrow hg) (by simp)
        have h2 : w2.ownsRow 0 55 1 P.dv k (P.ps.map fun b => Value.pointer (some ⟨b, 0, none⟩)) := by simpa using h1
        exact h2
      have Hd := Lib.hid hd; have Hm2 := Lib.hid hm2; have HF := Lib.hid hF
      clear hd hm2 hF hrow
      have hown : Hid (∀ o, (w2.alloc o).ownsRow 0 55 1 P.dv k (P.ps.map fun b => Value.pointer (some ⟨b, 0, none⟩))) := fun o => hrow2.out.alloc o
      have Hbo : Hid (∀ g, P.dv.ownBlock = some g → g ≠ w1.heap.size) := fun g hg e => HIk.out.hd1 (List.mem_append_left _ (by rw [Hbn.out, ← e]; exact Option.mem_toList.2 hg))
      go_wp2_with (at_builtin; refine wpList_append_own_at _ rfl _ _ 51 rfl 0 55 i0 (.pointer none) 1 8 Try.underlying51 ei0 ei1 ei2 ei3 rfl (by decide) P.dv k (P.ps.map fun b => Value.pointer (some ⟨b, 0, none⟩)) rfl (hown.out _) ⟨w2.heap.size, 0, none⟩ 1 1 [.pointer (some ⟨bd, 0, none⟩)] rfl rfl (World.news_of_block (heap_alloc_new w2 _)) (by simp [Value.oneCell']) (by unfold maxLen; omega) (by omega) (Nat.zero_le _) ?_; intro v' w3 hown3 hgrow3 _ hat3; obtain ⟨va, vc, rfl⟩ := own_slice hown3; have e0 : w3.cell? ⟨w1.heap.size, 0, none⟩ = some P.dv := (hgrow3.cell_far ⟨w1.heap.size, 0, none⟩ (by simp; omega) (fun e => Hbo.out _ e.symm rfl)).trans ((((Mod.refl [] w2).alloc _).cell hlb2 (by simp)).trans u0); have g0 : w3.frozen? ⟨w1.heap.size, 0, none⟩ = false := (hgrow3.frozen_far ⟨w1.heap.size, 0, none⟩ (by simp; omega) (fun e => Hbo.out _ e.symm rfl)).trans ((((Mod.refl [] w2).alloc _).frozen hlb2 (by simp)).trans v0); have hlb3 : w1.heap.size < w3.heap.size := Nat.lt_of_lt_of_le hlb2 (by have := hgrow3.size; simp at this; omega); have Hown3 := Lib.hid hown3; have Hgrow3 := Lib.hid hgrow3; have Hat3 := Lib.hid hat3; clear hown3 hgrow3 hat3)
      have hsn := HIk.out.snoc (w2 := w2.alloc (.cells #[.pointer (some ⟨bd, 0, none⟩)] 55)) (w3 := w3) (d := dnewF z b o a) (F := F) (bd := bd) (v' := .slice va (k + 1) vc) (Hm2.out.alloc _) (Hd.out.mod ((Mod.refl [] w2).alloc _) (by simp)) HF.out Hgrow3.out (by have := Hown3.out; simpa using this) ?c1 (by simp; omega)
      case c1 =>
        rcases Hat3.out with h | h
        · exact .inl h
        · refine .inr ⟨_, h, ?_, fun x hx => ?_⟩
          · have := Hm2.out.size; simp; omega
          · have := Hd.out.lt x hx; simp; omega
      obtain ⟨s1, s2, s3⟩ := hsn
      rw [Hbn.out] at s1 s2 s3
      have S1 := Lib.hid s1; have S2 := Lib.hid s2; have S3 := Lib.hid s3
      clear s1 s2 s3
      go_roundw
      case rel =>
        refine ⟨k + 1, by go_num, by omega, ⟨⟨w1.heap.size, .slice va (k + 1) vc, P.ps ++ [bd], P.Fs ++ [F], P.sv, P.G⟩, rfl, ?_, Hmk.out.trans S2.out (fun i hi h => h.elim (by simp) (fun h => ?_)), fun x hx => ?_⟩, ?_⟩
        · have := S1.out
          rw [List.replicate_succ']
          exact this
        · have h2 : i ∈ P.feet := by
            rcases List.mem_cons.1 h with h | h
            · rw [h, ← Hbn.out]; exact IsR.feet_hd IsR.br_hd
            · exact IsR.feet_hd (IsR.own_hd h)
          have := Hfk.out i h2; omega
        · rcases S3.out x hx with h | h
          · exact Hfk.out x h
          · exact Nat.lt_of_lt_of_le Hbk.out.lt h
        · refine S2.out.blk Hbk.out (fun h => ?_)
          have h2 : w.heap.size ∈ P.feet := by
            rcases List.mem_cons.1 h with h | h
            · rw [h, ← Hbn.out]; exact IsR.feet_hd IsR.br_hd
            · exact IsR.feet_hd (IsR.own_hd h)
          have := Hfk.out _ h2; omega
      case measure => simp [intOf]; omega
    · go_wp2_with fail
      obtain rfl : k = n := by omega
      go_ret2
      exact ⟨P, by rw [Hbn.out]; rfl, HIk.out, Hmk.out, fun x hx => Nat.le_of_lt (Hfk.out x hx)⟩

end Go.Proofs.Ytadpeopbfoppjaa
