/-
  Plain: a loss of power of the document's drive, zone by zone.
  Walk of the document's drive: Lose.
  Walk of the law's own function 'same': both drives show the same.
-/
import Derived.Test.YtojceddgmmapdaaDR1
import Derived.Test.YtojceddgmmapdaaD8L
import Derived.Test.YtojceddgmmapdaaZO2
import Derived.Test.YtojceddgmmapdaaZQ7
import Derived.Test.YtojceddgmmapdaaWLast
import Derived.Test.YtojceddgmmapdaaZQ8
namespace Go.Proofs.Ytojceddgmmapdaa
open Go.RowKit

theorem rleft_le {r : Rv} (h : r.ok) (keep : List Int) {i : Nat} (hi : i < r.m.zs.length) : r.la.getD i 0 ≤ rleftF r keep i ∧ rleftF r keep i ≤ (r.bs.getD i []).length := by
  have h1 := h.la i hi
  have h2 := drestF_lt (if keep.length = 0 then 0 else keep.getD (i % keep.length) 0) (((r.bs.getD i []).length : Int) - (r.la.getD i 0 : Int) + 1) (by omega)
  unfold rleftF
  omega

def rloseK (r : Rv) (keep : List Int) (k : Nat) : Rv :=
  { r with
    bs := (List.range r.m.zs.length).map fun i => if i < k then (r.bs.getD i []).take (rleftF r keep i) else r.bs.getD i []
    la := (List.range r.m.zs.length).map fun i => if i < k then rleftF r keep i else r.la.getD i 0 }

theorem rloseK_zero {r : Rv} (h1 : r.bs.length = r.m.zs.length) (h2 : r.la.length = r.m.zs.length) (keep : List Int) : rloseK r keep 0 = r := by
  obtain ⟨m, bs, la, dead⟩ := r
  simp only [rloseK, Nat.not_lt_zero, if_false]
  simp only at h1 h2
  congr 1
  · rw [← h1]; exact range_id bs []
  · rw [← h2]; exact range_id la 0

theorem rloseK_succ (r : Rv) (keep : List Int) (k : Nat) (hk : k < r.m.zs.length) :
    ({ rloseK r keep k with bs := (rloseK r keep k).bs.set k ((r.bs.getD k []).take (rleftF r keep k)), la := (rloseK r keep k).la.set k (rleftF r keep k) } : Rv) = rloseK r keep (k + 1) := by
  simp only [rloseK]
  congr 1
  · exact range_set _ _ _ _ _ hk (by simp) (fun j hj => by
      by_cases h : j < k
      · rw [if_pos h, if_pos (by omega)]
      · rw [if_neg h, if_neg (by omega)])
  · exact range_set _ _ _ _ _ hk (by simp) (fun j hj => by
      by_cases h : j < k
      · rw [if_pos h, if_pos (by omega)]
      · rw [if_neg h, if_neg (by omega)])

theorem rloseK_at (r : Rv) (keep : List Int) (k : Nat) (hk : k < r.m.zs.length) : (rloseK r keep k).bs.getD k [] = r.bs.getD k [] ∧ (rloseK r keep k).la.getD k 0 = r.la.getD k 0 := by
  simp only [rloseK]
  rw [range_get _ _ _ _ hk, range_get _ _ _ _ hk]
  simp

theorem rloseK_end (r : Rv) (keep : List Int) : ({ rloseK r keep r.m.zs.length with m := { r.m with zs := lostL ((rleftsF r keep).map fun n : Nat => (n : Int)) r.m.zs } } : Rv) = rloseF r keep := by
  simp only [rloseK, rloseF, rleftsF]
  congr 1
  · apply List.map_congr_left
    intro i hi
    rw [if_pos (List.mem_range.1 hi)]
  · apply List.map_congr_left
    intro i hi
    rw [if_pos (List.mem_range.1 hi)]

/-- What is left of the first k zones, as cells. -/
def rleftC (r : Rv) (keep : List Int) (k : Nat) : List Value := (List.range k).map fun i => Value.int .i64 (rleftF r keep i : Int)
theorem rleftC_succ (r : Rv) (keep : List Int) (k : Nat) : rleftC r keep (k + 1) = rleftC r keep k ++ [.int .i64 (rleftF r keep k : Int)] := by simp [rleftC, List.range_succ]
theorem rleftC_ints (r : Rv) (keep : List Int) : rleftC r keep r.m.zs.length = ((rleftsF r keep).map fun n : Nat => (n : Int)).map (Value.int .i64) := by
  simp only [rleftC, rleftsF, List.map_map]
  rfl

theorem IsRd.slice2 {w : World} {bd bm bz bb bl : Nat} {d : Rv} {vs : List Value} (h : IsRd w bd bm bz bb bl d vs) {i : Nat} (hi : i < d.m.zs.length) : ∃ (a : Option Addr) (c : Nat), vs.getD i (.bool false) = .slice a (d.bs.getD i []).length c ∧ (0 < (d.bs.getD i []).length → ∃ g, a = some ⟨g, 0, none⟩ ∧ ∀ j (hj : j < (d.bs.getD i []).length), w.cell? ⟨g, j, none⟩ = some (.string (d.bs.getD i [])[j])) := by
  have hr := h.row i hi
  obtain ⟨a, c, hv⟩ := h.slice hi
  refine ⟨a, c, hv, fun h0 => ?_⟩
  obtain ⟨g, cp, hv2, -, -⟩ := hr.form h0
  rw [hv] at hv2
  simp only [Value.slice.injEq] at hv2
  obtain ⟨rfl, -, -⟩ := hv2
  refine ⟨g, rfl, fun j hj => ?_⟩
  rw [hv] at hr
  have := hr.cells (g := g) rfl j _ (by simp [sc] : (sc (d.bs.getD i []))[j]? = some (.string (d.bs.getD i [])[j]))
  rw [Addr.add_lit] at this
  simpa using this

/-- What Lose leaves. -/
def RLosePost (bd bm bz bb bl : Nat) (vs : List Value) (r' : Rv) (w : World) (e : Ending) (w' : World) : Prop :=
  e = .returned (.tuple #[]) ∧ ∃ vs', IsRd w' bd bm bz bb bl r' vs' ∧ Mod (feet bd bm bz bb bl vs) w w' ∧ ∀ x ∈ feet bd bm bz bb bl vs', x ∈ feet bd bm bz bb bl vs ∨ w.heap.size ≤ x

/-- What holds when k zones are done. -/
structure RLoseRel (bd bm bz bb bl b : Nat) (r : Rv) (vs : List Value) (keep : List Int) (kv : Value) (w wr : World) (k : Nat) (vk : List Value) (lv : Value) : Prop where
  hk : k ≤ r.m.zs.length
  I : IsRd wr bd bm bz bb bl (rloseK r keep k) vk
  M : Mod (feet bd bm bz bb bl vs) w wr
  F : ∀ x ∈ feet bd bm bz bb bl vk, x ∈ feet bd bm bz bb bl vs ∨ w.heap.size ≤ x
  O : wr.ownsRow w.heap.size 3 1 lv k (rleftC r keep k)
  A : ∀ g, lv.ownBlock = some g → g ∉ feet bd bm bz bb bl vk
  K : IntsAt wr kv keep b

theorem ownsRow_ge {w : World} {base e size n : Nat} {v : Value} {xs : List Value} (h : w.ownsRow base e size v n xs) {g : Nat} (hg : v.ownBlock = some g) : base ≤ g := by
  obtain ⟨hl, ⟨rfl, _⟩ | ⟨g', cap, cur, rfl, hb, _⟩⟩ := h
  · cases hg
  · cases hg; exact hb

theorem RLoseRel.same {bd bm bz bb bl b : Nat} {r : Rv} {vs : List Value} {keep : List Int} {kv : Value} {w wr wy : World} {k : Nat} {vk : List Value} {lv : Value} (h : RLoseRel bd bm bz bb bl b r vs keep kv w wr k vk lv) (hm : Mod [] wr wy) : RLoseRel bd bm bz bb bl b r vs keep kv w wy k vk lv :=
  ⟨h.hk, h.I.same hm, h.M.trans' (hm.mono (by simp)), h.F, ownsRow_block h.O (fun g hg => hm.block g (ownsRow_lt h.O hg) (by simp)), h.A, h.K.mod hm (by simp)⟩

theorem ownsRow_zero {w : World} {base e size n : Nat} {v : Value} {xs : List Value} (h : w.ownsRow base e size v n xs) : w.ownsRow 0 e size v n xs :=
  ⟨h.1, h.2.imp id (fun ⟨g, cap, cur, h1, _, h2⟩ => ⟨g, cap, cur, h1, Nat.zero_le _, h2⟩)⟩

/-- A zone is done: its rows are put, what lasts is put, what is left is noted. -/
theorem RLoseRel.next {bd bm bz bb bl b : Nat} {r : Rv} {vs : List Value} {keep : List Int} {kv : Value} {w wd wq w2 w3 : World} {k : Nat} {vk : List Value} {lv lv' v8 : Value} (h : RLoseRel bd bm bz bb bl b r vs keep kv w wd k vk lv)
    (hlt : k < r.m.zs.length) (_hL : ∀ x ∈ feet bd bm bz bb bl vs, x < w.heap.size) (hbk : 0 < keep.length → b ∉ feet bd bm bz bb bl vs ∧ b < w.heap.size) (hq : Mod [] wd wq) (h8 : wq.ownsRow wd.heap.size 9 1 v8 (rleftF r keep k) (sc ((r.bs.getD k []).take (rleftF r keep k)))) (hle : rleftF r keep k ≤ (r.bs.getD k []).length)
    (h2 : Mod [] ((wq.setCell ⟨bb, k, none⟩ v8).setCell ⟨bl, k, none⟩ (.int .i64 (rleftF r keep k : Int))) w2) (h3 : w2.grownBy w3 lv.ownBlock) (hO : w3.ownsRow w.heap.size 3 1 lv' (k + 1) (rleftC r keep (k + 1))) (hlv : ∀ g, lv'.ownBlock = some g → lv.ownBlock = some g ∨ w2.heap.size ≤ g) :
    RLoseRel bd bm bz bb bl b r vs keep kv w w3 (k + 1) (vk.set k v8) lv' := by
  have hat := rloseK_at r keep k hlt
  have hfk := h.I.feet_lt
  have h1 := h.I.setB (w1 := wq) k hlt [] hq (by simp) v8 ((r.bs.getD k []).take (rleftF r keep k)) (by rw [List.length_take, Nat.min_eq_left hle]; exact ownsRow_zero h8) (fun g hg => .inr (ownsRow_ge h8 hg))
  have h2' := h1.setL k (rleftF r keep k)
  have he := rloseK_succ r keep k hlt
  have h4 : IsRd w2 bd bm bz bb bl (rloseK r keep (k + 1)) (vk.set k v8) := by
    rw [← he]; exact h2'.same h2
  have hsz : wd.heap.size ≤ w2.heap.size := by have := hq.size; have := h2.size; simp at this; omega
  have hls : ∀ g, lv.ownBlock = some g → w.heap.size ≤ g ∧ g < wd.heap.size := fun g hg => ⟨ownsRow_ge h.O hg, ownsRow_lt h.O hg⟩
  have hnf : ∀ g, lv.ownBlock = some g → g ∉ feet bd bm bz bb bl (vk.set k v8) := fun g hg hx => by
    rcases feet_set hx with hx | hx
    · exact h.A g hg hx
    · have := ownsRow_ge h8 hx; have := (hls g hg).2; omega
  have hm3 : Mod lv.ownBlock.toList w2 w3 := Mod.of_grown h3 _ (fun g hg => Option.mem_toList.2 hg)
  have hM2 : Mod (feet bd bm bz bb bl vs) w w2 := by
    have a1 := ((h.M.trans' (hq.mono (by simp))).set (p := ⟨bb, k, none⟩) (.inl (feet_head (by simp))) v8).set (p := ⟨bl, k, none⟩) (.inl (feet_head (by simp))) (.int .i64 (rleftF r keep k : Int))
    exact a1.trans' (h2.mono (by simp))
  refine ⟨hlt, h4.mod hm3 (fun x hx hs => hnf x (Option.mem_toList.1 hs) hx), hM2.trans hm3 (fun i hi hx => ?_), fun x hx => ?_, hO, fun g hg hx => ?_, ?_⟩
  · rcases hx with hx | hx
    · exact hx
    · have := (hls i (Option.mem_toList.1 hx)).1; omega
  · rcases feet_set hx with hx | hx
    · exact h.F x hx
    · right; have := ownsRow_ge h8 hx; have := h.M.size; omega
  · rcases hlv g hg with h5 | h5
    · exact hnf g h5 hx
    · have := h4.feet_lt g hx; omega
  · by_cases h0 : 0 < keep.length
    case neg => obtain ⟨a, c, hv, -⟩ := h.K; exact ⟨a, c, hv, fun h => absurd h h0⟩
    obtain ⟨hb, hbw⟩ := hbk h0
    have hbx : ∀ x ∈ [bb, bl], x ≠ b := fun x hx e => hb (e ▸ feet_head (by simp at hx ⊢; omega))
    have k1 := h.K.mod hq (by simp)
    have k2 : IntsAt ((wq.setCell ⟨bb, k, none⟩ v8).setCell ⟨bl, k, none⟩ (.int .i64 (rleftF r keep k : Int))) kv keep b :=
      k1.mod (S := [bb, bl]) (((Mod.refl _ wq).set (.inl (by simp)) _).set (.inl (by simp)) _) (fun hx => hbx b hx rfl)
    exact (k2.mod h2 (by simp)).mod hm3 (fun hx => by have := (hls b (Option.mem_toList.1 hx)).1; omega)

end Go.Proofs.Ytojceddgmmapdaa

namespace Go.Proofs.Ytojceddgmmapdaa
open Go.RowKit Go.Proofs.YtojceddgmmapdaaW.PrintLast

theorem Try.infoStr8 : (Try.prog.info? 9).map (fun i => (i.zero, i.size, i.bytes)) = some (some (.string ⟨#[]⟩), 1, 16) := by kernel_rfl
theorem Try.infoInt8 : (Try.prog.info? 3).map (fun i => (i.zero, i.size, i.bytes)) = some (some (.int .i64 0), 1, 8) := by kernel_rfl

set_option maxHeartbeats 8000000 in
set_option maxRecDepth 100000 in
theorem rdlose_any (bd bm bz bb bl b : Nat) (r : Rv) (vs : List Value) (keep : List Int) (kv : Value) (w : World) (hI : IsRd w bd bm bz bb bl r vs) (hok : r.ok) (hK : IntsAt w kv keep b) (hbk : 0 < keep.length → b ∉ feet bd bm bz bb bl vs ∧ b < w.heap.size)
    (hkl : keep.length ≤ 9223372036854775807) (hr : ∀ j, -9223372036854775808 ≤ keep.getD j 0 ∧ keep.getD j 0 ≤ 9223372036854775807) :
    Calls Try.prog 35 #[.pointer (some ⟨bd, 0, none⟩), kv] w (RLosePost bd bm bz bb bl vs (rloseF r keep) w) := by
  have HI := Lib.hid hI
  have Hok := Lib.hid hok
  have Hbk := Lib.hid hbk
  have Hr := Lib.hid hr
  have HK := Lib.hid hK
  have HL := Lib.hid hI.feet_lt
  obtain ⟨ka, kc, rfl, hka⟩ := hK
  have Hka := Lib.hid hka
  have hn64 := hok.m.n2
  clear hI hok hbk hr hka
  obtain ⟨i0, ei0, ei1, ei2, ei3⟩ := info_parts Try.infoStr8
  obtain ⟨i1, fi0, fi1, fi2, fi3⟩ := info_parts Try.infoInt8
  have Hinfo := Lib.hid (And.intro ei0 (And.intro ei1 (And.intro ei2 ei3)))
  have Hinfi := Lib.hid (And.intro fi0 (And.intro fi1 (And.intro fi2 fi3)))
  clear ei0 ei1 ei2 ei3 fi0 fi1 fi2 fi3
  go_enter Try.func35, Try.ntmps35
  go_wp2_with fail
  go_loopw [4, 5] (fun s4 s5 wr => ∃ (k : Nat) (vk : List Value) (A4 : Option Addr) (c4 : Nat), s4 = .slice A4 k c4 ∧ s5 = .int .i64 k ∧ RLoseRel bd bm bz bb bl b r vs keep (.slice ka keep.length kc) w wr k vk (.slice A4 k c4)) (fun _ s5 _ => 64 - (intOf s5).toNat)
  case atStart =>
    refine ⟨0, vs, none, 0, rfl, rfl, Nat.zero_le _, ?_, Mod.refl _ _, fun x hx => .inl hx, World.ownsRow_nil _ _ _ _, fun g hg => by simp [Value.ownBlock] at hg, HK.out⟩
    rw [rloseK_zero HI.out.nb HI.out.nl]
    exact HI.out
  case round =>
    obtain ⟨k, vk, A4, c4, rfl, rfl, hR⟩ := hrel
    have HR := Lib.hid hR
    clear hR
    have hk := HR.out.hk
    have c1 : wr.cell? ⟨bd, 1, none⟩ = some (.slice (some ⟨bb, 0, none⟩) r.m.zs.length r.m.zs.length) := HR.out.I.cells.c1
    by_cases hlt2 : k < r.m.zs.length
    · have hX : ∃ X : Int, X = if keep.length = 0 then 0 else keep.getD (k % keep.length) 0 := ⟨_, rfl⟩
      obtain ⟨X, hX⟩ := hX
      have hXr : -9223372036854775808 ≤ X ∧ X ≤ 9223372036854775807 := by
        rw [hX]; split
        · omega
        · exact Hr.out _
      have HX := Lib.hid hX
      clear hX
      go_upto_if 21 with fail
      go_cut [6] (fun s6 wx => s6 = .int .i64 X ∧ wx = wr)
      case first =>
        by_cases h0 : 0 < keep.length
        · have hki : k % keep.length < keep.length := Nat.mod_lt _ h0
          obtain ⟨a', c', e, h⟩ := HR.out.K
          obtain ⟨off, e2, hblt, hkc⟩ := h h0
          clear h
          simp only [Value.slice.injEq] at e
          obtain ⟨rfl, -, rfl⟩ := e
          subst e2
          have hkcell : wr.cell? ⟨b, off + k % keep.length, none⟩ = some (.int .i64 X) := by
            rw [HX.out, if_neg (by omega)]; exact hkc _ hki
          have hg0 : decide (0 < keep.length) = true := by simpa using h0
          have m5 : ((keep.length : Int) == 0) = false := by simpa using (by omega : ¬ keep.length = 0)
          have z1 : ¬ keep.length = 0 := by omega
          have z2 : ¬ keep = [] := by intro e; rw [e] at h0; simp at h0
          have z3 : ¬ (keep.length : Int) = 0 := by omega
          have m4 : (k : Int).tmod (keep.length : Int) = ((k % keep.length : Nat) : Int) := by rw [Int.tmod_eq_emod_of_nonneg (by omega)]; omega
          have m6 : (0 : Int) ≤ ((k % keep.length : Nat) : Int) := by omega
          have m7 : ((k % keep.length : Nat) : Int) < (keep.length : Int) := by omega
          have m10 : (0 : Int) ≤ (k : Int) % (keep.length : Int) := by omega
          have m11 : (k : Int) % (keep.length : Int) < (keep.length : Int) := by omega
          have m12 : ((k : Int) % (keep.length : Int)).toNat = k % keep.length := by omega
          clear hkc
          go_wp2_with fail
          go_meet
          exact ⟨rfl, rfl⟩
        · have hk0 : keep = [] := by cases keep with | nil => rfl | cons x l => simp at h0
          have hX0 : X = 0 := by rw [HX.out, if_pos (by simp [hk0])]
          subst hX0
          have hg0 : decide (0 < keep.length) = false := by simpa using h0
          go_wp2_with fail
          go_meet
          exact ⟨rfl, rfl⟩
      case rest =>
      obtain ⟨rfl, hw⟩ := hcut
      replace hw := hw.symm
      subst hw
      obtain ⟨NN, hNN⟩ : ∃ NN : Int, NN = if X < 0 then -(X + 1) else X := ⟨_, rfl⟩
      have HNN := Lib.hid hNN; clear hNN
      go_upto_if 30 with fail
      go_cut [6] (fun s6 wx => s6 = .int .i64 NN ∧ wx = wr)
      case first =>
        by_cases hx : X < 0
        · have hn : NN = -(X + 1) := by rw [HNN.out, if_pos hx]
          have Hn := Lib.hid hn; clear hn
          have e1 : IntKind.i64.wrap (X + 1) = X + 1 := IntWalk.i64_in _ (by omega)
          have e2 : IntKind.i64.wrap (-(X + 1)) = -(X + 1) := IntWalk.i64_in _ (by omega)
          go_wp2_with fail
          go_meet
          exact ⟨by rw [Hn.out], rfl⟩
        · have hn : NN = X := by rw [HNN.out, if_neg hx]
          have Hn := Lib.hid hn; clear hn
          have hxd : decide (X < 0) = false := by simpa using hx
          go_wp2_with fail
          go_meet
          exact ⟨by rw [Hn.out], rfl⟩
      case rest =>
      obtain ⟨rfl, hw⟩ := hcut
      replace hw := hw.symm
      subst hw
      have hat := rloseK_at r keep k hlt2
      have c2 : wr.cell? ⟨bd, 2, none⟩ = some (.slice (some ⟨bl, 0, none⟩) r.m.zs.length r.m.zs.length) := HR.out.I.cells.c2
      have cl : wr.cell? ⟨bl, k, none⟩ = some (.int .i64 ((r.la.getD k 0 : Nat) : Int)) := by have := HR.out.I.cellL (i := k) hlt2; rwa [hat.2] at this
      have cb := HR.out.I.cellB (i := k) hlt2
      obtain ⟨va, vc, hv, hcl⟩ := HR.out.I.slice2 (i := k) hlt2
      rw [hv] at cb
      rw [hat.1] at cb hcl
      have hpq := Hok.out.la k hlt2
      have hq4 : (r.bs.getD k []).length ≤ 4096 := by
        have h1 := Hok.out.ln k hlt2
        have h2 := (Hok.out.m.each k hlt2).2.2.2
        have h3 := Hok.out.m.b2
        omega
      have hTd : rleftF r keep k = r.la.getD k 0 + (drestF X (((r.bs.getD k []).length : Int) - (r.la.getD k 0 : Int) + 1)).toNat := by unfold rleftF; rw [HX.out]
      have hdr : drestF X (((r.bs.getD k []).length : Int) - (r.la.getD k 0 : Int) + 1) = NN % (((r.bs.getD k []).length : Int) - (r.la.getD k 0 : Int) + 1) := by unfold drestF; rw [HNN.out]
      have hle := (rleft_le Hok.out keep hlt2).2
      have hlen0 := hle
      obtain ⟨Bk, hBk⟩ : ∃ Bk, r.bs.getD k [] = Bk := ⟨_, rfl⟩
      obtain ⟨T, hT⟩ : ∃ T, rleftF r keep k = T := ⟨_, rfl⟩
      obtain ⟨p, hp⟩ : ∃ p, r.la.getD k 0 = p := ⟨_, rfl⟩
      rw [hBk] at cb hcl hpq hq4 hTd hdr hle
      rw [hp] at cl hpq hTd hdr
      rw [hT] at hTd hle
      have hNN0 : 0 ≤ NN := by rw [HNN.out]; split <;> omega
      have hrr := Int.emod_nonneg NN (show ((Bk.length : Int) - (p : Int) + 1) ≠ 0 by omega)
      have hrr2 := Int.emod_lt_of_pos NN (show 0 < ((Bk.length : Int) - (p : Int) + 1) by omega)
      obtain ⟨rr, hre⟩ := Int.eq_ofNat_of_zero_le hrr
      rw [hdr, hre] at hTd
      rw [hre] at hrr2
      have hTp : T = p + rr := by omega
      have e1 : IntKind.i64.wrap ((Bk.length : Int) - (p : Int)) = (Bk.length : Int) - (p : Int) := IntWalk.i64_in _ (by omega)
      have e2 : IntKind.i64.wrap ((Bk.length : Int) - (p : Int) + 1) = (Bk.length : Int) - (p : Int) + 1 := IntWalk.i64_in _ (by omega)
      have e3 : NN.tmod ((Bk.length : Int) - (p : Int) + 1) = (rr : Int) := by rw [Int.tmod_eq_emod_of_nonneg hNN0, hre]
      have e4 : IntKind.i64.wrap ((p : Int) + (rr : Int)) = ((p + rr : Nat) : Int) := by rw [IntWalk.i64_in _ (by omega)]; omega
      have e5 : ((Bk.length : Int) - (p : Int) + 1 == 0) = false := by simpa using (by omega : ¬ (Bk.length : Int) - (p : Int) + 1 = 0)
      have e6 : ¬ (Bk.length : Int) - (p : Int) + 1 = 0 := by omega
      have HBk := Lib.hid hBk
      have HT := Lib.hid hT
      have HTp := Lib.hid hTp
      have Hcl := Lib.hid hcl
      have Hle := Lib.hid hle
      have Hq4 := Lib.hid hq4
      clear hBk hT hp hTd hdr hrr hrr2 hTp hcl hv hat hle hlen0 hq4 hpq hNN0
      go_upto_region 9 with fail
      go_cut [7] (fun s7 wx => s7 = .int .i64 (T : Int) ∧ Mod [] wr wx)
      case first =>
        go_wp2_with (first | go_quiet (fail))
        go_meet
        exact ⟨by rw [HTp.out, Int.natCast_add], by first | exact Mod.refl _ _ | exact (Mod.refl _ _).drew | exact (Mod.refl _ _).drewN _⟩
      case rest =>
      obtain ⟨rfl, hmd⟩ := hcut
      have HRd := Lib.hid (HR.out.same hmd)
      have Hmd := Lib.hid hmd
      clear hmd e1 e2 e3 e4 e5 e6 hre cl c2
      have hltr := HR.out.I.cells.lt
      have cb' := (Hmd.out.cell (o := k) hltr.2.2.2.1 (by simp)).trans cb
      have c1' := (Hmd.out.cell (o := 1) hltr.1 (by simp)).trans c1
      clear cb c1
      have hltd := HRd.out.I.cells.lt
      go_wp2_with fail
      go_loopw [8, 9] (fun s8 s9 wq => ∃ (j : Nat) (A8 : Option Addr) (c8 : Nat), s8 = .slice A8 j c8 ∧ s9 = .int .i64 j ∧ j ≤ T ∧ Mod [] wc wq ∧ wq.ownsRow wc.heap.size 9 1 (.slice A8 j c8) j (sc (Bk.take j))) (fun _ s9 _ => T - (intOf s9).toNat)
      case atStart => exact ⟨0, none, 0, rfl, rfl, Nat.zero_le _, Mod.refl _ _, World.ownsRow_nil _ _ _ _⟩
      case round =>
        obtain ⟨j, A8, c8, rfl, rfl, hj, hmq, hown⟩ := hrel
        have Hmq := Lib.hid hmq
        have Hown := Lib.hid hown
        clear hmq hown
        by_cases hjT : j < T
        · have hjB : j < Bk.length := by have := Hle.out; omega
          obtain ⟨g0, rfl, hcell⟩ := Hcl.out (by omega)
          have hcell' := ((Hmd.out.trans' Hmq.out).cell (o := j) (World.block_lt_of_cell? _ _ (hcell j hjB)) (by simp)).trans (hcell j hjB)
          have cb2 := (Hmq.out.cell (o := k) hltd.2.2.2.1 (by simp)).trans cb'
          have c12 := (Hmq.out.cell (o := 1) hltd.1 (by simp)).trans c1'
          have htk : sc (Bk.take (j + 1)) = sc (Bk.take j) ++ [.string Bk[j]] := by rw [List.take_succ_eq_append_getElem hjB, sc_append]; rfl
          have Htk := Lib.hid htk
          have hB4 := Hq4.out
          have hszq : wc.heap.size ≤ wr.heap.size := Hmq.out.size
          generalize Bk[j] = S at *
          have hnw := Blk.new wr #[.string S] 9
          clear cb' c1' hcell htk
          go_wp2_with (at_builtin; refine wpList_append_lies _ rfl (.tmp 67) (.tmp 79) 103 rfl wc.heap.size 9 i0 (.string ⟨#[]⟩) 1 16 Try.underlying103 Hinfo.out.1 Hinfo.out.2.1 Hinfo.out.2.2.1 Hinfo.out.2.2.2 rfl (by decide) (.slice A8 j c8) j (sc (Bk.take j)) rfl (ownsRow_block Hown.out (fun g hg => Below.heap_alloc _ _ _ (ownsRow_lt Hown.out hg))) ⟨wr.heap.size, 0, none⟩ 1 1 [.string S] rfl rfl (World.news_of_block (B := wr.heap.size) (cs := #[.string S]) (t := 9) (fr := (0, 0)) hnw) (by simp [Value.oneCell']) (by decide) (by unfold maxLen; omega) (by omega) (by simp; omega) _ rfl ?_; intro g cp w3 hown3 hgrow3 hat3 hlt3; have Hown3 := Lib.hid hown3; have Hgrow3 := Lib.hid hgrow3; clear hown3 hgrow3 hat3)
          have hm3 : Mod [] wc w3 := by
            have a1 : Mod (Value.slice A8 j c8).ownBlock.toList (wr.alloc (.cells #[.string S] 9)) w3 := Mod.of_grown Hgrow3.out _ (fun g hg => Option.mem_toList.2 hg)
            refine (Hmq.out.trans' ((Mod.refl [] wr).alloc _)).trans a1 (fun i hi hx => ?_)
            rcases hx with hx | hx
            · simp at hx
            · have := ownsRow_ge Hown.out (Option.mem_toList.1 hx); omega
          have Hm3 := Lib.hid hm3
          go_roundw
          case rel => exact ⟨j + 1, _, _, rfl, by go_num, by omega, Hm3.out, by rw [Htk.out]; exact Hown3.out⟩
          case measure => simp [intOf]; omega
        · have hjT2 : decide ((j : Int) < (T : Int)) = false := by simpa using hjT
          have hjT3 : j = T := by omega
          subst hjT3
          have cb2 := (Hmq.out.cell (o := k) hltd.2.2.2.1 (by simp)).trans cb'
          have c12 := (Hmq.out.cell (o := 1) hltd.1 (by simp)).trans c1'
          have hIq := HRd.out.I.same Hmq.out
          have y1 := hIq.byt.frozen k
          have c22 : wr.cell? ⟨bd, 2, none⟩ = some (.slice (some ⟨bl, 0, none⟩) r.m.zs.length r.m.zs.length) := hIq.cells.c2
          have cl2 := hIq.cellL (i := k) hlt2
          have y2 := hIq.las.frozen k
          have hltq := hIq.cells.lt
          obtain ⟨-, -, n1, n2, -, -, -, -, -, n3⟩ := HI.out.nes
          have n1' := Ne.symm n1
          have n2' := Ne.symm n2
          have n3' := Ne.symm n3
          have hq8 : wr.ownsRow wc.heap.size 9 1 (.slice A8 j c8) (rleftF r keep k) (sc ((r.bs.getD k []).take (rleftF r keep k))) := by rw [HT.out, HBk.out]; exact Hown.out
          have Hq8 := Lib.hid hq8
          have hkb := Hok.out.m.n2
          have hsz := HRd.out.M.size
          clear hIq cb' c1' hq8
          go_upto_region 16 with fail
          have d2 : (wr.setCell ⟨bb, k, none⟩ (.slice A8 j c8)).cell? ⟨bd, 2, none⟩ = _ := (((Mod.refl [bb] wr).set (p := ⟨bb, k, none⟩) (by simp) (.slice A8 j c8)).cell (o := 2) hltq.1 (by simp; omega)).trans c22
          have dl : (wr.setCell ⟨bb, k, none⟩ (.slice A8 j c8)).cell? ⟨bl, k, none⟩ = _ := (((Mod.refl [bb] wr).set (p := ⟨bb, k, none⟩) (by simp) (.slice A8 j c8)).cell (o := k) hltq.2.2.2.2 (by simp; omega)).trans cl2
          have el : (wr.setCell ⟨bb, k, none⟩ (.slice A8 j c8)).frozen? ⟨bl, k, none⟩ = false := (((Mod.refl [bb] wr).set (p := ⟨bb, k, none⟩) (by simp) (.slice A8 j c8)).frozen (o := k) hltq.2.2.2.2 (by simp; omega)).trans y2
          have HN : Hid (∀ (w2 w3 : World) (lv' : Value), Mod [] ((wr.setCell ⟨bb, k, none⟩ (.slice A8 j c8)).setCell ⟨bl, k, none⟩ (.int .i64 (j : Int))) w2 → w2.grownBy w3 (Value.slice A4 k c4).ownBlock → w3.ownsRow w.heap.size 3 1 lv' (k + 1) (rleftC r keep k ++ [.int .i64 (j : Int)]) → (∀ g, lv'.ownBlock = some g → (Value.slice A4 k c4).ownBlock = some g ∨ w2.heap.size ≤ g) →
              RLoseRel bd bm bz bb bl b r vs keep (.slice ka keep.length kc) w w3 (k + 1) (vk.set k (.slice A8 j c8)) lv') := fun w2 w3 lv' h2 h3 h4 h5 => by
            refine HRd.out.next hlt2 HL.out Hbk.out Hmq.out Hq8.out (by rw [HT.out, HBk.out]; exact Hle.out) (by rw [HT.out]; exact h2) h3 ?_ h5
            rw [rleftC_succ, HT.out]; exact h4
          have hm15 : Mod [bb] wr (wr.setCell ⟨bb, k, none⟩ (.slice A8 j c8)) := (Mod.refl _ wr).set (by simp) _
          have hO15 : (wr.setCell ⟨bb, k, none⟩ (.slice A8 j c8)).ownsRow w.heap.size 3 1 (.slice A4 k c4) k (rleftC r keep k) := by
            refine ownsRow_block HRd.out.O (fun g hg => ?_)
            have g1 := ownsRow_ge HRd.out.O hg
            have g2 := ownsRow_lt HRd.out.O hg
            rw [hm15.block g (by have := Hmq.out.size; omega) (by have := HL.out bb (feet_head (by simp)); simp; omega)]
            exact Hmq.out.block g g2 (by simp)
          have HO15 := Lib.hid hO15
          have hbl15 : bl < (wr.setCell ⟨bb, k, none⟩ (.slice A8 j c8)).heap.size := by simp; omega
          have hsz15 : w.heap.size ≤ (wr.setCell ⟨bb, k, none⟩ (.slice A8 j c8)).heap.size := by have := Hmq.out.size; simp; omega
          clear c22 cl2 y1 y2 cb2 c12 hO15 hm15
          generalize wr.setCell ⟨bb, k, none⟩ (.slice A8 j c8) = w15 at *
          go_upto_region 17 with fail
          have hm16 : Mod [bl] w15 (w15.setCell ⟨bl, k, none⟩ (.int .i64 (j : Int))) := (Mod.refl _ w15).set (by simp) _
          have hO16 : (w15.setCell ⟨bl, k, none⟩ (.int .i64 (j : Int))).ownsRow w.heap.size 3 1 (.slice A4 k c4) k (rleftC r keep k) := by
            refine ownsRow_block HO15.out (fun g hg => ?_)
            have g1 := ownsRow_ge HO15.out hg
            have g2 := ownsRow_lt HO15.out hg
            exact hm16.block g g2 (by have := HL.out bl (feet_head (by simp)); simp; omega)
          have HO16 := Lib.hid hO16
          have hsz16 : w.heap.size ≤ (w15.setCell ⟨bl, k, none⟩ (.int .i64 (j : Int))).heap.size := by simp; omega
          clear d2 dl el hO16 hm16
          generalize w15.setCell ⟨bl, k, none⟩ (.int .i64 (j : Int)) = w16 at *
          have hnw := Blk.new w16 #[.int .i64 (j : Int)] 3
          go_wp2_with (at_builtin; refine wpList_append_lies _ rfl (.tmp 96) (.tmp 98) 41 rfl w.heap.size 3 i1 (.int .i64 0) 1 8 Try.underlying41 Hinfi.out.1 Hinfi.out.2.1 Hinfi.out.2.2.1 Hinfi.out.2.2.2 rfl (by decide) (.slice A4 k c4) k (rleftC r keep k) rfl (ownsRow_block HO16.out (fun g hg => Below.heap_alloc _ _ _ (ownsRow_lt HO16.out hg))) ⟨w16.heap.size, 0, none⟩ 1 1 [.int .i64 (j : Int)] rfl rfl (World.news_of_block (B := w16.heap.size) (cs := #[.int .i64 (j : Int)]) (t := 3) (fr := (0, 0)) hnw) (by simp [Value.oneCell']) (by decide) (by unfold maxLen; omega) (by omega) (by simp; omega) _ rfl ?_; intro g cp w3 hown3 hgrow3 hat3 hlt3; have Hown3 := Lib.hid hown3; have Hgrow3 := Lib.hid hgrow3; have Hat3 := Lib.hid hat3; clear hown3 hgrow3 hat3)
          have HR3 := Lib.hid (HN.out _ _ _ ((Mod.refl [] w16).alloc _) Hgrow3.out Hown3.out (fun g' hg' => by
            have : g = g' := by simpa [Value.ownBlock] using hg'
            subst this
            exact Hat3.out.imp id (fun e => by rw [e]; exact Nat.le_refl _)))
          go_roundw
          case rel => exact ⟨k + 1, _, _, _, rfl, by go_num, HR3.out⟩
          case measure => simp [intOf]; omega
    · have hdd : decide (k < r.m.zs.length) = false := by simpa using hlt2
      have c0 := HR.out.I.cells.c0
      have hkk : k = r.m.zs.length := by omega
      subst hkk
      go_wp2_with fail
      have hO := HR.out.O
      rw [rleftC_ints] at hO
      obtain ⟨bL, hbL, hKL⟩ := ints_of_own hO
      have hll : (rleftsF r keep).length = r.m.zs.length := by simp [rleftsF]
      have hIm : IsM RM RZ wr bm bz r.m := HR.out.I.m
      have hq := rlost_any bm bz r.m _ ((rleftsF r keep).map fun n : Nat => (n : Int)) bL _ hIm hn64 hKL (by have := HL.out bz (feet_head (by simp)); omega) (by rw [List.length_map, hll]; omega)
      refine hq.mono ?_
      rintro e w3 ⟨rfl, hM3, hm3⟩
      go_wp2_with fail
      refine bodyPost_end (results_none rfl _ _ _) rfl ?_
      have h1 := HR.out.I.mach hM3 (lostL_len _ _) hm3
      have f1 : bz ∈ feet bd bm bz bb bl vs := feet_head (by simp)
      refine ⟨rfl, vk, ?_, HR.out.M.trans hm3 (fun i _ h => h.elim id (fun h => by simp at h; subst h; exact f1)), HR.out.F⟩
      rw [← rloseK_end]
      exact h1

end Go.Proofs.Ytojceddgmmapdaa

namespace Go.Proofs.Ytojceddgmmapdaa
open Go.RowKit

theorem IsD.below {w w' : World} {bd bm bz bb bl : Nat} {d : Dv} {vs : List Value} (h : IsD w bd bm bz bb bl d vs) (hb : Below w.heap.size w w') : IsD w' bd bm bz bb bl d vs := h.same (Mod.of_below hb [])
theorem IsRd.below {w w' : World} {bd bm bz bb bl : Nat} {d : Rv} {vs : List Value} (h : IsRd w bd bm bz bb bl d vs) (hb : Below w.heap.size w w') : IsRd w' bd bm bz bb bl d vs := h.same (Mod.of_below hb [])

set_option maxHeartbeats 4000000 in
set_option maxRecDepth 100000 in
theorem same07_any (bd bm bz bb bl rd rm rz rb rl : Nat) (d : Dv) (r : Rv) (vs us : List Value) (w : World) (hI : IsD w bd bm bz bb bl d vs) (hR : IsRd w rd rm rz rb rl r us) (hs : Sim d r) (hn : d.m.zs.length ≤ 64) :
    Calls Try.prog 38 #[.pointer (some ⟨bd, 0, none⟩), .pointer (some ⟨rd, 0, none⟩)] w fun e w' => e = .returned (.bool true) ∧ Below w.heap.size w w' := by
  have HI := Lib.hid hI; have HR := Lib.hid hR; clear hI hR
  have Hs := Lib.hid hs
  have hrm : r.m = d.m := hs.m.symm
  have hrl : r.la = d.la := hs.la.symm
  have hrd : r.dead = d.dead := hs.dead.symm
  clear hs
  have hlr := HR.out.cells.lt
  have hld := HI.out.cells.lt
  obtain ⟨cap, hcz⟩ := HR.out.m.cellZ
  rw [hrm] at hcz
  have hF : ∀ W, Below w.heap.size w W → W.cell? ⟨rd, 1, none⟩ = some (.slice (some ⟨rb, 0, none⟩) d.m.zs.length d.m.zs.length) := fun W hb => by
    have := (hb.cell (p := ⟨rd, 1, none⟩) hlr.1).trans HR.out.cells.c1
    rwa [hrm] at this
  have HF := Lib.hid hF; clear hF
  have hG : ∀ W, Below w.heap.size w W → W.cell? ⟨rd, 0, none⟩ = some (.pointer (some ⟨rm, 0, none⟩)) ∧ W.cell? ⟨rm, 0, none⟩ = some (.slice (some ⟨rz, 0, none⟩) d.m.zs.length cap) ∧ W.cell? ⟨rd, 2, none⟩ = some (.slice (some ⟨rl, 0, none⟩) d.m.zs.length d.m.zs.length) ∧ W.cell? ⟨rd, 3, none⟩ = some (.bool d.dead) := fun W hb => by
    have h2 := (hb.cell (p := ⟨rd, 2, none⟩) hlr.1).trans HR.out.cells.c2
    have h3 := (hb.cell (p := ⟨rd, 3, none⟩) hlr.1).trans HR.out.cells.c3
    rw [hrm] at h2
    rw [hrd] at h3
    exact ⟨(hb.cell (p := ⟨rd, 0, none⟩) hlr.1).trans HR.out.cells.c0, (hb.cell (p := ⟨rm, 0, none⟩) hlr.2.1).trans hcz, h2, h3⟩
  have HG := Lib.hid hG; clear hG
  have hE : ∀ W, Below w.heap.size w W → ∀ p, p < d.m.zs.length → W.cell? ⟨rz, p * 2, none⟩ = some (.int .i64 (stOf d.m.zs p)) ∧ W.cell? ⟨rz, p * 2 + 1, none⟩ = some (.int .i64 (lnOf d.m.zs p)) ∧ W.cell? ⟨rl, p, none⟩ = some (.int .i64 ((d.la.getD p 0 : Nat) : Int)) := fun W hb p hp => by
    have hM := (HR.out.below hb).m
    have h1 := hM.cellSt (i := p) (by rw [hrm]; exact hp)
    have h2 := hM.cellLn (i := p) (by rw [hrm]; exact hp)
    have h3 := (HR.out.below hb).cellL (i := p) (by rw [hrm]; exact hp)
    rw [hrm] at h1 h2
    rw [hrl] at h3
    exact ⟨h1, h2, h3⟩
  have HE := Lib.hid hE; clear hE hcz
  clear hrm hrl hrd
  go_enter Try.func38, Try.ntmps38
  go_wp2_with fail
  go_loopw [5] (fun i wr => ∃ q : Int, i = .int .i64 q ∧ -1 ≤ q ∧ q ≤ d.m.zs.length + 1 ∧ Below w.heap.size w wr) (fun i _ => (66 - intOf i).toNat)
  case atStart => exact ⟨-1, rfl, by omega, by omega, Below.refl _ _⟩
  case round =>
    obtain ⟨q, rfl, hq1, hq2, hb⟩ := hrel
    have Hb := Lib.hid hb; clear hb
    have hsz := Hb.out.size
    have hz0 := HF.out _ Hb.out
    by_cases hle : q ≤ d.m.zs.length
    · have HIr := Lib.hid (HI.out.below Hb.out)
      go_wp2_with fail
      refine (dzone_any bd bm bz bb bl d vs q _ HIr.out).mono ?_
      rintro e w1 ⟨rfl, hb1⟩
      have Hb1 := Lib.hid (Hb.out.trans (hb1.mono hsz))
      have hsz1 := Hb1.out.size
      have hz1 := HF.out _ Hb1.out
      have hlrd : rd < w1.heap.size := by omega
      clear hb1 hz0
      by_cases hq0 : q < 0
      · have hg : getF d.m q = ((0, 0), false) := by unfold getF; rw [if_neg (by omega)]
        have hlf : lastsF d q = 0 := if_pos (.inl hq0)
        rw [hg]; clear hg
        have HI1 := Lib.hid (HI.out.below Hb1.out)
        go_wp2_with (first | (go_at_call 32; refine (lasts_any bd bm bz bb bl d vs q _ (by exact HI1.out.same ((Mod.refl [] _).alloc _))).mono ?_; rw [hlf]; rintro e w2 ⟨rfl, rfl⟩))
        go_roundw
        case rel => exact ⟨q + 1, by go_num, by omega, by omega, Below.alloc Hb1.out hsz1 _⟩
        case measure => simp [intOf]; omega
      · obtain ⟨p, rfl⟩ := Int.eq_ofNat_of_zero_le (show 0 ≤ q by omega)
        by_cases hqe : p = d.m.zs.length
        · have hg : getF d.m p = ((0, 0), false) := by unfold getF; rw [if_neg (by omega)]
          have hlf : lastsF d p = 0 := if_pos (.inr (by omega))
          rw [hg]; clear hg
          have HI1 := Lib.hid (HI.out.below Hb1.out)
          have hbe : ((p : Int) == (d.m.zs.length : Int)) = true := by rw [beq_iff_eq]; omega
          have hbe' : (p == d.m.zs.length) = true := by rw [beq_iff_eq]; omega
          have hd0 : decide ((p : Int) < 0) = false := decide_eq_false (by omega)
          have Hlf := Lib.hid hlf
          clear hqe hlf
          go_wp2_with (first | (go_at_call 32; refine (lasts_any bd bm bz bb bl d vs p _ (by exact HI1.out.same ((Mod.refl [] _).alloc _))).mono ?_; rw [Hlf.out]; rintro e w2 ⟨rfl, rfl⟩))
          go_roundw
          case rel => exact ⟨p + 1, by go_num, by omega, by omega, Below.alloc Hb1.out hsz1 _⟩
          case measure => simp [intOf]; omega
        · have hp : p < d.m.zs.length := by omega
          have hg : getF d.m p = ((d.m.st p, d.m.ln p), true) := by unfold getF; rw [if_pos (by omega)]; rfl
          have hlf : lastsF d p = ((d.la.getD p 0 : Nat) : Int) := by rw [lastsF, if_neg (by omega), Int.toNat_natCast]
          have Hlf := Lib.hid hlf
          rw [hg]; clear hg hlf
          have hbe : ((p : Int) == (d.m.zs.length : Int)) = false := beq_eq_false_iff_ne.2 (by omega)
          have hbe' : (p == d.m.zs.length) = false := beq_eq_false_iff_ne.2 (by omega)
          have hd0 : decide ((p : Int) < 0) = false := decide_eq_false (by omega)
          obtain ⟨k0, k1, k2⟩ := HE.out _ Hb1.out p hp
          obtain ⟨k3, k4, k5, -⟩ := HG.out _ Hb1.out
          have HI1 := Lib.hid (HI.out.below Hb1.out)
          have hst : d.m.st p = stOf d.m.zs p := rfl
          have hln : d.m.ln p = lnOf d.m.zs p := rfl
          have hlx : rm < w1.heap.size ∧ rz < w1.heap.size ∧ rl < w1.heap.size := by omega
          have hz : zoneV (d.m.st p, d.m.ln p) = .agg #[.int .i64 (stOf d.m.zs p), .int .i64 (lnOf d.m.zs p)] := rfl
          rw [hz]
          clear hqe hst hln hz
          go_wp2_with (first | go_quiet (first | (go_at_call 32; exact quietW ((lasts_any bd bm bz bb bl d vs p _ (by exact HI1.out.same (((Mod.refl [] _).alloc _).drewN _))).mono (by rw [Hlf.out]; rintro e w2 ⟨rfl, rfl⟩; exact ⟨rfl, rfl⟩))) | fail))
          go_roundw
          case rel => exact ⟨p + 1, by go_num, by omega, by omega, (by repeat (first | exact Hb1.out | apply bdrewN | apply Below.drew | (refine Below.alloc ?_ hsz1 _)))⟩
          case measure => simp [intOf]; omega
    · have hd : decide (q ≤ d.m.zs.length) = false := by simpa using hle
      have HIr := Lib.hid (HI.out.below Hb.out)
      obtain ⟨-, -, -, k6⟩ := HG.out _ Hb.out
      have hlrd : rd < wr.heap.size := by omega
      go_wp2_with (first | go_quiet (first | (go_at_call 39; exact quietW ((dead_any bd bm bz bb bl d vs _ (HIr.out.same ((Mod.refl [] _).drewN _))).mono (by rintro e w2 ⟨rfl, rfl⟩; exact ⟨rfl, rfl⟩))) | fail))
      go_ret
      exact ⟨rfl, (by repeat (first | exact Hb.out | apply bdrewN | apply Below.drew))⟩

end Go.Proofs.Ytojceddgmmapdaa
