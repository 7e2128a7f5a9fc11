/-
  Walk of the law ZoneGoes.
-/
import Derived.Test.YtojceddgmmapdaaZL2
import Derived.Deep.DeepCutAuto
import Derived.Deep.CutBlock
namespace Go.Proofs.Ytojceddgmmapdaa
open Go.RowKit

/-- One zone of bl blocks, of which left are still to be written. -/
def gz (bl left : Int) : Mc := ⟨[(if left = bl then 0 else if left = 0 then 4 else 1, bl - left)], bl, 1, 1⟩

theorem gz_ok {bl left : Int} (h1 : 1 ≤ bl) (h2 : bl ≤ 64) (h3 : 0 ≤ left) (h4 : left ≤ bl) : (gz bl left).ok := by
  refine ⟨Nat.le_refl 1, by show 1 ≤ 64; decide, h1, by show bl ≤ 4096; omega, Int.le_refl 1, Int.le_refl 1, Int.le_refl 1, fun i hi => ?_⟩
  have : i = 0 := by simp [gz] at hi; exact hi
  subst this
  show 0 ≤ (if left = bl then (0 : Int) else if left = 0 then 4 else 1) ∧ (if left = bl then (0 : Int) else if left = 0 then 4 else 1) ≤ 4 ∧ 0 ≤ bl - left ∧ bl - left ≤ bl
  refine ⟨?_, ?_, by omega, by omega⟩
  · split
    · decide
    · split <;> decide
  · split
    · decide
    · split <;> decide

theorem gz_grow {bl left n : Int} (h1 : 1 ≤ n) (h2 : n ≤ left) (h4 : left ≤ bl) : growF (gz bl left) 0 n = ((bl - left, 0), gz bl (left - n)) := by
  have e0 : (gz bl left).ln 0 = bl - left := rfl
  have e1 : enterF (gz bl left) 0 1 = (0, ⟨[(1, bl - left)], bl, 1, 1⟩) := by
    by_cases h : left = bl
    · have : gz bl left = ⟨[(0, bl - left)], bl, 1, 1⟩ := by unfold gz; rw [if_pos h]
      rw [this]; rfl
    · have : gz bl left = ⟨[(1, bl - left)], bl, 1, 1⟩ := by unfold gz; rw [if_neg h, if_neg (by omega)]
      rw [this]; rfl
  unfold growF
  rw [e1, e0]
  simp only [ne_eq, not_true, if_false]
  have e2 : (gz bl left).bl = bl := rfl
  rw [e2]
  by_cases hf : n = left
  · subst hf
    rw [if_pos (by omega)]
    have : gz bl (n - n) = ⟨[(4, bl)], bl, 1, 1⟩ := by unfold gz; rw [if_neg (by omega), if_pos (by omega)]; simp
    rw [this]
    have : bl - n + n = bl := by omega
    rw [this]
    rfl
  · rw [if_neg (by omega)]
    have : gz bl (left - n) = ⟨[(1, bl - left + n)], bl, 1, 1⟩ := by unfold gz; rw [if_neg (by omega), if_neg (by omega)]; congr 3; omega
    rw [this]
    rfl

theorem gz_st {bl left : Int} (h3 : 0 < left) : (gz bl left).st 0 ≠ 4 := by
  show (if left = bl then (0 : Int) else if left = 0 then 4 else 1) ≠ 4
  split
  · decide
  · rw [if_neg (by omega)]; decide

theorem spanF_mk {a n b : Int} (h : 0 ≤ a ∧ 1 ≤ n ∧ a ≤ b ∧ n ≤ b - a) : spanF a n b = true := by simp [spanF, h]
theorem spanF_not {a n b : Int} (h : ¬ (0 ≤ a ∧ 1 ≤ n ∧ a ≤ b ∧ n ≤ b - a)) : spanF a n b = false := by
  cases e : spanF a n b with
  | false => rfl
  | true => exact absurd (spanF_true e) h

theorem gz_append {bl left n : Int} (h1 : 1 ≤ n) (h3 : 0 < left) (h4 : left ≤ bl) (h5 : n ≤ left) : doF (gz bl left) 2 0 0 n = ((bl - left, 0), gz bl (left - n)) := by
  unfold doF
  rw [if_neg (by decide), if_neg (by show ¬ ((0 : Int) < 0 ∨ ((1 : Nat) : Int) ≤ 0); decide), Int.toNat_zero]
  unfold verbF
  rw [if_neg (by decide), if_pos rfl, if_neg (by rw [spanF_mk]; simp; exact ⟨by omega, h1, by show 0 ≤ bl; omega, by show n ≤ bl - 0; omega⟩), if_neg (gz_st h3),
    if_neg (by rw [spanF_mk]; simp; exact ⟨by show 0 ≤ bl - left; omega, h1, by show bl - left ≤ bl; omega, by show n ≤ bl - (bl - left); omega⟩)]
  exact gz_grow h1 h5 h4

theorem gz_append_no {bl left n : Int} (h3 : 0 < left) (h5 : left < n) : doF (gz bl left) 2 0 0 n = ((0, 2), gz bl left) := by
  unfold doF
  rw [if_neg (by decide), if_neg (by show ¬ ((0 : Int) < 0 ∨ ((1 : Nat) : Int) ≤ 0); decide), Int.toNat_zero]
  unfold verbF
  rw [if_neg (by decide), if_pos rfl]
  split
  · rfl
  · rw [if_neg (gz_st h3)]
    rw [if_pos (by rw [spanF_not]; rfl; rintro ⟨_, _, _, h⟩; have h : n ≤ bl - (bl - left) := h; omega)]

theorem gz_write {bl left : Int} (h3 : 0 < left) (h4 : left ≤ bl) : doF (gz bl left) 1 0 (bl - left) 1 = ((bl - left, 0), gz bl (left - 1)) := by
  unfold doF
  rw [if_neg (by decide), if_neg (by show ¬ ((0 : Int) < 0 ∨ ((1 : Nat) : Int) ≤ 0); decide), Int.toNat_zero]
  unfold verbF
  rw [if_pos rfl, if_neg (by rw [spanF_mk]; simp; exact ⟨by omega, by decide, by show bl - left ≤ bl; omega, by show 1 ≤ bl - (bl - left); omega⟩), if_neg (gz_st h3),
    if_neg (by show ¬ (bl - left ≠ bl - left); simp)]
  exact gz_grow (by decide) h3 h4

set_option maxHeartbeats 2000000 in
set_option maxRecDepth 100000 in
theorem zoneGoes_walk (bl : Int) (v : Value) (ls : List Int) (b : Nat) (w : World) (hv : IntsAt w v ls b) (hls : ls.length ≤ 9223372036854775807) :
    Calls Try.prog 4 #[.int .i64 bl, v] w fun e w' => e = .returned (.bool true) ∧ Below w.heap.size w w' := by
  obtain ⟨a, c, rfl, ha⟩ := hv
  have Ha := Lib.hid ha; clear ha
  go_enter Try.func4, Try.ntmps4
  go_wp2_with fail
  refine (speaks05 _).mono ?_
  rintro e w1 ⟨rfl, hb1⟩
  go_upto_region 3 with fail
  go_cut [31] (fun s31 wx => s31 = .bool (decide (bl < 1 ∨ 64 < bl)) ∧ w1 = wx)
  case first =>
    go_wp2_with fail
    all_goals (go_meet; refine ⟨?_, rfl⟩; congr 1; simp; omega)
  case rest =>
    obtain ⟨rfl, rfl⟩ := hcut
    go_upto_if 31 with (fail)
    go_cut [0] (fun s0 wx => ∃ nb : Int, s0 = .int .i64 nb ∧ 1 ≤ nb ∧ nb ≤ 64 ∧ w1 = wx)
    case first =>
      go_wp2_with fail
      all_goals (go_meet; first | exact ⟨9, rfl, by decide, by decide, rfl⟩ | exact ⟨bl, rfl, by omega, by omega, rfl⟩)
    case rest =>
      obtain ⟨nb, rfl, n1, n2, rfl⟩ := hcut
      have hok : newOk 1 nb 1 1 = true := by simp [newOk]; omega
      have Hok := Lib.hid hok; clear hok
      go_wp2_with fail
      refine (znew_ok 1 nb 1 1 _ Hok.out).mono ?_
      rintro e w2 ⟨bm, bz, rfl, hI2, hm2, hb2, hb3⟩
      have e2 : newF 1 nb 1 1 = gz nb nb := by unfold newF gz; rw [if_pos rfl]; show Mc.mk [(0, 0)] nb 1 1 = _; congr 3; omega
      rw [e2] at hI2
      clear e2
      have hM2 : Mod [] w w2 := (Mod.of_below hb1 []).trans' hm2
      have hsw := hb1.size
      have HM2 := Lib.hid hM2; clear hM2 hm2 hb1
      go_upto_block 0 with fail
      go_cut [7] (fun s7 wx => ∃ left : Int, s7 = .int .i64 left ∧ 0 ≤ left ∧ left ≤ nb ∧ IsM TM TZ wx bm bz (gz nb left) ∧ Mod [] w wx)
      case first =>
        go_wp2_with fail
        go_loopw [7, 8] (fun s7 s8 wr => ∃ (left : Int) (k : Nat), s7 = .int .i64 left ∧ s8 = .int .i64 k ∧ k ≤ ls.length ∧ 0 ≤ left ∧ left ≤ nb ∧ IsM TM TZ wr bm bz (gz nb left) ∧ Mod [] w wr) (fun _ s8 _ => ls.length - (intOf s8).toNat)
        case atStart => exact ⟨nb, 0, rfl, rfl, Nat.zero_le _, by omega, by omega, hI2, HM2.out⟩
        case round =>
          obtain ⟨left, k, rfl, rfl, hk, l0, l1, hIr, hmr⟩ := hrel
          have HIr := Lib.hid hIr; clear hIr
          have Hmr := Lib.hid hmr; clear hmr
          by_cases hlt : k < ls.length
          · by_cases hl : 0 < left
            · obtain ⟨off, rfl, hbs, hcs⟩ := Ha.out (by omega)
              have hx : wr.cell? ⟨b, off + k, none⟩ = some (.int .i64 (ls.getD k 0)) := (Hmr.out.cell hbs (by simp)).trans (hcs k hlt)
              clear hcs
              generalize ls.getD k 0 = x at *
              obtain ⟨r, hr, r0, r1⟩ : ∃ r, bits BinOp.and IntKind.i64 x 15 = r ∧ 0 ≤ r ∧ r ≤ 15 := ⟨_, i64_and15 x, by omega, by omega⟩
              by_cases hn : 1 + r ≤ left
              · have hdo := gz_append (n := 1 + r) (by omega) hl l1 hn
                have Hdo := Lib.hid hdo; clear hdo
                go_wp2_with fail
                refine (do_any bm bz (gz nb left) 2 0 0 (1 + r) _ HIr.out (gz_ok n1 n2 l0 l1)).mono ?_
                rintro e wd ⟨rfl, hId, hmd⟩
                rw [Hdo.out] at hId ⊢
                have HId := Lib.hid hId; clear hId
                go_wp2_with fail
                go_roundw
                case rel => exact ⟨left - (1 + r), k + 1, rfl, by go_num, by omega, by omega, by omega, HId.out, Hmr.out.trans hmd (by intro i hi h; simp at h; subst h; omega)⟩
                case measure => simp [intOf]; omega
              · have hdo := gz_append_no (bl := nb) hl (show left < 1 + r by omega)
                have Hdo := Lib.hid hdo; clear hdo
                have hd : decide (1 + r ≤ left) = false := by simpa using hn
                go_wp2_with fail
                refine (do_any bm bz (gz nb left) 2 0 0 (1 + r) _ HIr.out (gz_ok n1 n2 l0 l1)).mono ?_
                rintro e wd ⟨rfl, hId, hmd⟩
                rw [Hdo.out] at hId ⊢
                have HId := Lib.hid hId; clear hId
                go_wp2_with fail
                go_roundw
                case rel => exact ⟨left, k + 1, rfl, by go_num, by omega, by omega, by omega, HId.out, Hmr.out.trans hmd (by intro i hi h; simp at h; subst h; omega)⟩
                case measure => simp [intOf]; omega
            · have hd : decide (0 < left) = false := by simpa using hl
              go_wp2_with fail
              go_meet
              exact ⟨left, rfl, l0, l1, HIr.out, Hmr.out⟩
          · have hd : decide (k < ls.length) = false := by simpa using hlt
            go_wp2_with fail
            go_meet
            exact ⟨left, rfl, l0, l1, HIr.out, Hmr.out⟩
      case rest =>
        obtain ⟨left, rfl, l0, l1, hI3, hM3⟩ := hcut
        have hbz : w.heap.size ≤ bz := by omega
        go_upto_block 2 with fail
        go_cut [7] (fun _ wx => IsM TM TZ wx bm bz (gz nb 0) ∧ Mod [] w wx)
        case first =>
          go_wp2_with fail
          go_loopw [7] (fun s7 wr => ∃ left : Int, s7 = .int .i64 left ∧ 0 ≤ left ∧ left ≤ nb ∧ IsM TM TZ wr bm bz (gz nb left) ∧ Mod [] w wr) (fun s7 _ => (intOf s7).toNat)
          case atStart => exact ⟨left, rfl, l0, l1, hI3, hM3⟩
          case round =>
            obtain ⟨left, rfl, l0, l1, hIr, hmr⟩ := hrel
            have HIr := Lib.hid hIr; clear hIr
            have Hmr := Lib.hid hmr; clear hmr
            by_cases hl : 0 < left
            · have hdo := gz_write (bl := nb) hl l1
              have Hdo := Lib.hid hdo; clear hdo
              go_wp2_with fail
              refine (do_any bm bz (gz nb left) 1 0 (nb - left) 1 _ HIr.out (gz_ok n1 n2 l0 l1)).mono ?_
              rintro e wd ⟨rfl, hId, hmd⟩
              rw [Hdo.out] at hId ⊢
              have HId := Lib.hid hId; clear hId
              go_wp2_with fail
              go_roundw
              case rel => exact ⟨left - 1, rfl, by omega, by omega, HId.out, Hmr.out.trans hmd (by intro i hi h; simp at h; subst h; omega)⟩
              case measure => simp [intOf]; omega
            · have hd : decide (0 < left) = false := by simpa using hl
              go_wp2_with fail
              go_meet
              have : left = 0 := by omega
              exact ⟨by rw [← this]; exact HIr.out, Hmr.out⟩
        case rest =>
          obtain ⟨hI4, hM4⟩ := hcut
          clear hI3 hM3
          have HM4 := Lib.hid hM4; clear hM4
          have hok0 : (gz nb 0).ok := gz_ok n1 n2 (by omega) (by omega)
          have e0 : gz nb 0 = ⟨[(4, nb)], nb, 1, 1⟩ := by unfold gz; rw [if_neg (by omega), if_pos rfl]; simp
          rw [e0] at hI4 hok0
          clear e0
          have hlt4 := hI4.lt
          go_wp2_with fail
          refine (get_any bm bz _ 0 _ hI4).mono ?_
          rintro e w5 ⟨rfl, hb5⟩
          have e5 : getF ⟨[(4, nb)], nb, 1, 1⟩ 0 = ((4, nb), true) := rfl
          rw [e5]; clear e5
          have hI5 := (hI4.below hb5).alloc (.cells #[.int .i64 4, .int .i64 nb] 30)
          have hM5 := (HM4.out.trans' (Mod.of_below hb5 [])).alloc (.cells #[.int .i64 4, .int .i64 nb] 30)
          have hX5 := Blk.new w5 #[.int .i64 4, .int .i64 nb] 30
          have hlt5 := (hI4.below hb5).lt
          have HI5 := Lib.hid hI5; clear hI5 hI4
          have HM5 := Lib.hid hM5; clear hM5 hb5
          go_wp2_with fail
          refine (do_any bm bz ⟨[(4, nb)], nb, 1, 1⟩ 2 0 0 1 _ HI5.out hok0).mono ?_
          rintro e w6 ⟨rfl, hI6, hm6⟩
          have e6 : doF ⟨[(4, nb)], nb, 1, 1⟩ 2 0 0 1 = ((0, 4), ⟨[(4, nb)], nb, 1, 1⟩) := by
            show (if (!spanF 0 1 nb) = true then _ else _) = _
            rw [spanF_mk (by omega)]; rfl
          rw [e6] at hI6 ⊢; clear e6
          have hX6 := hm6.blk hX5 (by simp; omega)
          have hM6 := HM5.out.trans hm6 (T := []) (by intro i hi h; simp at h; subst h; omega)
          have HI6 := Lib.hid hI6; clear hI6
          have HM6 := Lib.hid hM6; clear hM6 hm6
          go_wp2_with fail
          refine (do_any bm bz ⟨[(4, nb)], nb, 1, 1⟩ 7 0 0 nb _ HI6.out hok0).mono ?_
          rintro e w7 ⟨rfl, hI7, hm7⟩
          have e7 : doF ⟨[(4, nb)], nb, 1, 1⟩ 7 0 0 nb = ((0, 0), ⟨[(4, nb)], nb, 1, 1⟩) := by
            show (if (!spanF 0 nb nb) = true then _ else _) = _
            rw [spanF_mk (by omega)]; rfl
          rw [e7] at hI7 ⊢; clear e7
          have hX7 := hm7.blk hX6 (by simp; omega)
          have hM7 := HM6.out.trans hm7 (T := []) (by intro i hi h; simp at h; subst h; omega)
          have HI7 := Lib.hid hI7; clear hI7
          have HM7 := Lib.hid hM7; clear hM7 hm7
          go_wp2_with fail
          refine (do_any bm bz ⟨[(4, nb)], nb, 1, 1⟩ 3 0 0 0 _ HI7.out hok0).mono ?_
          rintro e w8 ⟨rfl, hI8, hm8⟩
          have e8 : doF ⟨[(4, nb)], nb, 1, 1⟩ 3 0 0 0 = ((0, 0), ⟨[(0, 0)], nb, 1, 1⟩) := rfl
          rw [e8] at hI8 ⊢; clear e8
          have hX8 := hm8.blk hX7 (by simp; omega)
          have hM8 := HM7.out.trans hm8 (T := []) (by intro i hi h; simp at h; subst h; omega)
          have HI8 := Lib.hid hI8; clear hI8
          have HM8 := Lib.hid hM8; clear hM8 hm8
          have hokn : (⟨[(0, 0)], nb, 1, 1⟩ : Mc).ok := by
            have := gz_ok (bl := nb) (left := nb) n1 n2 (by omega) (by omega)
            have e : gz nb nb = ⟨[(0, 0)], nb, 1, 1⟩ := by unfold gz; rw [if_pos rfl]; simp
            rwa [e] at this
          have e9 : doF ⟨[(0, 0)], nb, 1, 1⟩ 2 0 0 1 = ((0, 0), gz nb (nb - 1)) := by
            have := gz_append (bl := nb) (left := nb) (n := 1) (by decide) (by omega) (by omega) (by omega)
            have e : gz nb nb = ⟨[(0, 0)], nb, 1, 1⟩ := by unfold gz; rw [if_pos rfl]; simp
            rw [e] at this
            rw [this]; congr 2; omega
          have E9 := Lib.hid e9; clear e9
          go_wp2_with fail
          refine (do_any bm bz ⟨[(0, 0)], nb, 1, 1⟩ 2 0 0 1 _ HI8.out hokn).mono ?_
          rintro e w9 ⟨rfl, hI9, hm9⟩
          rw [E9.out] at hI9 ⊢
          have hX9 := hm9.blk hX8 (by simp; omega)
          have hM9 := HM8.out.trans hm9 (T := []) (by intro i hi h; simp at h; subst h; omega)
          have x0 := hX9.cell (i := 0) rfl
          have x1 := hX9.cell (i := 1) rfl
          have HM9 := Lib.hid hM9; clear hM9 hm9 hI9 hX9 hX8 hX7 hX6 hX5
          go_wp2_with fail
          go_ret
          exact ⟨rfl, HM9.out.below (Nat.le_refl _)⟩

end Go.Proofs.Ytojceddgmmapdaa
