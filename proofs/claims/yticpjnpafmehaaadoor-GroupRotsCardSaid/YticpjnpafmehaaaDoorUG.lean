/-
  What given answers, over the plain groups; groups one behind the other, and what Scan makes of them.
-/
import Derived.Test.YticpjnpafmehaaaDoorUx9
namespace Go.Proofs.YticpjnpafmehaaaDoor.U
open Go.RowKit Go.Proofs.YticpjnpafmehaaaDoorW.PrintWords Go.Proofs.YticpjnpafmehaaaDoorW.PrintLast Go.Proofs.YticpjnpafmehaaaDoorW.PrintMore
set_option linter.unusedVariables false
set_option linter.unusedSimpArgs false

/-- The group that given makes. -/
def gvG (seq : Int) (bs : List Int) (ts : List Bool) (ds : List ByteArray) : Gp := ⟨seq, (List.range (min bs.length 9)).map fun j => (bs.getD j 0, ts.getD j false), gvD ds (min ds.length 9)⟩
theorem gvE_eq (seq : Int) (bs : List Int) (ts : List Bool) (ds : List ByteArray) : gvE bs ts (min bs.length 9) = (gvG seq bs ts ds).es.map toE := by
  unfold gvE gvG; rw [List.map_map]; rfl
theorem given_f (seq : Int) (bs : List Int) (ts : List Bool) (ds : List ByteArray) (hd : ∀ d ∈ ds, d.size ≤ 140737488355328) :
    corbellaw18_given.f seq bs ts ds = some (seq, (gvG seq bs ts ds).es.map toE, (gvG seq bs ts ds).ds, seq, gvB bs (min bs.length 9), gvT ts (min bs.length 9), (gvG seq bs ts ds).ds) := by
  unfold corbellaw18_given.f
  rw [if_pos (List.all_eq_true.2 fun d h => decide_eq_true (hd d h)), gvE_eq seq bs ts ds]; rfl

def toG (g : Gp) : S42 := ⟨g.seq, g.es.map toE, g.ds⟩
/-- Groups one behind the other. -/
def encs (gs : List Gp) : List UInt8 := gs.flatMap encG
def blksN (gs : List Gp) : Nat := (gs.map fun g => blkN g.es).sum
theorem encs_cons (g : Gp) (gs : List Gp) : encs (g :: gs) = encG g ++ encs gs := rfl
theorem encs_append (a b : List Gp) : encs (a ++ b) = encs a ++ encs b := by simp [encs]
theorem encs_len (gs : List Gp) (h : ∀ g ∈ gs, goodG g = true) : (encs gs).length = 64 * blksN gs := by
  induction gs with
  | nil => rfl
  | cons g gs ih =>
    rw [encs_cons, List.length_append, encG_blk g (h g (by simp)), ih (fun y hy => h y (by simp [hy]))]
    simp only [blksN, List.map_cons, List.sum_cons]; omega
theorem encs_le (gs : List Gp) (h : ∀ g ∈ gs, goodG g = true) : (encs gs).length ≤ 448 * gs.length := by
  induction gs with
  | nil => simp [encs]
  | cons g gs ih =>
    have h1 := encG_blk g (h g (by simp)); have h2 := blkN_le g (h g (by simp))
    rw [encs_cons, List.length_append, List.length_cons]
    have := ih (fun y hy => h y (by simp [hy])); omega
/-- The blocks at which they begin. -/
def places (p : Nat) : List Gp → List Int
  | [] => []
  | g :: gs => (p : Int) :: places (p + blkN g.es) gs

theorem scan_ev (s : ByteArray) (hs : s.size ≤ 140737488351232) (rest : List UInt8) (hrest : (decG rest).2.2 ≠ 0) :
    ∀ (gs : List Gp) (acc : List S42) (ats : List Int) (p k : Nat) (pre : List UInt8), (∀ g ∈ gs, goodG g = true) → pre.length = 64 * p → bl s = pre ++ (encs gs ++ rest) → gs.length + 500 < k → acc.length + gs.length < 1000000 → ats.length + gs.length < 1000000 →
      group_Scan.l0 k s acc ats (p : Int) = some (acc ++ gs.map toG, ats ++ places p gs) := by
  intro gs
  induction gs with
  | nil =>
    intro acc ats p k pre _ hp hb hk ha1 ha2
    obtain ⟨k, rfl⟩ : ∃ m, k = m + 1 := ⟨k - 1, by omega⟩
    have hl : s.size = pre.length + rest.length := by rw [← bl_size, hb]; simp [encs]
    have e1 : wrap64 ((p : Int) * 64) = ((p * 64 : Nat) : Int) := by rw [w64 _ (by omega)]; omega
    have e2 : bl (s.extract (p * 64) s.size) = rest := by
      rw [bl_ext, hb, List.drop_append_of_le_length (by omega), List.drop_of_length_le (by omega)]
      show (([] : List UInt8) ++ ([] ++ rest)).take _ = _
      rw [List.nil_append, List.nil_append, List.take_of_length_le (by omega)]
    have hd := dec_f (s.extract (p * 64) s.size) (by rw [ByteArray.size_extract]; omega) k (by omega)
    rw [e2] at hd
    simp only [group_Scan.l0]
    rw [e1, if_pos (by omega), if_pos (by omega), Int.toNat_natCast, hd, Option.bind_some]
    rw [if_neg (show ¬(ofD (decG rest)).2.2.2.2 = 0 from hrest)]
    simp [places]
  | cons g gs ih =>
    intro acc ats p k pre hg hp hb hk ha1 ha2
    obtain ⟨k, rfl⟩ : ∃ m, k = m + 1 := ⟨k - 1, by omega⟩
    have hx : goodG g = true := hg g (by simp)
    have hlx := encG_blk g hx
    have hl : s.size = pre.length + ((encG g).length + ((encs gs).length + rest.length)) := by
      rw [← bl_size, hb, encs_cons]; simp [List.length_append, Nat.add_assoc]
    have e1 : wrap64 ((p : Int) * 64) = ((p * 64 : Nat) : Int) := by rw [w64 _ (by omega)]; omega
    have e2 : bl (s.extract (p * 64) s.size) = encG g ++ (encs gs ++ rest) := by
      rw [bl_ext, hb, List.drop_append_of_le_length (by omega), List.drop_of_length_le (by omega), encs_cons, List.nil_append, List.append_assoc]
      rw [List.take_of_length_le (by simp only [List.length_append]; omega)]
    have hd := dec_f (s.extract (p * 64) s.size) (by rw [ByteArray.size_extract]; omega) k (by omega)
    rw [e2, dec_enc g _ hx] at hd
    simp only [List.length_cons] at hk ha1 ha2
    simp only [group_Scan.l0]
    rw [e1, if_pos (by omega), if_pos (by omega), Int.toNat_natCast, hd, Option.bind_some]
    rw [if_pos (show (ofD (g, ((blkN g.es : Nat) : Int), 0)).2.2.2.2 = 0 from rfl), if_pos (by omega), if_pos (by omega)]
    clear e1
    have hp2 : wrap64 ((p : Int) + ((blkN g.es : Nat) : Int)) = ((p + blkN g.es : Nat) : Int) := by rw [w64 _ (by omega)]; omega
    have hnext := ih (acc ++ [toG g]) (ats ++ [(p : Int)]) (p + blkN g.es) k (pre ++ encG g) (fun y hy => hg y (by simp [hy])) (by rw [List.length_append]; omega) (by rw [hb, encs_cons]; simp only [List.append_assoc]) (by omega) (by simp; omega) (by simp; omega)
    show group_Scan.l0 k s (acc ++ [toG g]) (ats ++ [(p : Int)]) (wrap64 ((p : Int) + ((blkN g.es : Nat) : Int))) = _
    rw [hp2, hnext]
    simp [places, List.append_assoc]
theorem scan_f (s : ByteArray) (hs : s.size ≤ 140737488351232) (gs : List Gp) (rest : List UInt8) (hrest : (decG rest).2.2 ≠ 0) (hg : ∀ g ∈ gs, goodG g = true) (hb : bl s = encs gs ++ rest) (hl : gs.length ≤ 100) (k : Nat) (hk : 700 < k) :
    group_Scan.f k s = some (gs.map toG, places 0 gs) := by
  unfold group_Scan.f
  have := scan_ev s hs rest hrest gs [] [] 0 k [] hg rfl (by rw [hb]; rfl) (by omega) (by simp; omega) (by simp; omega)
  rw [show ((0 : Nat) : Int) = 0 from rfl] at this
  rw [this]; simp

theorem good_len {g : Gp} (h : goodG g = true) : (encG g).length ≤ 448 ∧ 64 ≤ (encG g).length := by
  have h1 := encG_blk g h; have h2 := blkN_le g h
  have h3 : 1 ≤ blkN g.es := by unfold blkN; omega
  omega
theorem rd_get (xs : List Int) (i : Nat) (v : Int) (h : xs[i]? = some v) : rd xs (i : Int) = v := by
  unfold rd; rw [Int.toNat_natCast, List.getD_eq_getElem?_getD, h]; rfl

end Go.Proofs.YticpjnpafmehaaaDoor.U
