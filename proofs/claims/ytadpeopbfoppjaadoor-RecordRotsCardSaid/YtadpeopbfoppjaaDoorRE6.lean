/-
  record.Encode and record.Decode: one contract each.
-/
import Derived.Test.YtadpeopbfoppjaaDoorRE3
import Derived.Test.YtadpeopbfoppjaaDoorRE5
namespace Go.Proofs.YtadpeopbfoppjaaDoor
open Go.RowKit

/-- A record as bytes. -/
def encTxt (x : Rc) : List UInt8 := headTo x 6 ++ be 4 (crcL (headTo x 6 ++ x.body.data.toList)).toNat ++ List.replicate 39 0 ++ x.body.data.toList
/-- May there be such a record? -/
def goodR (x : Rc) : Bool := rightF x && decide ((x.body.size : Int) = bodyLen x.kind)
/-- What Encode answers. -/
def encF (x : Rc) : ByteArray × Int := if goodR x = true then (str (encTxt x), 0) else (⟨#[]⟩, 1)
theorem bodyLen_le (k : Int) : bodyLen k ≤ 64 := by unfold bodyLen; split <;> omega
theorem encode_any (x : Rc) (w : World) (hT : TabIn w) (hw0 : 0 < w.heap.size) (hb : x.body.size ≤ 140737488355328) :
    Calls Tryd.prog 10 #[.agg #[.int .i64 x.kind, .int .i64 x.seq, .int .i64 x.a, .int .i64 x.b, .int .i64 x.c, .int .i64 x.d, .string x.body]] w fun e w' => e = .returned (.tuple #[.string (encF x).1, .int .i64 (encF x).2]) ∧ Below w.heap.size w w' := by
  by_cases h1 : rightF x = true
  · by_cases h2 : (x.body.size : Int) = bodyLen x.kind
    · have h : goodR x = true := by unfold goodR; rw [h1, decide_eq_true h2]; rfl
      have hE : encF x = (str (encTxt x), 0) := by unfold encF; rw [if_pos h]
      rw [hE]
      exact encode_ok x w hT hw0 (by have := bodyLen_le x.kind; omega) h1 h2
    · have h : ¬goodR x = true := by unfold goodR; rw [decide_eq_false h2, Bool.and_false]; simp
      have hE : encF x = (⟨#[]⟩, 1) := by unfold encF; rw [if_neg h]
      rw [hE]
      exact encode_long x w hb h1 h2
  · have h : ¬goodR x = true := by unfold goodR; intro h; exact h1 (by simp only [Bool.and_eq_true] at h; exact h.1)
    have hE : encF x = (⟨#[]⟩, 1) := by unfold encF; rw [if_neg h]
    rw [hE]
    exact encode_wrong x w (by simpa using h1)

/-- What Decode answers. -/
def decF (s : ByteArray) : Rc × Int × Int :=
  if s.size = 0 then (rc0, 0, 13)
  else if s.size < 64 ∨ ¬(s.extract 0 2).toList = [67, 66] ∨ V.allz (s.extract 25 64) = false then (rc0, 0, 10)
  else if rightF (rcUp s 6) = true ∧ 64 + bodyLen (rdF s 0) ≤ (s.size : Int) then
    (if nb (s.extract 21 25).data.toList = (crcL ((s.extract 0 21).data.toList ++ (decRc s).body.data.toList)).toNat then (decRc s, bodyLen (rdF s 0) / 64 + 1, 0) else (rc0, 0, 11))
  else (rc0, 0, 10)
theorem decode_any (s : ByteArray) (w : World) (hT : TabIn w) (hw0 : 0 < w.heap.size) :
    Calls Tryd.prog 13 #[.string s] w fun e w' => e = decVal (decF s).1 (decF s).2.1 (decF s).2.2 ∧ Below w.heap.size w w' := by
  by_cases h0 : s.size = 0
  · have hs : s = ⟨#[]⟩ := by
      cases s with
      | mk d => have : d.size = 0 := h0
                rw [Array.size_eq_zero_iff] at this; rw [this]
    have hF : decF s = (rc0, 0, 13) := by unfold decF; rw [if_pos h0]
    rw [hF, hs]
    exact decode_none w
  · by_cases h1 : s.size < 64
    · have hF : decF s = (rc0, 0, 10) := by unfold decF; rw [if_neg h0, if_pos (.inl h1)]
      rw [hF]
      exact decode_short s w h0 h1
    · by_cases h2 : (s.extract 0 2).toList = [67, 66]
      · by_cases h3 : V.allz (s.extract 25 64) = true
        · have hF : decVal (decF s).1 (decF s).2.1 (decF s).2.2 = decAns s := by
            unfold decF decAns
            rw [if_neg h0, if_neg (by rintro (h | h | h); exact h1 h; exact h h2; rw [h3] at h; cases h)]
            split
            · split <;> rfl
            · rfl
          rw [hF]
          exact decode_main s w hT hw0 (by omega) h2 h3
        · have h3' : V.allz (s.extract 25 64) = false := by simpa using h3
          have hF : decF s = (rc0, 0, 10) := by unfold decF; rw [if_neg h0, if_pos (.inr (.inr h3'))]
          rw [hF]
          exact decode_noise s w (by omega) h2 h3'
      · have hF : decF s = (rc0, 0, 10) := by unfold decF; rw [if_neg h0, if_pos (.inr (.inl h2))]
        rw [hF]
        exact decode_mark s w (by omega) h2

end Go.Proofs.YtadpeopbfoppjaaDoor
