/-
  corbellaw18.speaks answers true.
-/
import Derived.Test.YticpjnpafmehaaaDoorUx7
import Derived.Test.YticpjnpafmehaaaDoorUP2
namespace Go.Proofs.YticpjnpafmehaaaDoor.U
open Go.RowKit Go.Proofs.YticpjnpafmehaaaDoorW.PrintWords Go.Proofs.YticpjnpafmehaaaDoorW.PrintLast Go.Proofs.YticpjnpafmehaaaDoorW.PrintMore
set_option linter.unusedVariables false
set_option linter.unusedSimpArgs false

def spG : Gp := ⟨5, [(3, false), (4, true)], [strOfNums (List.replicate 64 0), (⟨#[]⟩ : ByteArray)]⟩
theorem spG_good : goodG spG = true := by decide
theorem speaks_ev (k : Nat) (hk : 500 < k) : corbellaw18_speaks.f k = some true := by
  have hl : (encG spG).length = 128 := by rw [encG_len spG spG_good]; rfl
  have hd : decG (bl (str (encG spG))) = (spG, 2, 0) := by
    rw [bl_str, ← List.append_nil (encG spG), dec_enc spG [] spG_good]; rfl
  have he := enc_good spG k (by omega) spG_good
  have hdf := dec_f (str (encG spG)) (by rw [str_size, hl]; omega) k (by omega)
  rw [hd] at hdf
  unfold corbellaw18_speaks.f
  rw [Option.bind_some, if_pos (by omega)]
  rw [show ([(⟨3, false⟩ : S62), (⟨4, true⟩ : S62)] : List S62) = spG.es.map toE from rfl]
  rw [show group_Encode.f k 5 (spG.es.map toE) [strOfNums (List.replicate 64 0), (⟨#[]⟩ : ByteArray)] = some (str (encG spG), 0) from he, Option.bind_some, hdf, Option.bind_some]
  have hs : (str (encG spG)).size = 128 := by rw [str_size, hl]
  simp only [ofD]
  rw [hs]
  rfl
theorem speaks_true (k : Nat) (r : Bool) (h : corbellaw18_speaks.f k = some r) : r = true := by
  have hm : ∀ n, corbellaw18_speaks.f (k + n) = some r := by
    intro n
    induction n with
    | zero => exact h
    | succ n ih => exact corbellaw18_speaks.mono (k + n) r ih
  have h1 := hm 501
  rw [speaks_ev (k + 501) (by omega)] at h1
  exact (Option.some.inj h1).symm
theorem corbellaw18_speaks.calls (k : Nat) (r : Bool) (w : World) (h : corbellaw18_speaks.f k = some r) (hN : TabIn w) :
    Calls Tryd.prog 22 #[] w fun e w' => e = .returned (.bool r) ∧ Below w.heap.size w w' := corbellaw18_speaks.calls1 k r w h (speaks_true k r h) hN

end Go.Proofs.YticpjnpafmehaaaDoor.U
