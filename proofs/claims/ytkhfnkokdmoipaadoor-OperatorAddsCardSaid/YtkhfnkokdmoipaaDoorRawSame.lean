/- Contracts of Same, of the program and of the reference. -/
import Derived.Test.YtkhfnkokdmoipaaDoorRawSize
import Derived.Deep.RegionHeld3
set_option linter.unusedVariables false
set_option linter.unusedSimpArgs false
namespace Go.Proofs.YtkhfnkokdmoipaaDoor
open Go.RowKit

theorem sames_spec (at_ : Bool) : ∀ (ts us : List Lfc.Raw), Lfc.Raw.sames at_ ts us = true ↔ ts.length = us.length ∧ ∀ k (h : k < ts.length) (h' : k < us.length), Lfc.Raw.same at_ ts[k] us[k] = true
  | [], [] => by simp [Lfc.Raw.sames]
  | [], _ :: _ => by simp [Lfc.Raw.sames]
  | _ :: _, [] => by simp [Lfc.Raw.sames]
  | a :: r, b :: q => by
    rw [Lfc.Raw.sames, Bool.and_eq_true, sames_spec at_ r q]
    constructor
    · rintro ⟨h1, h2, h3⟩
      refine ⟨by simp [h2], fun k h h' => ?_⟩
      cases k with
      | zero => exact h1
      | succ k => exact h3 k (by simpa using h) (by simpa using h')
    · rintro ⟨h1, h2⟩
      exact ⟨h2 0 (by simp) (by simp), by simpa using h1, fun k h h' => h2 (k + 1) (by simpa using h) (by simpa using h')⟩
theorem sames_false (at_ : Bool) (ts us : List Lfc.Raw) (k : Nat) (h : k < ts.length) (h' : k < us.length) (hf : Lfc.Raw.same at_ ts[k] us[k] = false) : Lfc.Raw.sames at_ ts us = false := by
  cases hs : Lfc.Raw.sames at_ ts us
  · rfl
  · rw [((sames_spec at_ ts us).1 hs).2 k h h'] at hf; cases hf
theorem sames_len (at_ : Bool) (ts us : List Lfc.Raw) (h : ts.length ≠ us.length) : Lfc.Raw.sames at_ ts us = false := by
  cases hs : Lfc.Raw.sames at_ ts us
  · rfl
  · exact absurd ((sames_spec at_ ts us).1 hs).1 h

end Go.Proofs.YtkhfnkokdmoipaaDoor
