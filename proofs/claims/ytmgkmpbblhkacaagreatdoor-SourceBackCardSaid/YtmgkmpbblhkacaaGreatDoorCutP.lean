/- Signs under both maps of letters: plain. -/
import Derived.Test.YtmgkmpbblhkacaaGreatDoorAscP
import Derived.Test.YtmgkmpbblhkacaaGreatDoorIdxP
namespace Go.Proofs.YtmgkmpbblhkacaaGreatDoor
open Go.RowKit
set_option linter.unusedSimpArgs false
set_option linter.unusedVariables false

/-- Bytes of signs keep apart under both maps. -/
def signB (d : UInt8) : Bool := decide (¬ (65 ≤ d.toNat ∧ d.toNat ≤ 90)) && decide (¬ (97 ≤ d.toNat ∧ d.toNat ≤ 122))
theorem low_keeps (d : UInt8) (h : signB d = true) (c : UInt8) : lowB c = d ↔ c = d := by
  have e1 : ∀ c : UInt8, signB (lowB c) = true → lowB c = c := fun c => by
    have : ∀ k : Fin 256, signB (lowB (UInt8.ofNat k.val)) = true → lowB (UInt8.ofNat k.val) = UInt8.ofNat k.val := by decide +kernel
    have h2 := this ⟨c.toNat, c.toNat_lt⟩
    simpa only [UInt8.ofNat_toNat] using h2
  have e2 : ∀ c : UInt8, signB c = true → lowB c = c := fun c => by
    have : ∀ k : Fin 256, signB (UInt8.ofNat k.val) = true → lowB (UInt8.ofNat k.val) = UInt8.ofNat k.val := by decide +kernel
    have h2 := this ⟨c.toNat, c.toNat_lt⟩
    simpa only [UInt8.ofNat_toNat] using h2
  constructor
  · intro hc; rw [← hc]; exact (e1 c (by rw [hc]; exact h)).symm
  · rintro rfl; exact e2 _ h
theorem up_keeps (d : UInt8) (h : signB d = true) (c : UInt8) : upB c = d ↔ c = d := by
  have e1 : ∀ c : UInt8, signB (upB c) = true → upB c = c := fun c => by
    have : ∀ k : Fin 256, signB (upB (UInt8.ofNat k.val)) = true → upB (UInt8.ofNat k.val) = UInt8.ofNat k.val := by decide +kernel
    have h2 := this ⟨c.toNat, c.toNat_lt⟩
    simpa only [UInt8.ofNat_toNat] using h2
  have e2 : ∀ c : UInt8, signB c = true → upB c = c := fun c => by
    have : ∀ k : Fin 256, signB (UInt8.ofNat k.val) = true → upB (UInt8.ofNat k.val) = UInt8.ofNat k.val := by decide +kernel
    have h2 := this ⟨c.toNat, c.toNat_lt⟩
    simpa only [UInt8.ofNat_toNat] using h2
  constructor
  · intro hc; rw [← hc]; exact (e1 c (by rw [hc]; exact h)).symm
  · rintro rfl; exact e2 _ h
theorem low_keep (sep : Bs) (h : sep.all signB = true) : keeps lowB sep := fun d hd c => low_keeps d (List.all_eq_true.1 h d hd) c
theorem up_keep (sep : Bs) (h : sep.all signB = true) : keeps upB sep := fun d hd c => up_keeps d (List.all_eq_true.1 h d hd) c
end Go.Proofs.YtmgkmpbblhkacaaGreatDoor
