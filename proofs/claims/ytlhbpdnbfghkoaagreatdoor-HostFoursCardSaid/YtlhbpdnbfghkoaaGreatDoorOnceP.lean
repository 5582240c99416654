/- Plain: HostOnce: what is written so is parsed as it is: for every text. The walk. -/
import Derived.Test.YtlhbpdnbfghkoaaGreatDoorShown
namespace Go.Proofs.YtlhbpdnbfghkoaaGreatDoor
open Go.RowKit
set_option linter.unusedSimpArgs false
set_option linter.unusedVariables false

theorem okc_facts (c : UInt8) (h : okc c = true) : (33 : Int) ≤ c.toNat ∧ (c.toNat : Int) ≤ 126 ∧ ((c.toNat : Int) < 65 ∨ ((65 : Int) ≤ c.toNat ∧ (90 : Int) < c.toNat)) ∧ ((c.toNat : Int) == 47) = false ∧ ((c.toNat : Int) == 63) = false ∧ ((c.toNat : Int) == 35) = false ∧ ((c.toNat : Int) == 64) = false ∧ ((c.toNat : Int) == 37) = false := by
  have ne : ∀ (k : UInt8) (n : Nat), k.toNat = n → c ≠ k → ((c.toNat : Int) == (n : Int)) = false := by
    intro k n hk hc
    refine beq_eq_false_iff_ne.2 (fun h => hc ?_)
    apply UInt8.toNat_inj.1
    omega
  simp only [okc, Bool.and_eq_true, decide_eq_true_eq, Bool.not_eq_true', Bool.and_eq_false_iff, decide_eq_false_iff_not] at h
  obtain ⟨⟨⟨⟨⟨⟨⟨h1, h2⟩, h3⟩, h4⟩, h5⟩, h6⟩, h7⟩, h8⟩ := h
  exact ⟨by omega, by omega, by omega, ne 47 47 rfl h4, ne 63 63 rfl h5, ne 35 35 rfl h6, ne 64 64 rfl h7, ne 37 37 rfl h8⟩

theorem text4_len (n : Nat) : (text4 n).length ≤ 16 := by
  have := joinB_len 46 (parts4 n) 3 (fun p hp => by
    simp [parts4] at hp
    rcases hp with rfl | rfl | rfl | rfl <;> exact dec8_le _ (by omega))
  simpa [parts4, text4] using this
theorem parse_len (s a : Bs) (h : parseP s = some a) : a.length ≤ s.length + 200 := by
  unfold parseP at h
  split at h
  · rw [Option.ite_none_right_eq_some] at h
    obtain ⟨_, h⟩ := h
    split at h
    · rename_i L hL
      cases h
      obtain ⟨h8, hx⟩ := ip6_ok _ _ hL
      have := text6_len L h8 hx
      simp only [List.length_cons, List.length_append, List.length_nil]
      omega
    · cases h
  · rw [Option.ite_none_left_eq_some] at h
    obtain ⟨hne, h⟩ := h
    rw [Option.ite_none_left_eq_some] at h
    obtain ⟨hfb, h⟩ := h
    rw [Option.ite_none_left_eq_some] at h
    obtain ⟨he, h⟩ := h
    split at h
    · cases h
      have := text4_len (ip4 ((pdec s).map lowB)).1
      omega
    · cases h
      have := pdec_len s
      simp
      omega
end Go.Proofs.YtlhbpdnbfghkoaaGreatDoor
