/- Bits of whole numbers, as remainders. -/
import Derived.Test.YtlhbpdnbfghkoaaGreatDoorBase
import Derived.Laws.BitsLemmas
namespace Go.Proofs.YtlhbpdnbfghkoaaGreatDoor
open Go.RowKit
set_option linter.unusedSimpArgs false
set_option linter.unusedVariables false

theorem i64_and16 (n : Int) : ∃ p : Nat, p < 65536 ∧ bits .and .i64 n 65535 = (p : Int) := by
  have hm : (BitVec.ofInt 64 65535).toNat = 2 ^ 16 - 1 := by decide
  have key : (BitVec.ofInt 64 n &&& BitVec.ofInt 64 65535).toNat = (n % ((2 ^ 64 : Nat) : Int)).toNat % 2 ^ 16 := by
    rw [BitVec.toNat_and, BitVec.toNat_ofInt, hm, Nat.and_two_pow_sub_one_eq_mod]
  refine ⟨(n % ((2 ^ 64 : Nat) : Int)).toNat % 2 ^ 16, Nat.mod_lt _ (by decide), ?_⟩
  show IntKind.i64.wrap ((BitVec.ofInt 64 n &&& BitVec.ofInt 64 65535).toNat : Nat) = _
  rw [key, IntKind.wrap_i64]
  omega

theorem u8_wrap_low (x : Int) (h0 : 0 ≤ x) (h1 : x < 256) : IntKind.u8.wrap x = x := by
  simp [IntKind.wrap, IntKind.bits, IntKind.signed]
  omega
theorem i64_and_pow (n : Int) (k : Nat) (hk : k < 63) : ∃ p : Nat, p < 2 ^ k ∧ bits .and .i64 n ((2 ^ k - 1 : Nat) : Int) = (p : Int) := by
  have hk2 : 2 ^ k < 2 ^ 63 := Nat.pow_lt_pow_right (by decide) hk
  have hm : (BitVec.ofInt 64 ((2 ^ k - 1 : Nat) : Int)).toNat = 2 ^ k - 1 := by
    rw [BitVec.toNat_ofInt]
    have : ((2 ^ k - 1 : Nat) : Int) % ((2 ^ 64 : Nat) : Int) = ((2 ^ k - 1 : Nat) : Int) := Int.emod_eq_of_lt (by omega) (by omega)
    rw [this]; rfl
  have key : (BitVec.ofInt 64 n &&& BitVec.ofInt 64 ((2 ^ k - 1 : Nat) : Int)).toNat = (n % ((2 ^ 64 : Nat) : Int)).toNat % 2 ^ k := by
    rw [BitVec.toNat_and, hm, BitVec.toNat_ofInt, Nat.and_two_pow_sub_one_eq_mod]
  have hp := Nat.mod_lt (n % ((2 ^ 64 : Nat) : Int)).toNat (show 0 < 2 ^ k from Nat.pow_pos (by decide))
  refine ⟨(n % ((2 ^ 64 : Nat) : Int)).toNat % 2 ^ k, hp, ?_⟩
  show IntKind.i64.wrap ((BitVec.ofInt 64 n &&& BitVec.ofInt 64 ((2 ^ k - 1 : Nat) : Int)).toNat : Nat) = _
  rw [key, IntKind.wrap_i64]
  generalize (n % ((2 ^ 64 : Nat) : Int)).toNat % 2 ^ k = r at hp
  omega
theorem i64_and7 (n : Int) : ∃ p : Nat, p < 8 ∧ bits .and .i64 n 7 = (p : Int) := i64_and_pow n 3 (by decide)
theorem i64_and3 (n : Int) : ∃ p : Nat, p < 4 ∧ bits .and .i64 n 3 = (p : Int) := i64_and_pow n 2 (by decide)
theorem i64_and1 (n : Int) : ∃ p : Nat, p < 2 ∧ bits .and .i64 n 1 = (p : Int) := i64_and_pow n 1 (by decide)
end Go.Proofs.YtlhbpdnbfghkoaaGreatDoor
