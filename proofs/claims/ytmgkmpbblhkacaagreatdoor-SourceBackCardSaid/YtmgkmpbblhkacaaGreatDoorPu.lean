/- strconv.ParseUint to the bases and sizes that the hosts ask: what it gathers, or an error. -/
import Derived.Test.YtmgkmpbblhkacaaGreatDoorBase
import Derived.Test.YtmgkmpbblhkacaaGreatDoorShelf
import Derived.Test.YtmgkmpbblhkacaaGreatDoorMgQ
import Derived.Lib.AtoiErrMem
import Derived.Laws.Strings3
import Derived.Laws.Closers25
import Derived.Laws.Closers25b
namespace Go.Proofs.YtmgkmpbblhkacaaGreatDoor
open Go.RowKit
set_option linter.unusedSimpArgs false
set_option linter.unusedVariables false

/-- What internal/strconv.ParseUint hands back. -/
def UintEnd (r : Option Nat) (e : Ending) : Prop :=
  match r with
  | some n => e = .returned (.tuple #[.int .u64 n, .nilIface])
  | none => ∃ (v c : Int), (c = 2 ∨ c = 1) ∧ e = .returned (.tuple #[.int .u64 v, .iface 141 (.int .i64 c)])

theorem uintEnd_some (n : Nat) : UintEnd (some n) (.returned (.tuple #[.int .u64 n, .nilIface])) := rfl
theorem uintEnd_none (v c : Int) (h : c = 2 ∨ c = 1) : UintEnd none (.returned (.tuple #[.int .u64 v, .iface 141 (.int .i64 c)])) := ⟨v, c, h, rfl⟩
set_option maxRecDepth 100000 in
theorem lower_bits_all : ∀ x : Fin 256, Go.bits .or .u8 ((x.val : Nat) : Int) 32 = (((UInt8.ofNat x.val) ||| 32).toNat : Int) := by decide
theorem lower_bits (c : UInt8)   : Go.bits .or .u8 (c.toNat : Int) 32 = ((c ||| 32).toNat : Int) := by
  have := lower_bits_all ⟨c.toNat, c.toNat_lt⟩
  simpa using this

end Go.Proofs.YtmgkmpbblhkacaaGreatDoor
