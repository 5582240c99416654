/- Contracts of Go's library at this translation, in one form: what comes back, and 'Below'. -/
import Derived.Test.YtmgkmpbblhkacaaGreatDoorBase
import Derived.Test.YtmgkmpbblhkacaaGreatDoorShelf
import Derived.Test.YtmgkmpbblhkacaaGreatDoorBld
import Derived.Test.YtmgkmpbblhkacaaGreatDoorCut
import Derived.Test.YtmgkmpbblhkacaaGreatDoorMgQ
import Derived.Lib.Bytealg
import Derived.Lib.IndexMore
import Derived.Lib.Split
import Derived.Lib.SpaceU
import Derived.Lib.AppendIntMem
namespace Go.Proofs.YtmgkmpbblhkacaaGreatDoor
open Go.RowKit
set_option linter.unusedSimpArgs false
set_option linter.unusedVariables false

theorem Below.ofDrewN (w : World) (n : Nat) : Below w.heap.size w (w.drewN n) := by
  induction n with
  | zero => exact Below.refl _ _
  | succ n ih => first | exact Below.drew ih | exact Below.drewN ih

theorem lib_HasPrefix (s p : ByteArray) (w : World) :
    Calls Tryz.prog 88 #[.string s, .string p] w fun e w' => e = .returned (.bool (p.data.toList.isPrefixOf s.data.toList)) ∧ w = w' :=
  (Tryz.strings_HasPrefix s p w).mono fun _ _ ⟨h, h2⟩ => ⟨h, h2.symm⟩
theorem lib_TrimLeft0 (s : ByteArray) (w : World) :
    Calls Tryz.prog 165 #[.string s, .string ⟨#[48]⟩] w fun e w' => e = .returned (.string (strOf (s.data.toList.dropWhile (· == 48)))) ∧ w = w' :=
  (Tryz.strings_TrimLeft_one s 48 (by decide) w).mono fun _ _ ⟨h, h2⟩ => ⟨h, h2.symm⟩
theorem lib_Contains (s sub : ByteArray) (w : World) (hG : GL w) (hs : s.size ≤ 1000000) :
    Calls Tryz.prog 36 #[.string s, .string sub] w fun e w' => e = .returned (.bool (Lib.contains s.data.toList sub.data.toList)) ∧ w = w' := by
  obtain ⟨m, hm⟩ := hG.maxlen
  exact (Tryz.strings_Contains s sub m w (by omega) hm).mono fun _ _ ⟨h, h2⟩ => ⟨h, h2.symm⟩
theorem lib_Cut (s sep : ByteArray) (w : World) (hG : GL w) (hs : s.size ≤ 1000000) :
    Calls Tryz.prog 32 #[.string s, .string sep] w fun e w' => e = .returned (.tuple #[.string (strOf (Lib.cut s.data.toList sep.data.toList).1), .string (strOf (Lib.cut s.data.toList sep.data.toList).2.1), .bool (Lib.cut s.data.toList sep.data.toList).2.2]) ∧ Below w.heap.size w w' := by
  obtain ⟨m, hm⟩ := hG.maxlen
  refine (Tryz.strings_Cut s sep m w (by omega) hm).mono fun _ _ ⟨h, n, h2⟩ => ⟨h, ?_⟩
  subst h2
  exact Below.ofDrewN _ _
theorem lib_Itoa (n : Int) (h0 : -9223372036854775808 ≤ n) (h1 : n ≤ 9223372036854775807) (w : World) (hG : GL w) :
    Calls Tryz.prog 31 #[.int .i64 n] w fun e w' => e = .returned (.string (strOf (Lib.itoa n))) ∧ Below w.heap.size w w' := by
  refine (Tryz.strconv_Itoa n h0 h1 w hG.pow).mono fun _ _ ⟨h, k, os, h2⟩ => ⟨h, ?_⟩
  subst h2
  exact Lib.below_grow _ w (Nat.le_refl _) k os
theorem lib_DecodeLast (s : ByteArray) (w : World) (hG : GL w) (hs : s.size ≤ 1000000) :
    Calls Tryz.prog 177 #[.string s] w fun e w' => e = .returned (.tuple #[.int .i32 (Lib.decodeLastL s.data.toList).1, .int .i64 (Lib.decodeLastL s.data.toList).2]) ∧ Below w.heap.size w w' :=
  Tryz.utf8_DecodeLastRuneInString s w (by omega) hG.utf8
theorem lib_IndexByte (s : ByteArray) (c : Int) (w : World) :
    Calls Tryz.prog 39 #[.string s, .int .u8 c] w fun e w' => e = .returned (.int .i64 (Lib.indexByte s.data.toList c.toNat.toUInt8)) ∧ w = w' :=
  (Tryz.strings_IndexByte s c w).mono fun _ _ ⟨h, h2⟩ => ⟨h, h2.symm⟩
end Go.Proofs.YtmgkmpbblhkacaaGreatDoor
