/- Contracts of Go's library at this translation, in one form: what comes back, and 'Below'. -/
import Derived.Test.YtlhbpdnbfghkoaaDoorBase
import Derived.Test.YtlhbpdnbfghkoaaDoorShelf
import Derived.Test.YtlhbpdnbfghkoaaDoorBld
import Derived.Test.YtlhbpdnbfghkoaaDoorCut
import Derived.Test.YtlhbpdnbfghkoaaDoorPure1
import Derived.Lib.Bytealg
import Derived.Lib.IndexMore
import Derived.Lib.Split
import Derived.Lib.SpaceU
import Derived.Lib.AppendIntMem
namespace Go.Proofs.YtlhbpdnbfghkoaaDoor
open Go.RowKit
set_option linter.unusedSimpArgs false
set_option linter.unusedVariables false

theorem Below.ofDrewN (w : World) (n : Nat) : Below w.heap.size w (w.drewN n) := by
  induction n with
  | zero => exact Below.refl _ _
  | succ n ih => first | exact Below.drew ih | exact Below.drewN ih

theorem lib_HasPrefix (s p : ByteArray) (w : World) :
    Calls Tryd.prog 21 #[.string s, .string p] w fun e w' => e = .returned (.bool (p.data.toList.isPrefixOf s.data.toList)) ∧ w = w' :=
  (Tryd.strings_HasPrefix s p w).mono fun _ _ ⟨h, h2⟩ => ⟨h, h2.symm⟩
theorem lib_TrimLeft0 (s : ByteArray) (w : World) :
    Calls Tryd.prog 48 #[.string s, .string ⟨#[48]⟩] w fun e w' => e = .returned (.string (strOf (s.data.toList.dropWhile (· == 48)))) ∧ w = w' :=
  (Tryd.strings_TrimLeft_one s 48 (by decide) w).mono fun _ _ ⟨h, h2⟩ => ⟨h, h2.symm⟩
theorem lib_Contains (s sub : ByteArray) (w : World) (hG : GL w) (hs : s.size ≤ 1000000) :
    Calls Tryd.prog 37 #[.string s, .string sub] w fun e w' => e = .returned (.bool (Lib.contains s.data.toList sub.data.toList)) ∧ w = w' := by
  obtain ⟨m, hm⟩ := hG.maxlen
  exact (Tryd.strings_Contains s sub m w (by omega) hm).mono fun _ _ ⟨h, h2⟩ => ⟨h, h2.symm⟩
theorem lib_Cut (s sep : ByteArray) (w : World) (hG : GL w) (hs : s.size ≤ 1000000) :
    Calls Tryd.prog 19 #[.string s, .string sep] w fun e w' => e = .returned (.tuple #[.string (strOf (Lib.cut s.data.toList sep.data.toList).1), .string (strOf (Lib.cut s.data.toList sep.data.toList).2.1), .bool (Lib.cut s.data.toList sep.data.toList).2.2]) ∧ Below w.heap.size w w' := by
  obtain ⟨m, hm⟩ := hG.maxlen
  refine (Tryd.strings_Cut s sep m w (by omega) hm).mono fun _ _ ⟨h, n, h2⟩ => ⟨h, ?_⟩
  subst h2
  exact Below.ofDrewN _ _
theorem lib_Itoa (n : Int) (h0 : -9223372036854775808 ≤ n) (h1 : n ≤ 9223372036854775807) (w : World) (hG : GL w) :
    Calls Tryd.prog 35 #[.int .i64 n] w fun e w' => e = .returned (.string (strOf (Lib.itoa n))) ∧ Below w.heap.size w w' := by
  refine (Tryd.strconv_Itoa n h0 h1 w hG.pow).mono fun _ _ ⟨h, k, os, h2⟩ => ⟨h, ?_⟩
  subst h2
  exact Lib.below_grow _ w (Nat.le_refl _) k os
theorem lib_DecodeLast (s : ByteArray) (w : World) (hG : GL w) (hs : s.size ≤ 1000000) :
    Calls Tryd.prog 69 #[.string s] w fun e w' => e = .returned (.tuple #[.int .i32 (Lib.decodeLastL s.data.toList).1, .int .i64 (Lib.decodeLastL s.data.toList).2]) ∧ Below w.heap.size w w' :=
  Tryd.utf8_DecodeLastRuneInString s w (by omega) hG.utf8
theorem lib_IndexByte (s : ByteArray) (c : Int) (w : World) :
    Calls Tryd.prog 31 #[.string s, .int .u8 c] w fun e w' => e = .returned (.int .i64 (Lib.indexByte s.data.toList c.toNat.toUInt8)) ∧ w = w' :=
  (Tryd.strings_IndexByte s c w).mono fun _ _ ⟨h, h2⟩ => ⟨h, h2.symm⟩
theorem lib_CutPrefix (s p : ByteArray) (w : World) :
    Calls Tryd.prog 12 #[.string s, .string p] w fun e w' => e = .returned (.tuple #[.string (strOf (Lib.trimPrefix s.data.toList p.data.toList)), .bool (p.data.toList.isPrefixOf s.data.toList)]) ∧ w = w' :=
  (Tryd.strings_CutPrefix s p w).mono fun _ _ ⟨h, h2⟩ => ⟨h, h2.symm⟩
theorem lib_CutSuffix (s p : ByteArray) (w : World) (hs : s.size ≤ 1000000) :
    Calls Tryd.prog 13 #[.string s, .string p] w fun e w' => e = .returned (.tuple #[.string (strOf (Lib.trimSuffix s.data.toList p.data.toList)), .bool (Lib.hasSuffix s.data.toList p.data.toList)]) ∧ w = w' :=
  (Tryd.strings_CutSuffix s p w (by omega)).mono fun _ _ ⟨h, h2⟩ => ⟨h, h2.symm⟩
end Go.Proofs.YtlhbpdnbfghkoaaDoor
