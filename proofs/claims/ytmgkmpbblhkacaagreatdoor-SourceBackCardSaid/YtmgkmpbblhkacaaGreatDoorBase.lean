/- The package variables of Go's library that the program reads, as one fact on a world, and how it is kept. -/
import Derived.Test.YtmgkmpbblhkacaaGreatDoorProg
import Derived.WalkKit
import Derived.WalkSmall
import Derived.WalkSpells
import Derived.BigCall
import Derived.BigGuard
import Derived.BigQuiet
import Derived.KernelRfl
import Derived.Lib.Hide
import Derived.Lib.OthersKept
import Derived.Lib.ConvBytes
import Derived.Lib.LaidTab
import Derived.Lib.ItoaNum
import Derived.Laws.RangeAny
import Derived.Laws.NewBlocks
import Derived.Deep.QuietTactic
import Derived.Deep.DeepFit
import Derived.Deep.DeepCutAuto
import Derived.Deep.CutBlock
import Derived.Outline
import Derived.Shelf.Unicode.DecodeSlow
namespace Go.Proofs.YtmgkmpbblhkacaaGreatDoor
open Go.RowKit

/-- The package variables that the library's functions read. -/
structure GL (w : World) : Prop where
  size : 9 + 1 ≤ w.heap.size
  maxlen : ∃ m, w.cell? ⟨1, 0, none⟩ = some (.int .i64 m)
  pow : Lib.TabIs Tryz.prog w "internal/strconv.uint64pow10" .u64 Lib.pow10Tab
  utf8 : Lib.Utf8Tabs 2 3 w
  esyn : ∃ te pe, w.cell? ⟨6, 0, none⟩ = some (.iface te pe)
  tz16 : w.cell? ⟨9, 15, none⟩ = some (.int .u8 4)
  eran : ∃ te pe, w.cell? ⟨7, 0, none⟩ = some (.iface te pe)

theorem gl_pow : Tryz.prog.globalNamed "internal/strconv.uint64pow10" = some 5 := by kernel_rfl

theorem GL.of_below {w w' : World} {B : Nat} (h : GL w) (hB : 9 + 1 ≤ B) (hb : Below B w w') : GL w' := by
  obtain ⟨h0, ⟨m, h1⟩, h2, h3, ⟨te, pe, h4⟩, h6, ⟨tf, pf, h5⟩⟩ := h
  have hs := hb.size
  have hc : ∀ g o, g < 9 + 1 → w'.cell? ⟨g, o, none⟩ = w.cell? ⟨g, o, none⟩ := fun g o hg => hb.cell (p := ⟨g, o, none⟩) (Nat.lt_of_lt_of_le hg hB)
  refine ⟨by omega, ⟨m, ?_⟩, ?_, ?_, ⟨te, pe, ?_⟩, ?_, ⟨tf, pf, ?_⟩⟩
  · rw [hc _ _ (by decide)]; exact h1
  · exact var?_below hb gl_pow (by omega) h2
  · unfold Lib.Utf8Tabs at h3 ⊢
    constructor
    · intro i hi; rw [hc _ _ (by decide)]; exact h3.1 i hi
    · intro i hi; rw [hc _ _ (by decide), hc _ _ (by decide)]; exact h3.2 i hi
  · rw [hc _ _ (by decide)]; exact h4
  · rw [hc _ _ (by decide)]; exact h6
  · rw [hc _ _ (by decide)]; exact h5

theorem GL.below {w w' : World} (h : GL w) (hb : Below w.heap.size w w') : GL w' := h.of_below h.size hb
theorem GL.drewN {w : World} (h : GL w) (n : Nat) : GL (w.drewN n) := h.below (by
  induction n with
  | zero => exact Below.refl _ _
  | succ n ih => first | exact Below.drew ih | exact Below.drewN ih)
theorem GL.drew {w : World} (h : GL w) : GL w.drew := h.below (Below.drew (Below.refl _ _))
theorem GL.alloc {w : World} (h : GL w) (o : Obj) : GL (w.alloc o) := h.below ((Below.refl _ _).alloc (Nat.le_refl _) o)
end Go.Proofs.YtmgkmpbblhkacaaGreatDoor
