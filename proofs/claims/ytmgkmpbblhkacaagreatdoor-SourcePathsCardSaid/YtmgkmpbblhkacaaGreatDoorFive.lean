/- Five new blocks. -/
import Derived.Test.YtmgkmpbblhkacaaGreatDoorS20
namespace Go.Proofs.YtmgkmpbblhkacaaGreatDoor
open Go.RowKit Go.MapKept

/-- Five more blocks. -/
theorem five_blocks (w : World) (a b c d e : Obj) : (((((w.alloc a).alloc b).alloc c).alloc d).alloc e).heap[w.heap.size]? = some a ∧ (((((w.alloc a).alloc b).alloc c).alloc d).alloc e).heap[w.heap.size + 1]? = some b ∧ (((((w.alloc a).alloc b).alloc c).alloc d).alloc e).heap[w.heap.size + 1 + 1]? = some c ∧ (((((w.alloc a).alloc b).alloc c).alloc d).alloc e).heap[w.heap.size + 1 + 1 + 1]? = some d ∧ (((((w.alloc a).alloc b).alloc c).alloc d).alloc e).heap[w.heap.size + 1 + 1 + 1 + 1]? = some e ∧ Below w.heap.size w (((((w.alloc a).alloc b).alloc c).alloc d).alloc e) := by
  obtain ⟨h1, h2, h3, h4, hb⟩ := four_blocks w a b c d
  have s4 : ((((w.alloc a).alloc b).alloc c).alloc d).heap.size = w.heap.size + 1 + 1 + 1 + 1 := by
    show ((((w.heap.push a).push b).push c).push d).size = _
    rw [Array.size_push, Array.size_push, Array.size_push, Array.size_push]
  refine ⟨?_, ?_, ?_, ?_, ?_, hb.alloc hb.size e⟩
  · rw [Below.heap_alloc _ _ _ (by omega)]; exact h1
  · rw [Below.heap_alloc _ _ _ (by omega)]; exact h2
  · rw [Below.heap_alloc _ _ _ (by omega)]; exact h3
  · rw [Below.heap_alloc _ _ _ (by omega)]; exact h4
  · rw [← s4]; exact heap_alloc_new _ _
end Go.Proofs.YtmgkmpbblhkacaaGreatDoor
