/- A block of six cells, across stores and quiet calls. -/
import Derived.Test.YtmgkmpbblhkacaaGreatDoorLib
import Derived.Test.YtmgkmpbblhkacaaGreatDoorMgP
namespace Go.Proofs.YtmgkmpbblhkacaaGreatDoor
open Go.RowKit
set_option linter.unusedSimpArgs false
set_option linter.unusedVariables false

theorem six_cells {w : World} {b : Nat} {a0 a1 a2 a3 a4 a5 : Value} {T : TypeId} (h : w.heap[b]? = some (.cells #[a0, a1, a2, a3, a4, a5] T (0, 0))) :
    w.cell? ⟨b, 0, none⟩ = some a0 ∧ w.cell? ⟨b, 1, none⟩ = some a1 ∧ w.cell? ⟨b, 2, none⟩ = some a2 ∧ w.cell? ⟨b, 3, none⟩ = some a3 ∧ w.cell? ⟨b, 4, none⟩ = some a4 ∧ w.cell? ⟨b, 5, none⟩ = some a5 :=
  ⟨cell_of_heap h 0, cell_of_heap h 1, cell_of_heap h 2, cell_of_heap h 3, cell_of_heap h 4, cell_of_heap h 5⟩
theorem six_free {w : World} {b : Nat} {a0 a1 a2 a3 a4 a5 : Value} {T : TypeId} (h : w.heap[b]? = some (.cells #[a0, a1, a2, a3, a4, a5] T (0, 0))) :
    w.frozen? ⟨b, 0, none⟩ = false ∧ w.frozen? ⟨b, 1, none⟩ = false ∧ w.frozen? ⟨b, 2, none⟩ = false ∧ w.frozen? ⟨b, 3, none⟩ = false ∧ w.frozen? ⟨b, 4, none⟩ = false ∧ w.frozen? ⟨b, 5, none⟩ = false :=
  ⟨frozen_of_heap h 0, frozen_of_heap h 1, frozen_of_heap h 2, frozen_of_heap h 3, frozen_of_heap h 4, frozen_of_heap h 5⟩
/-- What a held region keeps: a block's cells, and that nothing below is turned. -/
theorem six_held {w w' : World} {b : Nat} {a0 a1 a2 a3 a4 a5 : Value} {T : TypeId} (h : w.heap[b]? = some (.cells #[a0, a1, a2, a3, a4, a5] T (0, 0))) (hb : Below w.heap.size w w') :
    w'.cell? ⟨b, 0, none⟩ = some a0 ∧ w'.cell? ⟨b, 1, none⟩ = some a1 ∧ w'.cell? ⟨b, 2, none⟩ = some a2 ∧ w'.cell? ⟨b, 3, none⟩ = some a3 ∧ w'.cell? ⟨b, 4, none⟩ = some a4 ∧ w'.cell? ⟨b, 5, none⟩ = some a5 ∧ Below w.heap.size w w' := by
  have hlt : b < w.heap.size := (Array.getElem?_eq_some_iff.1 h).1
  have h' : w'.heap[b]? = _ := (hb.block _ hlt).trans h
  exact ⟨cell_of_heap h' 0, cell_of_heap h' 1, cell_of_heap h' 2, cell_of_heap h' 3, cell_of_heap h' 4, cell_of_heap h' 5, hb⟩
theorem held_trans {w W w' : World} {P0 P1 P2 P3 P4 P5 : Prop} (hS : P0 ∧ P1 ∧ P2 ∧ P3 ∧ P4 ∧ P5 ∧ Below w.heap.size w W) (hb : Below W.heap.size W w') : Below w.heap.size w w' := by
  obtain ⟨_, _, _, _, _, _, h⟩ := hS
  exact h.trans (hb.mono h.size)
theorem held_alloc {w W : World} {P0 P1 P2 P3 P4 P5 : Prop} (hS : P0 ∧ P1 ∧ P2 ∧ P3 ∧ P4 ∧ P5 ∧ Below w.heap.size w W) (o : Obj) : Below w.heap.size w (W.alloc o) := by
  obtain ⟨_, _, _, _, _, _, h⟩ := hS
  exact h.alloc h.size o
theorem held_set {w W : World} {P0 P1 P2 P3 P4 P5 : Prop} (hS : P0 ∧ P1 ∧ P2 ∧ P3 ∧ P4 ∧ P5 ∧ Below w.heap.size w W) {p : Addr} (hp : w.heap.size ≤ p.block) (v : Value) : Below w.heap.size w (W.setCell p v) := by
  obtain ⟨_, _, _, _, _, _, h⟩ := hS
  exact h.setCell hp v
theorem held_sets {w W : World} {P0 P1 P2 P3 P4 P5 : Prop} (hS : P0 ∧ P1 ∧ P2 ∧ P3 ∧ P4 ∧ P5 ∧ Below w.heap.size w W) {b : Nat} (hp : w.heap.size ≤ b) (v0 v1 v2 v3 v4 v5 : Value) :
    Below w.heap.size w ((((((W.setCell ⟨b, 0, none⟩ v0).setCell ⟨b, 1, none⟩ v1).setCell ⟨b, 2, none⟩ v2).setCell ⟨b, 3, none⟩ v3).setCell ⟨b, 4, none⟩ v4).setCell ⟨b, 5, none⟩ v5) := by
  obtain ⟨_, _, _, _, _, _, h⟩ := hS
  exact (((((h.setCell (p := ⟨b, 0, none⟩) hp v0).setCell (p := ⟨b, 1, none⟩) hp v1).setCell (p := ⟨b, 2, none⟩) hp v2).setCell (p := ⟨b, 3, none⟩) hp v3).setCell (p := ⟨b, 4, none⟩) hp v4).setCell (p := ⟨b, 5, none⟩) hp v5
theorem held_lay {w w6 : World} (hb : Below w.drew.heap.size w.drew w6) (o : Obj) : Below w.heap.size w (w6.alloc o) :=
  ((Below.drew (Below.refl w.heap.size w)).trans hb).alloc hb.size o
theorem held_size {w W : World} {P0 P1 P2 P3 P4 P5 : Prop} (hS : P0 ∧ P1 ∧ P2 ∧ P3 ∧ P4 ∧ P5 ∧ Below w.heap.size w W) : w.heap.size ≤ W.heap.size := hS.2.2.2.2.2.2.size
/-- A block that lay there, behind a new one and a quiet call. -/
theorem block_past_alloc {w w' : World} {o x : Obj} {b : Nat} (h : w.heap[b]? = some x) (hb : Below (w.alloc o).heap.size (w.alloc o) w') : w'.heap[b]? = some x := by
  have hlt : b < w.heap.size := (Array.getElem?_eq_some_iff.1 h).1
  have hs : (w.alloc o).heap.size = w.heap.size + 1 := by show (w.heap.push _).size = _; rw [Array.size_push]
  rw [hb.block _ (by omega), Below.heap_alloc _ _ _ hlt]; exact h
theorem block_new_past {w w' : World} {o : Obj} (hb : Below (w.alloc o).heap.size (w.alloc o) w') : w'.heap[w.heap.size]? = some o := by
  have hs : (w.alloc o).heap.size = w.heap.size + 1 := by show (w.heap.push _).size = _; rw [Array.size_push]
  rw [hb.block _ (by omega)]; exact heap_alloc_new w o
theorem block_new_drew {w w' : World} {o : Obj} (hb : Below (w.alloc o).drew.heap.size (w.alloc o).drew w') : w'.heap[w.heap.size]? = some o := by
  have hs : (w.alloc o).drew.heap.size = w.heap.size + 1 := by show (w.heap.push _).size = _; rw [Array.size_push]
  rw [hb.block _ (by omega)]; exact heap_alloc_new w o
theorem below_past_alloc {w w' : World} {o : Obj} (hb : Below (w.alloc o).heap.size (w.alloc o) w') : Below w.heap.size w w' := by
  have hs : (w.alloc o).heap.size = w.heap.size + 1 := by show (w.heap.push _).size = _; rw [Array.size_push]
  exact ((Below.refl _ w).alloc (Nat.le_refl _) _).trans (hb.mono (by omega))
theorem size_past_alloc {w w' : World} {o : Obj} (hb : Below (w.alloc o).heap.size (w.alloc o) w') : w.heap.size + 1 ≤ w'.heap.size := by
  have hs : (w.alloc o).heap.size = w.heap.size + 1 := by show (w.heap.push _).size = _; rw [Array.size_push]
  have := hb.size
  omega
/-- A block that lay there, behind a quiet call. -/
theorem block_past {w w' : World} {x : Obj} {b : Nat} (h : w.heap[b]? = some x) (hb : Below w.heap.size w w') : w'.heap[b]? = some x := by
  have hlt : b < w.heap.size := (Array.getElem?_eq_some_iff.1 h).1
  rw [hb.block _ hlt]; exact h
theorem block_past_drew {w w' : World} {x : Obj} {b : Nat} (h : w.heap[b]? = some x) (hb : Below w.drew.heap.size w.drew w') : w'.heap[b]? = some x := block_past (w := w.drew) h hb
theorem below_past_drew {w w' : World} (hb : Below w.drew.heap.size w.drew w') : Below w.heap.size w w' := (Below.drew (Below.refl w.heap.size w)).trans hb
theorem size_setCell (w : World) (a : Addr) (v : Value) : (w.setCell a v).heap.size = w.heap.size := by simp [World.setCell]
/-- Another block, behind a store and a quiet call. -/
theorem block_past_store {w w' : World} {x : Obj} {b c k : Nat} {v : Value} (h : w.heap[b]? = some x) (hne : b ≠ c) (hb : Below (w.setCell ⟨c, k, none⟩ v).heap.size (w.setCell ⟨c, k, none⟩ v) w') : w'.heap[b]? = some x := by
  have hlt : b < w.heap.size := (Array.getElem?_eq_some_iff.1 h).1
  rw [size_setCell] at hb
  rw [hb.block _ hlt, Below.heap_setCell _ _ _ _ hne]; exact h
theorem block_past_set {w : World} {x : Obj} {b c k : Nat} {v : Value} (h : w.heap[b]? = some x) (hne : b ≠ c) : (w.setCell ⟨c, k, none⟩ v).heap[b]? = some x := by
  rw [Below.heap_setCell _ _ _ _ hne]; exact h
/-- The block itself. -/
theorem block_of_store {w w' : World} {cs : Array Value} {T : TypeId} {b k : Nat} {v : Value} (h : w.heap[b]? = some (.cells cs T (0, 0))) (hb : Below (w.setCell ⟨b, k, none⟩ v).heap.size (w.setCell ⟨b, k, none⟩ v) w') : w'.heap[b]? = some (.cells (cs.setIfInBounds k v) T (0, 0)) := by
  have hlt : b < w.heap.size := (Array.getElem?_eq_some_iff.1 h).1
  rw [size_setCell] at hb
  rw [hb.block _ hlt]; exact heap_setCell_at h k v
theorem six_below {B : Nat} {a w : World} (h : Below B a w) {b : Nat} (hp : B ≤ b) (v0 v1 v2 v3 v4 v5 : Value) :
    Below B a ((((((w.setCell ⟨b, 0, none⟩ v0).setCell ⟨b, 1, none⟩ v1).setCell ⟨b, 2, none⟩ v2).setCell ⟨b, 3, none⟩ v3).setCell ⟨b, 4, none⟩ v4).setCell ⟨b, 5, none⟩ v5) :=
  (((((h.setCell (p := ⟨b, 0, none⟩) hp v0).setCell (p := ⟨b, 1, none⟩) hp v1).setCell (p := ⟨b, 2, none⟩) hp v2).setCell (p := ⟨b, 3, none⟩) hp v3).setCell (p := ⟨b, 4, none⟩) hp v4).setCell (p := ⟨b, 5, none⟩) hp v5
theorem six_sets {w : World} {b : Nat} {a0 a1 a2 a3 a4 a5 : Value} {T : TypeId} (h : w.heap[b]? = some (.cells #[a0, a1, a2, a3, a4, a5] T (0, 0))) (v0 v1 v2 v3 v4 v5 : Value) :
    ((((((w.setCell ⟨b, 0, none⟩ v0).setCell ⟨b, 1, none⟩ v1).setCell ⟨b, 2, none⟩ v2).setCell ⟨b, 3, none⟩ v3).setCell ⟨b, 4, none⟩ v4).setCell ⟨b, 5, none⟩ v5).heap[b]? = some (.cells #[v0, v1, v2, v3, v4, v5] T (0, 0)) :=
  heap_setCell_at (heap_setCell_at (heap_setCell_at (heap_setCell_at (heap_setCell_at (heap_setCell_at h 0 v0) 1 v1) 2 v2) 3 v3) 4 v4) 5 v5
theorem below_past_store {w w' : World} {B c k : Nat} {v : Value} (hB : B ≤ c) (hc : c < w.heap.size) (hb : Below (w.setCell ⟨c, k, none⟩ v).heap.size (w.setCell ⟨c, k, none⟩ v) w') : Below B w w' := by
  rw [size_setCell] at hb
  exact ((Below.refl _ w).setCell hB v).trans (hb.mono (by omega))
end Go.Proofs.YtmgkmpbblhkacaaGreatDoor
