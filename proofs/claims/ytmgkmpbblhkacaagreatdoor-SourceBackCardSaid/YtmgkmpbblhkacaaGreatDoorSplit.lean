/- strings.Split at one byte: the parts. -/
import Derived.Test.YtmgkmpbblhkacaaGreatDoorLib
import Derived.Lib.SplitLaws
import Derived.Lib.CountLaws
import Derived.Lib.IndexBytes
import Derived.Lib.IndexLaws
import Derived.Laws.AppendOwn
namespace Go.Proofs.YtmgkmpbblhkacaaGreatDoor
open Go.RowKit
set_option linter.unusedSimpArgs false
set_option linter.unusedVariables false

theorem split1_none (c : UInt8) (l : Bs) (h : Lib.indexByte l c = -1) : split1 c l = [l] := by
  induction l with
  | nil => rfl
  | cons x r ih =>
    unfold Lib.indexByte at h
    split at h
    · omega
    · rename_i hx
      split at h
      · rename_i hr
        have := ih (by simpa using hr)
        unfold split1
        rw [if_neg (by simpa using hx), this]
      · have := Lib.indexByte_ge r c
        omega
theorem split1_some (c : UInt8) (l : Bs) (i : Nat) (h : Lib.indexByte l c = i) : split1 c l = l.take i :: split1 c (l.drop (i + 1)) := by
  induction l generalizing i with
  | nil => simp [Lib.indexByte] at h
  | cons x r ih =>
    unfold Lib.indexByte at h
    split at h
    · rename_i hx
      obtain rfl : i = 0 := by omega
      conv => lhs; unfold split1
      rw [if_pos (by simpa using hx)]
      simp
    · rename_i hx
      split at h
      · omega
      · rename_i hr
        have hge := Lib.indexByte_ge r c
        have hr' : Lib.indexByte r c ≠ -1 := by simpa using hr
        obtain ⟨j, hj⟩ : ∃ j : Nat, Lib.indexByte r c = j := ⟨(Lib.indexByte r c).toNat, by omega⟩
        obtain rfl : i = j + 1 := by omega
        conv => lhs; unfold split1
        rw [if_neg (by simpa using hx), ih j hj]
        simp
theorem indexB_one (s : ByteArray) (c : UInt8) : Lib.indexB s ⟨#[c]⟩ = Lib.indexByte s.data.toList c := by
  show Lib.index s.data.toList [c] = _
  exact Lib.index_one _ _
theorem one_le (c : UInt8) : 1 ≤ (⟨#[c]⟩ : ByteArray).size := Nat.le_refl 1
theorem splitB_one (c : UInt8) (k : Nat) : ∀ s : ByteArray, Lib.countB s ⟨#[c]⟩ = k → (Lib.splitB ⟨#[c]⟩ 0 k s).map (fun b => b.data.toList) = split1 c s.data.toList := by
  induction k with
  | zero =>
    intro s h
    have hi : Lib.indexB s ⟨#[c]⟩ = -1 := by
      rcases Lib.indexB_cases s ⟨#[c]⟩ with h1 | ⟨i, h1, _⟩
      · exact h1
      · rw [Lib.countB_hit s ⟨#[c]⟩ i (one_le c) h1] at h
        omega
    rw [Lib.splitB_zero, split1_none c _ (by rw [← indexB_one]; exact hi)]
    rfl
  | succ k ih =>
    intro s h
    rcases Lib.indexB_cases s ⟨#[c]⟩ with h1 | ⟨i, h1, _⟩
    · rw [Lib.countB_miss s ⟨#[c]⟩ h1] at h
      omega
    · rw [Lib.countB_hit s ⟨#[c]⟩ i (one_le c) h1] at h
      rw [Lib.splitB_hit _ _ _ _ _ h1, List.map_cons, ih _ (by omega), split1_some c s.data.toList i (by rw [← indexB_one]; exact h1)]
      have e1 : (s.extract 0 (i + 0)).data.toList = s.data.toList.take i := by rw [extract_strOf, strOf_data]; simp
      have e2 : (s.extract (i + (⟨#[c]⟩ : ByteArray).size) s.size).data.toList = s.data.toList.drop (i + 1) := by
        rw [extract_strOf, strOf_data, List.take_of_length_le (by simp)]; rfl
      rw [e1, e2]
theorem split1_pos (c : UInt8) (l : Bs) : 0 < (split1 c l).length := List.length_pos_iff.2 (split1_ne c l)
theorem split1_len_le (c : UInt8) (l : Bs) : (split1 c l).length ≤ l.length + 1 := by
  induction l with
  | nil => simp [split1]
  | cons x r ih =>
    unfold split1
    split
    · simp; omega
    · split
      · simp
      · rename_i h t e
        rw [e] at ih
        simp at ih ⊢
        omega
theorem split1_mem_le (c : UInt8) (l : Bs) : ∀ p ∈ split1 c l, p.length ≤ l.length := by
  induction l with
  | nil => simp [split1]
  | cons x r ih =>
    unfold split1
    split
    · intro p hp
      rcases List.mem_cons.1 hp with rfl | hp
      · simp
      · have := ih p hp; simp; omega
    · split
      · intro p hp; simp at hp; subst hp; simp
      · rename_i h t e
        intro p hp
        rcases List.mem_cons.1 hp with rfl | hp
        · have := ih h (by rw [e]; simp); simp; omega
        · have := ih p (by rw [e]; simp [hp]); simp; omega

/-- A slice of strings in new memory: what it holds. -/
structure Strs (w : World) (b : Nat) (ps : List Bs) : Prop where
  lt : b < w.heap.size
  cell : ∀ (j : Nat) (p : Bs), ps[j]? = some p → w.cell? ⟨b, j, none⟩ = some (.string (strOf p))
theorem Strs.below {w w' : World} {b : Nat} {ps : List Bs} (h : Strs w b ps) (hb : Below w.heap.size w w') : Strs w' b ps :=
  ⟨Nat.lt_of_lt_of_le h.lt hb.size, fun j p hp => by rw [hb.cell (p := ⟨b, j, none⟩) h.lt]; exact h.cell j p hp⟩

theorem cells_alloc_new (w : World) (cs : Array Value) (t : TypeId) (j : Nat) : (w.alloc (.cells cs t)).cell? ⟨w.heap.size, j, none⟩ = cs[j]? := by
  have h : (w.alloc (.cells cs t)).heap[w.heap.size]? = some (.cells cs t (0, 0)) := by
    show (w.heap.push _)[w.heap.size]? = _
    simp
  unfold World.cell?
  rw [show (w.alloc (.cells cs t)).heap[(⟨w.heap.size, j, none⟩ : Addr).block]? = some (.cells cs t (0, 0)) from h]
  rfl
theorem lib_Split1 (s : ByteArray) (c : UInt8) (w : World) (hs : s.size ≤ 1000000) (hG : GL w) :
    Calls Tryz.prog 77 #[.string s, .string ⟨#[c]⟩] w fun e w' => e = .returned (.slice (some ⟨w.heap.size, 0, none⟩) (split1 c s.data.toList).length (split1 c s.data.toList).length) ∧ Strs w' w.heap.size (split1 c s.data.toList) ∧ Below w.heap.size w w' := by
  obtain ⟨m, hm⟩ := hG.maxlen
  refine (Tryz.strings_Split s ⟨#[c]⟩ m w (by omega) hm (one_le c)).mono fun e w' ⟨h1, h2⟩ => ?_
  have hsp := splitB_one c _ s rfl
  have hlen : Lib.countB s ⟨#[c]⟩ + 1 = (split1 c s.data.toList).length := by
    rw [← hsp, List.length_map, Lib.splitB_all _ (one_le c) 0 _ s rfl]
  rw [hlen] at h1
  subst h2
  refine ⟨h1, ⟨by simp, ?_⟩, (Below.refl _ w).alloc (Nat.le_refl _) _⟩
  intro j p hp
  rw [← hsp, List.getElem?_map] at hp
  cases hq : (Lib.splitB ⟨#[c]⟩ 0 (Lib.countB s ⟨#[c]⟩) s)[j]? with
  | none => rw [hq] at hp; simp at hp
  | some q =>
    rw [hq] at hp
    simp at hp
    subst hp
    rw [strOf_toList]
    have hnew := cells_alloc_new w ((Lib.splitB ⟨#[c]⟩ 0 (Lib.countB s ⟨#[c]⟩) s).map Value.string).toArray 9 j
    rw [hnew]
    simp [hq]
end Go.Proofs.YtmgkmpbblhkacaaGreatDoor
