/- Texts parted at a sign; a map over them: plain. -/
import Derived.Test.YtmgkmpbblhkacaaGreatDoorMgQ
import Derived.Lib.IndexMore
namespace Go.Proofs.YtmgkmpbblhkacaaGreatDoor
set_option linter.unusedSimpArgs false
set_option linter.unusedVariables false

/-- A map that keeps some signs apart. -/
def keeps (f : UInt8 → UInt8) (sep : Bs) : Prop := ∀ d ∈ sep, ∀ c, f c = d ↔ c = d
theorem prefix_map (f : UInt8 → UInt8) (sep : Bs) (hs : keeps f sep) : ∀ l : Bs, sep.isPrefixOf (l.map f) = sep.isPrefixOf l := by
  induction sep with
  | nil => intro l; simp
  | cons d t ih =>
    intro l
    cases l with
    | nil => rfl
    | cons c r =>
      have e : (d == f c) = (d == c) := by
        rw [Bool.eq_iff_iff, beq_iff_eq, beq_iff_eq]
        have := hs d (by simp) c
        exact ⟨fun h => (this.1 h.symm).symm, fun h => (this.2 h.symm).symm⟩
      rw [List.map_cons]
      unfold List.isPrefixOf
      rw [e, ih (fun x hx => hs x (by simp [hx])) r]
theorem idx_map (f : UInt8 → UInt8) (sep : Bs) (hs : keeps f sep) (l : Bs) : Lib.index (l.map f) sep = Lib.index l sep := by
  induction l with
  | nil => rfl
  | cons c r ih =>
    rw [List.map_cons, Lib.index, Lib.index, ← List.map_cons, prefix_map f sep hs, ih]
theorem cut_map (f : UInt8 → UInt8) (sep : Bs) (hs : keeps f sep) (l : Bs) : Lib.cut (l.map f) sep = ((Lib.cut l sep).1.map f, (Lib.cut l sep).2.1.map f, (Lib.cut l sep).2.2) := by
  unfold Lib.cut
  rw [idx_map f sep hs]
  split
  · rw [List.map_take, List.map_drop]
  · rfl
theorem contains_map (f : UInt8 → UInt8) (sep : Bs) (hs : keeps f sep) (l : Bs) : Lib.contains (l.map f) sep = Lib.contains l sep := by
  unfold Lib.contains; rw [idx_map f sep hs]
theorem idxB_map (f : UInt8 → UInt8) (d : UInt8) (hs : ∀ c, f c = d ↔ c = d) (l : Bs) : Lib.indexByte (l.map f) d = Lib.indexByte l d := by
  induction l with
  | nil => rfl
  | cons c r ih =>
    have e : (f c == d) = (c == d) := by rw [Bool.eq_iff_iff, beq_iff_eq, beq_iff_eq]; exact hs c
    rw [List.map_cons, Lib.indexByte, Lib.indexByte, e, ih]
theorem idx_no (c : UInt8) (l : Bs) (t : Bs) (h : c ∉ l) : Lib.index l (c :: t) = -1 := by
  induction l with
  | nil => rfl
  | cons x r ih =>
    rw [List.mem_cons, not_or] at h
    have hp : (c :: t : Bs).isPrefixOf (x :: r) = false := by
      have : (c == x) = false := beq_eq_false_iff_ne.2 h.1
      simp [List.isPrefixOf, this]
    rw [Lib.index, hp, ih h.2]
    rfl
theorem idx_at (a : Bs) (c : UInt8) (t b : Bs) (h : c ∉ a) : Lib.index (a ++ (c :: t ++ b)) (c :: t) = a.length := by
  induction a with
  | nil =>
    rw [List.nil_append, List.cons_append, Lib.index]
    rw [if_pos]
    · rfl
    · rw [← List.cons_append, List.isPrefixOf_iff_prefix]
      exact List.prefix_append _ _
  | cons x r ih =>
    rw [List.mem_cons, not_or] at h
    have hp : (c :: t : Bs).isPrefixOf (x :: (r ++ (c :: t ++ b))) = false := by
      have : (c == x) = false := beq_eq_false_iff_ne.2 h.1
      simp [List.isPrefixOf, this]
    rw [List.cons_append, Lib.index, hp, ih h.2]
    have : ((r.length : Int) == -1) = false := beq_eq_false_iff_ne.2 (by omega)
    simp only [this, Bool.false_eq_true, if_false, List.length_cons]
    omega
theorem cut_no (c : UInt8) (l t : Bs) (h : c ∉ l) : Lib.cut l (c :: t) = (l, [], false) := by
  unfold Lib.cut
  rw [idx_no c l t h, if_neg (by decide)]
theorem cut_at' (a : Bs) (c : UInt8) (t b : Bs) (h : c ∉ a) : Lib.cut (a ++ (c :: t ++ b)) (c :: t) = (a, b, true) := by
  unfold Lib.cut
  rw [idx_at a c t b h, if_pos (by omega)]
  simp only [Int.toNat_natCast, List.take_left']
  rw [← List.drop_drop, List.drop_left, List.drop_left]
theorem cut_one (a : Bs) (c : UInt8) (b : Bs) (h : c ∉ a) : Lib.cut (a ++ c :: b) [c] = (a, b, true) := cut_at' a c [] b h
/-- A text without a byte, or parted at the first. -/
theorem split_first (c : UInt8) (l : Bs) : c ∉ l ∨ ∃ a b, l = a ++ c :: b ∧ c ∉ a := by
  induction l with
  | nil => exact Or.inl (by simp)
  | cons x r ih =>
    by_cases hx : x = c
    · exact Or.inr ⟨[], r, by rw [hx]; rfl, by simp⟩
    · rcases ih with h | ⟨a, b, h1, h2⟩
      · exact Or.inl (by rw [List.mem_cons, not_or]; exact ⟨fun h => hx h.symm, h⟩)
      · exact Or.inr ⟨x :: a, b, by rw [h1]; rfl, by rw [List.mem_cons, not_or]; exact ⟨fun h => hx h.symm, h2⟩⟩
theorem idxB_no (c : UInt8) (l : Bs) (h : c ∉ l) : Lib.indexByte l c = -1 := by
  induction l with
  | nil => rfl
  | cons x r ih =>
    rw [List.mem_cons, not_or] at h
    have : (x == c) = false := beq_eq_false_iff_ne.2 (fun h2 => h.1 h2.symm)
    rw [Lib.indexByte, this, ih h.2]
    rfl
theorem idxB_at (a : Bs) (c : UInt8) (b : Bs) (h : c ∉ a) : Lib.indexByte (a ++ c :: b) c = a.length := by
  induction a with
  | nil => rw [List.nil_append, Lib.indexByte]; simp
  | cons x r ih =>
    rw [List.mem_cons, not_or] at h
    have : (x == c) = false := beq_eq_false_iff_ne.2 (fun h2 => h.1 h2.symm)
    rw [List.cons_append, Lib.indexByte, this, ih h.2]
    have : ((r.length : Int) == -1) = false := beq_eq_false_iff_ne.2 (by omega)
    simp only [this, Bool.false_eq_true, if_false, List.length_cons]
    omega
theorem idx_prefix (c : UInt8) (t : Bs) (l : Bs) : 0 ≤ Lib.index l (c :: t) → ∃ a b, l = a ++ (c :: t ++ b) ∧ Lib.index l (c :: t) = a.length := by
  induction l with
  | nil => intro h; exact absurd h (by show ¬ (0 : Int) ≤ -1; decide)
  | cons x r ih =>
    intro h
    rw [Lib.index] at h ⊢
    by_cases hp : (c :: t : Bs).isPrefixOf (x :: r) = true
    · rw [if_pos hp]
      obtain ⟨b, hb⟩ := List.isPrefixOf_iff_prefix.1 hp
      exact ⟨[], b, hb.symm, rfl⟩
    · rw [if_neg hp] at h ⊢
      by_cases hi : Lib.index r (c :: t) = -1
      · rw [hi] at h
        exact absurd h (by decide)
      · have hb : (Lib.index r (c :: t) == -1) = false := beq_eq_false_iff_ne.2 hi
        rw [hb] at h ⊢
        simp only [Bool.false_eq_true, if_false] at h ⊢
        have hge := Lib.index_ge r (c :: t)
        obtain ⟨a, b, h1, h2⟩ := ih (by omega)
        exact ⟨x :: a, b, by rw [h1]; rfl, by rw [h2]; simp⟩
theorem cut_form (l : Bs) (c : UInt8) (t : Bs) (h : (Lib.cut l (c :: t)).2.2 = true) : ∃ a b, l = a ++ (c :: t ++ b) ∧ Lib.cut l (c :: t) = (a, b, true) := by
  by_cases hi : 0 ≤ Lib.index l (c :: t)
  · obtain ⟨a, b, h1, h2⟩ := idx_prefix c t l hi
    refine ⟨a, b, h1, ?_⟩
    unfold Lib.cut
    rw [if_pos hi, h2, Int.toNat_natCast, h1, List.take_left, ← List.drop_drop, List.drop_left, List.drop_left]
  · unfold Lib.cut at h
    rw [if_neg hi] at h
    cases h
theorem contains_one (l : Bs) (c : UInt8) : Lib.contains l [c] = true ↔ c ∈ l := by
  unfold Lib.contains
  rw [decide_eq_true_iff]
  rcases split_first c l with h | ⟨a, b, rfl, h⟩
  · rw [idx_no c l [] h]
    exact ⟨fun h => absurd h (by decide), fun h2 => absurd h2 h⟩
  · have := idx_at a c [] b h
    rw [show a ++ ([c] ++ b) = a ++ c :: b from rfl] at this
    rw [this]
    exact ⟨fun _ => by simp, fun _ => by omega⟩
end Go.Proofs.YtmgkmpbblhkacaaGreatDoor
