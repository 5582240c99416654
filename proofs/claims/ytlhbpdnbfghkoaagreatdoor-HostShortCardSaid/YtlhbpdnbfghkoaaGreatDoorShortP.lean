/- HostShort, plain: an address with :: in the place of some noughts. -/
import Derived.Test.YtlhbpdnbfghkoaaGreatDoorEightsP
namespace Go.Proofs.YtlhbpdnbfghkoaaGreatDoor
open Go.RowKit
set_option linter.unusedSimpArgs false
set_option linter.unusedVariables false

theorem join_last (ps : List Bs) (h : Good ps) (hne : ps ≠ []) : ∃ t x, joinB 58 ps = t ++ [x] ∧ x ≠ 58 := by
  induction ps with
  | nil => exact absurd rfl hne
  | cons p r ih =>
    obtain ⟨h1, h2⟩ := h p (by simp)
    cases r with
    | nil =>
      rw [joinB_one]
      refine ⟨p.dropLast, p.getLast h1, (List.dropLast_concat_getLast h1).symm, ?_⟩
      intro hx
      exact h2 (hx ▸ List.getLast_mem h1)
    | cons q r =>
      obtain ⟨t, x, e, hx⟩ := ih (fun x hx => h x (by simp [hx])) (by simp)
      exact ⟨p ++ 58 :: t, x, by rw [joinB_cons, e]; simp, hx⟩
theorem joinB_snoc (c : UInt8) (ps : List Bs) (p : Bs) (h : ps ≠ []) : joinB c (ps ++ [p]) = joinB c ps ++ c :: p := by
  induction ps with
  | nil => exact absurd rfl h
  | cons q r ih =>
    cases r with
    | nil => rw [joinB_one]; show joinB c [q, p] = _; rw [joinB_cons, joinB_one]
    | cons a b =>
      have := ih (by simp)
      rw [List.cons_append, List.cons_append, joinB_cons, joinB_cons, List.append_assoc]
      rw [List.cons_append] at this
      rw [this]
      rfl
theorem take_snoc_map (f : Nat → Bs) (L : List Nat) (i x : Nat) (hx : L[i]? = some x) : (L.take (i + 1)).map f = (L.take i).map f ++ [f x] := by
  rw [List.take_add_one, hx, List.map_append]; rfl
theorem take_ne (L : List Nat) (i x : Nat) (hx : L[i]? = some x) (h0 : i ≠ 0) (f : Nat → Bs) : (L.take i).map f ≠ [] := by
  have hi := (List.getElem?_eq_some_iff.1 hx).1
  intro h2
  rw [List.map_eq_nil_iff, List.take_eq_nil_iff] at h2
  rcases h2 with h2 | h2
  · exact h0 h2
  · rw [h2] at hi; simp at hi
/-- What stands before place i, with :: for the places from f to t. -/
def shB (L : List Nat) (f t i : Nat) : Bs :=
  if i ≤ f then joinB 58 ((L.take i).map hexDigits)
  else joinB 58 ((L.take f).map hexDigits) ++ [58, 58] ++ joinB 58 (((L.drop t).take (i - t)).map hexDigits)
theorem shB_zero (L : List Nat) (f t : Nat) : shB L f t 0 = [] := by
  unfold shB; rw [if_pos (Nat.zero_le _)]; rfl
theorem shB_at (L : List Nat) (f t : Nat) (h : f < t) : shB L f t (f + 1) = shB L f t f ++ [58, 58] := by
  unfold shB
  rw [if_neg (by omega), if_pos (Nat.le_refl _), show f + 1 - t = 0 by omega]
  simp [joinB, List.intercalate]
theorem shB_in (L : List Nat) (f t i : Nat) (h1 : f < i) (h2 : i < t) : shB L f t (i + 1) = shB L f t i := by
  unfold shB
  rw [if_neg (by omega), if_neg (by omega), show i + 1 - t = 0 by omega, show i - t = 0 by omega]
theorem shB_first (L : List Nat) (f t i x : Nat) (hx : L[i]? = some x) (hft : f < t) (h : (i < f ∧ i = 0) ∨ i = t) :
    shB L f t (i + 1) = shB L f t i ++ hexDigits x ∧ (shB L f t i = [] ∨ ∃ u, shB L f t i = u ++ [58]) := by
  unfold shB
  rcases h with ⟨h1, rfl⟩ | rfl
  · rw [if_pos (by omega), if_pos (by omega), take_snoc_map _ _ _ _ hx]
    refine ⟨?_, Or.inl rfl⟩
    show joinB 58 ([] ++ [hexDigits x]) = [] ++ hexDigits x
    rw [List.nil_append, joinB_one, List.nil_append]
  · rw [if_neg (by omega), if_neg (by omega), show i + 1 - i = 0 + 1 by omega, Nat.sub_self, take_snoc_map _ _ 0 x (by rw [List.getElem?_drop]; exact hx)]
    refine ⟨?_, Or.inr ⟨joinB 58 ((L.take f).map hexDigits) ++ [58], by simp [joinB, List.intercalate]⟩⟩
    show _ ++ joinB 58 ([] ++ [hexDigits x]) = (_ ++ []) ++ hexDigits x
    rw [List.nil_append, joinB_one, List.append_nil]
theorem shB_next (L : List Nat) (f t i x : Nat) (hx : L[i]? = some x) (hft : f < t) (h : (i < f ∧ 0 < i) ∨ t < i) :
    shB L f t (i + 1) = shB L f t i ++ 58 :: hexDigits x ∧ ∃ u y, shB L f t i = u ++ [y] ∧ y ≠ 58 := by
  unfold shB
  rcases h with ⟨h1, h2⟩ | h1
  · have hne := take_ne L i x hx (by omega) hexDigits
    rw [if_pos (by omega), if_pos (by omega), take_snoc_map _ _ _ _ hx, joinB_snoc _ _ _ hne]
    exact ⟨rfl, join_last _ (good_hex _) hne⟩
  · have hx' : (L.drop t)[i - t]? = some x := by rw [List.getElem?_drop, show t + (i - t) = i by omega]; exact hx
    have hne := take_ne (L.drop t) (i - t) x hx' (by omega) hexDigits
    rw [if_neg (by omega), if_neg (by omega), show i + 1 - t = i - t + 1 by omega, take_snoc_map _ _ _ _ hx', joinB_snoc _ _ _ hne]
    obtain ⟨u, y, e, hy⟩ := join_last _ (good_hex ((L.drop t).take (i - t))) hne
    exact ⟨by rw [List.append_assoc, List.append_assoc, List.append_assoc], joinB 58 ((L.take f).map hexDigits) ++ [58, 58] ++ u, y, by rw [e]; simp only [List.append_assoc], hy⟩
theorem shB_end (L : List Nat) (f t : Nat) (hl : L.length = 8) (h1 : f < 8) (h2 : t ≤ 8) : shB L f t 8 = joinB 58 ((L.take f).map hexDigits) ++ [58, 58] ++ joinB 58 ((L.drop t).map hexDigits) := by
  unfold shB
  rw [if_neg (by omega), List.take_of_length_le (l := L.drop t) (by rw [List.length_drop]; omega)]
theorem shB_none (L : List Nat) (hl : L.length = 8) : shB L 8 9 8 = joinB 58 (L.map hexDigits) := by
  unfold shB
  rw [if_pos (by omega), List.take_of_length_le (by omega)]
theorem shB_text6 (L : List Nat) (hl : L.length = 8) : (if (rowTo L 8).2 = 0 then shB L 8 9 8 else shB L (rowTo L 8).1 (rowTo L 8).2 8) = text6 L := by
  unfold text6
  split
  · exact shB_none L hl
  · rename_i h0
    rcases rowTo_spec L 8 (by omega) with h | ⟨h1, h2, h3⟩
    · rw [h] at h0; exact absurd rfl h0
    · exact shB_end L _ _ hl (by omega) (by omega)
def zeroed (L : List Nat) (f t : Nat) : List Nat := L.take f ++ List.replicate (t - f) 0 ++ L.drop t
theorem zeroed_len (L : List Nat) (f t : Nat) (hl : L.length = 8) (h1 : f < t) (h2 : t ≤ 8) : (zeroed L f t).length = 8 := by
  simp [zeroed]; omega
theorem zeroed_lt (L : List Nat) (f t : Nat) (hx : ∀ x ∈ L, x < 65536) : ∀ x ∈ zeroed L f t, x < 65536 := by
  intro x h
  simp only [zeroed, List.mem_append, List.mem_replicate] at h
  rcases h with (h | h) | h
  · exact hx x (List.mem_of_mem_take h)
  · omega
  · exact hx x (List.mem_of_mem_drop h)
theorem ip6_short (L : List Nat) (f t : Nat) (hl : L.length = 8) (hx : ∀ x ∈ L, x < 65536) (h1 : f < t) (h2 : t ≤ 8) : ip6 (shB L f t 8) = some (zeroed L f t) := by
  rw [shB_end L f t hl (by omega) h2]
  unfold ip6
  rw [cut_at _ (good_hex _)]
  simp only [Bool.not_true]
  rw [pieces_hex false _ (fun x h => hx x (List.mem_of_mem_take h)), pieces_hex true _ (fun x h => hx x (List.mem_of_mem_drop h))]
  simp only [if_true, List.length_take, List.length_drop]
  rw [if_pos (by omega), show 8 - (min f L.length + (L.length - t)) = t - f by omega]
  rfl
theorem split1_join_tail (c : UInt8) (ps : List Bs) (hne : ps ≠ []) (h : ∀ p ∈ ps, c ∉ p) (t : Bs) : split1 c (joinB c ps ++ c :: t) = ps ++ split1 c t := by
  induction ps with
  | nil => exact absurd rfl hne
  | cons p r ih =>
    cases r with
    | nil => rw [joinB_one, split1_pref _ _ _ (h p (by simp))]; rfl
    | cons q r =>
      rw [joinB_cons, List.append_assoc, List.cons_append, split1_pref _ _ _ (h p (by simp)), ih (by simp) (fun x hx => h x (by simp [hx]))]
      rfl
theorem pcs_open (L : List Nat) (h : ∀ x ∈ L, x < 65536) (r : List Bs) : pcs true (L.map hexDigits ++ [] :: r) = none ∨ r = [] := by
  by_cases hr : r = []
  · exact Or.inr hr
  · refine Or.inl ?_
    induction L with
    | nil =>
      show pcs true ([] :: r) = none
      rw [pcs, if_neg (by intro h; exact hr h.2.1)]
      rfl
    | cons x l ih =>
      show pcs true (hexDigits x :: (l.map hexDigits ++ [] :: r)) = none
      rw [pcs, if_neg (by intro h; simp at h), hex16_hex x (h x (by simp)), ih (fun y hy => h y (by simp [hy]))]
theorem ip6_short_more (L : List Nat) (f t : Nat) (hl : L.length = 8) (hx : ∀ x ∈ L, x < 65536) (h1 : f < t) (h2 : t ≤ 8) : ip6 (shB L f t 8 ++ [58, 58]) = none := by
  rw [shB_end L f t hl (by omega) h2]
  unfold ip6
  rw [List.append_assoc, cut_at _ (good_hex _)]
  simp only [Bool.not_true]
  have hb : piecesP true (joinB 58 ((L.drop t).map hexDigits) ++ [58, 58]) = none := by
    unfold piecesP
    rw [if_neg (by simp)]
    cases hd : L.drop t with
    | nil => rfl
    | cons x r =>
      show pcs true (split1 58 (joinB 58 ((x :: r).map hexDigits) ++ 58 :: [58])) = none
      rw [split1_join_tail 58 _ (by simp) (fun p hp => (good_hex _ p hp).2)]
      rcases pcs_open (x :: r) (fun y hy => hx y (List.mem_of_mem_drop (hd ▸ hy : y ∈ L.drop t))) [[]] with h | h
      · exact h
      · cases h
  rw [hb]
  cases piecesP false (joinB 58 ((L.take f).map hexDigits)) <;> rfl
theorem parse_short (L : List Nat) (f t : Nat) (hl : L.length = 8) (hx : ∀ x ∈ L, x < 65536) (h1 : f < t) (h2 : t ≤ 8) : parseP (91 :: (shB L f t 8 ++ [93])) = some (91 :: (text6 (zeroed L f t) ++ [93])) := by
  unfold parseP
  rw [if_pos (trimPrefix_cons 91 _).1, (trimPrefix_cons 91 _).2, if_pos (hasSuffix_snoc _ 93).1, (hasSuffix_snoc _ 93).2, ip6_short L f t hl hx h1 h2]
end Go.Proofs.YtlhbpdnbfghkoaaGreatDoor
