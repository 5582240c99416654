/- HostNames, plain: a name is its letters in lower case, decoded. -/
import Derived.Test.YtlhbpdnbfghkoaaGreatDoorOnceP
namespace Go.Proofs.YtlhbpdnbfghkoaaGreatDoor
open Go.RowKit
set_option linter.unusedSimpArgs false
set_option linter.unusedVariables false

/-- The bytes that are kept. -/
def okn (c : UInt8) : Bool := (decide (97 ≤ c.toNat) && decide (c.toNat ≤ 122)) || (decide (48 ≤ c.toNat) && decide (c.toNat ≤ 57)) || decide (c = 45) || decide (c = 46)
theorem okn_facts (c : UInt8) (h : okn c = true) : lowB c = c ∧ forbB c = false ∧ c ≠ 37 ∧ c ≠ 91 := by
  have : ∀ k : Fin 256, okn (UInt8.ofNat k.val) = true → lowB (UInt8.ofNat k.val) = UInt8.ofNat k.val ∧ forbB (UInt8.ofNat k.val) = false ∧ UInt8.ofNat k.val ≠ 37 ∧ UInt8.ofNat k.val ≠ 91 := by decide +kernel
  have h2 := this ⟨c.toNat, c.toNat_lt⟩
  simp only [UInt8.ofNat_toNat] at h2
  exact h2 h
theorem okn_upper (c : UInt8) (h1 : 97 ≤ c.toNat) (h2 : c.toNat ≤ 122) : lowB (c - 32) = c ∧ forbB (c - 32) = false ∧ c - 32 ≠ 37 ∧ c - 32 ≠ 91 ∧ ((c - 32).toNat : Int) = (c.toNat : Int) - 32 := by
  have : ∀ k : Fin 256, 97 ≤ (UInt8.ofNat k.val).toNat → (UInt8.ofNat k.val).toNat ≤ 122 → lowB (UInt8.ofNat k.val - 32) = UInt8.ofNat k.val ∧ forbB (UInt8.ofNat k.val - 32) = false ∧ UInt8.ofNat k.val - 32 ≠ 37 ∧ UInt8.ofNat k.val - 32 ≠ 91 ∧ ((UInt8.ofNat k.val - 32).toNat : Int) = ((UInt8.ofNat k.val).toNat : Int) - 32 := by decide +kernel
  have h3 := this ⟨c.toNat, c.toNat_lt⟩
  simp only [UInt8.ofNat_toNat] at h3
  exact h3 h1 h2
theorem valB_hexdN (k : Nat) (h : k < 16) : valB (hexd k) = k := by
  have : ∀ k : Fin 16, valB (hexd k.val) = (k.val : Int) := by decide
  exact this ⟨k, h⟩
theorem hexd_91 (k : Nat) (h : k < 16) : hexd k ≠ 91 := by
  have : ∀ k : Fin 16, hexd k.val ≠ 91 := by decide
  exact this ⟨k, h⟩
/-- What stands for a row of kept bytes: it decodes, and its letters made lower case are they. -/
def Tells (T W : Bs) : Prop := ∃ D : Bs, (∀ r, pdec (T ++ r) = D ++ pdec r) ∧ D.map lowB = W ∧ (∀ c ∈ D, forbB c = false) ∧ (∀ c ∈ T, c ≠ 91) ∧ ∀ c ∈ W, okn c = true
theorem tells_nil : Tells [] [] := ⟨[], fun r => rfl, rfl, by simp, by simp, by simp⟩
theorem tells_plain (T W : Bs) (c : UInt8) (h : Tells T W) (hc : okn c = true) : Tells (T ++ [c]) (W ++ [c]) := by
  obtain ⟨D, h1, h2, h3, h4, h5⟩ := h
  obtain ⟨f1, f2, f3, f4⟩ := okn_facts c hc
  refine ⟨D ++ [c], fun r => ?_, by rw [List.map_append, h2]; show W ++ [lowB c] = _; rw [f1], ?_, ?_, ?_⟩
  · rw [List.append_assoc, h1, List.cons_append, List.nil_append, pdec_step _ _ (fun h => f3 h.1), List.append_assoc]; rfl
  · intro x hx; rcases List.mem_append.1 hx with hx | hx
    · exact h3 x hx
    · simp at hx; subst hx; exact f2
  · intro x hx; rcases List.mem_append.1 hx with hx | hx
    · exact h4 x hx
    · simp at hx; subst hx; exact f4
  · intro x hx; rcases List.mem_append.1 hx with hx | hx
    · exact h5 x hx
    · simp at hx; subst hx; exact hc
theorem tells_upper (T W : Bs) (c : UInt8) (h : Tells T W) (ha : 97 ≤ c.toNat) (hb : c.toNat ≤ 122) : Tells (T ++ [c - 32]) (W ++ [c]) := by
  obtain ⟨D, h1, h2, h3, h4, h5⟩ := h
  obtain ⟨f1, f2, f3, f4, _⟩ := okn_upper c ha hb
  refine ⟨D ++ [c - 32], fun r => ?_, by rw [List.map_append, h2]; show W ++ [lowB (c - 32)] = _; rw [f1], ?_, ?_, ?_⟩
  · rw [List.append_assoc, h1, List.cons_append, List.nil_append, pdec_step _ _ (fun h => f3 h.1), List.append_assoc]; rfl
  · intro x hx; rcases List.mem_append.1 hx with hx | hx
    · exact h3 x hx
    · simp at hx; subst hx; exact f2
  · intro x hx; rcases List.mem_append.1 hx with hx | hx
    · exact h4 x hx
    · simp at hx; subst hx; exact f4
  · intro x hx; rcases List.mem_append.1 hx with hx | hx
    · exact h5 x hx
    · simp at hx; subst hx
      simp [okn, ha, hb]
theorem tells_coded (T W : Bs) (c : UInt8) (h : Tells T W) (hc : okn c = true) : Tells (T ++ 37 :: hexd (c.toNat / 16) :: [hexd (c.toNat % 16)]) (W ++ [c]) := by
  obtain ⟨D, h1, h2, h3, h4, h5⟩ := h
  obtain ⟨f1, f2, f3, f4⟩ := okn_facts c hc
  have hlt := c.toNat_lt
  refine ⟨D ++ [c], fun r => ?_, by rw [List.map_append, h2]; show W ++ [lowB c] = _; rw [f1], ?_, ?_, ?_⟩
  · rw [List.append_assoc, h1]
    show D ++ pdec (37 :: hexd (c.toNat / 16) :: hexd (c.toNat % 16) :: r) = _
    rw [pdec_hit _ _ _ (by rw [valB_hexdN _ (by omega)]; omega) (by rw [valB_hexdN _ (by omega)]; omega), valB_hexdN _ (by omega), valB_hexdN _ (by omega)]
    have e : ((c.toNat / 16 : Nat) : Int).toNat * 16 + ((c.toNat % 16 : Nat) : Int).toNat = c.toNat := by simp only [Int.toNat_natCast]; omega
    rw [e, UInt8.ofNat_toNat, List.append_assoc]; rfl
  · intro x hx; rcases List.mem_append.1 hx with hx | hx
    · exact h3 x hx
    · simp at hx; subst hx; exact f2
  · intro x hx; rcases List.mem_append.1 hx with hx | hx
    · exact h4 x hx
    · simp only [List.mem_cons, List.not_mem_nil, or_false] at hx
      rcases hx with rfl | rfl | rfl
      · decide
      · exact hexd_91 _ (by omega)
      · exact hexd_91 _ (by omega)
  · intro x hx; rcases List.mem_append.1 hx with hx | hx
    · exact h5 x hx
    · simp at hx; subst hx; exact hc
theorem split1_tail (c x : UInt8) (hx : x ≠ c) (l : Bs) : ∃ u, (split1 c (l ++ [x])).getLastD [] = u ++ [x] := by
  induction l with
  | nil =>
    refine ⟨[], ?_⟩
    rw [List.nil_append, split1_only c [x] (by simpa using fun h => hx h.symm)]
    rfl
  | cons y r ih =>
    obtain ⟨u, hu⟩ := ih
    rw [List.cons_append, split1]
    have hne := split1_ne c (r ++ [x])
    split
    · refine ⟨u, ?_⟩
      cases h : split1 c (r ++ [x]) with
      | nil => exact absurd h hne
      | cons a b => rw [h] at hu; rw [← hu]; simp [List.getLastD]
    · cases h : split1 c (r ++ [x]) with
      | nil => exact absurd h hne
      | cons a b =>
        rw [h] at hu
        cases b with
        | nil =>
          refine ⟨y :: u, ?_⟩
          simp [List.getLastD] at hu ⊢
          exact hu
        | cons d e =>
          refine ⟨u, ?_⟩
          simp [List.getLastD] at hu ⊢
          exact hu
theorem only_no (l set : Bs) (c : UInt8) (h : c ∈ l) (hs : set.contains c = false) : onlyB l set = false := by
  unfold onlyB
  rw [List.all_eq_false]
  exact ⟨c, h, by rw [hs]; simp⟩
theorem numP_z (u : Bs) : numP (u ++ [122]) = none := by
  unfold numP
  rw [if_neg (by simp)]
  split
  · rename_i h
    have hm : (122 : UInt8) ∈ (u ++ [122]).drop 2 := by
      match u, h with
      | [], h => simp [List.isPrefixOf] at h
      | [a], h => simp [List.isPrefixOf] at h
      | a :: b :: r, _ => simp
    unfold numB
    rw [if_neg]
    rw [only_no _ _ 122 hm (by decide)]
    simp
  · split
    · rename_i h
      have hm : (122 : UInt8) ∈ (u ++ [122]).drop 1 := by
        match u, h with
        | [], h => simp at h
        | a :: r, _ => simp
      unfold numB
      rw [if_neg]
      rw [only_no _ _ 122 hm (by decide)]
      simp
    · unfold numB
      rw [if_neg]
      rw [only_no _ _ 122 (by simp) (by decide)]
      simp
theorem ip4_z (l : Bs) : ip4 (l ++ [122]) = (0, false, 0) := by
  obtain ⟨u, hu⟩ := split1_tail 46 122 (by decide) l
  have hp : ip4parts (l ++ [122]) = split1 46 (l ++ [122]) := by
    unfold ip4parts
    simp only
    rw [if_neg]
    rintro ⟨_, h⟩
    rw [hu] at h
    simp at h
  unfold ip4
  simp only
  rw [hp, hu, numP_z, if_pos]
  exact ⟨rfl, Or.inr (only_no _ _ 122 (by simp) (by decide))⟩
theorem tells_parse (T W : Bs) (h : Tells T W) : parseP (T ++ [90]) = some (W ++ [122]) := by
  obtain ⟨D, h1, h2, h3, h4, h5⟩ := h
  have hd : pdec (T ++ [90]) = D ++ [90] := by rw [h1]; rfl
  have hm : (D ++ [90]).map lowB = W ++ [122] := by rw [List.map_append, h2]; rfl
  unfold parseP
  rw [if_neg (head_no _ (fun c hc => by rcases List.mem_append.1 hc with hc | hc; exact h4 c hc; simp at hc; subst hc; decide)), hd]
  have h5' : ip4 (W ++ [122]) = (0, false, 0) := ip4_z W
  simp only [hm, h5']
  rw [if_neg (by simp), if_neg]
  · rfl
  · intro h
    rw [List.any_eq_true] at h
    obtain ⟨x, hx, hf⟩ := h
    rcases List.mem_append.1 hx with hx | hx
    · rw [h3 x hx] at hf; cases hf
    · simp at hx; subst hx; revert hf; decide
theorem tells_dom (T W : Bs) (h : Tells T W) : domP (W ++ [122]) = true := by
  obtain ⟨D, h1, h2, h3, h4, h5⟩ := h
  unfold domP
  rw [ip4_z]
  have : ¬ ([91] : Bs).isPrefixOf (W ++ [122]) = true := head_no _ (fun c hc => by rcases List.mem_append.1 hc with hc | hc; exact (okn_facts c (h5 c hc)).2.2.2; simp at hc; subst hc; decide)
  rw [Bool.not_eq_true] at this
  rw [this]
  rfl
theorem tells_dec (T W : Bs) (h : Tells T W) : pdec T ≠ [37] := by
  obtain ⟨D, h1, h2, h3, h4, h5⟩ := h
  have := h1 []
  rw [List.append_nil] at this
  rw [this]
  intro hh
  have hp : pdec [] = [] := rfl
  rw [hp, List.append_nil] at hh
  have := h3 37 (by rw [hh]; simp)
  revert this; decide
end Go.Proofs.YtlhbpdnbfghkoaaGreatDoor
