/- Names of labels that begin with a letter are domains: no program in sight. -/
import Derived.Test.YtmgkmpbblhkacaaGreatDoorMgO
namespace Go.Proofs.YtmgkmpbblhkacaaGreatDoor
set_option linter.unusedSimpArgs false
set_option linter.unusedVariables false

/-- A small letter. -/
def isLow (c : UInt8) : Bool := decide (97 ≤ c.toNat ∧ c.toNat ≤ 122)
/-- The letters of a text, as labels. -/
def labG : Bs → Bs
  | [] => []
  | c :: r => if isLow c = true then c :: labG r else if c = 46 then 46 :: 120 :: labG r else labG r
def labL (s : Bs) : Bs := 120 :: labG (s.take 30)
/-- Each part begins with a small letter. -/
def lowHead (l : Bs) : Bool := match l with | [] => false | c :: _ => isLow c
def goodN (l : Bs) : Bool := (split1 46 l).all lowHead
theorem goodN_ne (l : Bs) (h : goodN l = true) : l ≠ [] := by
  rintro rfl
  exact absurd h (by decide)
theorem split1_cons_ne (c x : UInt8) (r : Bs) (h : x ≠ c) : split1 c (x :: r) = (x :: (split1 c r).headD []) :: (split1 c r).tail := by
  conv => lhs; unfold split1
  rw [if_neg h]
  cases hs : split1 c r with
  | nil => exact absurd hs (split1_ne c r)
  | cons a t => rfl
theorem split1_cons_eq (c : UInt8) (r : Bs) : split1 c (c :: r) = [] :: split1 c r := by
  conv => lhs; unfold split1
  rw [if_pos rfl]
theorem last_low (l : Bs) (h : goodN l = true) : lowHead ((split1 46 l).getLastD []) = true := by
  unfold goodN at h
  rw [List.all_eq_true] at h
  refine h _ ?_
  rw [List.getLastD_eq_getLast?]
  cases hs : split1 46 l with
  | nil => exact absurd hs (split1_ne 46 l)
  | cons a t =>
    rw [List.getLast?_eq_some_getLast (by simp)]
    exact List.getLast_mem _
theorem num_low (l : Bs) (h : lowHead l = true) : numP l = none ∧ l ≠ [] ∧ onlyB l decimal = false := by
  cases l with
  | nil => cases h
  | cons c r =>
    have hc : 97 ≤ c.toNat ∧ c.toNat ≤ 122 := of_decide_eq_true h
    have h48 : c ≠ 48 := by rintro rfl; exact absurd hc (by decide)
    have hd : decimal.contains c = false := by
      rw [Bool.eq_false_iff]
      intro hm
      have hm := List.contains_iff_mem.1 hm
      have : ∀ x ∈ decimal, ¬ (97 ≤ x.toNat ∧ x.toNat ≤ 122) := by decide
      exact this c hm hc
    have ho : onlyB (c :: r) decimal = false := by unfold onlyB; rw [List.all_cons, hd]; rfl
    refine ⟨?_, by simp, ho⟩
    unfold numP
    have hp : ([48, 120].isPrefixOf (c :: r) || [48, 88].isPrefixOf (c :: r)) = false := by
      simp [List.isPrefixOf, Ne.symm h48]
    rw [if_neg (by simp), hp, if_neg (by simp), if_neg (by rintro ⟨_, h⟩; exact h48 h)]
    unfold numB
    rw [ho]; rfl
theorem dom_low (l : Bs) (h : goodN l = true) (hb : l.headD 0 ≠ 91) : domP l = true := by
  have hl := last_low l h
  obtain ⟨h1, h2, h3⟩ := num_low _ hl
  have hp : ip4parts l = split1 46 l := by
    unfold ip4parts
    simp only
    rw [if_neg (by rintro ⟨_, h⟩; exact h2 h)]
  have hi : (ip4 l).2.1 = false := by
    unfold ip4
    simp only [hp]
    rw [if_pos ⟨by rw [h1]; rfl, Or.inr h3⟩]
  unfold domP
  rw [hi]
  cases l with
  | nil => rfl
  | cons c r =>
    have : c ≠ 91 := hb
    simp [List.isPrefixOf, Ne.symm this]
theorem labG_good : ∀ (s : Bs) (x : UInt8), isLow x = true → x ≠ 46 → goodN (x :: labG s) = true
  | [], x, hx, hn => by
    show goodN [x] = true
    unfold goodN
    rw [split1_cons_ne 46 x [] hn]
    simp [split1, lowHead, hx]
  | c :: r, x, hx, hn => by
    unfold labG
    by_cases h1 : isLow c = true
    · rw [if_pos h1]
      have hc : c ≠ 46 := by rintro rfl; exact absurd h1 (by decide)
      have ih := labG_good r c h1 hc
      unfold goodN at ih ⊢
      rw [split1_cons_ne 46 x _ hn]
      rw [split1_cons_ne 46 c _ hc] at ih ⊢
      simp only [List.all_cons, Bool.and_eq_true, List.headD_cons, List.tail_cons] at ih ⊢
      exact ⟨hx, ih.2⟩
    · rw [if_neg h1]
      by_cases h2 : c = 46
      · rw [if_pos h2]
        have ih := labG_good r 120 (by decide) (by decide)
        unfold goodN at ih ⊢
        rw [split1_cons_ne 46 x _ hn, split1_cons_eq]
        simp only [List.all_cons, Bool.and_eq_true, List.headD_cons, List.tail_cons]
        exact ⟨hx, ih⟩
      · rw [if_neg h2]
        exact labG_good r x hx hn
theorem labL_good (s : Bs) : goodN (labL s) = true := labG_good (s.take 30) 120 (by decide) (by decide)
theorem split1_app (c : UInt8) : ∀ (a b : Bs), split1 c (a ++ c :: b) = split1 c a ++ split1 c b
  | [], b => by rw [List.nil_append, split1_cons_eq]; rfl
  | x :: a, b => by
    have ih := split1_app c a b
    by_cases h : x = c
    · subst h
      rw [List.cons_append, split1_cons_eq, split1_cons_eq, ih]; rfl
    · rw [List.cons_append, split1_cons_ne c x _ h, split1_cons_ne c x a h, ih]
      cases hs : split1 c a with
      | nil => exact absurd hs (split1_ne c a)
      | cons y t => rfl
theorem good_app (a b : Bs) (ha : goodN a = true) (hb : goodN b = true) : goodN (a ++ 46 :: b) = true := by
  unfold goodN at *
  rw [split1_app, List.all_append, ha, hb]; rfl
end Go.Proofs.YtmgkmpbblhkacaaGreatDoor
