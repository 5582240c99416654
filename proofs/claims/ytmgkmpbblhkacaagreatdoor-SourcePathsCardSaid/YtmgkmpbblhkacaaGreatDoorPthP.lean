/- Paths of letters and /: no program in sight. -/
import Derived.Test.YtmgkmpbblhkacaaGreatDoorLabP
namespace Go.Proofs.YtmgkmpbblhkacaaGreatDoor
set_option linter.unusedSimpArgs false
set_option linter.unusedVariables false

/-- A small letter, or a /. -/
def isPth (c : UInt8) : Bool := (c == 47) || isLow c
theorem pdec_same : ∀ (l : Bs), (∀ c ∈ l, c ≠ 37) → pdec l = l
  | [], _ => by rw [pdec_short [] (by simp)]
  | c :: r, h => by
    rw [pdec_step c r (by rintro ⟨e, _⟩; exact h c (by simp) e), pdec_same r (fun x hx => h x (by simp [hx]))]
theorem split1_mem_sub (c : UInt8) : ∀ (l : Bs), ∀ p ∈ split1 c l, ∀ x ∈ p, x ∈ l
  | [], p, hp, x, hx => by simp [split1] at hp; subst hp; simp at hx
  | a :: r, p, hp, x, hx => by
    by_cases h : a = c
    · subst h
      rw [split1_cons_eq] at hp
      rcases List.mem_cons.1 hp with rfl | hp
      · simp at hx
      · exact List.mem_cons_of_mem _ (split1_mem_sub a r p hp x hx)
    · rw [split1_cons_ne c a r h] at hp
      rcases List.mem_cons.1 hp with rfl | hp
      · rcases List.mem_cons.1 hx with rfl | hx
        · simp
        · refine List.mem_cons_of_mem _ (split1_mem_sub c r _ ?_ x hx)
          cases hs : split1 c r with
          | nil => exact absurd hs (split1_ne c r)
          | cons y t => simp
      · refine List.mem_cons_of_mem _ (split1_mem_sub c r p ?_ x hx)
        exact List.mem_of_mem_tail hp
/-- Equal pieces, where nothing is encoded. -/
theorem eqP_plain : ∀ (x y : List Bs), (∀ p ∈ x, ∀ c ∈ p, c ≠ 37) → (∀ p ∈ y, ∀ c ∈ p, c ≠ 37) → eqP x y = decide (x = y)
  | [], [], _, _ => rfl
  | [], _ :: _, _, _ => by simp [eqP]
  | _ :: _, [], _, _ => by simp [eqP]
  | a :: x, b :: y, hx, hy => by
    rw [eqP, pdec_same a (hx a (by simp)), pdec_same b (hy b (by simp)), eqP_plain x y (fun p hp => hx p (by simp [hp])) (fun p hp => hy p (by simp [hp]))]
    by_cases h1 : a = b
    · subst h1
      by_cases h2 : x = y
      · subst h2; simp
      · simp [h2]
    · simp [h1]
/-- Joined again. -/
def join1 (c : UInt8) : List Bs → Bs
  | [] => []
  | [a] => a
  | a :: b :: r => a ++ c :: join1 c (b :: r)
theorem join_split (c : UInt8) : ∀ l : Bs, join1 c (split1 c l) = l
  | [] => rfl
  | x :: r => by
    have ih := join_split c r
    by_cases h : x = c
    · subst h
      rw [split1_cons_eq]
      cases hs : split1 x r with
      | nil => exact absurd hs (split1_ne x r)
      | cons y t =>
        rw [hs] at ih
        show [] ++ x :: join1 x (y :: t) = _
        rw [ih]; rfl
    · rw [split1_cons_ne c x r h]
      cases hs : split1 c r with
      | nil => exact absurd hs (split1_ne c r)
      | cons y t =>
        rw [hs] at ih
        cases t with
        | nil => show x :: y = x :: r; rw [← ih]; rfl
        | cons z u => show (x :: y) ++ c :: join1 c (z :: u) = x :: r; rw [← ih]; rfl
theorem split1_inj (c : UInt8) (a b : Bs) (h : split1 c a = split1 c b) : a = b := by
  rw [← join_split c a, ← join_split c b, h]
theorem split1_snoc (c : UInt8) (a : Bs) : split1 c (a ++ [c]) = split1 c a ++ [[]] := by
  rw [split1_app c a []]; rfl
theorem split1_last (c : UInt8) : ∀ (l : Bs), (split1 c l).getLastD [] = [] → l = [] ∨ l.getLast? = some c
  | [], _ => Or.inl rfl
  | x :: r, h => by
    refine Or.inr ?_
    by_cases hx : x = c
    · subst hx
      rw [split1_cons_eq] at h
      cases hs : split1 x r with
      | nil => exact absurd hs (split1_ne x r)
      | cons y t =>
        rw [hs, List.getLastD_cons] at h
        have h' : (split1 x r).getLastD [] = [] := by rw [hs]; simpa using h
        rcases split1_last x r h' with rfl | hr
        · rfl
        · rw [List.getLast?_cons, hr]; rfl
    · rw [split1_cons_ne c x r hx] at h
      cases hs : split1 c r with
      | nil => exact absurd hs (split1_ne c r)
      | cons y t =>
        rw [hs] at h
        cases t with
        | nil => simp at h
        | cons z u =>
          have h' : (split1 c r).getLastD [] = [] := by
            rw [hs]
            simpa using h
          rcases split1_last c r h' with rfl | hr
          · simp [split1] at hs
          · rw [List.getLast?_cons, hr]; rfl
theorem snoc_last (l : Bs) (c : UInt8) (h : l.getLast? = some c) : l.dropLast ++ [c] = l := by
  have hne : l ≠ [] := by rintro rfl; cases h
  rw [List.getLast?_eq_some_getLast hne] at h
  have e := Option.some.inj h
  rw [← e]
  exact List.dropLast_concat_getLast hne
/-- What the law says of a path p and more behind it. -/
theorem path_law (p q : Bs) (hp : p ≠ []) (h1 : ∀ c ∈ p, c ≠ 37) (h2 : ∀ c ∈ q, c ≠ 37) : pathM p (p ++ q) false = (decide (q = []) || decide (p.getLast? = some 47)) := by
  have hs1 : ∀ x ∈ split1 47 p, ∀ c ∈ x, c ≠ 37 := fun x hx c hc => h1 c (split1_mem_sub 47 p x hx c hc)
  have hs2 : ∀ x ∈ split1 47 (p ++ q), ∀ c ∈ x, c ≠ 37 := fun x hx c hc => by
    rcases List.mem_append.1 (split1_mem_sub 47 _ x hx c hc) with h | h
    · exact h1 c h
    · exact h2 c h
  unfold pathM
  rw [if_neg (by rintro (h | h); exact hp h; cases h)]
  by_cases hl : (split1 47 p).getLastD [] = []
  · rw [if_pos hl]
    have h47 : p.getLast? = some 47 := by
      rcases split1_last 47 p hl with h | h
      · exact absurd h hp
      · exact h
    obtain ⟨a, rfl⟩ : ∃ a, p = a ++ [47] := by
      refine ⟨p.dropLast, ?_⟩
      exact (snoc_last p 47 h47).symm
    rw [show (a ++ [47]) ++ q = a ++ 47 :: q by simp, split1_app, split1_snoc]
    have hlen : ¬ ((split1 47 a ++ split1 47 q).length < (split1 47 a ++ [[]]).length) := by
      have := split1_pos 47 q
      rw [List.length_append, List.length_append]
      simp only [List.length_cons, List.length_nil]
      omega
    rw [if_neg hlen]
    have e1 : (split1 47 a ++ [[]]).take ((split1 47 a ++ [[]]).length - 1) = split1 47 a := by simp
    have e2 : (split1 47 a ++ split1 47 q).take ((split1 47 a ++ [[]]).length - 1) = split1 47 a := by simp
    rw [e1, e2, eqP_plain _ _ (fun x hx c hc => hs1 x (by rw [split1_snoc]; simp [hx]) c hc) (fun x hx c hc => hs1 x (by rw [split1_snoc]; simp [hx]) c hc)]
    simp
  · rw [if_neg hl, eqP_plain _ _ hs1 hs2]
    have h47 : p.getLast? ≠ some 47 := by
      intro h
      apply hl
      have := snoc_last p 47 h
      rw [← this, split1_snoc]
      simp
    rw [decide_eq_false h47, Bool.or_false]
    by_cases hq : q = []
    · subst hq
      simp
    · rw [decide_eq_false hq]
      refine decide_eq_false (fun h => hq ?_)
      have := split1_inj 47 _ _ h
      have := congrArg List.length this
      simpa using this
end Go.Proofs.YtmgkmpbblhkacaaGreatDoor
