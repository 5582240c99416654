/- What a source of a host says of names of labels: no program in sight. -/
import Derived.Test.YtmgkmpbblhkacaaGreatDoorLabP
import Derived.Test.YtmgkmpbblhkacaaGreatDoorMgR
namespace Go.Proofs.YtmgkmpbblhkacaaGreatDoor
set_option linter.unusedSimpArgs false
set_option linter.unusedVariables false

theorem star_no (n : Bs) : nameM (42 :: 46 :: n) n = false := by
  unfold nameM
  have hp : ([42, 46] : Bs).isPrefixOf (42 :: 46 :: n) = true := by simp [List.isPrefixOf]
  rw [if_pos hp]
  have : ¬ ((42 :: 46 :: n).length - 1 < n.length) := by simp
  rw [decide_eq_false this, Bool.and_false, Bool.and_false]
theorem suffix_app (a n : Bs) : Lib.hasSuffix (a ++ n) n = true := by
  unfold Lib.hasSuffix
  simp
theorem star_yes (a n : Bs) (ha : a ≠ []) (hd : domP (a ++ 46 :: n) = true) : nameM (42 :: 46 :: n) (a ++ 46 :: n) = true := by
  unfold nameM
  have hp : ([42, 46] : Bs).isPrefixOf (42 :: 46 :: n) = true := by simp [List.isPrefixOf]
  have hl := List.length_pos_iff.2 ha
  have : ((42 :: 46 :: n).length - 1 < (a ++ 46 :: n).length) := by simp; omega
  rw [if_pos hp, hd, decide_eq_true this, show (42 :: 46 :: n : Bs).drop 1 = 46 :: n from rfl, suffix_app]; rfl
theorem no_star (n : Bs) (h : n.headD 0 ≠ 42) : ([42, 46] : Bs).isPrefixOf n = false := by
  cases n with
  | nil => rfl
  | cons c r =>
    have : c ≠ 42 := h
    simp [List.isPrefixOf, Ne.symm this]
theorem own_yes (n : Bs) (hd : domP n = true) (h : n.headD 0 ≠ 42) : nameM n n = true := by
  unfold nameM
  rw [hd, no_star n h]
  simp
theorem own_no (a n : Bs) (h : n.headD 0 ≠ 42) : nameM n (a ++ 46 :: n) = false := by
  unfold nameM
  have h1 : (n == [42]) = false := by
    rw [beq_eq_false_iff_ne]
    rintro rfl
    exact h rfl
  have h2 : (n == a ++ 46 :: n) = false := by
    rw [beq_eq_false_iff_ne]
    intro e
    have := congrArg List.length e
    simp at this
    omega
  rw [no_star n h, if_neg (by simp), h1, h2]
  simp
theorem any_yes (l : Bs) (hd : domP l = true) : nameM [42] l = true := by
  unfold nameM
  rw [hd, show ([42, 46] : Bs).isPrefixOf [42] = false by decide]
  simp
theorem host_http (xh ha : Bs) (h : ha ≠ []) : hostM [] xh [] (-1) sHttp ha [47] sHttp (-1) false = nameM xh ha := by
  unfold hostM
  rw [if_pos rfl, beq_eq_false_iff_ne.2 h, show togetherP sHttp sHttp = true by decide, show portM (-1) (-1) sHttp = true by decide, show pathM [] [47] false = true by decide]
  simp
theorem labL_head (s : Bs) : (labL s).headD 0 = 120 := rfl
theorem labL_dom (s : Bs) : domP (labL s) = true := dom_low _ (labL_good s) (by rw [labL_head]; decide)
theorem long_dom (a b : Bs) : domP (labL b ++ 46 :: labL a) = true := dom_low _ (good_app _ _ (labL_good b) (labL_good a)) (by show (120 : UInt8) ≠ 91; decide)
theorem labG_len : ∀ s : Bs, (labG s).length ≤ 2 * s.length
  | [] => by simp [labG]
  | c :: r => by
    have ih := labG_len r
    unfold labG
    split
    · simp; omega
    · split
      · simp; omega
      · simp; omega
theorem labL_len (s : Bs) : (labL s).length ≤ 61 := by
  have := labG_len (s.take 30)
  unfold labL
  simp at this ⊢
  omega
end Go.Proofs.YtmgkmpbblhkacaaGreatDoor
