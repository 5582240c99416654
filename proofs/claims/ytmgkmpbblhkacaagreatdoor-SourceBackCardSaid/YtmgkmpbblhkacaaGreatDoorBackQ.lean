/- SourceBack: plain: what is parsed is written, and parsed as it is. -/
import Derived.Test.YtmgkmpbblhkacaaGreatDoorBackP
namespace Go.Proofs.YtmgkmpbblhkacaaGreatDoor
open Go.RowKit
set_option linter.unusedSimpArgs false
set_option linter.unusedVariables false

theorem lowS_map (l : Bs) (h : ascB l) : lowS (l.map lowB) = l.map lowB := by rw [lowS_ascii _ (asc_map l h), map_low_twice]
theorem lowS_up (l : Bs) (h : ascB l) : lowS (l.map upB) = lowS l := by rw [lowS_ascii _ (asc_up l h), low_up, lowS_ascii l h]
/-! In quotes. -/
def nameW (q : Bs) : Prop := q = sSha2 ∨ q = sSha3 ∨ q = sSha5
theorem quotedS_at (a v : Bs) (h : (45 : UInt8) ∉ a) : quotedS (a ++ 45 :: v) = if lowS a = sNonce then (⟨5, [], [], -1, [], v⟩, valueP v) else if lowS a = sSha2 ∨ lowS a = sSha3 ∨ lowS a = sSha5 then (⟨6, [], [], -1, [], lowS a ++ [45] ++ v⟩, valueP v) else quotedW (lowS (a ++ 45 :: v)) := by
  unfold quotedS
  rw [cut_one a 45 v h]
  rfl
theorem quotedS_no (l : Bs) (h : (45 : UInt8) ∉ l) : quotedS l = quotedW (lowS l) := by
  unfold quotedS
  rw [cut_no 45 l [] h]
  rfl
/-- A text that is a word, not a value. -/
def wordCase (t : Bs) : Prop := (45 : UInt8) ∉ t ∨ ∃ a v, t = a ++ 45 :: v ∧ (45 : UInt8) ∉ a ∧ lowS a ≠ sNonce ∧ ¬ nameW (lowS a)
theorem quoted_cases (t : Bs) (x : SrcL) (h : pairO (quotedS t) = some x) :
    (∃ a v, t = a ++ 45 :: v ∧ (45 : UInt8) ∉ a ∧ lowS a = sNonce ∧ valueP v = true ∧ x = ⟨5, [], [], -1, [], v⟩) ∨
    (∃ a v, t = a ++ 45 :: v ∧ (45 : UInt8) ∉ a ∧ lowS a ≠ sNonce ∧ nameW (lowS a) ∧ valueP v = true ∧ x = ⟨6, [], [], -1, [], lowS a ++ [45] ++ v⟩) ∨
    (wordCase t ∧ (quotedW (lowS t)).2 = true ∧ x = (quotedW (lowS t)).1) := by
  have fin : ∀ p : SrcL × Bool, pairO p = some x → p.2 = true ∧ x = p.1 := by
    intro p hp
    unfold pairO at hp
    split at hp
    · rename_i h2; cases hp; exact ⟨h2, rfl⟩
    · cases hp
  rcases split_first 45 t with h0 | ⟨a, v, rfl, ha⟩
  · rw [quotedS_no t h0] at h
    obtain ⟨h1, h2⟩ := fin _ h
    exact Or.inr (Or.inr ⟨Or.inl h0, h1, h2⟩)
  · rw [quotedS_at a v ha] at h
    by_cases hn : lowS a = sNonce
    · rw [if_pos hn] at h
      obtain ⟨h1, h2⟩ := fin _ h
      exact Or.inl ⟨a, v, rfl, ha, hn, h1, h2⟩
    · rw [if_neg hn] at h
      by_cases hw : lowS a = sSha2 ∨ lowS a = sSha3 ∨ lowS a = sSha5
      · rw [if_pos hw] at h
        obtain ⟨h1, h2⟩ := fin _ h
        exact Or.inr (Or.inl ⟨a, v, rfl, ha, hn, hw, h1, h2⟩)
      · rw [if_neg hw] at h
        obtain ⟨h1, h2⟩ := fin _ h
        exact Or.inr (Or.inr ⟨Or.inr ⟨a, v, rfl, ha, hn, hw⟩, h1, h2⟩)
theorem word_transfer (t t' : Bs) (hw : wordCase t) (h1 : ascB t) (h2 : ascB t') (h : t'.map lowB = t.map lowB) : quotedS t' = quotedW (lowS t') := by
  have k45 := low_keeps 45 (by decide)
  have nm : ∀ l : Bs, (45 : UInt8) ∉ l → (45 : UInt8) ∉ l.map lowB := fun l hl hm => by
    obtain ⟨c, hc, he⟩ := List.mem_map.1 hm
    rw [(k45 c).1 he] at hc
    exact hl hc
  rcases split_first 45 t' with h0 | ⟨a', v', rfl, ha'⟩
  · exact quotedS_no t' h0
  · rw [List.map_append, List.map_cons, (k45 45).2 rfl] at h
    rcases hw with hno | ⟨a, v, rfl, ha, hn1, hn2⟩
    · exfalso
      apply nm t hno
      rw [← h]
      simp
    · rw [List.map_append, List.map_cons, (k45 45).2 rfl] at h
      have e := congrArg (fun l => (Lib.cut l [45]).1) h
      rw [cut_one _ 45 _ (nm a' ha'), cut_one _ 45 _ (nm a ha)] at e
      simp only at e
      have ea : lowS a' = lowS a := by
        rw [lowS_ascii a' (fun c hc => h2 c (by simp [hc])), lowS_ascii a (fun c hc => h1 c (by simp [hc])), e]
      rw [quotedS_at a' v' ha', ea, if_neg hn1, if_neg (show ¬ (lowS a = sSha2 ∨ lowS a = sSha3 ∨ lowS a = sSha5) from hn2)]
theorem quotedW_facts (q : Bs) : (quotedW q).2 = ofP q wordS ∧ textP (quotedW q).1 = 39 :: (q ++ [39]) ∧ ((quotedW q).1.kind = 0 ∨ (quotedW q).1.kind = 4 ∨ (quotedW q).1.kind = 7) ∧ (quotedW q).1.po = -1 := by
  unfold quotedW
  split
  · rename_i h; subst h; exact ⟨rfl, rfl, Or.inl rfl, rfl⟩
  · split
    · rename_i h; subst h; exact ⟨rfl, rfl, Or.inr (Or.inl rfl), rfl⟩
    · exact ⟨rfl, rfl, Or.inr (Or.inr rfl), rfl⟩
theorem srcP_quote (t : Bs) : srcP (39 :: (t ++ [39])) = pairO (quotedS t) := by
  unfold srcP
  rw [if_neg (by intro h; injection h with h1; exact absurd h1 (by decide))]
  have hl : (39 :: (t ++ [39]) : Bs).length = t.length + 2 := by simp
  have hq : quoteB (39 :: (t ++ [39])) = true := by
    unfold quoteB
    rw [decide_eq_true_iff, hl]
    refine ⟨by omega, rfl, ?_⟩
    rw [show t.length + 2 - 1 = t.length + 1 by omega, List.getElem?_cons_succ, List.getElem?_append_right (Nat.le_refl _), Nat.sub_self]
    rfl
  rw [if_pos hq, hl, show t.length + 2 - 1 = t.length + 1 by omega, List.take_succ_cons, List.take_left]
  rfl
theorem quoteB_form (s : Bs) (h : quoteB s = true) : ∃ t, s = 39 :: (t ++ [39]) := by
  unfold quoteB at h
  rw [decide_eq_true_iff] at h
  obtain ⟨h1, h2, h3⟩ := h
  cases s with
  | nil => exact absurd h1 (by decide)
  | cons c r =>
    simp only [List.getElem?_cons_zero, Option.some.injEq] at h2
    subst h2
    have hr : r ≠ [] := by rintro rfl; exact absurd h1 (by simp)
    have e := List.dropLast_concat_getLast hr
    refine ⟨r.dropLast, ?_⟩
    rw [show (39 :: r : Bs).length - 1 = (r.length - 1) + 1 by have := List.length_pos_iff.2 hr; simp; omega, List.getElem?_cons_succ] at h3
    have h4 : r.getLast hr = 39 := by
      rw [List.getLast_eq_getElem]
      have := List.getElem?_eq_some_iff.1 h3
      exact this.2
    rw [h4] at e
    rw [e]
/-- What the law says of a text that is a source. -/
def BackOK (s : Bs) (x : SrcL) : Prop := srcP (textP x) = some x ∧ 0 ≤ x.kind ∧ x.kind ≤ 7 ∧ x.po ≤ 65535 ∧ ∃ z, srcP (s.map upB) = some z ∧ z.kind = x.kind ∧ (x.pa = [] → x.kind ≠ 5 → x.kind ≠ 6 → z = x)
theorem sNonce_asc : ascB sNonce := by unfold ascB; decide
theorem low_fix (q : Bs) (h : lowS q = q) (l : Bs) (hl : lowS l = q) (hq : ascB q) : ascB l := lowS_back l (by rw [hl]; exact hq)
theorem back_quote (t : Bs) (x : SrcL) (h : pairO (quotedS t) = some x) : BackOK (39 :: (t ++ [39])) x := by
  have hup : (39 :: (t ++ [39]) : Bs).map upB = 39 :: (t.map upB ++ [39]) := by rw [List.map_cons, List.map_append]; rfl
  have k45 := up_keeps 45 (by decide)
  have nm : ∀ l : Bs, (45 : UInt8) ∉ l → (45 : UInt8) ∉ l.map upB := fun l hl hm => by
    obtain ⟨c, hc, he⟩ := List.mem_map.1 hm
    rw [(k45 c).1 he] at hc
    exact hl hc
  have sp : ∀ p : SrcL × Bool, p.2 = true → pairO p = some p.1 := fun p hp => by unfold pairO; rw [if_pos hp]
  unfold BackOK
  rw [hup, srcP_quote]
  rcases quoted_cases t x h with ⟨a, v, rfl, ha, hn, hv, rfl⟩ | ⟨a, v, rfl, ha, hn, hw, hv, rfl⟩ | ⟨hw, h2, rfl⟩
  · have hasc : ascB a := lowS_back a (by rw [hn]; exact sNonce_asc)
    refine ⟨?_, (show (0 : Int) ≤ 5 by decide), (show (5 : Int) ≤ 7 by decide), (show (-1 : Int) ≤ 65535 by decide), ⟨5, [], [], -1, [], v.map upB⟩, ?_, rfl, fun _ h5 _ => absurd rfl h5⟩
    · show srcP (39 :: ((sNonce ++ [45]) ++ v ++ [39])) = _
      rw [srcP_quote, show sNonce ++ [45] ++ v = sNonce ++ 45 :: v by simp, quotedS_at sNonce v (by decide), if_pos (by rw [lowS_ascii _ sNonce_asc]; decide)]
      exact sp _ hv
    · rw [List.map_append, List.map_cons, (k45 45).2 rfl, quotedS_at _ _ (nm a ha), lowS_up a hasc, if_pos hn]
      exact sp _ (by show valueP (v.map upB) = true; rw [value_up]; exact hv)
  · have hq : ascB (lowS a) ∧ (45 : UInt8) ∉ lowS a ∧ (lowS a).map lowB = lowS a := by
      rcases hw with h | h | h <;> rw [h] <;> (refine ⟨?_, by decide, by decide⟩; unfold ascB; decide)
    have hasc : ascB a := lowS_back a hq.1
    refine ⟨?_, (show (0 : Int) ≤ 6 by decide), (show (6 : Int) ≤ 7 by decide), (show (-1 : Int) ≤ 65535 by decide), ⟨6, [], [], -1, [], lowS a ++ [45] ++ v.map upB⟩, ?_, rfl, fun _ _ h6 => absurd rfl h6⟩
    · show srcP (39 :: ((lowS a ++ [45] ++ v) ++ [39])) = _
      have e : lowS (lowS a) = lowS a := by rw [lowS_ascii _ hq.1]; exact hq.2.2
      rw [srcP_quote, show lowS a ++ [45] ++ v = lowS a ++ 45 :: v by simp, quotedS_at (lowS a) v hq.2.1, e, if_neg hn, if_pos (show lowS a = sSha2 ∨ lowS a = sSha3 ∨ lowS a = sSha5 from hw), sp _ hv]
      simp
    · rw [List.map_append, List.map_cons, (k45 45).2 rfl, quotedS_at _ _ (nm a ha), lowS_up a hasc, if_neg hn, if_pos (show lowS a = sSha2 ∨ lowS a = sSha3 ∨ lowS a = sSha5 from hw)]
      exact sp _ (by show valueP (v.map upB) = true; rw [value_up]; exact hv)
  · obtain ⟨f1, f2, f3, f4⟩ := quotedW_facts (lowS t)
    have hof : ofP (lowS t) wordS = true := by rw [← f1]; exact h2
    have hasc : ascB t := lowS_back t (of_asc wordS word_asc _ hof)
    have hlt := lowS_ascii t hasc
    refine ⟨?_, by omega, by omega, by omega, (quotedW (lowS t)).1, ?_, rfl, fun _ _ _ => rfl⟩
    · rw [f2, srcP_quote, word_transfer t (lowS t) hw hasc (by rw [hlt]; exact asc_map t hasc) (by rw [hlt, map_low_twice])]
      rw [show lowS (lowS t) = lowS t by rw [hlt, lowS_map t hasc]]
      exact sp _ h2
    · rw [word_transfer t (t.map upB) hw hasc (asc_up t hasc) (low_up t), lowS_up t hasc]
      exact sp _ h2
/-! A scheme. -/
theorem suffix_self (l : Bs) (c : UInt8) : Lib.hasSuffix (l ++ [c]) [c] = true := by
  unfold Lib.hasSuffix
  rw [List.isSuffixOf_iff_suffix]
  exact List.suffix_append _ _
theorem first_not_quote (s : Bs) (c : UInt8) (r : Bs) (hs : s = c :: r) (hc : c ≠ 39) : ¬ quoteB s = true := by
  subst hs
  unfold quoteB
  rw [decide_eq_true_iff]
  rintro ⟨_, h, _⟩
  simp only [List.getElem?_cons_zero, Option.some.injEq] at h
  exact hc h
theorem srcP_scheme (p : Bs) (h : schemeP p = true) : srcP (p ++ [58]) = some ⟨2, lowS p, [], -1, [], []⟩ := by
  obtain ⟨h1, h2⟩ := scheme_mem p h
  cases p with
  | nil => exact absurd rfl h2
  | cons c r =>
    have hc := nameC_facts c (h1 c (by simp))
    unfold srcP
    rw [if_neg (by intro hh; have := congrArg List.length hh; simp at this), if_neg (first_not_quote ((c :: r : Bs) ++ [58]) c (r ++ [58]) rfl hc.2.2.2.1)]
    have e : ((c :: r : Bs) ++ [58]).take (((c :: r : Bs) ++ [58]).length - 1) = c :: r := by simp
    rw [if_pos (by unfold schemeB; rw [suffix_self, e, h]; rfl), e]
theorem back_scheme (p : Bs) (h : schemeP p = true) : BackOK (p ++ [58]) ⟨2, lowS p, [], -1, [], []⟩ := by
  have hasc := scheme_asc p h
  have hl := lowS_ascii p hasc
  refine ⟨?_, (show (0 : Int) ≤ 2 by decide), (show (2 : Int) ≤ 7 by decide), (show (-1 : Int) ≤ 65535 by decide), ⟨2, lowS p, [], -1, [], []⟩, ?_, rfl, fun _ _ _ => rfl⟩
  · show srcP (lowS p ++ [58]) = _
    rw [srcP_scheme _ (by rw [hl, scheme_lw]; exact h), hl, lowS_map p hasc]
  · rw [List.map_append, show ([58] : Bs).map upB = [58] from rfl, srcP_scheme _ (by rw [scheme_up]; exact h), lowS_up p hasc]
end Go.Proofs.YtmgkmpbblhkacaaGreatDoor
