/- SourceBack: plain: what a text's parts are, small or large. -/
import Derived.Test.YtmgkmpbblhkacaaGreatDoorCutP
import Derived.Test.YtmgkmpbblhkacaaGreatDoorS28
import Derived.Lib.AtoiTie
namespace Go.Proofs.YtmgkmpbblhkacaaGreatDoor
open Go.RowKit
set_option linter.unusedSimpArgs false
set_option linter.unusedVariables false

theorem byte_all {P : UInt8 → Prop} (h : ∀ k : Fin 256, P (UInt8.ofNat k.val)) (c : UInt8) : P c := by
  have := h ⟨c.toNat, c.toNat_lt⟩
  simpa only [UInt8.ofNat_toNat] using this
theorem of_map (f : UInt8 → UInt8) (set : Bs) (h : ∀ c, set.contains (f c) = set.contains c) (l : Bs) : ofP (l.map f) set = ofP l set := by
  unfold ofP
  rw [List.all_map]
  congr 1
  · cases l <;> rfl
  · congr 1
    funext c
    exact h c
theorem of_asc (set : Bs) (hset : ∀ b ∈ set, b.toNat < 128) (l : Bs) (h : ofP l set = true) : ascB l := by
  unfold ofP at h
  rw [Bool.and_eq_true, List.all_eq_true] at h
  intro c hc
  exact hset c (by simpa using h.2 c hc)
theorem of_mem (set : Bs) (l : Bs) (h : ofP l set = true) (c : UInt8) (hc : c ∈ l) : c ∈ set := by
  unfold ofP at h
  rw [Bool.and_eq_true, List.all_eq_true] at h
  simpa using h.2 c hc
theorem of_ne (set : Bs) (l : Bs) (h : ofP l set = true) : l ≠ [] := by
  unfold ofP at h
  rw [Bool.and_eq_true] at h
  intro e
  rw [e] at h
  exact absurd h.1 (by decide)
theorem word_up : ∀ c, wordS.contains (upB c) = wordS.contains c := byte_all (by decide +kernel)
theorem word_lw : ∀ c, wordS.contains (lowB c) = wordS.contains c := byte_all (by decide +kernel)
theorem name_up : ∀ c, nameS.contains (upB c) = nameS.contains c := byte_all (by decide +kernel)
theorem name_lw : ∀ c, nameS.contains (lowB c) = nameS.contains c := byte_all (by decide +kernel)
theorem base_up : ∀ c, baseS.contains (upB c) = baseS.contains c := byte_all (by decide +kernel)
theorem word_asc : ∀ b ∈ wordS, b.toNat < 128 := by decide
theorem name_asc : ∀ b ∈ nameS, b.toNat < 128 := by decide
theorem base_asc : ∀ b ∈ baseS, b.toNat < 128 := by decide
theorem digit_asc : ∀ b ∈ digitS, b.toNat < 128 := by decide
theorem suffix_map (f : UInt8 → UInt8) (sep : Bs) (hs : keeps f sep) (l : Bs) : Lib.hasSuffix (l.map f) sep = Lib.hasSuffix l sep := by
  unfold Lib.hasSuffix List.isSuffixOf
  rw [← List.map_reverse, prefix_map f sep.reverse (fun d hd => hs d (by simpa using hd))]
theorem trimE_map (f : UInt8 → UInt8) (hs : keeps f [61]) (l : Bs) : trimE (l.map f) = (trimE l).map f := by
  unfold trimE Lib.trimSuffix
  rw [suffix_map f [61] hs, List.length_map]
  split
  · rw [List.map_take]
  · rfl
theorem value_up (l : Bs) : valueP (l.map upB) = valueP l := by
  unfold valueP
  rw [trimE_map upB (up_keep [61] (by decide)), trimE_map upB (up_keep [61] (by decide)), of_map upB baseS base_up]
theorem suffix_snoc (l : Bs) (c : UInt8) (h : Lib.hasSuffix l [c] = true) : l = l.take (l.length - 1) ++ [c] := by
  unfold Lib.hasSuffix at h
  rw [List.isSuffixOf_iff_suffix] at h
  obtain ⟨t, rfl⟩ := h
  simp
theorem trimE_asc (l : Bs) (h : ascB (trimE l)) : ascB l := by
  unfold trimE Lib.trimSuffix at h
  split at h
  · rename_i h2
    have e := suffix_snoc l 61 h2
    rw [show ([61] : Bs).length = 1 from rfl] at h
    rw [e]
    exact asc_app _ _ h (fun c hc => by simp at hc; subst hc; decide)
  · exact h
theorem value_asc (l : Bs) (h : valueP l = true) : ascB l := trimE_asc _ (trimE_asc _ (of_asc baseS base_asc _ h))
theorem letter_one (f : UInt8 → UInt8) (h : ∀ c, Lib.contains letterS [f c] = Lib.contains letterS [c]) (l : Bs) : Lib.contains letterS ((l.map f).take 1) = Lib.contains letterS (l.take 1) := by
  cases l with
  | nil => rfl
  | cons c r => exact h c
theorem letter_up : ∀ c, Lib.contains letterS [upB c] = Lib.contains letterS [c] := byte_all (by decide +kernel)
theorem letter_lw : ∀ c, Lib.contains letterS [lowB c] = Lib.contains letterS [c] := byte_all (by decide +kernel)
theorem scheme_up (l : Bs) : schemeP (l.map upB) = schemeP l := by
  unfold schemeP; rw [of_map upB nameS name_up, letter_one upB letter_up]
theorem scheme_lw (l : Bs) : schemeP (l.map lowB) = schemeP l := by
  unfold schemeP; rw [of_map lowB nameS name_lw, letter_one lowB letter_lw]
theorem scheme_asc (l : Bs) (h : schemeP l = true) : ascB l := by
  unfold schemeP at h; rw [Bool.and_eq_true] at h; exact of_asc nameS name_asc l h.1
theorem scheme_mem (l : Bs) (h : schemeP l = true) : (∀ c ∈ l, c ∈ nameS) ∧ l ≠ [] := by
  unfold schemeP at h; rw [Bool.and_eq_true] at h; exact ⟨of_mem nameS l h.1, of_ne nameS l h.1⟩
theorem split1_map (f : UInt8 → UInt8) (d : UInt8) (hs : ∀ c, f c = d ↔ c = d) (l : Bs) : split1 d (l.map f) = (split1 d l).map (·.map f) := by
  induction l with
  | nil => rfl
  | cons c r ih =>
    rw [List.map_cons, split1, split1]
    by_cases h : c = d
    · rw [if_pos h, if_pos ((hs c).2 h), ih]; rfl
    · rw [if_neg h, if_neg (fun h2 => h ((hs c).1 h2)), ih]
      cases split1 d r <;> rfl
theorem labels_map (f : UInt8 → UInt8) (hd : ∀ c, f c = 46 ↔ c = 46) (hw : ∀ c, wordS.contains (f c) = wordS.contains c) (l : Bs) : labelsP (l.map f) = labelsP l := by
  unfold labelsP
  rw [split1_map f 46 hd, List.all_map]
  congr 1
  funext p
  exact of_map f wordS hw p
theorem trimP_map (f : UInt8 → UInt8) (sep : Bs) (hs : keeps f sep) (l : Bs) : Lib.trimPrefix (l.map f) sep = (Lib.trimPrefix l sep).map f := by
  unfold Lib.trimPrefix Lib.hasPrefix
  rw [prefix_map f sep hs]
  split
  · rw [List.map_drop]
  · rfl
theorem hostOK_map (f : UInt8 → UInt8) (h42 : ∀ c, f c = 42 ↔ c = 42) (h46 : ∀ c, f c = 46 ↔ c = 46) (hw : ∀ c, wordS.contains (f c) = wordS.contains c) (h : Bs) : hostOK (h.map f) = hostOK h := by
  unfold hostOK
  rw [trimP_map f [42, 46] (fun d hd c => by simp at hd; rcases hd with rfl | rfl; exact h42 c; exact h46 c), labels_map f h46 hw]
  congr 1
  match h with
  | [] => rfl
  | [c] =>
    rw [Bool.eq_iff_iff, beq_iff_eq, beq_iff_eq]
    show [f c] = [42] ↔ [c] = [42]
    simp [h42 c]
  | a :: b :: r =>
    rw [Bool.eq_iff_iff, beq_iff_eq, beq_iff_eq]
    simp
theorem split1_cover (d : UInt8) (l : Bs) : ∀ c ∈ l, c = d ∨ ∃ p ∈ split1 d l, c ∈ p := by
  induction l with
  | nil => intro c hc; cases hc
  | cons x r ih =>
    intro c hc
    rw [split1]
    by_cases hx : x = d
    · rw [if_pos hx]
      rcases List.mem_cons.1 hc with rfl | hc
      · exact Or.inl hx
      · rcases ih c hc with h | ⟨p, hp, h⟩
        · exact Or.inl h
        · exact Or.inr ⟨p, List.mem_cons_of_mem _ hp, h⟩
    · rw [if_neg hx]
      cases hs : split1 d r with
      | nil => exact absurd hs (split1_ne d r)
      | cons q t =>
        simp only
        rcases List.mem_cons.1 hc with rfl | hc
        · exact Or.inr ⟨c :: q, List.mem_cons_self, List.mem_cons_self⟩
        · rcases ih c hc with h | ⟨p, hp, h⟩
          · exact Or.inl h
          · rw [hs] at hp
            rcases List.mem_cons.1 hp with rfl | hp
            · exact Or.inr ⟨x :: p, List.mem_cons_self, List.mem_cons_of_mem _ h⟩
            · exact Or.inr ⟨p, List.mem_cons_of_mem _ hp, h⟩
theorem labels_mem (l : Bs) (h : labelsP l = true) : ∀ c ∈ l, c ∈ wordS ∨ c = 46 := by
  intro c hc
  unfold labelsP at h
  rw [List.all_eq_true] at h
  rcases split1_cover 46 l c hc with h2 | ⟨p, hp, h2⟩
  · exact Or.inr h2
  · exact Or.inl (of_mem wordS p (h p hp) c h2)
theorem labels_ne (l : Bs) (h : labelsP l = true) : l ≠ [] := by
  rintro rfl
  exact absurd h (by decide)
/-- Bytes that a host may have. -/
def hostC (c : UInt8) : Bool := wordS.contains c || c == 46 || c == 42
theorem hostOK_mem (h : Bs) (hh : hostOK h = true) : (∀ c ∈ h, hostC c = true) ∧ h ≠ [] := by
  unfold hostOK at hh
  rw [Bool.or_eq_true, beq_iff_eq] at hh
  rcases hh with rfl | hh
  · exact ⟨by decide, by simp⟩
  · unfold Lib.trimPrefix Lib.hasPrefix at hh
    split at hh
    · rename_i hp
      obtain ⟨t, rfl⟩ := List.isPrefixOf_iff_prefix.1 hp
      have ed : List.drop ([42, 46] : Bs).length (([42, 46] : Bs) ++ t) = t := List.drop_left
      rw [ed] at hh
      refine ⟨fun c hc => ?_, by simp⟩
      rcases List.mem_append.1 hc with hc | hc
      · have : ∀ c ∈ ([42, 46] : Bs), hostC c = true := by decide
        exact this c hc
      · rcases labels_mem t hh c hc with h | h
        · unfold hostC; simp [h]
        · rw [h]; decide
    · refine ⟨fun c hc => ?_, labels_ne h hh⟩
      rcases labels_mem h hh c hc with h | h
      · unfold hostC; simp [h]
      · rw [h]; decide
theorem hostC_facts (c : UInt8) (h : hostC c = true) : c.toNat < 128 ∧ c ≠ 58 ∧ c ≠ 47 ∧ c ≠ 39 := by
  have : ∀ c, hostC c = true → c.toNat < 128 ∧ c ≠ 58 ∧ c ≠ 47 ∧ c ≠ 39 := byte_all (by decide +kernel)
  exact this c h
theorem hostC_low (c : UInt8) (h : hostC c = true) : hostC (lowB c) = true := by
  have : ∀ c, hostC c = true → hostC (lowB c) = true := byte_all (by decide +kernel)
  exact this c h
theorem nameC_facts (c : UInt8) (h : c ∈ nameS) : c.toNat < 128 ∧ c ≠ 58 ∧ c ≠ 47 ∧ c ≠ 39 ∧ c ≠ 42 := by
  have : ∀ c ∈ nameS, c.toNat < 128 ∧ c ≠ 58 ∧ c ≠ 47 ∧ c ≠ 39 ∧ c ≠ 42 := by decide
  exact this c h
/-! Ports. -/
theorem digit_fix (c : UInt8) (h : c ∈ digitS) : upB c = c ∧ lowB c = c ∧ c ≠ 58 ∧ c ≠ 47 ∧ c ≠ 42 ∧ c ≠ 43 ∧ c ≠ 45 := by
  have : ∀ c ∈ digitS, upB c = c ∧ lowB c = c ∧ c ≠ 58 ∧ c ≠ 47 ∧ c ≠ 42 ∧ c ≠ 43 ∧ c ≠ 45 := by decide
  exact this c h
theorem map_fix (f : UInt8 → UInt8) (l : Bs) (h : ∀ c ∈ l, f c = c) : l.map f = l := by
  induction l with
  | nil => rfl
  | cons c r ih => rw [List.map_cons, h c (by simp), ih (fun x hx => h x (by simp [hx]))]
theorem atoi_digits (l : Bs) (h : ofP l digitS = true) (hl : l.length ≤ 5) : atoiO l = (Lib.decNat l).map fun (m : Nat) => (m : Int) := by
  unfold atoiO
  rw [Lib.atoiAll_short l (by omega)]
  cases l with
  | nil => rfl
  | cons c r =>
    have hc := digit_fix c (of_mem digitS _ h c (by simp))
    have e : Lib.atoi (c :: r) = (Lib.decNat (c :: r)).map fun (m : Nat) => (m : Int) := by
      rw [Lib.atoi, beq_eq_false_iff_ne.2 hc.2.2.2.2.2.2, beq_eq_false_iff_ne.2 hc.2.2.2.2.2.1]
      simp only [Bool.false_eq_true, if_false]
    rw [e]
    cases Lib.decNat (c :: r) <;> rfl
theorem portS_form (l : Bs) (q : Int) (h : portS l = some q) : (l = [42] ∧ q = -2) ∨ (ofP l digitS = true ∧ l.length ≤ 5 ∧ 0 ≤ q ∧ q ≤ 65535) := by
  unfold portS at h
  by_cases h42 : l = [42]
  · rw [if_pos h42] at h
    cases h
    exact Or.inl ⟨h42, rfl⟩
  · rw [if_neg h42] at h
    cases ha : atoiO l with
    | none => rw [ha] at h; cases h
    | some n =>
      rw [ha] at h
      simp only at h
      split at h
      · rename_i hh
        cases h
        obtain ⟨h1, h2, h3⟩ := hh
        refine Or.inr ⟨h1, h2, ?_, h3⟩
        rw [atoi_digits l h1 h2] at ha
        cases hd : Lib.decNat l with
        | none => rw [hd] at ha; cases ha
        | some m => rw [hd] at ha; cases ha; exact Int.natCast_nonneg m
      · cases h
theorem portS_map (f : UInt8 → UInt8) (h42 : f 42 = 42) (hf : ∀ c ∈ digitS, f c = c) (l : Bs) (q : Int) (h : portS l = some q) : l.map f = l := by
  rcases portS_form l q h with ⟨rfl, _⟩ | ⟨h1, _⟩
  · simp [h42]
  · exact map_fix f l (fun c hc => hf c (of_mem digitS l h1 c hc))
theorem decFrom_app (l : Bs) (c : UInt8) (d : Nat) (hd : Lib.digitVal c = some d) : ∀ acc, Lib.decFrom acc (l ++ [c]) = (Lib.decFrom acc l).map (fun n => n * 10 + d) := by
  induction l with
  | nil => intro acc; simp [Lib.decFrom, hd]
  | cons x r ih =>
    intro acc
    rw [List.cons_append, Lib.decFrom, Lib.decFrom]
    cases Lib.digitVal x with
    | none => rfl
    | some e => exact ih _
theorem digitVal_of (k : Nat) (h : k < 10) : Lib.digitVal (UInt8.ofNat (48 + k)) = some k ∧ UInt8.ofNat (48 + k) ∈ digitS := by
  have : ∀ k : Fin 10, Lib.digitVal (UInt8.ofNat (48 + k.val)) = some k.val ∧ UInt8.ofNat (48 + k.val) ∈ digitS := by decide
  exact this ⟨k, h⟩
theorem decDigits_val (n : Nat) : Lib.decFrom 0 (Lib.decDigits n) = some n ∧ Lib.decDigits n ≠ [] ∧ ∀ c ∈ Lib.decDigits n, c ∈ digitS := by
  induction n using Nat.strongRecOn with
  | _ n ih =>
    rw [Lib.decDigits]
    split
    · rename_i h
      obtain ⟨h1, h2⟩ := digitVal_of n h
      refine ⟨?_, by simp, fun c hc => ?_⟩
      · rw [Lib.decFrom, h1]
        show Lib.decFrom (0 * 10 + n) [] = some n
        rw [Nat.zero_mul, Nat.zero_add]; rfl
      · rcases List.mem_cons.1 hc with rfl | hc
        · exact h2
        · cases hc
    · rename_i h
      obtain ⟨h1, h2, h3⟩ := ih (n / 10) (by omega)
      obtain ⟨g1, g2⟩ := digitVal_of (n % 10) (by omega)
      refine ⟨?_, by simp, fun c hc => ?_⟩
      · rw [decFrom_app _ _ _ g1, h1]
        show some (n / 10 * 10 + n % 10) = some n
        congr 1
        omega
      · rcases List.mem_append.1 hc with hc | hc
        · exact h3 c hc
        · rcases List.mem_cons.1 hc with rfl | hc
          · exact g2
          · cases hc
theorem decDigits_short (n : Nat) (h : n ≤ 65535) : (Lib.decDigits n).length ≤ 5 := by
  have e1 : ∀ k, k < 10 → (Lib.decDigits k).length = 1 := fun k hk => by rw [Lib.decDigits, dif_pos hk]; rfl
  have st : ∀ k m, (k / 10 < 10 → True) → (Lib.decDigits (k / 10)).length ≤ m → (Lib.decDigits k).length ≤ m + 1 := fun k m _ hm => by
    rw [Lib.decDigits]
    split
    · simp
    · simp only [List.length_append, List.length_cons, List.length_nil]; omega
  have s0 := e1 (n / 10 / 10 / 10 / 10) (by omega)
  exact st _ 4 (fun _ => trivial) (st _ 3 (fun _ => trivial) (st _ 2 (fun _ => trivial) (st _ 1 (fun _ => trivial) (by omega))))
theorem portS_itoa (q : Int) (h0 : 0 ≤ q) (h1 : q ≤ 65535) : portS (Lib.itoa q) = some q ∧ (∀ c ∈ Lib.itoa q, c ∈ digitS) ∧ Lib.itoa q ≠ [] := by
  have e : Lib.itoa q = Lib.decDigits q.toNat := by unfold Lib.itoa; rw [if_neg (by omega)]
  obtain ⟨d1, d2, d3⟩ := decDigits_val q.toNat
  have d4 := decDigits_short q.toNat (by omega)
  rw [e]
  refine ⟨?_, d3, d2⟩
  have ho : ofP (Lib.decDigits q.toNat) digitS = true := by
    unfold ofP
    rw [Bool.and_eq_true, List.all_eq_true]
    exact ⟨by simpa using d2, fun c hc => by simpa using d3 c hc⟩
  have h42 : Lib.decDigits q.toNat ≠ [42] := fun hh => by
    have := d3 42 (by rw [hh]; simp)
    exact absurd this (by decide)
  unfold portS
  rw [if_neg h42, atoi_digits _ ho d4]
  have dn : Lib.decNat (Lib.decDigits q.toNat) = some q.toNat := by
    unfold Lib.decNat
    rw [if_neg (by simpa using d2), d1]
  rw [dn]
  show (if _ then some ((q.toNat : Nat) : Int) else none) = some q
  have hq : ((q.toNat : Nat) : Int) = q := Int.toNat_of_nonneg h0
  rw [if_pos ⟨ho, d4, (show ((q.toNat : Nat) : Int) ≤ 65535 by omega)⟩, hq]
/-! Paths. -/
theorem bad_at (s : ByteArray) (f : Nat) : ∀ pos, s.size ≤ pos + f → (0 ≤ Lib.idxFuncFrom badR true s f pos ↔ ∃ c ∈ s.data.toList.drop pos, badR c.toNat = true) := by
  induction f with
  | zero =>
    intro pos h
    rw [List.drop_of_length_le (by rw [← Lib.size_eq]; omega)]
    exact ⟨fun h => absurd h (by show ¬ (0 : Int) ≤ -1; decide), fun ⟨c, hc, _⟩ => by cases hc⟩
  | succ f ih =>
    intro pos h
    by_cases hp : pos < s.size
    · have hd := drop_at s pos hp
      have hdec : Utf8.decode s pos = Lib.decodeL (s.data.toList.drop pos) := (Lib.decodeL_drop s pos).symm
      rw [Lib.idxFuncFrom, if_pos hp, hdec, hd]
      by_cases hc : s[pos].toNat < 128
      · rw [Lib.decodeL_ascii _ _ hc]
        simp only
        by_cases hb : badR s[pos].toNat = true
        · rw [if_pos hb]
          exact ⟨fun _ => ⟨s[pos], by simp, hb⟩, fun _ => by omega⟩
        · rw [if_neg hb, ih (pos + 1) (by omega)]
          constructor
          · rintro ⟨c, h1, h2⟩; exact ⟨c, by simp [h1], h2⟩
          · rintro ⟨c, h1, h2⟩
            rcases List.mem_cons.1 h1 with rfl | h1
            · exact absurd h2 hb
            · exact ⟨c, h1, h2⟩
      · have hr := rune_hi s[pos] (s.data.toList.drop (pos + 1)) (by omega)
        have hb : badR (Lib.decodeL (s[pos] :: s.data.toList.drop (pos + 1))).1 = true := by
          unfold badR; rw [decide_eq_true (show 127 ≤ _ by omega)]; simp
        rw [if_pos hb]
        refine ⟨fun _ => ⟨s[pos], by simp, ?_⟩, fun _ => by omega⟩
        unfold badR; rw [decide_eq_true (show 127 ≤ _ by omega)]; simp
    · rw [Lib.idxFuncFrom_end _ _ _ _ _ hp, List.drop_of_length_le (by rw [← Lib.size_eq]; omega)]
      exact ⟨fun h => absurd h (by decide), fun ⟨c, hc, _⟩ => by cases hc⟩
def badC (c : UInt8) : Bool := badR c.toNat
theorem badP_any (l : Bs) : badP (strOf l) = l.any badC := by
  have h := bad_at (strOf l) (strOf l).size 0 (by omega)
  rw [strOf_data, List.drop_zero] at h
  unfold badP Lib.idxFunc
  rw [Bool.eq_iff_iff, decide_eq_true_iff, h, List.any_eq_true]
  rfl
theorem bad_up : ∀ c, badC (upB c) = badC c := byte_all (by decide +kernel)
theorem badP_up (l : Bs) : badP (strOf (l.map upB)) = badP (strOf l) := by
  rw [badP_any, badP_any, List.any_map]
  congr 1
  funext c
  exact bad_up c
end Go.Proofs.YtmgkmpbblhkacaaGreatDoor
