/- SourceBack: plain: a source of a host is written, and parsed as it is. -/
import Derived.Test.YtmgkmpbblhkacaaGreatDoorBackQ
namespace Go.Proofs.YtmgkmpbblhkacaaGreatDoor
open Go.RowKit
set_option linter.unusedSimpArgs false
set_option linter.unusedVariables false

/-- The parts of a source of a host. -/
structure HostParts (P h T pa : Bs) (sc : Bs) (q : Int) : Prop where
  pre : (P = [] ∧ sc = []) ∨ ∃ a, P = a ++ [58, 47, 47] ∧ schemeP a = true ∧ sc = lowS a
  host : hostOK h = true
  port : (T = [] ∧ q = -1) ∨ ∃ p, T = 58 :: p ∧ portS p = some q
  path : (pa = [] ∨ ∃ t, pa = 47 :: t) ∧ pa.any badC = false
theorem hosted_form (s : Bs) (x : SrcL) (h : hostedS s = some x) : ∃ P hh T pa sc q, s = P ++ (hh ++ T ++ pa) ∧ HostParts P hh T pa sc q ∧ x = ⟨3, sc, lowS hh, q, pa, []⟩ := by
  have h1 : ∃ P sc r ok1, s = P ++ r ∧ hostS1 s = (sc, r, ok1) ∧ (ok1 = true → (P = [] ∧ sc = []) ∨ ∃ a, P = a ++ [58, 47, 47] ∧ schemeP a = true ∧ sc = lowS a) := by
    by_cases hc : (Lib.cut s [58, 47, 47]).2.2 = true ∧ Lib.contains (Lib.cut s [58, 47, 47]).1 [47] = false
    · obtain ⟨a, b, e1, e2⟩ := cut_form s 58 [47, 47] hc.1
      refine ⟨a ++ [58, 47, 47], lowS a, b, schemeP a, by rw [e1]; simp, ?_, fun hok => Or.inr ⟨a, rfl, hok, rfl⟩⟩
      unfold hostS1
      rw [if_pos hc, e2]
    · refine ⟨[], [], s, true, rfl, ?_, fun _ => Or.inl ⟨rfl, rfl⟩⟩
      unfold hostS1
      rw [if_neg hc]
  obtain ⟨P, sc, r, ok1, e1, e2, g1⟩ := h1
  have h2 : ∃ hp pa ok2, r = hp ++ pa ∧ hostS2 r = (hp, pa, ok2) ∧ (pa = [] ∨ ∃ t, pa = 47 :: t) ∧ (ok2 = true → pa.any badC = false) := by
    rcases split_first 47 r with h0 | ⟨a, b, rfl, ha⟩
    · refine ⟨r, [], true, by simp, ?_, Or.inl rfl, fun _ => rfl⟩
      unfold hostS2
      rw [idxB_no 47 r h0, if_neg (by decide)]
    · refine ⟨a, 47 :: b, !badP (strOf (47 :: b)), rfl, ?_, Or.inr ⟨b, rfl⟩, fun h => ?_⟩
      · unfold hostS2
        rw [idxB_at a 47 b ha, if_pos (by omega), Int.toNat_natCast, List.take_left, List.drop_left]
      · rw [badP_any] at h; simpa using h
  obtain ⟨hp, pa, ok2, e3, e4, g2, g3⟩ := h2
  have h3 : ∃ hh T po, hp = hh ++ T ∧ hostS3 hp = (hh, po) ∧ ∀ q, po = some q → (T = [] ∧ q = -1) ∨ ∃ p, T = 58 :: p ∧ portS p = some q := by
    rcases split_first 58 hp with h0 | ⟨a, b, rfl, ha⟩
    · refine ⟨hp, [], some (-1), by simp, ?_, fun q hq => by cases hq; exact Or.inl ⟨rfl, rfl⟩⟩
      unfold hostS3
      rw [cut_no 58 hp [] h0]
      rfl
    · refine ⟨a, 58 :: b, portS b, rfl, ?_, fun q hq => Or.inr ⟨b, rfl, hq⟩⟩
      unfold hostS3
      rw [cut_one a 58 b ha]
      rfl
  obtain ⟨hh, T, po, e5, e6, g4⟩ := h3
  unfold hostedS at h
  rw [e2] at h
  simp only at h
  rw [e4] at h
  simp only at h
  rw [e6] at h
  simp only at h
  unfold hostFin at h
  cases po with
  | none => cases h
  | some q =>
    simp only at h
    split at h
    · rename_i hc
      cases h
      obtain ⟨c1, c2⟩ := hc
      rw [Bool.and_eq_true] at c1
      exact ⟨P, hh, T, pa, sc, q, by rw [e1, e3, e5], ⟨g1 c1.1, c2, g4 q rfl, g2, g3 c1.2⟩, rfl⟩
    · cases h
theorem port_chars (p : Bs) (q : Int) (h : portS p = some q) : p ≠ [] ∧ ∀ c ∈ p, c ≠ 58 ∧ c ≠ 47 := by
  rcases portS_form p q h with ⟨rfl, _⟩ | ⟨h1, _⟩
  · exact ⟨by simp, fun c hc => by simp at hc; subst hc; decide⟩
  · exact ⟨of_ne digitS p h1, fun c hc => by have := digit_fix c (of_mem digitS p h1 c hc); exact ⟨this.2.2.1, this.2.2.2.1⟩⟩
theorem parts_47 {P h T pa sc : Bs} {q : Int} (H : HostParts P h T pa sc q) : (47 : UInt8) ∉ h ++ T ∧ (58 : UInt8) ∉ h := by
  obtain ⟨m1, m2⟩ := hostOK_mem h H.host
  refine ⟨fun hm => ?_, fun hm => (hostC_facts _ (m1 58 hm)).2.1 rfl⟩
  rcases List.mem_append.1 hm with hm | hm
  · exact (hostC_facts _ (m1 47 hm)).2.2.1 rfl
  · rcases H.port with ⟨rfl, _⟩ | ⟨p, rfl, hp⟩
    · cases hm
    · rcases List.mem_cons.1 hm with h1 | h1
      · exact absurd h1 (by decide)
      · exact ((port_chars p q hp).2 47 h1).2 rfl
/-- What ends with a colon is no host and port. -/
theorem parts_colon {P h T pa sc : Bs} {q : Int} (H : HostParts P h T pa sc q) (u : Bs) : h ++ T ≠ u ++ [58] := by
  intro e
  obtain ⟨_, n58⟩ := parts_47 H
  rcases H.port with ⟨rfl, _⟩ | ⟨p, rfl, hp⟩
  · rw [List.append_nil] at e
    exact n58 (by rw [e]; simp)
  · obtain ⟨p1, p2⟩ := port_chars p q hp
    have c1 := cut_one h 58 p n58
    rw [e] at c1
    rcases split_first 58 u with h0 | ⟨a, b, rfl, ha⟩
    · rw [show u ++ [58] = u ++ 58 :: [] from rfl, cut_one u 58 [] h0] at c1
      simp only [Prod.mk.injEq] at c1
      exact p1 c1.2.1.symm
    · rw [show a ++ 58 :: b ++ [58] = a ++ 58 :: (b ++ [58]) by simp, cut_one a 58 _ ha] at c1
      simp only [Prod.mk.injEq] at c1
      exact (p2 58 (by rw [← c1.2.1]; simp)).1 rfl
theorem hosted_of {P h T pa sc : Bs} {q : Int} (H : HostParts P h T pa sc q) : hostedS (P ++ (h ++ T ++ pa)) = some ⟨3, sc, lowS h, q, pa, []⟩ := by
  obtain ⟨n47, n58⟩ := parts_47 H
  have e1 : hostS1 (P ++ (h ++ T ++ pa)) = (sc, h ++ T ++ pa, true) := by
    unfold hostS1
    rcases H.pre with ⟨rfl, rfl⟩ | ⟨a, rfl, ha, rfl⟩
    · rw [List.nil_append, if_neg]
      rintro ⟨h1, h2⟩
      obtain ⟨a, b, f1, f2⟩ := cut_form _ 58 [47, 47] h1
      rw [f2] at h2
      have h47 : (47 : UInt8) ∉ a := fun hm => by rw [(contains_one a 47).2 hm] at h2; cases h2
      rcases H.path.1 with rfl | ⟨t, rfl⟩
      · rw [List.append_nil] at f1
        exact n47 (by rw [f1]; simp)
      · have c1 := cut_one (h ++ T) 47 t n47
        rw [f1, show a ++ (58 :: [47, 47] ++ b) = (a ++ [58]) ++ 47 :: (47 :: b) by simp, cut_one (a ++ [58]) 47 _ (by simp [h47])] at c1
        simp only [Prod.mk.injEq] at c1
        exact parts_colon H a c1.1.symm
    · have m := (scheme_mem a ha).1
      have a58 : (58 : UInt8) ∉ a := fun hm => (nameC_facts _ (m 58 hm)).2.1 rfl
      have a47 : (47 : UInt8) ∉ a := fun hm => (nameC_facts _ (m 47 hm)).2.2.1 rfl
      have hcut : Lib.cut (a ++ [58, 47, 47] ++ (h ++ T ++ pa)) [58, 47, 47] = (a, h ++ T ++ pa, true) := by
        rw [List.append_assoc]; exact cut_at' a 58 [47, 47] _ a58
      have hcon : Lib.contains a [47] = false := by
        cases hc : Lib.contains a [47] with
        | false => rfl
        | true => exact absurd ((contains_one a 47).1 hc) a47
      rw [hcut, if_pos ⟨rfl, hcon⟩, ha]
  have e2 : hostS2 (h ++ T ++ pa) = (h ++ T, pa, true) := by
    unfold hostS2
    rcases H.path.1 with rfl | ⟨t, rfl⟩
    · rw [List.append_nil, idxB_no 47 _ n47, if_neg (by decide)]
    · rw [idxB_at (h ++ T) 47 t n47, if_pos (by omega), Int.toNat_natCast, List.take_left, List.drop_left, badP_any, H.path.2]; rfl
  have e3 : hostS3 (h ++ T) = (h, some q) := by
    unfold hostS3
    rcases H.port with ⟨rfl, rfl⟩ | ⟨p, rfl, hp⟩
    · rw [List.append_nil, cut_no 58 h [] n58]; rfl
    · rw [cut_one h 58 p n58]
      simp only [if_true]
      rw [hp]
  unfold hostedS
  rw [e1]
  simp only
  rw [e2]
  simp only
  rw [e3]
  simp only
  unfold hostFin
  simp only
  rw [if_pos ⟨rfl, H.host⟩]
theorem srcP_hosted {P h T pa sc : Bs} {q : Int} (H : HostParts P h T pa sc q) (hne : ¬ (P = [] ∧ h = [42] ∧ T = [] ∧ pa = [])) : srcP (P ++ (h ++ T ++ pa)) = some ⟨3, sc, lowS h, q, pa, []⟩ := by
  obtain ⟨n47, n58⟩ := parts_47 H
  obtain ⟨m1, m2⟩ := hostOK_mem h H.host
  have hfirst : ∃ c r, P ++ (h ++ T ++ pa) = c :: r ∧ c ≠ 39 := by
    rcases H.pre with ⟨rfl, rfl⟩ | ⟨a, rfl, ha, rfl⟩
    · cases h with
      | nil => exact absurd rfl m2
      | cons c r => exact ⟨c, r ++ T ++ pa, rfl, (hostC_facts c (m1 c (by simp))).2.2.2⟩
    · obtain ⟨k1, k2⟩ := scheme_mem a ha
      cases a with
      | nil => exact absurd rfl k2
      | cons c r => exact ⟨c, r ++ [58, 47, 47] ++ (h ++ T ++ pa), rfl, (nameC_facts c (k1 c (by simp))).2.2.2.1⟩
  obtain ⟨c, r, hc, hc39⟩ := hfirst
  have q0 := first_not_quote _ c r hc hc39
  have s42 : P ++ (h ++ T ++ pa) ≠ [42] := by
    intro e
    have el := congrArg List.length e
    rcases H.pre with ⟨rfl, rfl⟩ | ⟨a, rfl, ha, rfl⟩
    · have hl := List.length_pos_iff.2 m2
      simp only [List.nil_append, List.length_append, List.length_cons, List.length_nil] at el
      have t0 : T = [] := List.eq_nil_of_length_eq_zero (by omega)
      have p0 : pa = [] := List.eq_nil_of_length_eq_zero (by omega)
      refine hne ⟨rfl, ?_, t0, p0⟩
      rw [t0, p0] at e
      simpa using e
    · simp only [List.length_append, List.length_cons, List.length_nil] at el
      omega
  have hsch : ¬ schemeB (P ++ (h ++ T ++ pa)) = true := by
    unfold schemeB
    rw [Bool.and_eq_true]
    rintro ⟨h1, h2⟩
    have e := suffix_snoc _ 58 h1
    obtain ⟨S, hS⟩ : ∃ S, (P ++ (h ++ T ++ pa)).take ((P ++ (h ++ T ++ pa)).length - 1) = S := ⟨_, rfl⟩
    rw [hS] at e h2
    have m := (scheme_mem S h2).1
    have no47 : (47 : UInt8) ∉ P ++ (h ++ T ++ pa) := by
      rw [e]
      intro hm
      rcases List.mem_append.1 hm with hm | hm
      · exact (nameC_facts _ (m 47 hm)).2.2.1 rfl
      · simp at hm
    rcases H.pre with ⟨rfl, rfl⟩ | ⟨a, rfl, ha, rfl⟩
    · rcases H.path.1 with rfl | ⟨t, rfl⟩
      · rw [List.nil_append, List.append_nil] at e
        exact parts_colon H S e
      · exact no47 (by simp)
    · exact no47 (by simp)
  unfold srcP
  rw [if_neg s42, if_neg q0, if_neg hsch]
  exact hosted_of H
theorem itoa_port (q : Int) (T : Bs) (h : (T = [] ∧ q = -1) ∨ ∃ p, T = 58 :: p ∧ portS p = some q) : ((portT q = [] ∧ q = -1) ∨ ∃ p, portT q = 58 :: p ∧ portS p = some q) ∧ (portT q = [] → T = []) ∧ q ≤ 65535 := by
  unfold portT
  rcases h with ⟨rfl, rfl⟩ | ⟨p, rfl, hp⟩
  · exact ⟨Or.inl ⟨rfl, rfl⟩, fun _ => rfl, by decide⟩
  · rcases portS_form p q hp with ⟨rfl, rfl⟩ | ⟨_, _, h0, h1⟩
    · exact ⟨Or.inr ⟨[42], rfl, rfl⟩, fun h => (by cases h), by decide⟩
    · rw [if_neg (by omega), if_pos h0]
      exact ⟨Or.inr ⟨_, rfl, (portS_itoa q h0 h1).1⟩, fun h => (by cases h), h1⟩
theorem hostOK_asc (h : Bs) (hh : hostOK h = true) : ascB h := fun c hc => (hostC_facts c ((hostOK_mem h hh).1 c hc)).1
theorem map_one (f : UInt8 → UInt8) (d : UInt8) (hf : ∀ c, f c = d ↔ c = d) (l : Bs) (h : l.map f = [d]) : l = [d] := by
  match l, h with
  | [c], h =>
    simp only [List.map_cons, List.map_nil, List.cons.injEq, and_true] at h
    rw [(hf c).1 h]
set_option maxHeartbeats 1000000 in
theorem back_host (s : Bs) (x : SrcL) (h : hostedS s = some x) (h42 : s ≠ [42]) : BackOK s x := by
  obtain ⟨P, hh, T, pa, sc, q, rfl, H, rfl⟩ := hosted_form s x h
  have hasc := hostOK_asc hh H.host
  have hlow := lowS_ascii hh hasc
  have k := fun d (hd : signB d = true) => low_keeps d hd
  obtain ⟨t1, t2, t3⟩ := itoa_port q T H.port
  refine ⟨?_, (by decide : (0 : Int) ≤ 3), (by decide : (3 : Int) ≤ 7), t3, ⟨3, sc, lowS hh, q, pa.map upB, []⟩, ?_, rfl, fun h0 _ _ => ?_⟩
  · -- written, and parsed
    have hok2 : hostOK (lowS hh) = true := by rw [hlow, hostOK_map lowB (k 42 (by decide)) (k 46 (by decide)) word_lw]; exact H.host
    have hll : lowS (lowS hh) = lowS hh := by rw [hlow, lowS_map hh hasc]
    have H2 : HostParts (if sc = [] then [] else sc ++ [58, 47, 47]) (lowS hh) (portT q) pa sc q := by
      refine ⟨?_, hok2, t1, H.path⟩
      rcases H.pre with ⟨_, h2⟩ | ⟨a, _, ha, h2⟩
      · rw [if_pos h2]; exact Or.inl ⟨rfl, h2⟩
      · have haa := scheme_asc a ha
        have hs : schemeP sc = true := by rw [h2, lowS_ascii a haa, scheme_lw]; exact ha
        have hsl : lowS sc = sc := by rw [h2, lowS_ascii a haa, lowS_map a haa]
        rw [if_neg (scheme_mem sc hs).2]
        exact Or.inr ⟨sc, rfl, hs, hsl.symm⟩
    have hne : ¬ ((if sc = [] then [] else sc ++ [58, 47, 47]) = [] ∧ lowS hh = [42] ∧ portT q = [] ∧ pa = []) := by
      rintro ⟨n1, n2, n3, n4⟩
      apply h42
      have hT := t2 n3
      have hP : P = [] := by
        rcases H.pre with ⟨h1, _⟩ | ⟨a, _, ha, h2⟩
        · exact h1
        · exfalso
          have haa := scheme_asc a ha
          have hs : schemeP sc = true := by rw [h2, lowS_ascii a haa, scheme_lw]; exact ha
          rw [if_neg (scheme_mem sc hs).2] at n1
          have := congrArg List.length n1
          simp at this
      have hhh : hh = [42] := by
        rw [hlow] at n2
        exact map_one lowB 42 (k 42 (by decide)) hh n2
      rw [hP, hhh, hT, n4]
      rfl
    have e := srcP_hosted H2 hne
    rw [hll] at e
    have et : textP ⟨3, sc, lowS hh, q, pa, []⟩ = (if sc = [] then [] else sc ++ [58, 47, 47]) ++ (lowS hh ++ portT q ++ pa) := by
      show (if sc = [] then lowS hh else sc ++ [58, 47, 47] ++ lowS hh) ++ portT q ++ pa = _
      by_cases h0 : sc = []
      · rw [if_pos h0, if_pos h0]; rfl
      · rw [if_neg h0, if_neg h0]; simp
    rw [et]
    exact e
  · -- in large letters
    have u := fun d (hd : signB d = true) => up_keeps d hd
    have hT : T.map upB = T := by
      rcases H.port with ⟨rfl, _⟩ | ⟨p, rfl, hp⟩
      · rfl
      · rw [List.map_cons, (u 58 (by decide) 58).2 rfl, portS_map upB (by decide) (fun c hc => (digit_fix c hc).1) p q hp]
    have H3 : HostParts (P.map upB) (hh.map upB) T (pa.map upB) sc q := by
      refine ⟨?_, by rw [hostOK_map upB (u 42 (by decide)) (u 46 (by decide)) word_up]; exact H.host, H.port, ?_, ?_⟩
      · rcases H.pre with ⟨rfl, h2⟩ | ⟨a, rfl, ha, h2⟩
        · exact Or.inl ⟨rfl, h2⟩
        · refine Or.inr ⟨a.map upB, by rw [List.map_append]; rfl, by rw [scheme_up]; exact ha, ?_⟩
          rw [h2, lowS_up a (scheme_asc a ha)]
      · rcases H.path.1 with rfl | ⟨t, rfl⟩
        · exact Or.inl rfl
        · exact Or.inr ⟨t.map upB, by rw [List.map_cons, (u 47 (by decide) 47).2 rfl]⟩
      · rw [List.any_map, ← H.path.2]
        congr 1
        funext c
        exact bad_up c
    have hne : ¬ (P.map upB = [] ∧ hh.map upB = [42] ∧ T = [] ∧ pa.map upB = []) := by
      rintro ⟨n1, n2, n3, n4⟩
      apply h42
      have hhh : hh = [42] := map_one upB 42 (u 42 (by decide)) hh n2
      rw [List.map_eq_nil_iff.1 n1, hhh, n3, List.map_eq_nil_iff.1 n4]
      rfl
    have e := srcP_hosted H3 hne
    rw [lowS_up hh hasc] at e
    have em : (P ++ (hh ++ T ++ pa)).map upB = P.map upB ++ (hh.map upB ++ T ++ pa.map upB) := by
      rw [List.map_append, List.map_append, List.map_append, hT]
    rw [em]
    exact e
  · simp only at h0
    rw [h0]
    rfl
theorem back_law (s : Bs) (x : SrcL) (h : srcP s = some x) : BackOK s x := by
  unfold srcP at h
  split at h
  · rename_i h1
    cases h
    rw [h1]
    exact ⟨rfl, by decide, by decide, by decide, ⟨1, [], [], -1, [], []⟩, rfl, rfl, fun _ _ _ => rfl⟩
  · rename_i h1
    split at h
    · rename_i h2
      obtain ⟨t, rfl⟩ := quoteB_form s h2
      refine back_quote t x ?_
      rw [← srcP_quote]
      unfold srcP
      rw [if_neg h1, if_pos h2]
      exact h
    · split at h
      · rename_i h3
        cases h
        unfold schemeB at h3
        rw [Bool.and_eq_true] at h3
        have e := suffix_snoc s 58 h3.1
        have := back_scheme _ h3.2
        rw [← e] at this
        exact this
      · exact back_host s x h h1
end Go.Proofs.YtmgkmpbblhkacaaGreatDoor
