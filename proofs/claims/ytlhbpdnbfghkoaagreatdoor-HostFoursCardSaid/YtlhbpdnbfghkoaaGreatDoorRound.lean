/- Round trips of numbers and addresses, with no program in sight. -/
import Derived.Test.YtlhbpdnbfghkoaaGreatDoorParse
namespace Go.Proofs.YtlhbpdnbfghkoaaGreatDoor
open Go.RowKit
set_option linter.unusedSimpArgs false
set_option linter.unusedVariables false

theorem joinB_one (c : UInt8) (p : Bs) : joinB c [p] = p := by simp [joinB, List.intercalate]
theorem joinB_cons (c : UInt8) (p q : Bs) (r : List Bs) : joinB c (p :: q :: r) = p ++ c :: joinB c (q :: r) := by simp [joinB, List.intercalate, List.intersperse]
theorem split1_only (c : UInt8) (p : Bs) (h : c ∉ p) : split1 c p = [p] := by
  induction p with
  | nil => rfl
  | cons x r ih =>
    rw [List.mem_cons, not_or] at h
    unfold split1
    rw [if_neg (fun hx => h.1 hx.symm), ih h.2]
theorem split1_pref (c : UInt8) (p t : Bs) (h : c ∉ p) : split1 c (p ++ c :: t) = p :: split1 c t := by
  induction p with
  | nil => rw [List.nil_append, split1, if_pos rfl]
  | cons x r ih =>
    rw [List.mem_cons, not_or] at h
    rw [List.cons_append, split1, if_neg (fun hx => h.1 hx.symm), ih h.2]
theorem split1_join (c : UInt8) (ps : List Bs) (hne : ps ≠ []) (h : ∀ p ∈ ps, c ∉ p) : split1 c (joinB c ps) = ps := by
  induction ps with
  | nil => exact absurd rfl hne
  | cons p r ih =>
    cases r with
    | nil => rw [joinB_one, split1_only c p (h p (by simp))]
    | cons q r => rw [joinB_cons, split1_pref c p _ (h p (by simp)), ih (by simp) (fun x hx => h x (by simp [hx]))]

theorem idx_app (p : Bs) (hp : (58 : UInt8) ∉ p) (t : Bs) : Lib.index (p ++ t) [58, 58] = if Lib.index t [58, 58] = -1 then -1 else p.length + Lib.index t [58, 58] := by
  induction p with
  | nil => simp
  | cons x r ih =>
    rw [List.mem_cons, not_or] at hp
    have hpre : ([58, 58] : Bs).isPrefixOf (x :: (r ++ t)) = false := by
      have : ((58 : UInt8) == x) = false := beq_eq_false_iff_ne.2 hp.1
      simp [List.isPrefixOf, this]
    have hge := Lib.index_ge t [58, 58]
    rw [List.cons_append, Lib.index, hpre, ih hp.2]
    by_cases h1 : Lib.index t [58, 58] = -1
    · rw [if_pos h1, if_pos h1]; rfl
    · rw [if_neg h1, if_neg h1]
      have : ((r.length : Int) + Lib.index t [58, 58] == -1) = false := beq_eq_false_iff_ne.2 (by omega)
      simp only [this, Bool.false_eq_true, if_false, List.length_cons]
      omega
theorem idx_colon (x : UInt8) (hx : x ≠ 58) (t : Bs) : Lib.index (58 :: x :: t) [58, 58] = if Lib.index (x :: t) [58, 58] = -1 then -1 else Lib.index (x :: t) [58, 58] + 1 := by
  have hpre : ([58, 58] : Bs).isPrefixOf (58 :: x :: t) = false := by
    have : ((58 : UInt8) == x) = false := beq_eq_false_iff_ne.2 hx.symm
    simp [List.isPrefixOf, this]
  rw [Lib.index, hpre]
  simp only [Bool.false_eq_true, if_false, beq_iff_eq]
theorem idx_two (t : Bs) : Lib.index (58 :: 58 :: t) [58, 58] = 0 := by
  rw [Lib.index]; simp [List.isPrefixOf]

/-- Pieces that are not empty and hold no colon. -/
def Good (ps : List Bs) : Prop := ∀ p ∈ ps, p ≠ [] ∧ (58 : UInt8) ∉ p
theorem join_head (ps : List Bs) (h : Good ps) (hne : ps ≠ []) : ∃ x t, joinB 58 ps = x :: t ∧ x ≠ 58 := by
  cases ps with
  | nil => exact absurd rfl hne
  | cons p r =>
    obtain ⟨h1, h2⟩ := h p (by simp)
    cases p with
    | nil => exact absurd rfl h1
    | cons x q =>
      rw [List.mem_cons, not_or] at h2
      cases r with
      | nil => exact ⟨x, q, by rw [joinB_one], fun hx => h2.1 hx.symm⟩
      | cons a b => exact ⟨x, _, by rw [joinB_cons, List.cons_append], fun hx => h2.1 hx.symm⟩
theorem join_idx (ps : List Bs) (h : Good ps) (t : Bs) (ht : t = [] ∨ ∃ r, t = 58 :: 58 :: r) : Lib.index (joinB 58 ps ++ t) [58, 58] = if t = [] then (-1 : Int) else ((joinB 58 ps).length : Int) := by
  induction ps with
  | nil =>
    have e : joinB 58 [] = [] := rfl
    rw [e]
    rcases ht with rfl | ⟨r, rfl⟩
    · rfl
    · rw [List.nil_append, idx_two]; simp
  | cons p r ih =>
    obtain ⟨h1, h2⟩ := h p (by simp)
    cases r with
    | nil =>
      rw [joinB_one, idx_app p h2]
      rcases ht with rfl | ⟨r, rfl⟩
      · rfl
      · rw [idx_two]; simp
    | cons q r =>
      have hg : Good (q :: r) := fun x hx => h x (by simp [hx])
      have ih := ih hg
      obtain ⟨x, tl, he, hx⟩ := join_head (q :: r) hg (by simp)
      rw [joinB_cons, List.append_assoc, idx_app p h2, List.cons_append]
      rw [he, List.cons_append] at ih ⊢
      rw [idx_colon x hx, ih]
      rcases ht with rfl | ⟨r, rfl⟩
      · rfl
      · simp only [reduceCtorEq, if_false]
        rw [if_neg (by omega)]
        simp
theorem cut_none (ps : List Bs) (h : Good ps) : Lib.cut (joinB 58 ps) [58, 58] = (joinB 58 ps, [], false) := by
  have := join_idx ps h [] (Or.inl rfl)
  rw [List.append_nil, if_pos rfl] at this
  unfold Lib.cut
  rw [this]
  rfl
theorem cut_at (ps : List Bs) (h : Good ps) (r : Bs) : Lib.cut (joinB 58 ps ++ [58, 58] ++ r) [58, 58] = (joinB 58 ps, r, true) := by
  have := join_idx ps h (58 :: 58 :: r) (Or.inr ⟨r, rfl⟩)
  rw [if_neg (by simp)] at this
  rw [List.append_assoc]
  show Lib.cut (joinB 58 ps ++ 58 :: 58 :: r) [58, 58] = _
  unfold Lib.cut
  rw [this, if_pos (by omega)]
  simp

theorem pu_append (b M : Nat) (l r : Bs) : ∀ acc, pu b M acc (l ++ r) = (pu b M acc l).bind (fun a => pu b M a r) := by
  induction l with
  | nil => intro acc; rfl
  | cons c l ih =>
    intro acc
    rw [List.cons_append, pu, pu]
    split
    · exact ih _
    · rfl
theorem hexd_ok (k : Nat) (h : k < 16) : dig (hexd k) = k ∧ hexa.contains (hexd k) = true ∧ hexd k ≠ 58 ∧ hexd k ≠ 46 := by
  have : ∀ k : Fin 16, dig (hexd k.val) = k.val ∧ hexa.contains (hexd k.val) = true ∧ hexd k.val ≠ 58 ∧ hexd k.val ≠ 46 := by decide
  exact this ⟨k, h⟩
theorem hex_all (P : UInt8 → Prop) (hP : ∀ k, k < 16 → P (hexd k)) (n : Nat) : ∀ c ∈ hexDigits n, P c := by
  induction n using Nat.strongRecOn with
  | _ n ih =>
    intro c hc
    rw [hexDigits] at hc
    split at hc
    · rename_i h; simp at hc; subst hc; exact hP _ h
    · rcases List.mem_append.1 hc with hc | hc
      · exact ih (n / 16) (by omega) c hc
      · simp at hc; subst hc; exact hP _ (by omega)
theorem hex_ne (n : Nat) : hexDigits n ≠ [] := by
  rw [hexDigits]; split <;> simp
theorem pu_hex (M n : Nat) (hn : n ≤ M) : pu 16 M 0 (hexDigits n) = some n := by
  induction n using Nat.strongRecOn with
  | _ n ih =>
    rw [hexDigits]
    split
    · rename_i h
      rw [pu, if_pos (by rw [(hexd_ok n h).1]; omega), pu, (hexd_ok n h).1]
      simp
    · rename_i h
      rw [pu_append, ih (n / 16) (by omega) (by omega)]
      have hk := (hexd_ok (n % 16) (by omega)).1
      simp only [Option.bind_some]
      rw [pu, if_pos (by rw [hk]; omega), pu, hk]
      congr 1
      omega
theorem hex16_hex (n : Nat) (h : n < 65536) : hex16 (hexDigits n) = some n := by
  have h1 : parseU 16 65535 (hexDigits n) = some n := by
    unfold parseU; rw [if_neg (hex_ne n)]; exact pu_hex _ _ (by omega)
  unfold hex16
  rw [h1]
  simp only
  rw [if_neg]
  have h2 := hexDigits_len n h
  have h3 : onlyB (hexDigits n) hexa = true := by
    unfold onlyB
    rw [List.all_eq_true]
    exact hex_all _ (fun k hk => (hexd_ok k hk).2.1) n
  rw [h3]
  intro hh
  rcases hh with hh | hh
  · omega
  · cases hh
theorem indexByte_no (c : UInt8) (l : Bs) (h : c ∉ l) : Lib.indexByte l c = -1 := by
  induction l with
  | nil => rfl
  | cons x r ih =>
    rw [List.mem_cons, not_or] at h
    rw [Lib.indexByte, if_neg (by simp; exact fun hx => h.1 hx.symm), ih h.2]
    rfl
theorem contains_no (c : UInt8) (l : Bs) (h : c ∉ l) : Lib.contains l [c] = false := by
  unfold Lib.contains
  rw [Lib.index_one, indexByte_no c l h]
  rfl
theorem pcs_hex (e : Bool) (L : List Nat) (h : ∀ x ∈ L, x < 65536) : pcs e (L.map hexDigits) = some L := by
  induction L with
  | nil => rfl
  | cons x r ih =>
    rw [List.map_cons, pcs, if_neg, hex16_hex x (h x (by simp)), ih (fun y hy => h y (by simp [hy]))]
    rintro ⟨_, _, h3⟩
    rw [contains_no 46 _ (fun hm => (hex_all (fun c => c ≠ 46) (fun k hk => (hexd_ok k hk).2.2.2) x 46 hm) rfl)] at h3
    cases h3
theorem good_hex (L : List Nat) : Good (L.map hexDigits) := by
  intro p hp
  obtain ⟨x, _, rfl⟩ := List.mem_map.1 hp
  exact ⟨hex_ne x, fun hm => (hex_all (fun c => c ≠ 58) (fun k hk => (hexd_ok k hk).2.2.1) x 58 hm) rfl⟩
theorem pieces_hex (e : Bool) (L : List Nat) (h : ∀ x ∈ L, x < 65536) : piecesP e (joinB 58 (L.map hexDigits)) = some L := by
  cases L with
  | nil => rfl
  | cons x r =>
    obtain ⟨y, t, he, _⟩ := join_head ((x :: r).map hexDigits) (good_hex _) (by simp)
    unfold piecesP
    rw [if_neg (by rw [he]; simp), split1_join 58 _ (by simp) (fun p hp => (good_hex _ p hp).2), pcs_hex e _ h]
theorem zrun_rep (l : List Nat) : l.take (zrun l) = List.replicate (zrun l) 0 := by
  induction l with
  | nil => rfl
  | cons x r ih =>
    unfold zrun
    split
    · rename_i h; subst h; rw [List.take_succ_cons, ih, List.replicate_succ]
    · rfl
theorem rowTo_spec (l : List Nat) (i : Nat) (hi : i ≤ l.length) : (rowTo l i = (0, 0)) ∨ ((rowTo l i).1 + 2 ≤ (rowTo l i).2 ∧ (rowTo l i).2 ≤ l.length ∧ (l.drop (rowTo l i).1).take ((rowTo l i).2 - (rowTo l i).1) = List.replicate ((rowTo l i).2 - (rowTo l i).1) 0) := by
  induction i with
  | zero => exact Or.inl rfl
  | succ i ih =>
    unfold rowTo
    split
    · rename_i h
      have h2 := zrun_le (l.drop i)
      rw [List.length_drop] at h2
      refine Or.inr ⟨by simp only; omega, by simp only; omega, ?_⟩
      simp only
      rw [Nat.add_sub_cancel_left]
      exact zrun_rep _
    · exact ih (by omega)
theorem ip6_text6 (L : List Nat) (hl : L.length = 8) (hx : ∀ x ∈ L, x < 65536) : ip6 (text6 L) = some L := by
  unfold text6
  split
  · unfold ip6
    rw [cut_none _ (good_hex L)]
    simp only [Bool.not_false]
    rw [pieces_hex true L hx]
    simp [piecesP, hl]
  · rename_i h0
    rcases rowTo_spec L 8 (by omega) with h | ⟨h1, h2, h3⟩
    · rw [h] at h0; exact absurd rfl h0
    · generalize (rowTo L 8).1 = f at *
      generalize (rowTo L 8).2 = t at *
      unfold ip6
      rw [cut_at _ (good_hex _)]
      simp only [Bool.not_true]
      rw [pieces_hex false _ (fun x h => hx x (List.mem_of_mem_take h)), pieces_hex true _ (fun x h => hx x (List.mem_of_mem_drop h))]
      simp only [if_true, List.length_take, List.length_drop]
      rw [if_pos (by omega)]
      have e : L = L.take f ++ ((L.drop f).take (t - f) ++ L.drop t) := by
        have e1 : (L.drop f).drop (t - f) = L.drop t := by rw [List.drop_drop]; congr 1; omega
        rw [← e1, List.take_append_drop, List.take_append_drop]
      have e2 : 8 - (min f L.length + (L.length - t)) = t - f := by omega
      rw [e2]
      conv => rhs; rw [e, h3]
      rw [List.append_assoc]
theorem numP_dec (k : Nat) (h : k < 256) : numP (dec8 k) = some k ∧ (46 : UInt8) ∉ dec8 k ∧ dec8 k ≠ [] := by
  have : ∀ k : Fin 256, numP (dec8 k.val) = some k.val ∧ (46 : UInt8) ∉ dec8 k.val ∧ dec8 k.val ≠ [] := by decide +kernel
  exact this ⟨k, h⟩
theorem ip4_text4 (n : Nat) (h : n < 4294967296) : ip4 (text4 n) = (n, true, 0) := by
  obtain ⟨a1, a2, a3⟩ := numP_dec (n / 16777216 % 256) (by omega)
  obtain ⟨b1, b2, b3⟩ := numP_dec (n / 65536 % 256) (by omega)
  obtain ⟨c1, c2, c3⟩ := numP_dec (n / 256 % 256) (by omega)
  obtain ⟨d1, d2, d3⟩ := numP_dec (n % 256) (by omega)
  have hs : split1 46 (text4 n) = parts4 n := by
    unfold text4
    refine split1_join 46 _ (by simp [parts4]) ?_
    intro p hp
    simp [parts4] at hp
    rcases hp with rfl | rfl | rfl | rfl <;> assumption
  have hp : ip4parts (text4 n) = parts4 n := by
    unfold ip4parts
    rw [hs]
    simp only
    rw [if_neg]
    rintro ⟨_, h2⟩
    exact d3 h2
  rw [ip4_eq (text4 n) (parts4 n) 4 hp rfl]
  have hlast : (parts4 n).getLastD [] = dec8 (n % 256) := rfl
  rw [hlast, d1, if_neg (by simp), if_neg (by decide)]
  have hloop : ip4loop 4 0 0 (parts4 n) = some n := by
    unfold parts4
    rw [ip4loop_step _ _ _ _ _ _ a1 (by simp; omega), ip4loop_step _ _ _ _ _ _ b1 (by simp; omega), ip4loop_step _ _ _ _ _ _ c1 (by simp; omega), ip4loop_step _ _ _ _ _ _ d1 (by simp; omega)]
    simp only [ip4loop]
    congr 1
    simp
    omega
  rw [hloop]

/-- A byte that may stand in a host. -/
def okc (c : UInt8) : Bool := decide (33 ≤ c.toNat) && decide (c.toNat ≤ 126) && !(decide (65 ≤ c.toNat) && decide (c.toNat ≤ 90)) && decide (c ≠ 47) && decide (c ≠ 63) && decide (c ≠ 35) && decide (c ≠ 64) && decide (c ≠ 37)
theorem okc_low (c : UInt8) (h : forbB c = false) : okc (lowB c) = true ∧ forbB (lowB c) = false ∧ lowB (lowB c) = lowB c := by
  have : ∀ n : Fin 256, forbB (UInt8.ofNat n.val) = false → okc (lowB (UInt8.ofNat n.val)) = true ∧ forbB (lowB (UInt8.ofNat n.val)) = false ∧ lowB (lowB (UInt8.ofNat n.val)) = lowB (UInt8.ofNat n.val) := by decide +kernel
  have h2 := this ⟨c.toNat, c.toNat_lt⟩
  simp only [UInt8.ofNat_toNat] at h2
  exact h2 h
theorem pdec_no (l : Bs) (h : (37 : UInt8) ∉ l) : pdec l = l := by
  induction l with
  | nil => rfl
  | cons c r ih =>
    rw [List.mem_cons, not_or] at h
    rw [pdec_step _ _ (fun hh => h.1 hh.1.symm), ih h.2]
theorem hex_okc (n : Nat) : ∀ c ∈ hexDigits n, okc c = true :=
  hex_all _ (fun k hk => by
    have : ∀ k : Fin 16, okc (hexd k.val) = true := by decide
    exact this ⟨k, hk⟩) n
theorem join_all (P : UInt8 → Prop) (c : UInt8) (hc : P c) (ps : List Bs) (h : ∀ p ∈ ps, ∀ x ∈ p, P x) : ∀ x ∈ joinB c ps, P x := by
  induction ps with
  | nil => intro x hx; simp [joinB, List.intercalate] at hx
  | cons p r ih =>
    cases r with
    | nil => rw [joinB_one]; exact h p (by simp)
    | cons q r =>
      rw [joinB_cons]
      intro x hx
      rcases List.mem_append.1 hx with hx | hx
      · exact h p (by simp) x hx
      · rcases List.mem_cons.1 hx with rfl | hx
        · exact hc
        · exact ih (fun p hp => h p (by simp [hp])) x hx
theorem text6_okc (L : List Nat) : ∀ c ∈ text6 L, okc c = true := by
  have hj : ∀ M : List Nat, ∀ c ∈ joinB 58 (M.map hexDigits), okc c = true := fun M =>
    join_all (fun c => okc c = true) 58 (by decide) _ (fun p hp => by obtain ⟨x, _, rfl⟩ := List.mem_map.1 hp; exact hex_okc x)
  unfold text6
  split
  · exact hj L
  · intro c hc
    rcases List.mem_append.1 hc with hc | hc
    · rcases List.mem_append.1 hc with hc | hc
      · exact hj _ c hc
      · simp at hc; subst hc; decide
    · exact hj _ c hc
theorem dec8_okc (k : Nat) (h : k < 256) : ∀ c ∈ dec8 k, okc c = true ∧ forbB c = false ∧ lowB c = c ∧ c ≠ 37 ∧ c ≠ 91 := by
  have : ∀ k : Fin 256, ∀ c ∈ dec8 k.val, okc c = true ∧ forbB c = false ∧ lowB c = c ∧ c ≠ 37 ∧ c ≠ 91 := by decide +kernel
  exact this ⟨k, h⟩
theorem text4_okc (n : Nat) : ∀ c ∈ text4 n, okc c = true ∧ forbB c = false ∧ lowB c = c ∧ c ≠ 37 ∧ c ≠ 91 := by
  refine join_all _ 46 (by decide) _ (fun p hp => ?_)
  simp [parts4] at hp
  rcases hp with rfl | rfl | rfl | rfl <;> exact dec8_okc _ (by omega)
theorem text4_ne (n : Nat) : text4 n ≠ [] := by
  unfold text4 parts4
  rw [joinB_cons]
  simp
theorem hasSuffix_snoc (l : Bs) (c : UInt8) : Lib.hasSuffix (l ++ [c]) [c] = true ∧ Lib.trimSuffix (l ++ [c]) [c] = l := by
  have h : Lib.hasSuffix (l ++ [c]) [c] = true := by
    unfold Lib.hasSuffix
    rw [List.isSuffixOf_iff_suffix]
    exact List.suffix_append _ _
  refine ⟨h, ?_⟩
  unfold Lib.trimSuffix
  rw [if_pos h]
  simp
theorem trimPrefix_cons (c : UInt8) (l : Bs) : ([c] : Bs).isPrefixOf (c :: l) = true ∧ Lib.trimPrefix (c :: l) [c] = l := by
  have h : ([c] : Bs).isPrefixOf (c :: l) = true := by simp [List.isPrefixOf]
  refine ⟨h, ?_⟩
  unfold Lib.trimPrefix Lib.hasPrefix
  rw [if_pos h]
  simp
theorem parse_text6 (L : List Nat) (hl : L.length = 8) (hx : ∀ x ∈ L, x < 65536) : parseP (91 :: (text6 L ++ [93])) = some (91 :: (text6 L ++ [93])) := by
  unfold parseP
  rw [if_pos (trimPrefix_cons 91 _).1, (trimPrefix_cons 91 _).2, if_pos (hasSuffix_snoc _ 93).1, (hasSuffix_snoc _ 93).2, ip6_text6 L hl hx]
theorem head_no (l : Bs) (h : ∀ c ∈ l, c ≠ 91) : ¬ ([91] : Bs).isPrefixOf l = true := by
  cases l with
  | nil => simp [List.isPrefixOf]
  | cons c r =>
    have := h c (by simp)
    simp [List.isPrefixOf]
    exact fun h => this h.symm
theorem map_low (l : Bs) (h : ∀ c ∈ l, lowB c = c) : l.map lowB = l := by
  conv => rhs; rw [← List.map_id l]
  exact List.map_congr_left h
theorem any_forb (l : Bs) (h : ∀ c ∈ l, forbB c = false) : ¬ l.any forbB = true := by
  rw [List.any_eq_true]
  rintro ⟨c, hc, h2⟩
  rw [h c hc] at h2; cases h2
/-- What stands as it is. -/
theorem parse_plain (l : Bs) (hne : l ≠ []) (h : ∀ c ∈ l, forbB c = false ∧ lowB c = c ∧ c ≠ 37 ∧ c ≠ 91) :
    parseP l = if (ip4 l).2.2 ≠ 0 then none else if (ip4 l).2.1 = true then some (text4 (ip4 l).1) else some l := by
  unfold parseP
  rw [if_neg (head_no l (fun c hc => (h c hc).2.2.2)), pdec_no l (fun hm => (h 37 hm).2.2.1 rfl), if_neg hne, if_neg (any_forb l (fun c hc => (h c hc).1)), map_low l (fun c hc => (h c hc).2.1)]
theorem parse_text4 (n : Nat) (h : n < 4294967296) : parseP (text4 n) = some (text4 n) := by
  rw [parse_plain _ (text4_ne n) (fun c hc => (text4_okc n c hc).2), ip4_text4 n h, if_neg (by simp), if_pos rfl]
theorem forb_91 (c : UInt8) (h : forbB c = false) : c ≠ 91 ∧ c ≠ 37 := by
  constructor <;> rintro rfl <;> revert h <;> decide
/-- HostOnce, plain: what is written so is parsed as it is. -/
theorem once_plain (s a : Bs) (h : parseP s = some a) : a ≠ [] ∧ (∀ c ∈ a, okc c = true) ∧ parseP a = some a := by
  unfold parseP at h
  split at h
  · rw [Option.ite_none_right_eq_some] at h
    obtain ⟨_, h⟩ := h
    split at h
    · rename_i L hL
      cases h
      obtain ⟨h8, hx⟩ := ip6_ok _ _ hL
      refine ⟨by simp, ?_, parse_text6 L h8 hx⟩
      intro c hc
      rcases List.mem_cons.1 hc with rfl | hc
      · decide
      · rcases List.mem_append.1 hc with hc | hc
        · exact text6_okc L c hc
        · simp at hc; subst hc; decide
    · cases h
  · rw [Option.ite_none_left_eq_some] at h
    obtain ⟨hne, h⟩ := h
    rw [Option.ite_none_left_eq_some] at h
    obtain ⟨hfb, h⟩ := h
    rw [Option.ite_none_left_eq_some] at h
    obtain ⟨he, h⟩ := h
    generalize hm : (pdec s).map lowB = m at *
    have hfa : ∀ c ∈ pdec s, forbB c = false := by
      intro c hc
      cases hf : forbB c with
      | false => rfl
      | true => exact absurd (List.any_eq_true.2 ⟨c, hc, hf⟩) hfb
    have hall : ∀ c ∈ m, okc c = true ∧ forbB c = false ∧ lowB c = c := by
      intro c hc
      rw [← hm] at hc
      obtain ⟨d, hd, rfl⟩ := List.mem_map.1 hc
      exact okc_low d (hfa d hd)
    have hmne : m ≠ [] := by
      rw [← hm]; simpa using hne
    split at h
    · rename_i his
      cases h
      exact ⟨text4_ne _, fun c hc => (text4_okc _ c hc).1, parse_text4 _ (ip4_lt m)⟩
    · rename_i his
      cases h
      refine ⟨hmne, fun c hc => (hall c hc).1, ?_⟩
      rw [parse_plain _ hmne (fun c hc => ⟨(hall c hc).2.1, (hall c hc).2.2, (forb_91 c (hall c hc).2.1).2, (forb_91 c (hall c hc).2.1).1⟩), if_neg he, if_neg his]
end Go.Proofs.YtlhbpdnbfghkoaaGreatDoor
