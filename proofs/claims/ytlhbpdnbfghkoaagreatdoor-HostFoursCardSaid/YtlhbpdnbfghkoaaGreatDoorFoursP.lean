/- HostFours, plain: an address of four bytes, written in many ways. -/
import Derived.Test.YtlhbpdnbfghkoaaGreatDoorOnceP
import Derived.Test.YtlhbpdnbfghkoaaGreatDoorBased
namespace Go.Proofs.YtlhbpdnbfghkoaaGreatDoor
open Go.RowKit
set_option linter.unusedSimpArgs false
set_option linter.unusedVariables false

theorem digs_ind (P : UInt8 → Prop) (b : Nat) (hb : 2 ≤ b) (hP : ∀ k, k < b → P (hexd k)) (n : Nat) : ∀ c ∈ digs b n, P c := by
  induction n using Nat.strongRecOn with
  | _ n ih =>
    by_cases h : n < b
    · rw [digs_lt _ _ h]; intro c hc; simp at hc; subst hc; exact hP n h
    · rw [digs_ge _ _ hb h]
      intro c hc
      rcases List.mem_append.1 hc with hc | hc
      · exact ih _ (Nat.div_lt_self (by omega) (by omega)) c hc
      · simp at hc; subst hc; exact hP _ (Nat.mod_lt _ (by omega))
theorem digs_ne (b n : Nat) (hb : 2 ≤ b) : digs b n ≠ [] := by
  by_cases h : n < b
  · rw [digs_lt _ _ h]; simp
  · rw [digs_ge _ _ hb h]; simp
theorem digs_len (b : Nat) (hb : 2 ≤ b) (n : Nat) : ∀ k, 1 ≤ k → n < 2 ^ k → (digs b n).length ≤ k := by
  induction n using Nat.strongRecOn with
  | _ n ih =>
    intro k h1 hk
    by_cases h : n < b
    · rw [digs_lt _ _ h]; exact h1
    · rw [digs_ge _ _ hb h, List.length_append]
      obtain ⟨j, rfl⟩ : ∃ j, k = j + 1 := ⟨k - 1, by omega⟩
      have h2 : n / b ≤ n / 2 := Nat.div_le_div_left hb (by omega)
      have h3 : n / b < 2 ^ j := by rw [Nat.pow_succ] at hk; omega
      have hj : 1 ≤ j := by
        refine Classical.byContradiction fun h4 => ?_
        obtain rfl : j = 0 := by omega
        have : n / b = 0 := by omega
        have h5 := Nat.div_pos (show b ≤ n by omega) (show 0 < b by omega)
        omega
      have := ih (n / b) (Nat.div_lt_self (by omega) (by omega)) j hj h3
      simp
      omega
theorem pu_digs (b M : Nat) (hb : 2 ≤ b) (hd : ∀ k, k < b → dig (hexd k) = k) (n : Nat) (hn : n ≤ M) : pu b M 0 (digs b n) = some n := by
  induction n using Nat.strongRecOn with
  | _ n ih =>
    by_cases h : n < b
    · rw [digs_lt _ _ h, pu, if_pos (by rw [hd n h]; omega), pu, hd n h]; simp
    · have hdm := Nat.div_add_mod n b
      have hm : n % b < b := Nat.mod_lt _ (by omega)
      have hlt : n / b < n := Nat.div_lt_self (by omega) (by omega)
      rw [digs_ge _ _ hb h, pu_append, ih (n / b) hlt (by omega)]
      simp only [Option.bind_some]
      have e : n / b * b + n % b = n := by rw [Nat.mul_comm]; exact hdm
      rw [pu, if_pos (by rw [hd _ hm]; omega), pu, hd _ hm, e]
theorem digs_head (b : Nat) (hb : 2 ≤ b) (hd : ∀ k, k < b → k ≠ 0 → hexd k ≠ 48) (n : Nat) (h0 : n ≠ 0) : ∃ x r, digs b n = x :: r ∧ x ≠ 48 := by
  induction n using Nat.strongRecOn with
  | _ n ih =>
    by_cases h : n < b
    · exact ⟨hexd n, [], digs_lt _ _ h, hd n h h0⟩
    · obtain ⟨x, r, e, hx⟩ := ih (n / b) (Nat.div_lt_self (by omega) (by omega)) (by have := Nat.div_pos (show b ≤ n by omega) (show 0 < b by omega); omega)
      exact ⟨x, r ++ [hexd (n % b)], by rw [digs_ge _ _ hb h, e]; rfl, hx⟩
theorem hexd_dig (k : Nat) (h : k < 16) : dig (hexd k) = k ∧ (k ≠ 0 → hexd k ≠ 48) := by
  have : ∀ k : Fin 16, dig (hexd k.val) = k.val ∧ (k.val ≠ 0 → hexd k.val ≠ 48) := by decide
  exact this ⟨k, h⟩
theorem numB_digs (b : Nat) (set : Bs) (hb : 2 ≤ b) (hb16 : b ≤ 16) (hs : ∀ k, k < b → set.contains (hexd k) = true) (n : Nat) (hn : n ≤ 1099511627775) : numB b set (digs b n) = some n := by
  have ho : onlyB (digs b n) set = true := by
    unfold onlyB
    rw [List.all_eq_true]
    exact digs_ind (fun c => set.contains c = true) b hb hs n
  unfold numB
  rw [if_pos ho]
  by_cases h0 : n = 0
  · subst h0
    rw [digs_lt _ _ (by omega), if_pos (by decide)]
  · obtain ⟨x, r, e, hx⟩ := digs_head b hb (fun k hk => (hexd_dig k (by omega)).2) n h0
    have hdw : (digs b n).dropWhile (· == 48) = digs b n := by
      rw [e, List.dropWhile_cons, if_neg]
      simpa using hx
    rw [hdw, if_neg (digs_ne b n hb)]
    unfold parseU
    rw [if_neg (digs_ne b n hb), pu_digs b _ hb (fun k hk => (hexd_dig k (by omega)).1) n hn]
    rfl
theorem set10 (k : Nat) (h : k < 10) : decimal.contains (hexd k) = true := by
  have : ∀ k : Fin 10, decimal.contains (hexd k.val) = true := by decide
  exact this ⟨k, h⟩
theorem set8 (k : Nat) (h : k < 8) : octal.contains (hexd k) = true := by
  have : ∀ k : Fin 8, octal.contains (hexd k.val) = true := by decide
  exact this ⟨k, h⟩
theorem set16 (k : Nat) (h : k < 16) : hexa.contains (hexd k) = true := by
  have : ∀ k : Fin 16, hexa.contains (hexd k.val) = true := by decide
  exact this ⟨k, h⟩
theorem numP_10 (n : Nat) (hn : n ≤ 1099511627775) : numP (digs 10 n) = some n := by
  have hb := numB_digs 10 decimal (by decide) (by decide) set10 n hn
  by_cases h0 : n = 0
  · subst h0
    rw [digs_lt _ _ (by omega)]; rfl
  · obtain ⟨x, r, e, hx⟩ := digs_head 10 (by decide) (fun k hk => (hexd_dig k (by omega)).2) n h0
    unfold numP
    rw [if_neg (digs_ne 10 n (by decide)), if_neg, if_neg]
    · exact hb
    · rw [e]; intro h; exact hx h.2
    · rw [e]
      simp [List.isPrefixOf]
      exact ⟨fun h => absurd h.symm hx, fun h => absurd h.symm hx⟩
theorem numP_16 (n : Nat) (hn : n ≤ 1099511627775) (x : UInt8) (hx : x = 120 ∨ x = 88) : numP (48 :: x :: digs 16 n) = some n := by
  have hb := numB_digs 16 hexa (by decide) (by decide) set16 n hn
  unfold numP
  rw [if_neg (by simp), if_pos (by rcases hx with rfl | rfl <;> simp [List.isPrefixOf])]
  exact hb
theorem numP_8 (n : Nat) (hn : n ≤ 1099511627775) : numP (48 :: digs 8 n) = some n := by
  have hb := numB_digs 8 octal (by decide) (by decide) set8 n hn
  have hne := digs_ne 8 n (by decide)
  have hx : ∀ c ∈ digs 8 n, c ≠ 120 ∧ c ≠ 88 := digs_ind (fun c => c ≠ 120 ∧ c ≠ 88) 8 (by decide) (by
    have : ∀ k : Fin 8, hexd k.val ≠ 120 ∧ hexd k.val ≠ 88 := by decide
    exact fun k hk => this ⟨k, hk⟩) n
  unfold numP
  rw [if_neg (by simp), if_neg, if_pos]
  · exact hb
  · refine ⟨?_, rfl⟩
    have := List.length_pos_iff.2 hne
    simp; omega
  · cases h : digs 8 n with
    | nil => exact absurd h hne
    | cons c r =>
      obtain ⟨h1, h2⟩ := hx c (by rw [h]; simp)
      simp [List.isPrefixOf]
      exact ⟨fun h => h1 h.symm, fun h => h2 h.symm⟩

/-- Parts that are numbers. -/
def Nums (ps : List Bs) (vs : List Nat) : Prop := ps.length = vs.length ∧ (∀ p ∈ ps, p ≠ [] ∧ (46 : UInt8) ∉ p) ∧ ∀ (i : Nat) (p : Bs), ps[i]? = some p → numP p = vs[i]?
theorem nums_cons (p : Bs) (v : Nat) (ps : List Bs) (vs : List Nat) (h : Nums ps vs) (h1 : numP p = some v) (h2 : p ≠ [] ∧ (46 : UInt8) ∉ p) : Nums (p :: ps) (v :: vs) := by
  refine ⟨by simp [h.1], ?_, ?_⟩
  · intro q hq; rcases List.mem_cons.1 hq with rfl | hq
    · exact h2
    · exact h.2.1 q hq
  · intro i q hq
    cases i with
    | zero => simp at hq; subst hq; simpa using h1
    | succ i => simpa using h.2.2 i q (by simpa using hq)
theorem nums_nil : Nums [] [] := ⟨rfl, by simp, by simp⟩
/-- What the loop gathers of numbers. -/
def gather (n : Nat) : Nat → Nat → List Nat → Option Nat
  | _, all, [] => some all
  | i, all, x :: r => if x / 2 ^ (if i + 1 = n then 8 * (4 - i) else 8) > 0 then none else gather n (i + 1) (all * 2 ^ (if i + 1 = n then 8 * (4 - i) else 8) + x) r
theorem loop_gather (n : Nat) (ps : List Bs) : ∀ (vs : List Nat) (i all : Nat), Nums ps vs → ip4loop n i all ps = gather n i all vs := by
  induction ps with
  | nil =>
    intro vs i all h
    obtain rfl : vs = [] := List.eq_nil_of_length_eq_zero h.1.symm
    rfl
  | cons p ps ih =>
    intro vs i all h
    cases vs with
    | nil => have := h.1; simp at this
    | cons v vs =>
      have h2 : Nums ps vs := ⟨by simpa using h.1, fun q hq => h.2.1 q (by simp [hq]), fun j q hq => by simpa using h.2.2 (j + 1) q (by simpa using hq)⟩
      have h3 : numP p = some v := by simpa using h.2.2 0 p rfl
      unfold ip4loop gather
      rw [h3]
      simp only [ih vs _ _ h2]
theorem last_nums (ps : List Bs) (vs : List Nat) (h : Nums ps vs) (hne : ps ≠ []) : (numP (ps.getLastD [])).isNone = false ∧ ps.getLastD [] ≠ [] := by
  have hl := getLastD_at ps hne
  have h1 := h.2.2 _ _ hl
  refine ⟨?_, (h.2.1 _ (List.mem_of_getElem? hl)).1⟩
  rw [h1]
  have : ps.length - 1 < vs.length := by have := h.1; have := List.length_pos_iff.2 hne; omega
  rw [List.getElem?_eq_getElem this]
  rfl
theorem ip4_nums (ps : List Bs) (vs : List Nat) (n : Nat) (h : Nums ps vs) (hne : ps ≠ []) (h4 : ps.length ≤ 4) (hg : gather vs.length 0 0 vs = some n) : ip4 (joinB 46 ps) = (n, true, 0) ∧ ip4 (joinB 46 ps ++ [46]) = (n, true, 0) := by
  obtain ⟨hl1, hl2⟩ := last_nums ps vs h hne
  have hgo : ∀ l, ip4parts l = ps → ip4 l = (n, true, 0) := by
    intro l hl
    unfold ip4
    simp only
    rw [hl, if_neg (by rw [hl1]; simp), if_neg (by omega), loop_gather _ ps vs _ _ h, h.1, hg]
  have hs : split1 46 (joinB 46 ps) = ps := split1_join 46 ps hne (fun p hp => (h.2.1 p hp).2)
  refine ⟨hgo _ ?_, hgo _ ?_⟩
  · unfold ip4parts
    simp only
    rw [hs, if_neg (fun hh => hl2 hh.2)]
  · have hs2 : ∀ ps : List Bs, ps ≠ [] → (∀ p ∈ ps, (46 : UInt8) ∉ p) → split1 46 (joinB 46 ps ++ [46]) = ps ++ [[]] := by
      intro ps
      induction ps with
      | nil => intro h; exact absurd rfl h
      | cons p r ih =>
        intro _ hp
        cases r with
        | nil => rw [joinB_one, split1_pref _ _ _ (hp p (by simp))]; rfl
        | cons q r =>
          rw [joinB_cons, List.append_assoc, List.cons_append, split1_pref _ _ _ (hp p (by simp)), ih (by simp) (fun x hx => hp x (by simp [hx]))]
          rfl
    unfold ip4parts
    simp only
    rw [hs2 ps hne (fun p hp => (h.2.1 p hp).2), if_pos]
    · simp
    · refine ⟨?_, by simp⟩
      have := List.length_pos_iff.2 hne
      simp; omega

/-- The bytes of numbers, in whatever base. -/
def okf : Bs := [48, 49, 50, 51, 52, 53, 54, 55, 56, 57, 97, 98, 99, 100, 101, 102, 120, 46, 88]
theorem okf_facts (c : UInt8) (h : c ∈ okf) : forbB c = false ∧ c ≠ 37 ∧ c ≠ 91 ∧ (c ≠ 88 → lowB c = c) := by
  have : ∀ c ∈ okf, forbB c = false ∧ c ≠ 37 ∧ c ≠ 91 ∧ (c ≠ 88 → lowB c = c) := by decide
  exact this c h
theorem hexd_okf (k : Nat) (h : k < 16) : hexd k ∈ okf ∧ hexd k ≠ 88 ∧ hexd k ≠ 46 := by
  have : ∀ k : Fin 16, hexd k.val ∈ okf ∧ hexd k.val ≠ 88 ∧ hexd k.val ≠ 46 := by decide
  exact this ⟨k, h⟩
theorem parse_num (T : Bs) (n : Nat) (hne : T ≠ []) (h : ∀ c ∈ T, c ∈ okf) (hi : ip4 (T.map lowB) = (n, true, 0)) : parseP T = some (text4 n) := by
  unfold parseP
  rw [if_neg (head_no _ (fun c hc => (okf_facts c (h c hc)).2.2.1)), pdec_no _ (fun hm => (okf_facts 37 (h 37 hm)).2.1 rfl), if_neg hne, if_neg, hi]
  · rfl
  · rw [List.any_eq_true]
    rintro ⟨x, hx, hf⟩
    rw [(okf_facts x (h x hx)).1] at hf; cases hf
def dp (b n : Nat) : Bs := digs b n
theorem digs_okf (b n : Nat) (hb : 2 ≤ b) (hb16 : b ≤ 16) : ∀ c ∈ digs b n, c ∈ okf ∧ c ≠ 88 ∧ c ≠ 46 := digs_ind _ b hb (fun k hk => hexd_okf k (by omega)) n
theorem dec_part (n : Nat) : digs 10 n ≠ [] ∧ (46 : UInt8) ∉ digs 10 n := ⟨digs_ne 10 n (by decide), fun h => (digs_okf 10 n (by decide) (by decide) 46 h).2.2 rfl⟩
theorem hex_part (n : Nat) (x : UInt8) (hx : x = 120 ∨ x = 88) : 48 :: x :: digs 16 n ≠ [] ∧ (46 : UInt8) ∉ 48 :: x :: digs 16 n := by
  refine ⟨by simp, fun h => ?_⟩
  simp only [List.mem_cons] at h
  rcases h with h | h | h
  · revert h; decide
  · subst h; rcases hx with h | h <;> revert h <;> decide
  · exact (digs_okf 16 n (by decide) (by decide) 46 h).2.2 rfl
theorem oct_part (n : Nat) : 48 :: digs 8 n ≠ [] ∧ (46 : UInt8) ∉ 48 :: digs 8 n := by
  refine ⟨by simp, fun h => ?_⟩
  simp only [List.mem_cons] at h
  rcases h with h | h
  · revert h; decide
  · exact (digs_okf 8 n (by decide) (by decide) 46 h).2.2 rfl
theorem dec8_digs (k : Nat) (h : k < 256) : digs 10 k = dec8 k := by
  have e : ∀ k, k < 256 → digs 10 k = if k < 10 then [hexd k] else if k < 100 then [hexd (k / 10), hexd (k % 10)] else [hexd (k / 10 / 10), hexd (k / 10 % 10), hexd (k % 10)] := by
    intro k hk
    by_cases h1 : k < 10
    · rw [if_pos h1, digs_lt _ _ h1]
    · rw [if_neg h1, digs_ge _ _ (by decide) h1]
      by_cases h2 : k < 100
      · rw [if_pos h2, digs_lt _ _ (by omega)]; rfl
      · rw [if_neg h2, digs_ge _ _ (by decide) (by omega), digs_lt _ (k / 10 / 10) (by omega)]; rfl
  rw [e k h]
  have : ∀ k : Fin 256, (if k.val < 10 then [hexd k.val] else if k.val < 100 then [hexd (k.val / 10), hexd (k.val % 10)] else [hexd (k.val / 10 / 10), hexd (k.val / 10 % 10), hexd (k.val % 10)]) = dec8 k.val := by decide +kernel
  exact this ⟨k, h⟩
/-- The eight ways. -/
def ways (n : Nat) : List Bs :=
  [text4 n, text4 n ++ [46], digs 10 n, digs 10 (n / 16777216) ++ [46] ++ digs 10 (n % 16777216),
   digs 10 (n / 16777216) ++ [46] ++ digs 10 (n / 65536 % 256) ++ [46] ++ digs 10 (n % 65536),
   [48, 120] ++ digs 16 (n / 16777216) ++ [46, 48, 88] ++ digs 16 (n / 65536 % 256) ++ [46, 48] ++ digs 8 (n / 256 % 256) ++ [46] ++ digs 10 (n % 256),
   [48] ++ digs 8 n, [48, 120] ++ digs 16 n]
theorem gather4 (a b c d : Nat) (ha : a < 256) (hb : b < 256) (hc : c < 256) (hd : d < 256) : gather 4 0 0 [a, b, c, d] = some (((a * 256 + b) * 256 + c) * 256 + d) := by
  unfold gather gather gather gather gather
  simp
  omega
theorem all_okf_app (A B : Bs) (h1 : ∀ c ∈ A, c ∈ okf) (h2 : ∀ c ∈ B, c ∈ okf) : ∀ c ∈ A ++ B, c ∈ okf := by
  intro c hc; rcases List.mem_append.1 hc with hc | hc
  · exact h1 c hc
  · exact h2 c hc
theorem low_digs (b n : Nat) (hb : 2 ≤ b) (hb16 : b ≤ 16) : (digs b n).map lowB = digs b n := map_low _ (fun c hc => (okf_facts c (digs_okf b n hb hb16 c hc).1).2.2.2 (digs_okf b n hb hb16 c hc).2.1)
theorem fours_plain (n : Nat) (hn : n < 4294967296) : ∀ T ∈ ways n, ip4 T = (n, true, 0) ∧ parseP T = some (text4 n) ∧ T.length ≤ 200 := by
  have w0 : ∀ m, m < 4294967296 → ∀ b, 2 ≤ b → (digs b m).length ≤ 32 := fun m hm b hb => digs_len b hb m 32 (by decide) hm
  have ok : ∀ b m, 2 ≤ b → b ≤ 16 → ∀ c ∈ digs b m, c ∈ okf := fun b m h1 h2 c hc => (digs_okf b m h1 h2 c hc).1
  have fin : ∀ (T : Bs), T ≠ [] → (∀ c ∈ T, c ∈ okf) → T.map lowB = T → ip4 T = (n, true, 0) → ip4 T = (n, true, 0) ∧ parseP T = some (text4 n) := fun T h1 h2 h3 h4 => ⟨h4, parse_num T n h1 h2 (by rw [h3]; exact h4)⟩
  have hp1 := numP_10
  have e4 : text4 n = joinB 46 [digs 10 (n / 16777216), digs 10 (n / 65536 % 256), digs 10 (n / 256 % 256), digs 10 (n % 256)] := by
    unfold text4 parts4
    rw [dec8_digs _ (show n / 16777216 < 256 by omega), dec8_digs _ (show n / 65536 % 256 < 256 by omega), dec8_digs _ (show n / 256 % 256 < 256 by omega), dec8_digs _ (show n % 256 < 256 by omega), show n / 16777216 % 256 = n / 16777216 by omega]
  have n4 : Nums [digs 10 (n / 16777216), digs 10 (n / 65536 % 256), digs 10 (n / 256 % 256), digs 10 (n % 256)] [n / 16777216, n / 65536 % 256, n / 256 % 256, n % 256] :=
    nums_cons _ _ _ _ (nums_cons _ _ _ _ (nums_cons _ _ _ _ (nums_cons _ _ _ _ nums_nil (numP_10 _ (by omega)) (dec_part _)) (numP_10 _ (by omega)) (dec_part _)) (numP_10 _ (by omega)) (dec_part _)) (numP_10 _ (by omega)) (dec_part _)
  have g4 : gather 4 0 0 [n / 16777216, n / 65536 % 256, n / 256 % 256, n % 256] = some n := by
    rw [gather4 _ _ _ _ (by omega) (by omega) (by omega) (by omega)]; congr 1; omega
  obtain ⟨i1, i2⟩ := ip4_nums _ _ n n4 (by simp) (by simp) g4
  rw [← e4] at i1 i2
  have l4 : ∀ c ∈ text4 n, c ∈ okf := by
    rw [e4]
    refine join_all (fun c => c ∈ okf) 46 (by decide) _ ?_
    intro p hp
    simp only [List.mem_cons, List.not_mem_nil, or_false] at hp
    rcases hp with rfl | rfl | rfl | rfl <;> exact ok 10 _ (by decide) (by decide)
  have lo4 : (text4 n).map lowB = text4 n := map_low _ (fun c hc => (text4_okc n c hc).2.2.1)
  have ln4 := text4_len n
  intro T hT
  simp only [ways, List.mem_cons, List.not_mem_nil, or_false] at hT
  rcases hT with rfl | rfl | rfl | rfl | rfl | rfl | rfl | rfl
  · obtain ⟨h1, h2⟩ := fin _ (text4_ne n) l4 lo4 i1
    exact ⟨h1, h2, by omega⟩
  · obtain ⟨h1, h2⟩ := fin (text4 n ++ [46]) (by simp) (all_okf_app _ _ l4 (by simp [okf])) (by rw [List.map_append, lo4]; rfl) i2
    exact ⟨h1, h2, by simp; omega⟩
  · have hi := (ip4_nums [digs 10 n] [n] n (nums_cons _ _ _ _ nums_nil (numP_10 _ (by omega)) (dec_part _)) (by simp) (by simp) (by
      unfold gather gather; simp; omega)).1
    rw [joinB_one] at hi
    obtain ⟨h1, h2⟩ := fin _ (digs_ne 10 n (by decide)) (ok 10 n (by decide) (by decide)) (low_digs 10 n (by decide) (by decide)) hi
    exact ⟨h1, h2, by have := w0 n hn 10 (by decide); omega⟩
  · have hi := (ip4_nums [digs 10 (n / 16777216), digs 10 (n % 16777216)] [n / 16777216, n % 16777216] n (nums_cons _ _ _ _ (nums_cons _ _ _ _ nums_nil (numP_10 _ (by omega)) (dec_part _)) (numP_10 _ (by omega)) (dec_part _)) (by simp) (by simp) (by
      unfold gather gather gather; simp; omega)).1
    rw [joinB_cons, joinB_one] at hi
    have eT : digs 10 (n / 16777216) ++ [46] ++ digs 10 (n % 16777216) = digs 10 (n / 16777216) ++ 46 :: digs 10 (n % 16777216) := by simp
    rw [eT]
    obtain ⟨h1, h2⟩ := fin _ (by simp) (all_okf_app _ _ (ok 10 _ (by decide) (by decide)) (by
      intro c hc; rcases List.mem_cons.1 hc with rfl | hc
      · decide
      · exact ok 10 _ (by decide) (by decide) c hc)) (by rw [List.map_append, List.map_cons, low_digs 10 _ (by decide) (by decide), low_digs 10 _ (by decide) (by decide)]; rfl) hi
    refine ⟨h1, h2, ?_⟩
    have q1 := w0 (n / 16777216) (by omega) 10 (by decide)
    have q2 := w0 (n % 16777216) (by omega) 10 (by decide)
    simp; omega
  · have hi := (ip4_nums [digs 10 (n / 16777216), digs 10 (n / 65536 % 256), digs 10 (n % 65536)] [n / 16777216, n / 65536 % 256, n % 65536] n (nums_cons _ _ _ _ (nums_cons _ _ _ _ (nums_cons _ _ _ _ nums_nil (numP_10 _ (by omega)) (dec_part _)) (numP_10 _ (by omega)) (dec_part _)) (numP_10 _ (by omega)) (dec_part _)) (by simp) (by simp) (by
      unfold gather gather gather gather; simp; omega)).1
    rw [joinB_cons, joinB_cons, joinB_one] at hi
    have eT : digs 10 (n / 16777216) ++ [46] ++ digs 10 (n / 65536 % 256) ++ [46] ++ digs 10 (n % 65536) = digs 10 (n / 16777216) ++ 46 :: (digs 10 (n / 65536 % 256) ++ 46 :: digs 10 (n % 65536)) := by simp
    rw [eT]
    obtain ⟨h1, h2⟩ := fin _ (by simp) (all_okf_app _ _ (ok 10 _ (by decide) (by decide)) (by
      intro c hc; rcases List.mem_cons.1 hc with rfl | hc
      · decide
      · exact all_okf_app _ _ (ok 10 _ (by decide) (by decide)) (by
          intro c hc; rcases List.mem_cons.1 hc with rfl | hc
          · decide
          · exact ok 10 _ (by decide) (by decide) c hc) c hc)) (by
        rw [List.map_append, List.map_cons, List.map_append, List.map_cons, low_digs 10 _ (by decide) (by decide), low_digs 10 _ (by decide) (by decide), low_digs 10 _ (by decide) (by decide)]; rfl) hi
    refine ⟨h1, h2, ?_⟩
    have q1 := w0 (n / 16777216) (by omega) 10 (by decide)
    have q2 := w0 (n / 65536 % 256) (by omega) 10 (by decide)
    have q3 := w0 (n % 65536) (by omega) 10 (by decide)
    simp; omega
  · have nn : ∀ x : UInt8, x = 120 ∨ x = 88 → Nums [48 :: 120 :: digs 16 (n / 16777216), 48 :: x :: digs 16 (n / 65536 % 256), 48 :: digs 8 (n / 256 % 256), digs 10 (n % 256)] [n / 16777216, n / 65536 % 256, n / 256 % 256, n % 256] := fun x hx =>
      nums_cons _ _ _ _ (nums_cons _ _ _ _ (nums_cons _ _ _ _ (nums_cons _ _ _ _ nums_nil (numP_10 _ (by omega)) (dec_part _)) (numP_8 _ (by omega)) (oct_part _)) (numP_16 _ (by omega) x hx) (hex_part _ x hx)) (numP_16 _ (by omega) 120 (Or.inl rfl)) (hex_part _ 120 (Or.inl rfl))
    have eT : ∀ x : UInt8, [48, 120] ++ digs 16 (n / 16777216) ++ [46, 48, x] ++ digs 16 (n / 65536 % 256) ++ [46, 48] ++ digs 8 (n / 256 % 256) ++ [46] ++ digs 10 (n % 256) = joinB 46 [48 :: 120 :: digs 16 (n / 16777216), 48 :: x :: digs 16 (n / 65536 % 256), 48 :: digs 8 (n / 256 % 256), digs 10 (n % 256)] := by
      intro x
      rw [joinB_cons, joinB_cons, joinB_cons, joinB_one]; simp
    have hu := (ip4_nums _ _ n (nn 88 (Or.inr rfl)) (by simp) (by simp) g4).1
    have hl := (ip4_nums _ _ n (nn 120 (Or.inl rfl)) (by simp) (by simp) g4).1
    rw [← eT] at hu hl
    refine ⟨hu, parse_num _ n (by simp) ?_ ?_, ?_⟩
    · exact all_okf_app _ _ (all_okf_app _ _ (all_okf_app _ _ (all_okf_app _ _ (all_okf_app _ _ (all_okf_app _ _ (all_okf_app _ _ (by decide) (ok 16 _ (by decide) (by decide))) (by decide)) (ok 16 _ (by decide) (by decide))) (by decide)) (ok 8 _ (by decide) (by decide))) (by decide)) (ok 10 _ (by decide) (by decide))
    · simp only [List.map_append]
      rw [low_digs 16 _ (by decide) (by decide), low_digs 16 _ (by decide) (by decide), low_digs 8 _ (by decide) (by decide), low_digs 10 _ (by decide) (by decide)]
      exact hl
    · have q1 := w0 (n / 16777216) (by omega) 16 (by decide)
      have q2 := w0 (n / 65536 % 256) (by omega) 16 (by decide)
      have q3 := w0 (n / 256 % 256) (by omega) 8 (by decide)
      have q4 := w0 (n % 256) (by omega) 10 (by decide)
      simp; omega
  · have hi := (ip4_nums [48 :: digs 8 n] [n] n (nums_cons _ _ _ _ nums_nil (numP_8 _ (by omega)) (oct_part _)) (by simp) (by simp) (by
      unfold gather gather; simp; omega)).1
    rw [joinB_one] at hi
    obtain ⟨h1, h2⟩ := fin ([48] ++ digs 8 n) (by simp) (all_okf_app _ _ (by decide) (ok 8 n (by decide) (by decide))) (by rw [List.map_append, low_digs 8 n (by decide) (by decide)]; rfl) hi
    exact ⟨h1, h2, by have := w0 n hn 8 (by decide); simp; omega⟩
  · have hi := (ip4_nums [48 :: 120 :: digs 16 n] [n] n (nums_cons _ _ _ _ nums_nil (numP_16 _ (by omega) 120 (Or.inl rfl)) (hex_part _ 120 (Or.inl rfl))) (by simp) (by simp) (by
      unfold gather gather; simp; omega)).1
    rw [joinB_one] at hi
    obtain ⟨h1, h2⟩ := fin ([48, 120] ++ digs 16 n) (by simp) (all_okf_app _ _ (by decide) (ok 16 n (by decide) (by decide))) (by rw [List.map_append, low_digs 16 n (by decide) (by decide)]; rfl) hi
    exact ⟨h1, h2, by have := w0 n hn 16 (by decide); simp; omega⟩
end Go.Proofs.YtlhbpdnbfghkoaaGreatDoor
