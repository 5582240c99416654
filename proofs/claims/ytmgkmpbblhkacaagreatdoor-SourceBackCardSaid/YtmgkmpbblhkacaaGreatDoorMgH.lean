/- The program's numbers and addresses of four bytes are the reference's: plain. SourceWider: plain: how long a source's parts are; what lets less through. -/
import Derived.Test.YtmgkmpbblhkacaaGreatDoorMgV
import Derived.Test.YtmgkmpbblhkacaaGreatDoorS17
import Derived.Test.YtmgkmpbblhkacaaGreatDoorMgR
namespace Go.Proofs.YtmgkmpbblhkacaaGreatDoor
open Go.RowKit
set_option linter.unusedSimpArgs false
set_option linter.unusedVariables false

/-- The value of digits to a base, behind a number. -/
def bv (b : Nat) : Nat → Bs → Nat
  | n, [] => n
  | n, c :: r => bv b (n * b + dig c) r
theorem bv_le (b : Nat) (hb : 1 ≤ b) (l : Bs) : ∀ n, n ≤ bv b n l := by
  induction l with
  | nil => intro n; exact Nat.le_refl _
  | cons c r ih => intro n; exact Nat.le_trans (Nat.le_trans (Nat.le_mul_of_pos_right n hb) (Nat.le_add_right _ _)) (ih _)
theorem bv_mono (b : Nat) (l : Bs) : ∀ n m, n ≤ m → bv b n l ≤ bv b m l := by
  induction l with
  | nil => intro n m h; exact h
  | cons c r ih => intro n m h; exact ih _ _ (Nat.add_le_add_right (Nat.mul_le_mul_right b h) _)
/-- What a set of digits is to a base. -/
def DigSet (b : Nat) (D : Bs) : Prop := ∀ c : UInt8, (D.contains c = true ↔ (0 ≤ valB c ∧ valB c < (b : Int))) ∧ (D.contains c = true → (valB c).toNat = dig c ∧ dig c < b)
theorem digset_of (b : Nat) (D : Bs) (h : ∀ k : Fin 256, (D.contains (UInt8.ofNat k.val) = decide (0 ≤ valB (UInt8.ofNat k.val) ∧ valB (UInt8.ofNat k.val) < (b : Int))) ∧ (D.contains (UInt8.ofNat k.val) = true → (valB (UInt8.ofNat k.val)).toNat = dig (UInt8.ofNat k.val) ∧ dig (UInt8.ofNat k.val) < b)) : DigSet b D := by
  intro c
  have hk := h ⟨c.toNat, c.toNat_lt⟩
  simp only [UInt8.ofNat_toNat] at hk
  refine ⟨?_, hk.2⟩
  rw [hk.1, decide_eq_true_iff]
theorem dig_hex : DigSet 16 hexa := digset_of _ _ (by decide +kernel)
theorem dig_oct : DigSet 8 octal := digset_of _ _ (by decide +kernel)
theorem dig_dec : DigSet 10 decimal := digset_of _ _ (by decide +kernel)
theorem based_bv (b : Nat) (hb : 1 ≤ b) (D : Bs) (hD : DigSet b D) (l : Bs) : ∀ n, basedL b (min n 1099511627776) l = if onlyB l D = true then some (min (bv b n l) 1099511627776) else none := by
  induction l with
  | nil => intro n; rfl
  | cons c r ih =>
    intro n
    unfold basedL
    obtain ⟨h1, h2⟩ := hD c
    cases hc : D.contains c with
    | false =>
      rw [if_neg (fun h => by rw [h1.2 h] at hc; cases hc), if_neg]
      unfold onlyB; simp only [List.all_cons, hc]; simp
    | true =>
      obtain ⟨e1, e2⟩ := h2 hc
      rw [if_pos (h1.1 hc), e1]
      have e : min (min n 1099511627776 * b + dig c) 1099511627776 = min (n * b + dig c) 1099511627776 := by
        by_cases hn : n ≤ 1099511627776
        · rw [Nat.min_eq_left hn]
        · rw [Nat.min_eq_right (by omega : 1099511627776 ≤ n)]
          have g1 : 1099511627776 ≤ 1099511627776 * b := Nat.le_mul_of_pos_right _ hb
          have g2 : n ≤ n * b := Nat.le_mul_of_pos_right _ hb
          rw [Nat.min_eq_right (by omega), Nat.min_eq_right (by omega)]
      rw [e, ih]
      have e3 : onlyB (c :: r) D = onlyB r D := by unfold onlyB; simp only [List.all_cons, hc]; simp
      rw [e3]
      rfl
theorem pu_bv (b M : Nat) (hb : 1 ≤ b) (l : Bs) : ∀ n, n ≤ M → (∀ c ∈ l, dig c < b) → pu b M n l = if bv b n l ≤ M then some (bv b n l) else none := by
  induction l with
  | nil => intro n hn _; unfold pu bv; rw [if_pos hn]
  | cons c r ih =>
    intro n hn hc
    unfold pu
    have h1 := hc c (by simp)
    by_cases h2 : n * b + dig c ≤ M
    · rw [if_pos ⟨h1, h2⟩, ih _ h2 (fun x hx => hc x (by simp [hx]))]; rfl
    · rw [if_neg (fun h => h2 h.2), if_neg]
      have : n * b + dig c ≤ bv b n (c :: r) := bv_le b hb r _
      omega
theorem bv_drop (b : Nat) (l : Bs) : bv b 0 (l.dropWhile (· == 48)) = bv b 0 l := by
  induction l with
  | nil => rfl
  | cons c r ih =>
    rw [List.dropWhile_cons]
    split
    · rename_i h
      rw [ih]
      have e : c = 48 := by simpa using h
      subst e
      show bv b 0 r = bv b (0 * b + dig 48) r
      rw [Nat.zero_mul]
      rfl
    · rfl
theorem mem_dropWhile {p : UInt8 → Bool} (l : Bs) (c : UInt8) (h : c ∈ l.dropWhile p) : c ∈ l := (List.dropWhile_sublist p).subset h
theorem numB_based (b : Nat) (hb : 1 ≤ b) (D : Bs) (hD : DigSet b D) (l : Bs) : numB b D l = basedL b 0 l := by
  have h := based_bv b hb D hD l 0
  rw [show min 0 1099511627776 = 0 from rfl] at h
  rw [h]
  unfold numB
  by_cases ho : onlyB l D = true
  · rw [if_pos ho, if_pos ho]
    have hd : ∀ c ∈ l.dropWhile (· == 48), dig c < b := fun c hc => by
      unfold onlyB at ho
      rw [List.all_eq_true] at ho
      exact ((hD c).2 (ho c (mem_dropWhile l c hc))).2
    by_cases h0 : l.dropWhile (· == 48) = []
    · rw [if_pos h0, ← bv_drop, h0]; rfl
    · rw [if_neg h0]
      unfold parseU
      rw [if_neg h0, pu_bv b _ hb _ 0 (by omega) hd, bv_drop]
      split
      · rename_i h2
        rw [Nat.min_eq_left (by omega)]; rfl
      · rename_i h2
        rw [Nat.min_eq_right (by omega)]; rfl
  · rw [if_neg ho, if_neg ho]
theorem numP_numR (l : Bs) : numP l = numR l := by
  match l with
  | [] => rfl
  | [a] =>
    have h1 : (([48, 120] : Bs).isPrefixOf [a] || ([48, 88] : Bs).isPrefixOf [a]) = false := by simp [List.isPrefixOf]
    have e1 : numP [a] = numB 10 decimal [a] := by
      unfold numP
      rw [if_neg (by simp), h1, if_neg (by simp), if_neg (by simp)]
    have e2 : numR [a] = basedL 10 0 [a] := by
      unfold numR
      rw [if_neg (by simp), if_neg (by simp), if_neg (by simp)]
    rw [e1, e2]
    exact numB_based 10 (by omega) _ dig_dec _
  | a :: c :: r =>
    have h1 : (([48, 120] : Bs).isPrefixOf (a :: c :: r) || ([48, 88] : Bs).isPrefixOf (a :: c :: r)) = decide (a = 48 ∧ (c = 120 ∨ c = 88)) := by
      simp only [List.isPrefixOf, Bool.and_true]
      rw [Bool.eq_iff_iff]
      simp only [Bool.or_eq_true, Bool.and_eq_true, beq_iff_eq, decide_eq_true_iff]
      constructor
      · rintro (⟨h, h2⟩ | ⟨h, h2⟩)
        · exact ⟨h.symm, Or.inl h2.symm⟩
        · exact ⟨h.symm, Or.inr h2.symm⟩
      · rintro ⟨h, h2 | h2⟩
        · exact Or.inl ⟨h.symm, h2.symm⟩
        · exact Or.inr ⟨h.symm, h2.symm⟩
    have e1 : numP (a :: c :: r) = if decide (a = 48 ∧ (c = 120 ∨ c = 88)) = true then numB 16 hexa r else if a = 48 then numB 8 octal (c :: r) else numB 10 decimal (a :: c :: r) := by
      unfold numP
      rw [if_neg (by simp), h1]
      congr 1
      by_cases h3 : a = 48
      · rw [if_pos h3, if_pos ⟨by simp, by simpa using h3⟩]; rfl
      · rw [if_neg h3, if_neg (fun h => h3 (by simpa using h.2))]
    have e2 : numR (a :: c :: r) = if decide (a = 48 ∧ (c = 120 ∨ c = 88)) = true then basedL 16 0 r else if a = 48 then basedL 8 0 (c :: r) else basedL 10 0 (a :: c :: r) := by
      unfold numR
      rw [if_neg (by simp)]
      by_cases h2 : a = 48 ∧ (c = 120 ∨ c = 88)
      · rw [if_pos (decide_eq_true h2), if_pos ⟨by simp, by simpa using h2.1, by simpa using h2.2⟩]; rfl
      · rw [if_neg (show ¬ (decide (a = 48 ∧ (c = 120 ∨ c = 88)) = true) by rw [decide_eq_true_iff]; exact h2), if_neg (fun h => h2 ⟨by simpa using h.2.1, by simpa using h.2.2⟩)]
        by_cases h3 : a = 48
        · rw [if_pos h3, if_pos ⟨by simp, by simpa using h3⟩]; rfl
        · rw [if_neg h3, if_neg (fun h => h3 (by simpa using h.2))]
    rw [e1, e2, numB_based 16 (by omega) _ dig_hex, numB_based 8 (by omega) _ dig_oct, numB_based 10 (by omega) _ dig_dec]
theorem dec_some (l : Bs) : (basedL 10 0 l).isSome = onlyB l decimal := by
  have h := based_bv 10 (by omega) decimal dig_dec l 0
  rw [show min 0 1099511627776 = 0 from rfl] at h
  rw [h]
  split
  · rename_i h; rw [h]; rfl
  · rename_i h; rw [Bool.not_eq_true] at h; rw [h]; rfl
theorem ip4_is (l : Bs) : (ip4 l).2.1 = endsR l := by
  unfold ip4 endsR
  simp only
  obtain ⟨x, hx⟩ : ∃ x, (ip4parts l).getLastD [] = x := ⟨_, rfl⟩
  rw [hx, numP_numR, dec_some]
  cases hn : numR x with
  | some v =>
    rw [if_neg (by simp)]
    split
    · rfl
    · split <;> rfl
  | none =>
    simp only [Option.isNone_none, Option.isSome_none, Bool.false_or, true_and]
    by_cases h : x = [] ∨ onlyB x decimal = false
    · rw [if_pos h]
      rcases h with h | h
      · rw [h]; rfl
      · rw [h]; rfl
    · rw [if_neg h]
      rw [not_or, Bool.not_eq_false] at h
      rw [h.2, show decide (x ≠ []) = true from decide_eq_true h.1]
      split
      · rfl
      · split <;> rfl
theorem loop_eq (n : Nat) (hn : n ≤ 4) (ps : List Bs) : ∀ i all, i + ps.length = n → ps ≠ [] → all < 2 ^ (8 * i) →
    loopR n i (all * 2 ^ (32 - 8 * i)) (2 ^ (32 - 8 * i)) ps = ip4loop n i all ps ∧ ∀ m, ip4loop n i all ps = some m → m < 4294967296 := by
  induction ps with
  | nil => intro i all _ h; exact absurd rfl h
  | cons p r ih =>
    intro i all hi _ hall
    unfold loopR ip4loop
    rw [numP_numR]
    cases numR p with
    | none => exact ⟨rfl, fun m h => by cases h⟩
    | some x =>
      simp only
      cases r with
      | nil =>
        have hi' : i + 1 = n := by simpa using hi
        rw [if_pos hi', show 8 * (4 - i) = 32 - 8 * i by omega]
        have hpos : 0 < 2 ^ (32 - 8 * i) := Nat.two_pow_pos _
        by_cases hx : 2 ^ (32 - 8 * i) ≤ x
        · rw [if_pos (Or.inr hx), if_pos (Nat.div_pos hx hpos)]
          exact ⟨rfl, fun m h => by cases h⟩
        · rw [if_neg (by rw [not_or]; exact ⟨by omega, hx⟩), if_neg (by omega), if_neg (by rw [Nat.div_eq_of_lt (by omega)]; omega)]
          refine ⟨rfl, fun m h => ?_⟩
          simp only [ip4loop, Option.some.injEq] at h
          subst h
          have e : 2 ^ (8 * i) * 2 ^ (32 - 8 * i) = 4294967296 := by rw [← Nat.pow_add, show 8 * i + (32 - 8 * i) = 32 by omega]
          have : (all + 1) * 2 ^ (32 - 8 * i) ≤ 2 ^ (8 * i) * 2 ^ (32 - 8 * i) := Nat.mul_le_mul_right _ hall
          rw [Nat.succ_mul, e] at this
          omega
      | cons q t =>
        have hi' : i + 1 < n := by simp only [List.length_cons] at hi; omega
        rw [if_neg (by omega : ¬ i + 1 = n), if_pos hi', show (2 : Nat) ^ 8 = 256 from rfl]
        have e1 : 2 ^ (32 - 8 * i) = 2 ^ (32 - 8 * (i + 1)) * 256 := by rw [show (256 : Nat) = 2 ^ 8 from rfl, ← Nat.pow_add, show 32 - 8 * (i + 1) + 8 = 32 - 8 * i by omega]
        have hpos : 0 < 2 ^ (32 - 8 * (i + 1)) := Nat.two_pow_pos _
        have e2 : 2 ^ (8 * (i + 1)) = 2 ^ (8 * i) * 256 := by rw [show (256 : Nat) = 2 ^ 8 from rfl, ← Nat.pow_add]; rfl
        rw [e1, Nat.mul_div_cancel _ (by omega : 0 < 256)]
        generalize hR : 2 ^ (32 - 8 * (i + 1)) = R at hpos ⊢
        by_cases hx : 255 < x
        · rw [if_pos (Or.inl ⟨hi', hx⟩), if_pos (Nat.div_pos (by omega) (by omega))]
          exact ⟨rfl, fun m h => by cases h⟩
        · rw [if_neg (by rw [not_or]; exact ⟨fun h => hx h.2, by omega⟩), if_neg (by rw [Nat.div_eq_of_lt (by omega)]; omega)]
          have hall2 : all * 256 + x < 2 ^ (8 * (i + 1)) := by rw [e2]; omega
          have := ih (i + 1) (all * 256 + x) (by simp only [List.length_cons] at hi ⊢; omega) (by simp) hall2
          rw [hR] at this
          rw [show all * (R * 256) + x * R = (all * 256 + x) * R by rw [Nat.add_mul, Nat.mul_comm R 256, Nat.mul_assoc]]
          exact this
theorem ip4_eqR (l : Bs) : ip4 l = ip4R l := by
  have h1 := ip4_is l
  unfold ip4 at h1 ⊢
  unfold ip4R
  simp only at h1 ⊢
  by_cases h0 : (numP ((ip4parts l).getLastD [])).isNone ∧ ((ip4parts l).getLastD [] = [] ∨ onlyB ((ip4parts l).getLastD []) decimal = false)
  · rw [if_pos h0] at h1 ⊢
    rw [if_pos h1.symm]
  · rw [if_neg h0] at h1 ⊢
    have h2 : endsR l = true := by
      rw [← h1]
      split
      · rfl
      · split <;> rfl
    conv => rhs; rw [if_neg (by rw [h2]; simp)]
    by_cases h4 : 4 < (ip4parts l).length
    · rw [if_pos h4, if_pos h4]
    · rw [if_neg h4, if_neg h4]
      obtain ⟨ps, hps⟩ : ∃ ps, ip4parts l = ps := ⟨_, rfl⟩
      have hne := ip4parts_ne l
      rw [hps] at h4 hne ⊢
      obtain ⟨g1, g2⟩ := loop_eq ps.length (by omega) ps 0 0 (by omega) hne (by decide)
      rw [Nat.zero_mul, show 2 ^ (32 - 8 * 0) = 4294967296 from rfl] at g1
      rw [g1]
      cases hr : ip4loop ps.length 0 0 ps with
      | none => rfl
      | some n => simp only; rw [Nat.mod_eq_of_lt (g2 n hr)]
end Go.Proofs.YtmgkmpbblhkacaaGreatDoor
namespace Go.Proofs.YtmgkmpbblhkacaaGreatDoor
open Go.RowKit
set_option linter.unusedSimpArgs false
set_option linter.unusedVariables false

theorem hostS2_len (r : Bs) : (hostS2 r).1.length ≤ r.length ∧ (hostS2 r).2.1.length ≤ r.length := by
  unfold hostS2
  split
  · refine ⟨by simp only [List.length_take]; omega, by simp only [List.length_drop]; omega⟩
  · exact ⟨Nat.le_refl _, Nat.zero_le _⟩
theorem hostS1_len (s : Bs) : (hostS1 s).2.1.length ≤ s.length := by
  unfold hostS1
  split
  · exact cut_len2 s _
  · exact Nat.le_refl _
theorem hostedS_len (s : Bs) (x : SrcL) (h : hostedS s = some x) : x.ho.length ≤ 4 * s.length ∧ x.pa.length ≤ s.length := by
  unfold hostedS hostFin at h
  have h1 := hostS1_len s
  have h2 := hostS2_len (hostS1 s).2.1
  have h3 : (hostS3 (hostS2 (hostS1 s).2.1).1).1.length ≤ (hostS2 (hostS1 s).2.1).1.length := cut_len1 _ _
  split at h
  · cases h
  · split at h
    · cases h
      have h4 := lowS_len _ (hostS3 (hostS2 (hostS1 s).2.1).1).1 (Nat.le_refl _)
      exact ⟨by simp only; omega, by simp only; omega⟩
    · cases h
theorem quotedW_len (l : Bs) : (quotedW l).1.ho = [] ∧ (quotedW l).1.pa = [] := by
  unfold quotedW
  split
  · exact ⟨rfl, rfl⟩
  · split <;> exact ⟨rfl, rfl⟩
theorem quotedS_len (s : Bs) : (quotedS s).1.ho = [] ∧ (quotedS s).1.pa = [] := by
  unfold quotedS
  split
  · split
    · exact ⟨rfl, rfl⟩
    · split
      · exact ⟨rfl, rfl⟩
      · exact quotedW_len _
  · exact quotedW_len _
theorem srcP_len (s : Bs) (x : SrcL) (h : srcP s = some x) : x.ho.length ≤ 4 * s.length ∧ x.pa.length ≤ s.length := by
  unfold srcP at h
  split at h
  · cases h; exact ⟨Nat.zero_le _, Nat.zero_le _⟩
  · split at h
    · unfold pairO at h
      split at h
      · cases h
        obtain ⟨h1, h2⟩ := quotedS_len ((s.take (s.length - 1)).drop 1)
        rw [h1, h2]
        exact ⟨Nat.zero_le _, Nat.zero_le _⟩
      · cases h
    · split at h
      · cases h; exact ⟨Nat.zero_le _, Nat.zero_le _⟩
      · exact hostedS_len s x h
/-- transeptref07.Domain. -/
def domR (s : Bs) : Bool := !endsR s && (decide (s = []) || decide (s.headD 0 ≠ 91))
theorem domP_domR (s : Bs) : domP s = domR s := by
  unfold domP domR
  rw [ip4_is]
  congr 1
  cases s with
  | nil => rfl
  | cons c r =>
    rw [Bool.eq_iff_iff]
    have e : ([91] : Bs).isPrefixOf (c :: r) = (91 == c) := by simp [List.isPrefixOf]
    rw [e]
    have e2 : (c :: r).headD 0 = c := rfl
    rw [e2]
    simp
    exact ⟨fun h h2 => h h2.symm, fun h h2 => h h2.symm⟩
theorem wider (xs xh xp sa ha pa sb : Bs) (xn na : Int) (h : hostM xs xh xp xn sa ha pa sb na false = true) :
    hostM xs xh [] xn sa ha pa sb na false = true ∧ hostM xs xh xp xn sa ha pa sb na true = true ∧ hostM xs xh [] (-2) sa ha pa sb na false = true ∧
    hostM xs [42] [] (-2) sa ha pa sb na false = true ∧ (xs ≠ [] → togetherP xs sa = true) ∧ domR ha = true := by
  unfold hostM at h ⊢
  simp only [Bool.and_eq_true] at h ⊢
  obtain ⟨⟨⟨⟨h1, h2⟩, h3⟩, h4⟩, h5⟩ := h
  have p1 : ∀ b, pathM [] pa b = true := fun b => by unfold pathM; rw [if_pos (Or.inl rfl)]
  have p2 : pathM xp pa true = true := by unfold pathM; rw [if_pos (Or.inr rfl)]
  have q : portM (-2) na sa = true := by unfold portM; simp
  have d : domP ha = true := by unfold nameM at h3; rw [Bool.and_eq_true] at h3; exact h3.1
  have n : nameM [42] ha = true := by
    unfold nameM
    rw [d, if_neg (by decide)]
    simp
  refine ⟨⟨⟨⟨⟨h1, h2⟩, h3⟩, h4⟩, p1 _⟩, ⟨⟨⟨⟨h1, h2⟩, h3⟩, h4⟩, p2⟩, ⟨⟨⟨⟨h1, h2⟩, h3⟩, q⟩, p1 _⟩, ⟨⟨⟨⟨h1, h2⟩, n⟩, q⟩, p1 _⟩, fun hx => ?_, by rw [← domP_domR]; exact d⟩
  rw [if_neg hx] at h2
  exact h2
set_option maxRecDepth 1000000 in
theorem refDomain_any (s : ByteArray) (w : World) (hs : s.size ≤ 1000000) :
    Calls Tryz.prog 15 #[.string s] w fun e w' => e = .returned (.bool (domR s.data.toList)) ∧ Below w.heap.size w w' := by
  have CE := Lib.hid (refEnds_any s w hs)
  have hd : domR s.data.toList = (!endsR s.data.toList && (decide (s.data.toList = []) || decide (s.data.toList.headD 0 ≠ 91))) := rfl
  obtain ⟨en, hen⟩ : ∃ en, endsR s.data.toList = en := ⟨_, rfl⟩
  rw [hen] at CE hd
  have HD := Lib.hid hd
  have hways : s.toList.isEmpty = true ∧ Hid (s.data.toList = []) ∨ (s.toList.isEmpty = false ∧ ∃ h : 0 < s.size, Hid ((decide (s.data.toList = []) || decide (s.data.toList.headD 0 ≠ 91)) = !(s[0] == 91)) ∧ ((s[0].toNat : Int) == 91) = (s[0] == 91)) := by
    by_cases h0 : s.data.toList = []
    · exact Or.inl ⟨by rw [isEmpty_data, h0]; rfl, Lib.hid h0⟩
    · have h1 : 0 < s.size := by rw [Lib.size_eq]; exact List.length_pos_iff.2 h0
      refine Or.inr ⟨by rw [isEmpty_data]; exact beq_eq_false_iff_ne.2 h0, h1, Lib.hid ?_, ?_⟩
      · rw [head_get s h1, decide_eq_false h0, Bool.false_or]
        by_cases h : s[0] = 91
        · rw [h]; rfl
        · rw [beq_eq_false_iff_ne.2 h]; simp [h]
      · by_cases h : s[0] = 91
        · rw [u8_eqL s[0] 91 91 rfl h, h]; rfl
        · rw [u8_neL s[0] 91 91 rfl h, beq_eq_false_iff_ne.2 h]
  clear hd hen
  rcases hways with ⟨he, h0⟩ | ⟨he, hz, h0, h1⟩
  · cases en
    all_goals
      go_enter Tryz.func15, Tryz.ntmps15
      go_wp2_with fail
      refine CE.out.mono ?_
      rintro e w1 ⟨rfl, hb1⟩
      go_wp2
      go_ret
      refine ⟨?_, hb1⟩
      rw [HD.out, h0.out]
      rfl
  · obtain ⟨b, hb⟩ : ∃ b, (s[0] == 91) = b := ⟨_, rfl⟩
    rw [hb] at h0 h1
    have h1' : ((s[0].toNat : Int) != 91) = !b := by unfold bne; rw [h1]
    clear hb
    cases en
    all_goals
      cases b
      all_goals
        go_enter Tryz.func15, Tryz.ntmps15
        go_wp2_with fail
        refine CE.out.mono ?_
        rintro e w1 ⟨rfl, hb1⟩
        go_wp2
        go_ret
        refine ⟨?_, hb1⟩
        rw [HD.out, h0.out]
        rfl
end Go.Proofs.YtmgkmpbblhkacaaGreatDoor
