/- HostEights, plain: addresses in full and in upper case; the colons of what is written. -/
import Derived.Test.YtlhbpdnbfghkoaaGreatDoorOnceP
import Derived.Test.YtlhbpdnbfghkoaaGreatDoorBased
import Derived.Laws.StructEq
namespace Go.Proofs.YtlhbpdnbfghkoaaGreatDoor
open Go.RowKit
set_option linter.unusedSimpArgs false
set_option linter.unusedVariables false

theorem eq8 (a0 a1 a2 a3 a4 a5 a6 a7 : Int) (w : World) : (Op.equalIn 10000 39 (.agg #[.int .u16 a0, .int .u16 a1, .int .u16 a2, .int .u16 a3, .int .u16 a4, .int .u16 a5, .int .u16 a6, .int .u16 a7]) (.agg #[.int .u16 a0, .int .u16 a1, .int .u16 a2, .int .u16 a3, .int .u16 a4, .int .u16 a5, .int .u16 a6, .int .u16 a7])).run Tryz.prog w = Result.ok true w := by
  have hp : ∀ (xs : Array Value) (i : Nat) w, (part 38 xs i).run Tryz.prog w = (match xs[i]? with | some v => Result.ok v w | none => (stuck "part: no such cell" : Sem Value).run Tryz.prog w) := by
    intro xs i w
    simp [part]
    cases xs[i]? <;> rfl
  have he : ∀ (a : Int) w, (Op.equalIn 9999 38 (.int .u16 a) (.int .u16 a)).run Tryz.prog w = Result.ok true w := by
    intro a w
    have := run_equalIn_int (P := Tryz.prog) w 9998 38 .u16 .u16 a a Tryz.underlying38
    simpa using this
  rw [show (10000 : Nat) = 9999 + 1 from rfl, Op.equalIn]
  simp [run_underlying Tryz.underlying39, show List.range' 0 8 = [0, 1, 2, 3, 4, 5, 6, 7] from rfl, List.forIn_cons, hp, he]

theorem eight_all {w : World} {b : Nat} {a0 a1 a2 a3 a4 a5 a6 a7 : Value} {T : TypeId} {fz : Nat × Nat} (h : w.heap[b]? = some (.cells #[a0, a1, a2, a3, a4, a5, a6, a7] T fz)) :
    w.cell? ⟨b, 0, none⟩ = some a0 ∧ w.cell? ⟨b, 1, none⟩ = some a1 ∧ w.cell? ⟨b, 2, none⟩ = some a2 ∧ w.cell? ⟨b, 3, none⟩ = some a3 ∧ w.cell? ⟨b, 4, none⟩ = some a4 ∧ w.cell? ⟨b, 5, none⟩ = some a5 ∧ w.cell? ⟨b, 6, none⟩ = some a6 ∧ w.cell? ⟨b, 7, none⟩ = some a7 :=
  ⟨cell_of_heap h 0, cell_of_heap h 1, cell_of_heap h 2, cell_of_heap h 3, cell_of_heap h 4, cell_of_heap h 5, cell_of_heap h 6, cell_of_heap h 7⟩
theorem u8_58 (c : UInt8) (h : c ≠ 58) : ((c.toNat : Int) == 58) = false := by
  refine beq_eq_false_iff_ne.2 (fun hh => h (UInt8.toNat_inj.1 ?_))
  show c.toNat = 58
  omega
/-- A digit in upper case. -/
def upc (c : UInt8) : UInt8 := if 97 ≤ c.toNat then c - 32 else c
def pad4 (x : Nat) : Bs := [hexd (x / 4096), hexd (x / 256 % 16), hexd (x / 16 % 16), hexd (x % 16)]
def up4 (x : Nat) : Bs := (pad4 x).map upc
theorem upc_ok (k : Nat) (h : k < 16) : dig (upc (hexd k)) = k ∧ hexa.contains (upc (hexd k)) = true ∧ upc (hexd k) ≠ 58 ∧ upc (hexd k) ≠ 46 := by
  have : ∀ k : Fin 16, dig (upc (hexd k.val)) = k.val ∧ hexa.contains (upc (hexd k.val)) = true ∧ upc (hexd k.val) ≠ 58 ∧ upc (hexd k.val) ≠ 46 := by decide
  exact this ⟨k, h⟩
theorem pad_last (x : Nat) (h : x < 65536) : (48 :: 48 :: 48 :: hexDigits x).drop ((hexDigits x).length + 3 - 4) = pad4 x := by
  have h0 : hexd 0 = 48 := rfl
  unfold pad4
  by_cases h1 : x < 16
  · rw [hexDigits_lt _ h1, show x / 4096 = 0 by omega, show x / 256 % 16 = 0 by omega, show x / 16 % 16 = 0 by omega, show x % 16 = x by omega, h0]
    rfl
  · rw [hexDigits_ge _ h1]
    by_cases h2 : x < 256
    · rw [hexDigits_lt _ (show x / 16 < 16 by omega), show x / 4096 = 0 by omega, show x / 256 % 16 = 0 by omega, show x / 16 % 16 = x / 16 by omega, h0]
      rfl
    · rw [hexDigits_ge _ (show ¬ x / 16 < 16 by omega)]
      by_cases h3 : x < 4096
      · rw [hexDigits_lt _ (show x / 16 / 16 < 16 by omega), show x / 4096 = 0 by omega, show x / 256 % 16 = x / 16 / 16 by omega, h0]
        rfl
      · rw [hexDigits_ge _ (show ¬ x / 16 / 16 < 16 by omega), hexDigits_lt _ (show x / 16 / 16 / 16 < 16 by omega), show x / 4096 = x / 16 / 16 / 16 by omega, show x / 256 % 16 = x / 16 / 16 % 16 by omega]
        rfl
theorem hex16_up4 (x : Nat) (h : x < 65536) : hex16 (up4 x) = some x := by
  obtain ⟨a1, a2, a3, a4⟩ := upc_ok (x / 4096) (by omega)
  obtain ⟨b1, b2, b3, b4⟩ := upc_ok (x / 256 % 16) (by omega)
  obtain ⟨c1, c2, c3, c4⟩ := upc_ok (x / 16 % 16) (by omega)
  obtain ⟨d1, d2, d3, d4⟩ := upc_ok (x % 16) (by omega)
  have hp : parseU 16 65535 (up4 x) = some x := by
    unfold parseU up4 pad4
    rw [if_neg (by simp)]
    simp only [List.map_cons, List.map_nil]
    rw [pu, if_pos (by rw [a1]; omega), pu, if_pos (by rw [a1, b1]; omega), pu, if_pos (by rw [a1, b1, c1]; omega), pu, if_pos (by rw [a1, b1, c1, d1]; omega), pu, a1, b1, c1, d1]
    congr 1
    omega
  have ho : onlyB (up4 x) hexa = true := by
    unfold onlyB up4 pad4
    simp only [List.map_cons, List.map_nil, List.all_cons, List.all_nil, Bool.and_true]
    rw [a2, b2, c2, d2]; rfl
  unfold hex16
  rw [hp]
  simp only
  rw [if_neg]
  rw [ho]
  rintro (hh | hh)
  · simp [up4, pad4] at hh
  · cases hh
theorem up4_ok (x : Nat) (h : x < 65536) : up4 x ≠ [] ∧ (58 : UInt8) ∉ up4 x ∧ (46 : UInt8) ∉ up4 x := by
  obtain ⟨a1, a2, a3, a4⟩ := upc_ok (x / 4096) (by omega)
  obtain ⟨b1, b2, b3, b4⟩ := upc_ok (x / 256 % 16) (by omega)
  obtain ⟨c1, c2, c3, c4⟩ := upc_ok (x / 16 % 16) (by omega)
  obtain ⟨d1, d2, d3, d4⟩ := upc_ok (x % 16) (by omega)
  refine ⟨by simp [up4, pad4], ?_, ?_⟩
  · simp only [up4, pad4, List.map_cons, List.map_nil, List.mem_cons, List.mem_nil_iff, or_false, not_or]
    exact ⟨a3.symm, b3.symm, c3.symm, d3.symm⟩
  · simp only [up4, pad4, List.map_cons, List.map_nil, List.mem_cons, List.mem_nil_iff, or_false, not_or]
    exact ⟨a4.symm, b4.symm, c4.symm, d4.symm⟩
/-- Eight pieces, however they are spelled: the address. -/
theorem ip6_spelled (f : Nat → Bs) (L : List Nat) (hl : L.length = 8) (hf : ∀ x ∈ L, hex16 (f x) = some x ∧ f x ≠ [] ∧ (58 : UInt8) ∉ f x ∧ (46 : UInt8) ∉ f x) : ip6 (joinB 58 (L.map f)) = some L := by
  have hg : Good (L.map f) := by
    intro p hp
    obtain ⟨x, hx, rfl⟩ := List.mem_map.1 hp
    exact ⟨(hf x hx).2.1, (hf x hx).2.2.1⟩
  have hp : ∀ M : List Nat, (∀ x ∈ M, hex16 (f x) = some x ∧ f x ≠ [] ∧ (58 : UInt8) ∉ f x ∧ (46 : UInt8) ∉ f x) → pcs true (M.map f) = some M := by
    intro M
    induction M with
    | nil => intro _; rfl
    | cons x r ih =>
      intro h
      rw [List.map_cons, pcs, if_neg, (h x (by simp)).1, ih (fun y hy => h y (by simp [hy]))]
      rintro ⟨_, _, h3⟩
      rw [contains_no 46 _ (h x (by simp)).2.2.2] at h3
      cases h3
  unfold ip6
  rw [cut_none _ hg]
  simp only [Bool.not_false]
  have : piecesP true (joinB 58 (L.map f)) = some L := by
    have hne : L.map f ≠ [] := by intro h; rw [List.map_eq_nil_iff] at h; rw [h] at hl; cases hl
    obtain ⟨y, t, he, _⟩ := join_head (L.map f) hg hne
    unfold piecesP
    rw [if_neg (by rw [he]; simp), split1_join 58 _ hne (fun p hp => (hg p hp).2), hp L hf]
  rw [this]
  simp [piecesP, hl]

/-- How often two colons stand side by side. -/
def dbl : Bs → Nat
  | [] => 0
  | x :: r => (if x = 58 ∧ r.headD 0 = 58 then 1 else 0) + dbl r
def cnt : Bs → Nat
  | [] => 0
  | x :: r => (if x = 58 then 1 else 0) + cnt r
theorem cnt_app (a b : Bs) : cnt (a ++ b) = cnt a + cnt b := by
  induction a with
  | nil => simp [cnt]
  | cons x r ih => rw [List.cons_append, cnt, cnt, ih]; omega
theorem cnt_no (a : Bs) (h : (58 : UInt8) ∉ a) : cnt a = 0 := by
  induction a with
  | nil => rfl
  | cons x r ih =>
    rw [List.mem_cons, not_or] at h
    rw [cnt, if_neg (fun hx => h.1 hx.symm), ih h.2]
theorem dbl_no (p t : Bs) (h : (58 : UInt8) ∉ p) : dbl (p ++ t) = dbl t := by
  induction p with
  | nil => rfl
  | cons x r ih =>
    rw [List.mem_cons, not_or] at h
    rw [List.cons_append, dbl, if_neg (fun hx => h.1 hx.1.symm), ih h.2, Nat.zero_add]
theorem dbl_join (ps : List Bs) (h : Good ps) (t : Bs) : dbl (joinB 58 ps ++ t) = dbl t := by
  induction ps with
  | nil => rfl
  | cons p r ih =>
    obtain ⟨h1, h2⟩ := h p (by simp)
    cases r with
    | nil => rw [joinB_one, dbl_no _ _ h2]
    | cons q r =>
      have hg : Good (q :: r) := fun x hx => h x (by simp [hx])
      obtain ⟨x, tl, he, hx⟩ := join_head (q :: r) hg (by simp)
      have ih := ih hg
      rw [joinB_cons, List.append_assoc, dbl_no _ _ h2, List.cons_append, dbl, ih, if_neg]
      · exact Nat.zero_add _
      · rintro ⟨_, h3⟩
        rw [he] at h3
        exact hx h3
theorem cnt_join (ps : List Bs) (h : Good ps) : cnt (joinB 58 ps) = ps.length - 1 := by
  induction ps with
  | nil => rfl
  | cons p r ih =>
    obtain ⟨h1, h2⟩ := h p (by simp)
    cases r with
    | nil => rw [joinB_one, cnt_no _ h2]; rfl
    | cons q r =>
      have hg : Good (q :: r) := fun x hx => h x (by simp [hx])
      rw [joinB_cons, cnt_app, cnt_no _ h2, cnt, if_pos rfl, ih hg]
      simp
      omega
def sumL (ps : List Bs) : Nat := (ps.map fun p => p.length + 1).sum
theorem join_sum (ps : List Bs) (h : ps ≠ []) : (joinB 58 ps).length + 1 = sumL ps := by
  induction ps with
  | nil => exact absurd rfl h
  | cons p r ih =>
    cases r with
    | nil => rw [joinB_one]; simp [sumL]
    | cons q r =>
      have ih := ih (by simp)
      rw [joinB_cons]
      simp only [sumL, List.map_cons, List.sum_cons, List.length_append, List.length_cons] at ih ⊢
      omega
theorem join_sum_le (ps : List Bs) : (joinB 58 ps).length ≤ sumL ps := by
  cases ps with
  | nil => simp [joinB, List.intercalate]
  | cons p r => have := join_sum (p :: r) (by simp); omega
theorem sum_app (a b : List Bs) : sumL (a ++ b) = sumL a + sumL b := by
  simp [sumL]
theorem sum_two (ps : List Bs) (h : ∀ p ∈ ps, p ≠ []) : 2 * ps.length ≤ sumL ps := by
  induction ps with
  | nil => simp [sumL]
  | cons p r ih =>
    have h1 := List.length_pos_iff.2 (h p (by simp))
    have h2 := ih (fun q hq => h q (by simp [hq]))
    simp only [sumL, List.map_cons, List.sum_cons, List.length_cons] at h2 ⊢
    omega
/-- What is written, between brackets: its colons, and how long it is. -/
theorem written (L : List Nat) (hl : L.length = 8) :
    dbl (91 :: (text6 L ++ [93])) ≤ 1 ∧ (dbl (91 :: (text6 L ++ [93])) = 1 ∨ cnt (91 :: (text6 L ++ [93])) = 7) ∧ (text6 L).length ≤ (joinB 58 (L.map hexDigits)).length ∧ 2 ≤ (text6 L).length := by
  have hd0 : ∀ t : Bs, dbl (91 :: t) = dbl t := fun t => by rw [dbl, if_neg (by intro h; exact absurd h.1 (by decide))]; exact Nat.zero_add _
  have hc0 : ∀ t : Bs, cnt (91 :: t) = cnt t := fun t => by rw [cnt, if_neg (by decide)]; exact Nat.zero_add _
  have hne : L.map hexDigits ≠ [] := by intro h; rw [List.map_eq_nil_iff] at h; rw [h] at hl; cases hl
  have hfull := join_sum (L.map hexDigits) hne
  have hall : ∀ M : List Nat, ∀ p ∈ M.map hexDigits, p ≠ [] := by
    intro M p hp
    obtain ⟨x, _, rfl⟩ := List.mem_map.1 hp
    exact hex_ne x
  rw [hd0, hc0]
  unfold text6
  split
  · have h93 : dbl [93] = 0 := rfl
    have hc : cnt ([93] : Bs) = 0 := rfl
    have h2 := sum_two (L.map hexDigits) (hall L)
    rw [List.length_map, hl] at h2
    rw [dbl_join _ (good_hex L), h93, cnt_app, cnt_join _ (good_hex L), hc]
    refine ⟨by omega, Or.inr (by simp [hl]), Nat.le_refl _, by omega⟩
  · rename_i h0
    rcases rowTo_spec L 8 (by omega) with h | ⟨h1, h2, h3⟩
    · rw [h] at h0; exact absurd rfl h0
    · generalize (rowTo L 8).1 = f at *
      generalize (rowTo L 8).2 = t at *
      have hdb : dbl (joinB 58 ((L.take f).map hexDigits) ++ [58, 58] ++ joinB 58 ((L.drop t).map hexDigits) ++ [93]) = 1 := by
        rw [List.append_assoc, List.append_assoc, dbl_join _ (good_hex _)]
        have hh : (joinB 58 ((L.drop t).map hexDigits) ++ [93]).headD 0 ≠ 58 := by
          by_cases hd : (L.drop t).map hexDigits = []
          · rw [hd]; decide
          · obtain ⟨x, tl, he, hx⟩ := join_head _ (good_hex (L.drop t)) hd
            rw [he]; exact hx
        have hz : dbl (joinB 58 ((L.drop t).map hexDigits) ++ [93]) = 0 := by rw [dbl_join _ (good_hex _)]; rfl
        show dbl (58 :: 58 :: (joinB 58 ((L.drop t).map hexDigits) ++ [93])) = 1
        rw [dbl, dbl, hz, if_pos ⟨rfl, rfl⟩, if_neg (fun h => hh h.2)]
      rw [hdb]
      refine ⟨Nat.le_refl _, Or.inl rfl, ?_, ?_⟩
      · have e : L = L.take f ++ ((L.drop f).take (t - f) ++ L.drop t) := by
          have e1 : (L.drop f).drop (t - f) = L.drop t := by rw [List.drop_drop]; congr 1; omega
          rw [← e1, List.take_append_drop, List.take_append_drop]
        have hs : sumL (L.map hexDigits) = sumL ((L.take f).map hexDigits) + (sumL (((L.drop f).take (t - f)).map hexDigits) + sumL ((L.drop t).map hexDigits)) := by
          conv => lhs; rw [e]
          rw [List.map_append, List.map_append, sum_app, sum_app]
        have h4 := sum_two _ (hall ((L.drop f).take (t - f)))
        rw [List.length_map, List.length_take, List.length_drop] at h4
        have h5 := join_sum_le ((L.take f).map hexDigits)
        have h6 := join_sum_le ((L.drop t).map hexDigits)
        simp only [List.length_append, List.length_cons, List.length_nil]
        omega
      · simp only [List.length_append, List.length_cons, List.length_nil]
        omega
end Go.Proofs.YtlhbpdnbfghkoaaGreatDoor
