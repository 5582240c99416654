/- Bits of whole numbers, as remainders. An address at nought. An address of four bytes, as it is written. Digits to base sixteen; a block's cells. An address of eight pieces, as it is written. Rows of texts, joined and parted. A string of one byte. A number to a base. Numbers to bases, plain. Digits to base sixteen, rows of noughts: plain. What of an address is written so far: plain. A block of eight cells, laid again as it is. -/
import Derived.Test.YtmgkmpbblhkacaaGreatDoorBase
import Derived.Laws.BitsLemmas
import Derived.Test.YtmgkmpbblhkacaaGreatDoorStrs
import Derived.Test.YtmgkmpbblhkacaaGreatDoorSplit
namespace Go.Proofs.YtmgkmpbblhkacaaGreatDoor
open Go.RowKit
set_option linter.unusedSimpArgs false
set_option linter.unusedVariables false

theorem i64_and16 (n : Int) : ∃ p : Nat, p < 65536 ∧ bits .and .i64 n 65535 = (p : Int) := by
  have hm : (BitVec.ofInt 64 65535).toNat = 2 ^ 16 - 1 := by decide
  have key : (BitVec.ofInt 64 n &&& BitVec.ofInt 64 65535).toNat = (n % ((2 ^ 64 : Nat) : Int)).toNat % 2 ^ 16 := by
    rw [BitVec.toNat_and, BitVec.toNat_ofInt, hm, Nat.and_two_pow_sub_one_eq_mod]
  refine ⟨(n % ((2 ^ 64 : Nat) : Int)).toNat % 2 ^ 16, Nat.mod_lt _ (by decide), ?_⟩
  show IntKind.i64.wrap ((BitVec.ofInt 64 n &&& BitVec.ofInt 64 65535).toNat : Nat) = _
  rw [key, IntKind.wrap_i64]
  omega

theorem u8_wrap_low (x : Int) (h0 : 0 ≤ x) (h1 : x < 256) : IntKind.u8.wrap x = x := by
  simp [IntKind.wrap, IntKind.bits, IntKind.signed]
  omega
theorem i64_and_pow (n : Int) (k : Nat) (hk : k < 63) : ∃ p : Nat, p < 2 ^ k ∧ bits .and .i64 n ((2 ^ k - 1 : Nat) : Int) = (p : Int) := by
  have hk2 : 2 ^ k < 2 ^ 63 := Nat.pow_lt_pow_right (by decide) hk
  have hm : (BitVec.ofInt 64 ((2 ^ k - 1 : Nat) : Int)).toNat = 2 ^ k - 1 := by
    rw [BitVec.toNat_ofInt]
    have : ((2 ^ k - 1 : Nat) : Int) % ((2 ^ 64 : Nat) : Int) = ((2 ^ k - 1 : Nat) : Int) := Int.emod_eq_of_lt (by omega) (by omega)
    rw [this]; rfl
  have key : (BitVec.ofInt 64 n &&& BitVec.ofInt 64 ((2 ^ k - 1 : Nat) : Int)).toNat = (n % ((2 ^ 64 : Nat) : Int)).toNat % 2 ^ k := by
    rw [BitVec.toNat_and, hm, BitVec.toNat_ofInt, Nat.and_two_pow_sub_one_eq_mod]
  have hp := Nat.mod_lt (n % ((2 ^ 64 : Nat) : Int)).toNat (show 0 < 2 ^ k from Nat.pow_pos (by decide))
  refine ⟨(n % ((2 ^ 64 : Nat) : Int)).toNat % 2 ^ k, hp, ?_⟩
  show IntKind.i64.wrap ((BitVec.ofInt 64 n &&& BitVec.ofInt 64 ((2 ^ k - 1 : Nat) : Int)).toNat : Nat) = _
  rw [key, IntKind.wrap_i64]
  generalize (n % ((2 ^ 64 : Nat) : Int)).toNat % 2 ^ k = r at hp
  omega
theorem i64_and7 (n : Int) : ∃ p : Nat, p < 8 ∧ bits .and .i64 n 7 = (p : Int) := i64_and_pow n 3 (by decide)
theorem i64_and3 (n : Int) : ∃ p : Nat, p < 4 ∧ bits .and .i64 n 3 = (p : Int) := i64_and_pow n 2 (by decide)
theorem i64_and1 (n : Int) : ∃ p : Nat, p < 2 ∧ bits .and .i64 n 1 = (p : Int) := i64_and_pow n 1 (by decide)
end Go.Proofs.YtmgkmpbblhkacaaGreatDoor
namespace Go.Proofs.YtmgkmpbblhkacaaGreatDoor
open Go.RowKit
set_option linter.unusedSimpArgs false
set_option linter.unusedVariables false

theorem add_zero_off (g j : Nat) : (⟨g, 0, none⟩ : Addr).add j = ⟨g, j, none⟩ := by
  by_cases h : j = 0
  · subst h; simp [Addr.add]
  · simp [Addr.add, h]
end Go.Proofs.YtmgkmpbblhkacaaGreatDoor
namespace Go.Proofs.YtmgkmpbblhkacaaGreatDoor
open Go.RowKit
set_option linter.unusedSimpArgs false
set_option linter.unusedVariables false

def dec8 (n : Nat) : Bs := Lib.itoa (n : Int)
def parts4 (n : Nat) : List Bs := [dec8 (n / 16777216 % 256), dec8 (n / 65536 % 256), dec8 (n / 256 % 256), dec8 (n % 256)]
def text4 (n : Nat) : Bs := joinB 46 (parts4 n)

theorem decDigits_le (n : Nat) (h : n < 256) : (Lib.decDigits n).length ≤ 3 := by
  have : ∀ n : Fin 256, (Lib.decDigits n.val).length ≤ 3 := by decide +kernel
  exact this ⟨n, h⟩
theorem dec8_le (n : Nat) (h : n < 256) : (dec8 n).length ≤ 3 := by
  unfold dec8 Lib.itoa
  rw [if_neg (by omega)]
  simpa using decDigits_le n h
end Go.Proofs.YtmgkmpbblhkacaaGreatDoor
namespace Go.Proofs.YtmgkmpbblhkacaaGreatDoor
open Go.RowKit
set_option linter.unusedSimpArgs false
set_option linter.unusedVariables false

/-- A digit to base sixteen, as it is written. -/
def hexd (n : Nat) : UInt8 := if n < 10 then UInt8.ofNat (48 + n) else UInt8.ofNat (87 + n)
def hexDigits (n : Nat) : Bs := if h : n < 16 then [hexd n] else hexDigits (n / 16) ++ [hexd (n % 16)]
termination_by n
decreasing_by omega
theorem hexDigits_lt (n : Nat) (h : n < 16) : hexDigits n = [hexd n] := by rw [hexDigits, dif_pos h]
theorem hexDigits_ge (n : Nat) (h : ¬ n < 16) : hexDigits n = hexDigits (n / 16) ++ [hexd (n % 16)] := by rw [hexDigits, dif_neg h]

theorem heap_setCell_at {w : World} {b : Nat} {cur : Array Value} {T : TypeId} {fz : Nat × Nat} (h : w.heap[b]? = some (.cells cur T fz)) (o : Nat) (v : Value) :
    (w.setCell ⟨b, o, none⟩ v).heap[b]? = some (.cells (cur.setIfInBounds o v) T fz) := by
  simp only [World.setCell, Array.getElem?_modify, h]
  simp
theorem cell_of_heap {w : World} {b : Nat} {cur : Array Value} {T : TypeId} {fz : Nat × Nat} (h : w.heap[b]? = some (.cells cur T fz)) (o : Nat) : w.cell? ⟨b, o, none⟩ = cur[o]? := by
  unfold World.cell?
  rw [show w.heap[(⟨b, o, none⟩ : Addr).block]? = some (.cells cur T fz) from h]
  rfl
theorem frozen_of_heap {w : World} {b : Nat} {cur : Array Value} {T : TypeId} (h : w.heap[b]? = some (.cells cur T (0, 0))) (o : Nat) : w.frozen? ⟨b, o, none⟩ = false := by
  unfold World.frozen?
  rw [show w.heap[(⟨b, o, none⟩ : Addr).block]? = some (.cells cur T (0, 0)) from h]
  simp
end Go.Proofs.YtmgkmpbblhkacaaGreatDoor
namespace Go.Proofs.YtmgkmpbblhkacaaGreatDoor
open Go.RowKit
set_option linter.unusedSimpArgs false
set_option linter.unusedVariables false

/-- How many noughts a row of pieces begins with. -/
def zrun : List Nat → Nat
  | [] => 0
  | x :: r => if x = 0 then zrun r + 1 else 0
theorem zrun_le (l : List Nat) : zrun l ≤ l.length := by
  induction l with
  | nil => simp [zrun]
  | cons x r ih => unfold zrun; split <;> simp <;> omega
/-- host.row, up to place i. -/
def rowTo (l : List Nat) : Nat → Nat × Nat
  | 0 => (0, 0)
  | i + 1 => if zrun (l.drop i) > max 1 ((rowTo l i).2 - (rowTo l i).1) then (i, i + zrun (l.drop i)) else rowTo l i
theorem rowTo_le (l : List Nat) (i : Nat) : (rowTo l i).1 ≤ (rowTo l i).2 ∧ (rowTo l i).2 ≤ max l.length i := by
  induction i with
  | zero => simp [rowTo]
  | succ i ih =>
    unfold rowTo
    split
    · have := zrun_le (l.drop i)
      rw [List.length_drop] at this
      simp only
      omega
    · omega

/-- Eight pieces, as a value; as cells. -/
def cells8 (l : List Nat) : Array Value := (l.map fun (x : Nat) => Value.int .u16 (x : Int)).toArray
def agg8 (l : List Nat) : Value := .agg (cells8 l)

theorem cells8_at (l : List Nat) (k : Nat) (h : k < l.length) : (cells8 l)[k]? = some (.int .u16 (l[k] : Int)) := by
  simp [cells8, List.getElem?_eq_getElem h]

theorem agg8_cells (l : List Nat) (w : World) (b : Nat) (hb : b = w.heap.size) (k x : Nat) (h : l[k]? = some x) : (w.alloc (.cells (cells8 l) 115)).cell? ⟨b, k, none⟩ = some (.int .u16 (x : Int)) := by
  subst hb
  rw [cells_alloc_new]
  simp [cells8, h]
theorem zrun_zero (l : List Nat) (k : Nat) (h : l[k]? = some 0) : zrun (l.drop k) = zrun (l.drop (k + 1)) + 1 := by
  obtain ⟨hk, hx⟩ := List.getElem?_eq_some_iff.1 h
  rw [List.drop_eq_getElem_cons hk, hx]
  rfl
theorem zrun_stop (l : List Nat) (k : Nat) (h : ∀ x, l[k]? = some x → x ≠ 0) : zrun (l.drop k) = 0 := by
  by_cases hk : k < l.length
  · rw [List.drop_eq_getElem_cons hk, zrun, if_neg (h _ (List.getElem?_eq_getElem hk))]
  · rw [List.drop_of_length_le (by omega)]; rfl

theorem hexDigits_len (n : Nat) (h : n < 65536) : (hexDigits n).length ≤ 4 := by
  rw [hexDigits]
  split
  · simp
  · rw [hexDigits]
    split
    · simp
    · rw [hexDigits]
      split
      · simp
      · rw [hexDigits, dif_pos (by omega)]
        simp
theorem joinB_len (sep : UInt8) (ps : List Bs) (k : Nat) (h : ∀ p ∈ ps, p.length ≤ k) : (joinB sep ps).length ≤ ps.length * (k + 1) := by
  unfold joinB
  induction ps with
  | nil => simp [List.intercalate]
  | cons p r ih =>
    cases r with
    | nil =>
      have := h p (by simp)
      simp [List.intercalate]
      omega
    | cons q r =>
      have h1 := h p (by simp)
      have h2 := ih (fun x hx => h x (by simp [hx]))
      have e : List.intercalate [sep] (p :: q :: r) = p ++ sep :: List.intercalate [sep] (q :: r) := by simp [List.intercalate, List.intersperse]
      rw [e]
      simp only [List.length_append, List.length_cons] at h2 ⊢
      have : (r.length + 1 + 1) * (k + 1) = (r.length + 1) * (k + 1) + (k + 1) := by rw [Nat.succ_mul]
      omega

theorem strOf_append (a b : Bs) : strOf (a ++ b) = strOf a ++ strOf b := by
  apply ByteArray.ext; apply Array.ext'; simp [strOf]
/-- host.text6. -/
def text6 (l : List Nat) : Bs :=
  if (rowTo l 8).2 = 0 then joinB 58 (l.map hexDigits)
  else joinB 58 ((l.take (rowTo l 8).1).map hexDigits) ++ [58, 58] ++ joinB 58 ((l.drop (rowTo l 8).2).map hexDigits)
end Go.Proofs.YtmgkmpbblhkacaaGreatDoor
namespace Go.Proofs.YtmgkmpbblhkacaaGreatDoor
open Go.RowKit
set_option linter.unusedSimpArgs false
set_option linter.unusedVariables false

theorem joinB_one (c : UInt8) (p : Bs) : joinB c [p] = p := by simp [joinB, List.intercalate]
theorem joinB_cons (c : UInt8) (p q : Bs) (r : List Bs) : joinB c (p :: q :: r) = p ++ c :: joinB c (q :: r) := by simp [joinB, List.intercalate, List.intersperse]
theorem split1_only (c : UInt8) (p : Bs) (h : c ∉ p) : split1 c p = [p] := by
  induction p with
  | nil => rfl
  | cons x r ih =>
    rw [List.mem_cons, not_or] at h
    unfold split1
    rw [if_neg (fun hx => h.1 hx.symm), ih h.2]
theorem split1_pref (c : UInt8) (p t : Bs) (h : c ∉ p) : split1 c (p ++ c :: t) = p :: split1 c t := by
  induction p with
  | nil => rw [List.nil_append, split1, if_pos rfl]
  | cons x r ih =>
    rw [List.mem_cons, not_or] at h
    rw [List.cons_append, split1, if_neg (fun hx => h.1 hx.symm), ih h.2]
theorem split1_join (c : UInt8) (ps : List Bs) (hne : ps ≠ []) (h : ∀ p ∈ ps, c ∉ p) : split1 c (joinB c ps) = ps := by
  induction ps with
  | nil => exact absurd rfl hne
  | cons p r ih =>
    cases r with
    | nil => rw [joinB_one, split1_only c p (h p (by simp))]
    | cons q r => rw [joinB_cons, split1_pref c p _ (h p (by simp)), ih (by simp) (fun x hx => h x (by simp [hx]))]
end Go.Proofs.YtmgkmpbblhkacaaGreatDoor
namespace Go.Proofs.YtmgkmpbblhkacaaGreatDoor
open Go.RowKit
set_option linter.unusedSimpArgs false
set_option linter.unusedVariables false

/-- A string of one byte, out of a row of one byte. -/
theorem byte_str (c : UInt8) (x : Int) (hx : x = (c.toNat : Int)) (W : World) (b : Nat) (hb : b = W.heap.size) : (convert 43 9 (.slice (some ⟨b, 0, none⟩) 1 1)).run Tryz.prog (W.alloc (.cells #[.int .u8 x] 5)) = .ok (.string (strOf [c])) (W.alloc (.cells #[.int .u8 x] 5)) := by
  subst hx; subst hb
  refine run_convert_bytes_back _ _ _ 5 _ _ [c] Tryz.underlying43 Tryz.underlying5 Tryz.underlying9 ?_
  intro j hj
  rw [add_zero_off, cells_alloc_new]
  match j, hj with
  | 0, _ => rfl
end Go.Proofs.YtmgkmpbblhkacaaGreatDoor
namespace Go.Proofs.YtmgkmpbblhkacaaGreatDoor
open Go.RowKit
set_option linter.unusedSimpArgs false
set_option linter.unusedVariables false

/-- A number to a base. -/
def digs (b n : Nat) : Bs := if h : n < b ∨ b < 2 then [hexd n] else digs b (n / b) ++ [hexd (n % b)]
termination_by n
decreasing_by exact Nat.div_lt_self (by omega) (by omega)
theorem digs_lt (b n : Nat) (h : n < b) : digs b n = [hexd n] := by rw [digs, dif_pos (Or.inl h)]
theorem digs_ge (b n : Nat) (hb : 2 ≤ b) (h : ¬ n < b) : digs b n = digs b (n / b) ++ [hexd (n % b)] := by rw [digs, dif_neg (by omega)]
theorem digs16 (n : Nat) : digs 16 n = hexDigits n := by
  induction n using Nat.strongRecOn with
  | _ n ih =>
    by_cases h : n < 16
    · rw [digs_lt _ _ h, hexDigits_lt _ h]
    · rw [digs_ge _ _ (by decide) h, hexDigits_ge _ h, ih _ (by omega)]
end Go.Proofs.YtmgkmpbblhkacaaGreatDoor
namespace Go.Proofs.YtmgkmpbblhkacaaGreatDoor
open Go.RowKit
set_option linter.unusedSimpArgs false
set_option linter.unusedVariables false

theorem digs_ind (P : UInt8 → Prop) (b : Nat) (hb : 2 ≤ b) (hP : ∀ k, k < b → P (hexd k)) (n : Nat) : ∀ c ∈ digs b n, P c := by
  induction n using Nat.strongRecOn with
  | _ n ih =>
    by_cases h : n < b
    · rw [digs_lt _ _ h]; intro c hc; simp at hc; subst hc; exact hP n h
    · rw [digs_ge _ _ hb h]
      intro c hc
      rcases List.mem_append.1 hc with hc | hc
      · exact ih _ (Nat.div_lt_self (by omega) (by omega)) c hc
      · simp at hc; subst hc; exact hP _ (Nat.mod_lt _ (by omega))
theorem digs_ne (b n : Nat) (hb : 2 ≤ b) : digs b n ≠ [] := by
  by_cases h : n < b
  · rw [digs_lt _ _ h]; simp
  · rw [digs_ge _ _ hb h]; simp
theorem digs_len (b : Nat) (hb : 2 ≤ b) (n : Nat) : ∀ k, 1 ≤ k → n < 2 ^ k → (digs b n).length ≤ k := by
  induction n using Nat.strongRecOn with
  | _ n ih =>
    intro k h1 hk
    by_cases h : n < b
    · rw [digs_lt _ _ h]; exact h1
    · rw [digs_ge _ _ hb h, List.length_append]
      obtain ⟨j, rfl⟩ : ∃ j, k = j + 1 := ⟨k - 1, by omega⟩
      have h2 : n / b ≤ n / 2 := Nat.div_le_div_left hb (by omega)
      have h3 : n / b < 2 ^ j := by rw [Nat.pow_succ] at hk; omega
      have hj : 1 ≤ j := by
        refine Classical.byContradiction fun h4 => ?_
        obtain rfl : j = 0 := by omega
        have : n / b = 0 := by omega
        have h5 := Nat.div_pos (show b ≤ n by omega) (show 0 < b by omega)
        omega
      have := ih (n / b) (Nat.div_lt_self (by omega) (by omega)) j hj h3
      simp
      omega
theorem dec8_digs (k : Nat) (h : k < 256) : digs 10 k = dec8 k := by
  have e : ∀ k, k < 256 → digs 10 k = if k < 10 then [hexd k] else if k < 100 then [hexd (k / 10), hexd (k % 10)] else [hexd (k / 10 / 10), hexd (k / 10 % 10), hexd (k % 10)] := by
    intro k hk
    by_cases h1 : k < 10
    · rw [if_pos h1, digs_lt _ _ h1]
    · rw [if_neg h1, digs_ge _ _ (by decide) h1]
      by_cases h2 : k < 100
      · rw [if_pos h2, digs_lt _ _ (by omega)]; rfl
      · rw [if_neg h2, digs_ge _ _ (by decide) (by omega), digs_lt _ (k / 10 / 10) (by omega)]; rfl
  rw [e k h]
  have : ∀ k : Fin 256, (if k.val < 10 then [hexd k.val] else if k.val < 100 then [hexd (k.val / 10), hexd (k.val % 10)] else [hexd (k.val / 10 / 10), hexd (k.val / 10 % 10), hexd (k.val % 10)]) = dec8 k.val := by decide +kernel
  exact this ⟨k, h⟩
end Go.Proofs.YtmgkmpbblhkacaaGreatDoor
namespace Go.Proofs.YtmgkmpbblhkacaaGreatDoor
open Go.RowKit
set_option linter.unusedSimpArgs false
set_option linter.unusedVariables false

/-- Pieces that are not empty and hold no colon. -/
def Good (ps : List Bs) : Prop := ∀ p ∈ ps, p ≠ [] ∧ (58 : UInt8) ∉ p
theorem hexd_ok (k : Nat) (h : k < 16) : dig (hexd k) = k ∧ hexa.contains (hexd k) = true ∧ hexd k ≠ 58 ∧ hexd k ≠ 46 := by
  have : ∀ k : Fin 16, dig (hexd k.val) = k.val ∧ hexa.contains (hexd k.val) = true ∧ hexd k.val ≠ 58 ∧ hexd k.val ≠ 46 := by decide
  exact this ⟨k, h⟩
theorem hex_all (P : UInt8 → Prop) (hP : ∀ k, k < 16 → P (hexd k)) (n : Nat) : ∀ c ∈ hexDigits n, P c := by
  induction n using Nat.strongRecOn with
  | _ n ih =>
    intro c hc
    rw [hexDigits] at hc
    split at hc
    · rename_i h; simp at hc; subst hc; exact hP _ h
    · rcases List.mem_append.1 hc with hc | hc
      · exact ih (n / 16) (by omega) c hc
      · simp at hc; subst hc; exact hP _ (by omega)
theorem hex_ne (n : Nat) : hexDigits n ≠ [] := by
  rw [hexDigits]; split <;> simp
theorem good_hex (L : List Nat) : Good (L.map hexDigits) := by
  intro p hp
  obtain ⟨x, _, rfl⟩ := List.mem_map.1 hp
  exact ⟨hex_ne x, fun hm => (hex_all (fun c => c ≠ 58) (fun k hk => (hexd_ok k hk).2.2.1) x 58 hm) rfl⟩
theorem zrun_rep (l : List Nat) : l.take (zrun l) = List.replicate (zrun l) 0 := by
  induction l with
  | nil => rfl
  | cons x r ih =>
    unfold zrun
    split
    · rename_i h; subst h; rw [List.take_succ_cons, ih, List.replicate_succ]
    · rfl
theorem rowTo_spec (l : List Nat) (i : Nat) (hi : i ≤ l.length) : (rowTo l i = (0, 0)) ∨ ((rowTo l i).1 + 2 ≤ (rowTo l i).2 ∧ (rowTo l i).2 ≤ l.length ∧ (l.drop (rowTo l i).1).take ((rowTo l i).2 - (rowTo l i).1) = List.replicate ((rowTo l i).2 - (rowTo l i).1) 0) := by
  induction i with
  | zero => exact Or.inl rfl
  | succ i ih =>
    unfold rowTo
    split
    · rename_i h
      have h2 := zrun_le (l.drop i)
      rw [List.length_drop] at h2
      refine Or.inr ⟨by simp only; omega, by simp only; omega, ?_⟩
      simp only
      rw [Nat.add_sub_cancel_left]
      exact zrun_rep _
    · exact ih (by omega)
end Go.Proofs.YtmgkmpbblhkacaaGreatDoor
namespace Go.Proofs.YtmgkmpbblhkacaaGreatDoor
open Go.RowKit
set_option linter.unusedSimpArgs false
set_option linter.unusedVariables false

theorem join_last (ps : List Bs) (h : Good ps) (hne : ps ≠ []) : ∃ t x, joinB 58 ps = t ++ [x] ∧ x ≠ 58 := by
  induction ps with
  | nil => exact absurd rfl hne
  | cons p r ih =>
    obtain ⟨h1, h2⟩ := h p (by simp)
    cases r with
    | nil =>
      rw [joinB_one]
      refine ⟨p.dropLast, p.getLast h1, (List.dropLast_concat_getLast h1).symm, ?_⟩
      intro hx
      exact h2 (hx ▸ List.getLast_mem h1)
    | cons q r =>
      obtain ⟨t, x, e, hx⟩ := ih (fun x hx => h x (by simp [hx])) (by simp)
      exact ⟨p ++ 58 :: t, x, by rw [joinB_cons, e]; simp, hx⟩
theorem joinB_snoc (c : UInt8) (ps : List Bs) (p : Bs) (h : ps ≠ []) : joinB c (ps ++ [p]) = joinB c ps ++ c :: p := by
  induction ps with
  | nil => exact absurd rfl h
  | cons q r ih =>
    cases r with
    | nil => rw [joinB_one]; show joinB c [q, p] = _; rw [joinB_cons, joinB_one]
    | cons a b =>
      have := ih (by simp)
      rw [List.cons_append, List.cons_append, joinB_cons, joinB_cons, List.append_assoc]
      rw [List.cons_append] at this
      rw [this]
      rfl
theorem take_snoc_map (f : Nat → Bs) (L : List Nat) (i x : Nat) (hx : L[i]? = some x) : (L.take (i + 1)).map f = (L.take i).map f ++ [f x] := by
  rw [List.take_add_one, hx, List.map_append]; rfl
theorem take_ne (L : List Nat) (i x : Nat) (hx : L[i]? = some x) (h0 : i ≠ 0) (f : Nat → Bs) : (L.take i).map f ≠ [] := by
  have hi := (List.getElem?_eq_some_iff.1 hx).1
  intro h2
  rw [List.map_eq_nil_iff, List.take_eq_nil_iff] at h2
  rcases h2 with h2 | h2
  · exact h0 h2
  · rw [h2] at hi; simp at hi
/-- What stands before place i, with :: for the places from f to t. -/
def shB (L : List Nat) (f t i : Nat) : Bs :=
  if i ≤ f then joinB 58 ((L.take i).map hexDigits)
  else joinB 58 ((L.take f).map hexDigits) ++ [58, 58] ++ joinB 58 (((L.drop t).take (i - t)).map hexDigits)
theorem shB_zero (L : List Nat) (f t : Nat) : shB L f t 0 = [] := by
  unfold shB; rw [if_pos (Nat.zero_le _)]; rfl
theorem shB_at (L : List Nat) (f t : Nat) (h : f < t) : shB L f t (f + 1) = shB L f t f ++ [58, 58] := by
  unfold shB
  rw [if_neg (by omega), if_pos (Nat.le_refl _), show f + 1 - t = 0 by omega]
  simp [joinB, List.intercalate]
theorem shB_in (L : List Nat) (f t i : Nat) (h1 : f < i) (h2 : i < t) : shB L f t (i + 1) = shB L f t i := by
  unfold shB
  rw [if_neg (by omega), if_neg (by omega), show i + 1 - t = 0 by omega, show i - t = 0 by omega]
theorem shB_first (L : List Nat) (f t i x : Nat) (hx : L[i]? = some x) (hft : f < t) (h : (i < f ∧ i = 0) ∨ i = t) :
    shB L f t (i + 1) = shB L f t i ++ hexDigits x ∧ (shB L f t i = [] ∨ ∃ u, shB L f t i = u ++ [58]) := by
  unfold shB
  rcases h with ⟨h1, rfl⟩ | rfl
  · rw [if_pos (by omega), if_pos (by omega), take_snoc_map _ _ _ _ hx]
    refine ⟨?_, Or.inl rfl⟩
    show joinB 58 ([] ++ [hexDigits x]) = [] ++ hexDigits x
    rw [List.nil_append, joinB_one, List.nil_append]
  · rw [if_neg (by omega), if_neg (by omega), show i + 1 - i = 0 + 1 by omega, Nat.sub_self, take_snoc_map _ _ 0 x (by rw [List.getElem?_drop]; exact hx)]
    refine ⟨?_, Or.inr ⟨joinB 58 ((L.take f).map hexDigits) ++ [58], by simp [joinB, List.intercalate]⟩⟩
    show _ ++ joinB 58 ([] ++ [hexDigits x]) = (_ ++ []) ++ hexDigits x
    rw [List.nil_append, joinB_one, List.append_nil]
theorem shB_next (L : List Nat) (f t i x : Nat) (hx : L[i]? = some x) (hft : f < t) (h : (i < f ∧ 0 < i) ∨ t < i) :
    shB L f t (i + 1) = shB L f t i ++ 58 :: hexDigits x ∧ ∃ u y, shB L f t i = u ++ [y] ∧ y ≠ 58 := by
  unfold shB
  rcases h with ⟨h1, h2⟩ | h1
  · have hne := take_ne L i x hx (by omega) hexDigits
    rw [if_pos (by omega), if_pos (by omega), take_snoc_map _ _ _ _ hx, joinB_snoc _ _ _ hne]
    exact ⟨rfl, join_last _ (good_hex _) hne⟩
  · have hx' : (L.drop t)[i - t]? = some x := by rw [List.getElem?_drop, show t + (i - t) = i by omega]; exact hx
    have hne := take_ne (L.drop t) (i - t) x hx' (by omega) hexDigits
    rw [if_neg (by omega), if_neg (by omega), show i + 1 - t = i - t + 1 by omega, take_snoc_map _ _ _ _ hx', joinB_snoc _ _ _ hne]
    obtain ⟨u, y, e, hy⟩ := join_last _ (good_hex ((L.drop t).take (i - t))) hne
    exact ⟨by rw [List.append_assoc, List.append_assoc, List.append_assoc], joinB 58 ((L.take f).map hexDigits) ++ [58, 58] ++ u, y, by rw [e]; simp only [List.append_assoc], hy⟩
theorem shB_end (L : List Nat) (f t : Nat) (hl : L.length = 8) (h1 : f < 8) (h2 : t ≤ 8) : shB L f t 8 = joinB 58 ((L.take f).map hexDigits) ++ [58, 58] ++ joinB 58 ((L.drop t).map hexDigits) := by
  unfold shB
  rw [if_neg (by omega), List.take_of_length_le (l := L.drop t) (by rw [List.length_drop]; omega)]
theorem shB_none (L : List Nat) (hl : L.length = 8) : shB L 8 9 8 = joinB 58 (L.map hexDigits) := by
  unfold shB
  rw [if_pos (by omega), List.take_of_length_le (by omega)]
theorem shB_text6 (L : List Nat) (hl : L.length = 8) : (if (rowTo L 8).2 = 0 then shB L 8 9 8 else shB L (rowTo L 8).1 (rowTo L 8).2 8) = text6 L := by
  unfold text6
  split
  · exact shB_none L hl
  · rename_i h0
    rcases rowTo_spec L 8 (by omega) with h | ⟨h1, h2, h3⟩
    · rw [h] at h0; exact absurd rfl h0
    · exact shB_end L _ _ hl (by omega) (by omega)
end Go.Proofs.YtmgkmpbblhkacaaGreatDoor
namespace Go.Proofs.YtmgkmpbblhkacaaGreatDoor
open Go.RowKit
set_option linter.unusedSimpArgs false
set_option linter.unusedVariables false

theorem setCell_same {w : World} {b o : Nat} {v : Value} {cur : Array Value} {T : TypeId} {fz : Nat × Nat} (h : w.heap[b]? = some (.cells cur T fz)) (hv : cur[o]? = some v) : w.setCell ⟨b, o, none⟩ v = w := by
  have e : (w.setCell ⟨b, o, none⟩ v).heap = w.heap := by
    apply Array.ext_getElem?
    intro i
    by_cases hi : b = i
    · subst hi
      rw [heap_setCell_at h, h]
      congr 2
      apply Array.ext_getElem?
      intro j
      rw [Array.getElem?_setIfInBounds]
      split
      · rename_i hj; subst hj
        split
        · exact hv.symm
        · rename_i hlt
          rw [Array.getElem?_eq_none (by omega)]
      · rfl
    · simp only [World.setCell, Array.getElem?_modify]
      rw [if_neg hi]
  show ({ w with heap := (w.setCell ⟨b, o, none⟩ v).heap } : World) = w
  rw [e]
theorem eight_same {w : World} {b : Nat} {a0 a1 a2 a3 a4 a5 a6 a7 : Value} {T : TypeId} (h : w.heap[b]? = some (.cells #[a0, a1, a2, a3, a4, a5, a6, a7] T (0, 0))) :
    (((((((w.setCell ⟨b, 0, none⟩ a0).setCell ⟨b, 1, none⟩ a1).setCell ⟨b, 2, none⟩ a2).setCell ⟨b, 3, none⟩ a3).setCell ⟨b, 4, none⟩ a4).setCell ⟨b, 5, none⟩ a5).setCell ⟨b, 6, none⟩ a6).setCell ⟨b, 7, none⟩ a7 = w := by
  have e0 : w.setCell ⟨b, 0, none⟩ a0 = w := setCell_same h rfl
  have e1 : w.setCell ⟨b, 1, none⟩ a1 = w := setCell_same h rfl
  have e2 : w.setCell ⟨b, 2, none⟩ a2 = w := setCell_same h rfl
  have e3 : w.setCell ⟨b, 3, none⟩ a3 = w := setCell_same h rfl
  have e4 : w.setCell ⟨b, 4, none⟩ a4 = w := setCell_same h rfl
  have e5 : w.setCell ⟨b, 5, none⟩ a5 = w := setCell_same h rfl
  have e6 : w.setCell ⟨b, 6, none⟩ a6 = w := setCell_same h rfl
  have e7 : w.setCell ⟨b, 7, none⟩ a7 = w := setCell_same h rfl
  rw [e0, e1, e2, e3, e4, e5, e6, e7]
theorem eight0 (a0 a1 a2 a3 a4 a5 a6 a7 : Value) : (#[a0, a1, a2, a3, a4, a5, a6, a7] : Array Value)[0]? = some a0 := rfl
theorem eight1 (a0 a1 a2 a3 a4 a5 a6 a7 : Value) : (#[a0, a1, a2, a3, a4, a5, a6, a7] : Array Value)[1]? = some a1 := rfl
theorem eight2 (a0 a1 a2 a3 a4 a5 a6 a7 : Value) : (#[a0, a1, a2, a3, a4, a5, a6, a7] : Array Value)[2]? = some a2 := rfl
theorem eight3 (a0 a1 a2 a3 a4 a5 a6 a7 : Value) : (#[a0, a1, a2, a3, a4, a5, a6, a7] : Array Value)[3]? = some a3 := rfl
theorem eight4 (a0 a1 a2 a3 a4 a5 a6 a7 : Value) : (#[a0, a1, a2, a3, a4, a5, a6, a7] : Array Value)[4]? = some a4 := rfl
theorem eight5 (a0 a1 a2 a3 a4 a5 a6 a7 : Value) : (#[a0, a1, a2, a3, a4, a5, a6, a7] : Array Value)[5]? = some a5 := rfl
theorem eight6 (a0 a1 a2 a3 a4 a5 a6 a7 : Value) : (#[a0, a1, a2, a3, a4, a5, a6, a7] : Array Value)[6]? = some a6 := rfl
theorem eight7 (a0 a1 a2 a3 a4 a5 a6 a7 : Value) : (#[a0, a1, a2, a3, a4, a5, a6, a7] : Array Value)[7]? = some a7 := rfl
end Go.Proofs.YtmgkmpbblhkacaaGreatDoor
