/- Bits of whole numbers, as remainders. An address at nought. An address of four bytes, as it is written. Digits to base sixteen; a block's cells. An address of eight pieces, as it is written. Rows of texts, joined and parted. A string of one byte. A number to a base. Numbers to bases, plain. -/
import Derived.Test.YtmgkmpbblhkacaaGreatDoorBase
import Derived.Laws.BitsLemmas
import Derived.Test.YtmgkmpbblhkacaaGreatDoorStrs
import Derived.Test.YtmgkmpbblhkacaaGreatDoorSplit
namespace Go.Proofs.YtmgkmpbblhkacaaGreatDoor
open Go.RowKit
set_option linter.unusedSimpArgs false
set_option linter.unusedVariables false

theorem i64_and16 (n : Int) : ∃ p : Nat, p < 65536 ∧ bits .and .i64 n 65535 = (p : Int) := by
  have hm : (BitVec.ofInt 64 65535).toNat = 2 ^ 16 - 1 := by decide
  have key : (BitVec.ofInt 64 n &&& BitVec.ofInt 64 65535).toNat = (n % ((2 ^ 64 : Nat) : Int)).toNat % 2 ^ 16 := by
    rw [BitVec.toNat_and, BitVec.toNat_ofInt, hm, Nat.and_two_pow_sub_one_eq_mod]
  refine ⟨(n % ((2 ^ 64 : Nat) : Int)).toNat % 2 ^ 16, Nat.mod_lt _ (by decide), ?_⟩
  show IntKind.i64.wrap ((BitVec.ofInt 64 n &&& BitVec.ofInt 64 65535).toNat : Nat) = _
  rw [key, IntKind.wrap_i64]
  omega

theorem u8_wrap_low (x : Int) (h0 : 0 ≤ x) (h1 : x < 256) : IntKind.u8.wrap x = x := by
  simp [IntKind.wrap, IntKind.bits, IntKind.signed]
  omega
theorem i64_and_pow (n : Int) (k : Nat) (hk : k < 63) : ∃ p : Nat, p < 2 ^ k ∧ bits .and .i64 n ((2 ^ k - 1 : Nat) : Int) = (p : Int) := by
  have hk2 : 2 ^ k < 2 ^ 63 := Nat.pow_lt_pow_right (by decide) hk
  have hm : (BitVec.ofInt 64 ((2 ^ k - 1 : Nat) : Int)).toNat = 2 ^ k - 1 := by
    rw [BitVec.toNat_ofInt]
    have : ((2 ^ k - 1 : Nat) : Int) % ((2 ^ 64 : Nat) : Int) = ((2 ^ k - 1 : Nat) : Int) := Int.emod_eq_of_lt (by omega) (by omega)
    rw [this]; rfl
  have key : (BitVec.ofInt 64 n &&& BitVec.ofInt 64 ((2 ^ k - 1 : Nat) : Int)).toNat = (n % ((2 ^ 64 : Nat) : Int)).toNat % 2 ^ k := by
    rw [BitVec.toNat_and, hm, BitVec.toNat_ofInt, Nat.and_two_pow_sub_one_eq_mod]
  have hp := Nat.mod_lt (n % ((2 ^ 64 : Nat) : Int)).toNat (show 0 < 2 ^ k from Nat.pow_pos (by decide))
  refine ⟨(n % ((2 ^ 64 : Nat) : Int)).toNat % 2 ^ k, hp, ?_⟩
  show IntKind.i64.wrap ((BitVec.ofInt 64 n &&& BitVec.ofInt 64 ((2 ^ k - 1 : Nat) : Int)).toNat : Nat) = _
  rw [key, IntKind.wrap_i64]
  generalize (n % ((2 ^ 64 : Nat) : Int)).toNat % 2 ^ k = r at hp
  omega
theorem i64_and7 (n : Int) : ∃ p : Nat, p < 8 ∧ bits .and .i64 n 7 = (p : Int) := i64_and_pow n 3 (by decide)
theorem i64_and3 (n : Int) : ∃ p : Nat, p < 4 ∧ bits .and .i64 n 3 = (p : Int) := i64_and_pow n 2 (by decide)
theorem i64_and1 (n : Int) : ∃ p : Nat, p < 2 ∧ bits .and .i64 n 1 = (p : Int) := i64_and_pow n 1 (by decide)
end Go.Proofs.YtmgkmpbblhkacaaGreatDoor
namespace Go.Proofs.YtmgkmpbblhkacaaGreatDoor
open Go.RowKit
set_option linter.unusedSimpArgs false
set_option linter.unusedVariables false

theorem add_zero_off (g j : Nat) : (⟨g, 0, none⟩ : Addr).add j = ⟨g, j, none⟩ := by
  by_cases h : j = 0
  · subst h; simp [Addr.add]
  · simp [Addr.add, h]
end Go.Proofs.YtmgkmpbblhkacaaGreatDoor
namespace Go.Proofs.YtmgkmpbblhkacaaGreatDoor
open Go.RowKit
set_option linter.unusedSimpArgs false
set_option linter.unusedVariables false

def dec8 (n : Nat) : Bs := Lib.itoa (n : Int)
def parts4 (n : Nat) : List Bs := [dec8 (n / 16777216 % 256), dec8 (n / 65536 % 256), dec8 (n / 256 % 256), dec8 (n % 256)]
def text4 (n : Nat) : Bs := joinB 46 (parts4 n)

theorem decDigits_le (n : Nat) (h : n < 256) : (Lib.decDigits n).length ≤ 3 := by
  have : ∀ n : Fin 256, (Lib.decDigits n.val).length ≤ 3 := by decide +kernel
  exact this ⟨n, h⟩
theorem dec8_le (n : Nat) (h : n < 256) : (dec8 n).length ≤ 3 := by
  unfold dec8 Lib.itoa
  rw [if_neg (by omega)]
  simpa using decDigits_le n h
end Go.Proofs.YtmgkmpbblhkacaaGreatDoor
namespace Go.Proofs.YtmgkmpbblhkacaaGreatDoor
open Go.RowKit
set_option linter.unusedSimpArgs false
set_option linter.unusedVariables false

/-- A digit to base sixteen, as it is written. -/
def hexd (n : Nat) : UInt8 := if n < 10 then UInt8.ofNat (48 + n) else UInt8.ofNat (87 + n)
def hexDigits (n : Nat) : Bs := if h : n < 16 then [hexd n] else hexDigits (n / 16) ++ [hexd (n % 16)]
termination_by n
decreasing_by omega
theorem hexDigits_lt (n : Nat) (h : n < 16) : hexDigits n = [hexd n] := by rw [hexDigits, dif_pos h]
theorem hexDigits_ge (n : Nat) (h : ¬ n < 16) : hexDigits n = hexDigits (n / 16) ++ [hexd (n % 16)] := by rw [hexDigits, dif_neg h]

theorem heap_setCell_at {w : World} {b : Nat} {cur : Array Value} {T : TypeId} {fz : Nat × Nat} (h : w.heap[b]? = some (.cells cur T fz)) (o : Nat) (v : Value) :
    (w.setCell ⟨b, o, none⟩ v).heap[b]? = some (.cells (cur.setIfInBounds o v) T fz) := by
  simp only [World.setCell, Array.getElem?_modify, h]
  simp
theorem cell_of_heap {w : World} {b : Nat} {cur : Array Value} {T : TypeId} {fz : Nat × Nat} (h : w.heap[b]? = some (.cells cur T fz)) (o : Nat) : w.cell? ⟨b, o, none⟩ = cur[o]? := by
  unfold World.cell?
  rw [show w.heap[(⟨b, o, none⟩ : Addr).block]? = some (.cells cur T fz) from h]
  rfl
theorem frozen_of_heap {w : World} {b : Nat} {cur : Array Value} {T : TypeId} (h : w.heap[b]? = some (.cells cur T (0, 0))) (o : Nat) : w.frozen? ⟨b, o, none⟩ = false := by
  unfold World.frozen?
  rw [show w.heap[(⟨b, o, none⟩ : Addr).block]? = some (.cells cur T (0, 0)) from h]
  simp
end Go.Proofs.YtmgkmpbblhkacaaGreatDoor
namespace Go.Proofs.YtmgkmpbblhkacaaGreatDoor
open Go.RowKit
set_option linter.unusedSimpArgs false
set_option linter.unusedVariables false

/-- How many noughts a row of pieces begins with. -/
def zrun : List Nat → Nat
  | [] => 0
  | x :: r => if x = 0 then zrun r + 1 else 0
theorem zrun_le (l : List Nat) : zrun l ≤ l.length := by
  induction l with
  | nil => simp [zrun]
  | cons x r ih => unfold zrun; split <;> simp <;> omega
/-- host.row, up to place i. -/
def rowTo (l : List Nat) : Nat → Nat × Nat
  | 0 => (0, 0)
  | i + 1 => if zrun (l.drop i) > max 1 ((rowTo l i).2 - (rowTo l i).1) then (i, i + zrun (l.drop i)) else rowTo l i
theorem rowTo_le (l : List Nat) (i : Nat) : (rowTo l i).1 ≤ (rowTo l i).2 ∧ (rowTo l i).2 ≤ max l.length i := by
  induction i with
  | zero => simp [rowTo]
  | succ i ih =>
    unfold rowTo
    split
    · have := zrun_le (l.drop i)
      rw [List.length_drop] at this
      simp only
      omega
    · omega

/-- Eight pieces, as a value; as cells. -/
def cells8 (l : List Nat) : Array Value := (l.map fun (x : Nat) => Value.int .u16 (x : Int)).toArray
def agg8 (l : List Nat) : Value := .agg (cells8 l)

theorem cells8_at (l : List Nat) (k : Nat) (h : k < l.length) : (cells8 l)[k]? = some (.int .u16 (l[k] : Int)) := by
  simp [cells8, List.getElem?_eq_getElem h]

theorem agg8_cells (l : List Nat) (w : World) (b : Nat) (hb : b = w.heap.size) (k x : Nat) (h : l[k]? = some x) : (w.alloc (.cells (cells8 l) 115)).cell? ⟨b, k, none⟩ = some (.int .u16 (x : Int)) := by
  subst hb
  rw [cells_alloc_new]
  simp [cells8, h]
theorem zrun_zero (l : List Nat) (k : Nat) (h : l[k]? = some 0) : zrun (l.drop k) = zrun (l.drop (k + 1)) + 1 := by
  obtain ⟨hk, hx⟩ := List.getElem?_eq_some_iff.1 h
  rw [List.drop_eq_getElem_cons hk, hx]
  rfl
theorem zrun_stop (l : List Nat) (k : Nat) (h : ∀ x, l[k]? = some x → x ≠ 0) : zrun (l.drop k) = 0 := by
  by_cases hk : k < l.length
  · rw [List.drop_eq_getElem_cons hk, zrun, if_neg (h _ (List.getElem?_eq_getElem hk))]
  · rw [List.drop_of_length_le (by omega)]; rfl

theorem hexDigits_len (n : Nat) (h : n < 65536) : (hexDigits n).length ≤ 4 := by
  rw [hexDigits]
  split
  · simp
  · rw [hexDigits]
    split
    · simp
    · rw [hexDigits]
      split
      · simp
      · rw [hexDigits, dif_pos (by omega)]
        simp
theorem joinB_len (sep : UInt8) (ps : List Bs) (k : Nat) (h : ∀ p ∈ ps, p.length ≤ k) : (joinB sep ps).length ≤ ps.length * (k + 1) := by
  unfold joinB
  induction ps with
  | nil => simp [List.intercalate]
  | cons p r ih =>
    cases r with
    | nil =>
      have := h p (by simp)
      simp [List.intercalate]
      omega
    | cons q r =>
      have h1 := h p (by simp)
      have h2 := ih (fun x hx => h x (by simp [hx]))
      have e : List.intercalate [sep] (p :: q :: r) = p ++ sep :: List.intercalate [sep] (q :: r) := by simp [List.intercalate, List.intersperse]
      rw [e]
      simp only [List.length_append, List.length_cons] at h2 ⊢
      have : (r.length + 1 + 1) * (k + 1) = (r.length + 1) * (k + 1) + (k + 1) := by rw [Nat.succ_mul]
      omega

theorem strOf_append (a b : Bs) : strOf (a ++ b) = strOf a ++ strOf b := by
  apply ByteArray.ext; apply Array.ext'; simp [strOf]
/-- host.text6. -/
def text6 (l : List Nat) : Bs :=
  if (rowTo l 8).2 = 0 then joinB 58 (l.map hexDigits)
  else joinB 58 ((l.take (rowTo l 8).1).map hexDigits) ++ [58, 58] ++ joinB 58 ((l.drop (rowTo l 8).2).map hexDigits)
end Go.Proofs.YtmgkmpbblhkacaaGreatDoor
namespace Go.Proofs.YtmgkmpbblhkacaaGreatDoor
open Go.RowKit
set_option linter.unusedSimpArgs false
set_option linter.unusedVariables false

theorem joinB_one (c : UInt8) (p : Bs) : joinB c [p] = p := by simp [joinB, List.intercalate]
theorem joinB_cons (c : UInt8) (p q : Bs) (r : List Bs) : joinB c (p :: q :: r) = p ++ c :: joinB c (q :: r) := by simp [joinB, List.intercalate, List.intersperse]
theorem split1_only (c : UInt8) (p : Bs) (h : c ∉ p) : split1 c p = [p] := by
  induction p with
  | nil => rfl
  | cons x r ih =>
    rw [List.mem_cons, not_or] at h
    unfold split1
    rw [if_neg (fun hx => h.1 hx.symm), ih h.2]
theorem split1_pref (c : UInt8) (p t : Bs) (h : c ∉ p) : split1 c (p ++ c :: t) = p :: split1 c t := by
  induction p with
  | nil => rw [List.nil_append, split1, if_pos rfl]
  | cons x r ih =>
    rw [List.mem_cons, not_or] at h
    rw [List.cons_append, split1, if_neg (fun hx => h.1 hx.symm), ih h.2]
theorem split1_join (c : UInt8) (ps : List Bs) (hne : ps ≠ []) (h : ∀ p ∈ ps, c ∉ p) : split1 c (joinB c ps) = ps := by
  induction ps with
  | nil => exact absurd rfl hne
  | cons p r ih =>
    cases r with
    | nil => rw [joinB_one, split1_only c p (h p (by simp))]
    | cons q r => rw [joinB_cons, split1_pref c p _ (h p (by simp)), ih (by simp) (fun x hx => h x (by simp [hx]))]
end Go.Proofs.YtmgkmpbblhkacaaGreatDoor
namespace Go.Proofs.YtmgkmpbblhkacaaGreatDoor
open Go.RowKit
set_option linter.unusedSimpArgs false
set_option linter.unusedVariables false

/-- A string of one byte, out of a row of one byte. -/
theorem byte_str (c : UInt8) (x : Int) (hx : x = (c.toNat : Int)) (W : World) (b : Nat) (hb : b = W.heap.size) : (convert 43 9 (.slice (some ⟨b, 0, none⟩) 1 1)).run Tryz.prog (W.alloc (.cells #[.int .u8 x] 5)) = .ok (.string (strOf [c])) (W.alloc (.cells #[.int .u8 x] 5)) := by
  subst hx; subst hb
  refine run_convert_bytes_back _ _ _ 5 _ _ [c] Tryz.underlying43 Tryz.underlying5 Tryz.underlying9 ?_
  intro j hj
  rw [add_zero_off, cells_alloc_new]
  match j, hj with
  | 0, _ => rfl
end Go.Proofs.YtmgkmpbblhkacaaGreatDoor
namespace Go.Proofs.YtmgkmpbblhkacaaGreatDoor
open Go.RowKit
set_option linter.unusedSimpArgs false
set_option linter.unusedVariables false

/-- A number to a base. -/
def digs (b n : Nat) : Bs := if h : n < b ∨ b < 2 then [hexd n] else digs b (n / b) ++ [hexd (n % b)]
termination_by n
decreasing_by exact Nat.div_lt_self (by omega) (by omega)
theorem digs_lt (b n : Nat) (h : n < b) : digs b n = [hexd n] := by rw [digs, dif_pos (Or.inl h)]
theorem digs_ge (b n : Nat) (hb : 2 ≤ b) (h : ¬ n < b) : digs b n = digs b (n / b) ++ [hexd (n % b)] := by rw [digs, dif_neg (by omega)]
theorem digs16 (n : Nat) : digs 16 n = hexDigits n := by
  induction n using Nat.strongRecOn with
  | _ n ih =>
    by_cases h : n < 16
    · rw [digs_lt _ _ h, hexDigits_lt _ h]
    · rw [digs_ge _ _ (by decide) h, hexDigits_ge _ h, ih _ (by omega)]
end Go.Proofs.YtmgkmpbblhkacaaGreatDoor
namespace Go.Proofs.YtmgkmpbblhkacaaGreatDoor
open Go.RowKit
set_option linter.unusedSimpArgs false
set_option linter.unusedVariables false

theorem digs_ind (P : UInt8 → Prop) (b : Nat) (hb : 2 ≤ b) (hP : ∀ k, k < b → P (hexd k)) (n : Nat) : ∀ c ∈ digs b n, P c := by
  induction n using Nat.strongRecOn with
  | _ n ih =>
    by_cases h : n < b
    · rw [digs_lt _ _ h]; intro c hc; simp at hc; subst hc; exact hP n h
    · rw [digs_ge _ _ hb h]
      intro c hc
      rcases List.mem_append.1 hc with hc | hc
      · exact ih _ (Nat.div_lt_self (by omega) (by omega)) c hc
      · simp at hc; subst hc; exact hP _ (Nat.mod_lt _ (by omega))
theorem digs_ne (b n : Nat) (hb : 2 ≤ b) : digs b n ≠ [] := by
  by_cases h : n < b
  · rw [digs_lt _ _ h]; simp
  · rw [digs_ge _ _ hb h]; simp
theorem digs_len (b : Nat) (hb : 2 ≤ b) (n : Nat) : ∀ k, 1 ≤ k → n < 2 ^ k → (digs b n).length ≤ k := by
  induction n using Nat.strongRecOn with
  | _ n ih =>
    intro k h1 hk
    by_cases h : n < b
    · rw [digs_lt _ _ h]; exact h1
    · rw [digs_ge _ _ hb h, List.length_append]
      obtain ⟨j, rfl⟩ : ∃ j, k = j + 1 := ⟨k - 1, by omega⟩
      have h2 : n / b ≤ n / 2 := Nat.div_le_div_left hb (by omega)
      have h3 : n / b < 2 ^ j := by rw [Nat.pow_succ] at hk; omega
      have hj : 1 ≤ j := by
        refine Classical.byContradiction fun h4 => ?_
        obtain rfl : j = 0 := by omega
        have : n / b = 0 := by omega
        have h5 := Nat.div_pos (show b ≤ n by omega) (show 0 < b by omega)
        omega
      have := ih (n / b) (Nat.div_lt_self (by omega) (by omega)) j hj h3
      simp
      omega
theorem dec8_digs (k : Nat) (h : k < 256) : digs 10 k = dec8 k := by
  have e : ∀ k, k < 256 → digs 10 k = if k < 10 then [hexd k] else if k < 100 then [hexd (k / 10), hexd (k % 10)] else [hexd (k / 10 / 10), hexd (k / 10 % 10), hexd (k % 10)] := by
    intro k hk
    by_cases h1 : k < 10
    · rw [if_pos h1, digs_lt _ _ h1]
    · rw [if_neg h1, digs_ge _ _ (by decide) h1]
      by_cases h2 : k < 100
      · rw [if_pos h2, digs_lt _ _ (by omega)]; rfl
      · rw [if_neg h2, digs_ge _ _ (by decide) (by omega), digs_lt _ (k / 10 / 10) (by omega)]; rfl
  rw [e k h]
  have : ∀ k : Fin 256, (if k.val < 10 then [hexd k.val] else if k.val < 100 then [hexd (k.val / 10), hexd (k.val % 10)] else [hexd (k.val / 10 / 10), hexd (k.val / 10 % 10), hexd (k.val % 10)]) = dec8 k.val := by decide +kernel
  exact this ⟨k, h⟩
end Go.Proofs.YtmgkmpbblhkacaaGreatDoor
