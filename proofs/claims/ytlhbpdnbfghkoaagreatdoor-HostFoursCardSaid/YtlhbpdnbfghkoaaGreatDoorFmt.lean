/- strconv.FormatUint to base sixteen, of a number of sixteen bits. -/
import Derived.Test.YtlhbpdnbfghkoaaGreatDoorStrs
import Derived.Laws.IdiomStrings
import Derived.Laws.BitsAllLaws
namespace Go.Proofs.YtlhbpdnbfghkoaaGreatDoor
open Go.RowKit
set_option linter.unusedSimpArgs false
set_option linter.unusedVariables false

/-- A digit to base sixteen, as it is written. -/
def hexd (n : Nat) : UInt8 := if n < 10 then UInt8.ofNat (48 + n) else UInt8.ofNat (87 + n)
def hexDigits (n : Nat) : Bs := if h : n < 16 then [hexd n] else hexDigits (n / 16) ++ [hexd (n % 16)]
termination_by n
decreasing_by omega
theorem hexDigits_lt (n : Nat) (h : n < 16) : hexDigits n = [hexd n] := by rw [hexDigits, dif_pos h]
theorem hexDigits_ge (n : Nat) (h : ¬ n < 16) : hexDigits n = hexDigits (n / 16) ++ [hexd (n % 16)] := by rw [hexDigits, dif_neg h]

theorem heap_setCell_at {w : World} {b : Nat} {cur : Array Value} {T : TypeId} {fz : Nat × Nat} (h : w.heap[b]? = some (.cells cur T fz)) (o : Nat) (v : Value) :
    (w.setCell ⟨b, o, none⟩ v).heap[b]? = some (.cells (cur.setIfInBounds o v) T fz) := by
  simp only [World.setCell, Array.getElem?_modify, h]
  simp
theorem cell_of_heap {w : World} {b : Nat} {cur : Array Value} {T : TypeId} {fz : Nat × Nat} (h : w.heap[b]? = some (.cells cur T fz)) (o : Nat) : w.cell? ⟨b, o, none⟩ = cur[o]? := by
  unfold World.cell?
  rw [show w.heap[(⟨b, o, none⟩ : Addr).block]? = some (.cells cur T fz) from h]
  rfl
theorem frozen_of_heap {w : World} {b : Nat} {cur : Array Value} {T : TypeId} (h : w.heap[b]? = some (.cells cur T (0, 0))) (o : Nat) : w.frozen? ⟨b, o, none⟩ = false := by
  unfold World.frozen?
  rw [show w.heap[(⟨b, o, none⟩ : Addr).block]? = some (.cells cur T (0, 0)) from h]
  simp

def digitsText : ByteArray := ⟨#[48, 49, 50, 51, 52, 53, 54, 55, 56, 57, 97, 98, 99, 100, 101, 102, 103, 104, 105, 106, 107, 108, 109, 110, 111, 112, 113, 114, 115, 116, 117, 118, 119, 120, 121, 122]⟩

theorem digits_at (u : Nat) (h : u < 16) (h2 : u < (⟨#[48, 49, 50, 51, 52, 53, 54, 55, 56, 57, 97, 98, 99, 100, 101, 102, 103, 104, 105, 106, 107, 108, 109, 110, 111, 112, 113, 114, 115, 116, 117, 118, 119, 120, 121, 122]⟩ : ByteArray).size) : (⟨#[48, 49, 50, 51, 52, 53, 54, 55, 56, 57, 97, 98, 99, 100, 101, 102, 103, 104, 105, 106, 107, 108, 109, 110, 111, 112, 113, 114, 115, 116, 117, 118, 119, 120, 121, 122]⟩ : ByteArray)[u]'h2 = hexd u := by
  have : ∀ u : Fin 16, (⟨#[48, 49, 50, 51, 52, 53, 54, 55, 56, 57, 97, 98, 99, 100, 101, 102, 103, 104, 105, 106, 107, 108, 109, 110, 111, 112, 113, 114, 115, 116, 117, 118, 119, 120, 121, 122]⟩ : ByteArray)[u.val]'(Nat.lt_of_lt_of_le u.isLt (by decide)) = hexd u.val := by decide
  exact this ⟨u, h⟩
theorem tz_index : (IntKind.u64.wrap (bits .and .u64 16 (IntKind.u64.wrap (-16)) * 285870213051353865) / 288230376151711744).toNat = 15 := by decide +kernel
set_option maxRecDepth 1000000 in
theorem tz_any (w : World) (hG : GL w) :
    Calls Tryz.prog 101 #[.int .u64 16] w fun e w' => e = .returned (.int .i64 4) ∧ w = w' := by
  have htz : w.cell? ⟨7, (IntKind.u64.wrap (bits .and .u64 16 (IntKind.u64.wrap (-16)) * 285870213051353865) / 288230376151711744).toNat, none⟩ = some (.int .u8 4) := by
    rw [tz_index]; exact hG.tz16
  go_enter Tryz.func101, Tryz.ntmps101
  go_wp2
  go_ret
  exact ⟨rfl, rfl⟩
set_option maxRecDepth 1000000 in
theorem pow2_any (w : World) :
    Calls Tryz.prog 100 #[.int .i64 16] w fun e w' => e = .returned (.bool true) ∧ w = w' := by
  go_enter Tryz.func100, Tryz.ntmps100
  go_wp2
  go_ret
  exact ⟨rfl, rfl⟩

theorem and_15 (u : Nat) (h : u < 65536) : bits .and .u64 (u : Int) 15 = ((u % 16 : Nat) : Int) := by
  have h1 := u64_and_nat u 15 (by omega) (by decide)
  have h2 : u &&& 15 = u % 16 := Nat.and_two_pow_sub_one_eq_mod u 4
  rw [h2] at h1
  exact h1

set_option maxRecDepth 1000000 in
set_option maxHeartbeats 8000000 in
theorem formatBits16 (n : Nat) (w : World) (hn : n < 65536) (hG : GL w) :
    Calls Tryz.prog 87 #[.slice none 0 0, .int .u64 n, .int .i64 16, .bool false, .bool false] w fun e w' => e = .returned (.tuple #[.slice none 0 0, .string (strOf (hexDigits n))]) ∧ Below w.heap.size w w' := by
  have CT := Lib.hid (fun (o : Obj) => tz_any (w.alloc o) (hG.alloc o))
  go_enter Tryz.func87, Tryz.ntmps87
  go_wp2_with (first | (go_at_call 100; refine (pow2_any _).mono ?_; rintro e w2 ⟨rfl, rfl⟩) | (go_at_call 101; refine (CT.out _).mono ?_; rintro e w2 ⟨rfl, rfl⟩))
  go_loopw [1, 13] (fun vu vi wr => ∃ (u : Nat) (suf : Bs) (cur : Array Value), vu = .int .u64 u ∧ vi = .int .i64 (65 - (suf.length : Int)) ∧ suf.length ≤ 3 ∧ Below w.heap.size w wr ∧ wr.heap[w.heap.size]? = some (.cells cur 119 (0, 0)) ∧ cur.size = 65 ∧ Hid (hexDigits n = hexDigits u ++ suf ∧ u * 16 ^ suf.length < 65536 ∧ ∀ (j : Nat) (b : UInt8), suf[j]? = some b → cur[65 - suf.length + j]? = some (.int .u8 (b.toNat : Int)))) (fun vu _ _ => (intOf vu).toNat)
  case atStart =>
    refine ⟨n, [], Tryz.zeroCells119, rfl, rfl, by simp, (Below.refl _ w).alloc (Nat.le_refl _) _, heap_alloc_new w _, rfl, Lib.hid ⟨by simp, by simpa using hn, fun j b hj => by simp at hj⟩⟩
  case round =>
    obtain ⟨u, suf, cur, rfl, rfl, hsl, hbw, hh, hcs, HI⟩ := hrel
    obtain ⟨wo, rfl⟩ : ∃ wo : World, wo = wr := ⟨_, rfl⟩
    obtain ⟨m, hm⟩ : ∃ m, suf.length = m := ⟨_, rfl⟩
    rw [hm] at hsl ⊢
    have HM := Lib.hid hm
    clear hm
    have hsz : w.heap.size < wo.heap.size := (Array.getElem?_eq_some_iff.1 hh).1
    have hcell : wo.cell? ⟨w.heap.size, 65 - m - 1, none⟩ = some (cur[65 - m - 1]'(by omega)) := by
      rw [cell_of_heap hh]; exact Array.getElem?_eq_getElem _
    generalize cur[65 - m - 1]'(by omega) = v0 at hcell
    have hfz := frozen_of_heap hh (65 - m - 1)
    have HH := Lib.hid hh
    clear hh
    have hal : Tryz.prog.arrayLen 119 = 65 := by simp [Program.arrayLen, Tryz.underlying119]
    by_cases hu : u < 16
    · have hsla : ∀ W, (Instr.sliceAt 119 (.pointer (some ⟨w.heap.size, 0, none⟩)) (some (.int .i64 (65 - (m : Int) - 1))) none none).run Tryz.prog W = .ok (.slice (some ⟨w.heap.size, 65 - m - 1, none⟩) (m + 1) (m + 1)) W := by
        intro W
        rw [run_sliceAt_array_l W 119 ⟨w.heap.size, 0, none⟩ (by simp [Program.arrayLen, Program.elem, Tryz.underlying119]) .i64 _ (by omega) (by rw [hal]; omega)]
        have e1 : (65 - (m : Int) - 1).toNat = 65 - m - 1 := by omega
        have e2 : 65 - (65 - m - 1) = m + 1 := by omega
        have e3 : ¬ 65 = 65 - m - 1 := by omega
        have e4 : Tryz.prog.elem 119 = 5 := by simp [Program.elem, Tryz.underlying119]
        rw [hal, e4, Tryz.sizeOf5]
        simp [slicedAt, e1, e2, e3, Result.andThen, Addr.add_lit]
      have hdg := digits_at u hu
      have hres : hexDigits n = hexd u :: suf := by
        rw [HI.out.1, hexDigits_lt u hu]; rfl
      have hcv : (convert 35 9 (.slice (some ⟨w.heap.size, 65 - m - 1, none⟩) (m + 1) (m + 1))).run Tryz.prog (wo.setCell ⟨w.heap.size, 65 - m - 1, none⟩ (.int .u8 ((hexd u).toNat : Int))) = .ok (.string (strOf (hexDigits n))) (wo.setCell ⟨w.heap.size, 65 - m - 1, none⟩ (.int .u8 ((hexd u).toNat : Int))) := by
        have hh2 := heap_setCell_at HH.out (65 - m - 1) (.int .u8 ((hexd u).toNat : Int))
        have hl : (hexDigits n).length = m + 1 := by rw [hres, List.length_cons, HM.out]
        rw [← hl]
        refine run_convert_bytes_back _ _ _ 5 _ _ (hexDigits n) Tryz.underlying35 Tryz.underlying5 Tryz.underlying9 ?_
        intro j hj
        rw [Addr.add_lit, cell_of_heap hh2]
        obtain ⟨bj, hbj⟩ : ∃ bj, (hexDigits n)[j] = bj := ⟨_, rfl⟩
        have hbj2 : (hexd u :: suf)[j]? = some bj := by rw [← hres, List.getElem?_eq_getElem hj, hbj]
        rw [hbj]
        cases j with
        | zero =>
          rw [Nat.add_zero, Array.getElem?_setIfInBounds_self_of_lt (by rw [hcs]; omega)]
          simp at hbj2
          rw [hbj2]
        | succ j =>
          rw [Array.getElem?_setIfInBounds_ne (by omega)]
          have := HI.out.2.2 j bj (by simpa using hbj2)
          rw [HM.out] at this
          rw [show 65 - m - 1 + (j + 1) = 65 - m + j from by omega, this]
      clear hres
      go_wp2
      go_ret2
      exact ⟨rfl, hbw.setCell (Nat.le_refl _) _⟩
    · have hu2 : u < 65536 := by
        have h1 := HI.out.2.1
        have h2 : 1 ≤ 16 ^ suf.length := Nat.pow_pos (by decide)
        have h3 : u * 1 ≤ u * 16 ^ suf.length := Nat.mul_le_mul_left _ h2
        omega
      have hm2 : m ≤ 2 := by
        have h1 := HI.out.2.1
        rw [HM.out] at h1
        rcases Nat.lt_or_ge m 3 with h | h
        · omega
        · obtain rfl : m = 3 := by omega
          omega
      have hand := and_15 u hu2
      have hr16 : u % 16 < 16 := Nat.mod_lt _ (by decide)
      have hdg := digits_at (u % 16) hr16
      have hh2 := heap_setCell_at HH.out (65 - m - 1) (.int .u8 ((hexd (u % 16)).toNat : Int))
      have hnew : Hid (hexDigits n = hexDigits (u / 16) ++ (hexd (u % 16) :: suf) ∧ u / 16 * 16 ^ (m + 1) < 65536 ∧ ∀ (j : Nat) (b : UInt8), (hexd (u % 16) :: suf)[j]? = some b → (cur.setIfInBounds (65 - m - 1) (.int .u8 ((hexd (u % 16)).toNat : Int)))[65 - (m + 1) + j]? = some (.int .u8 (b.toNat : Int))) := by
        refine Lib.hid ⟨?_, ?_, ?_⟩
        · rw [HI.out.1, hexDigits_ge u hu, List.append_assoc]; rfl
        · have h1 := HI.out.2.1
          rw [HM.out] at h1
          rw [Nat.pow_succ, Nat.mul_comm (16 ^ m) 16, ← Nat.mul_assoc]
          have h2 : u / 16 * 16 ≤ u := Nat.div_mul_le_self u 16
          exact Nat.lt_of_le_of_lt (Nat.mul_le_mul_right _ h2) h1
        · intro j b hj
          cases j with
          | zero =>
            rw [Nat.add_zero, show 65 - (m + 1) = 65 - m - 1 from by omega, Array.getElem?_setIfInBounds_self_of_lt (by rw [hcs]; omega)]
            simp at hj
            rw [hj]
          | succ j =>
            rw [Array.getElem?_setIfInBounds_ne (by omega)]
            have := HI.out.2.2 j b (by simpa using hj)
            rw [HM.out] at this
            rw [show 65 - (m + 1) + (j + 1) = 65 - m + j from by omega, this]
      have hui : ¬ ((u : Int) < 16) := by omega
      have hu16 : ((u % 16 : Nat) : Int) = (u : Int) % 16 := by omega
      go_wp2
      refine ⟨⟨u / 16, hexd (u % 16) :: suf, _, ?_, ?_, ?_, hbw.setCell (Nat.le_refl _) _, hh2, ?_, ?_⟩, ?_⟩
      · congr 1
      · rw [List.length_cons, HM.out]; congr 1; omega
      · rw [List.length_cons, HM.out]; omega
      · simpa using hcs
      · rw [List.length_cons, HM.out]; exact hnew
      · simp [intOf]; omega
end Go.Proofs.YtlhbpdnbfghkoaaGreatDoor
