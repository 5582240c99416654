/- The laws' based: a number to a base. -/
import Derived.Test.YtlhbpdnbfghkoaaGreatDoorShown
namespace Go.Proofs.YtlhbpdnbfghkoaaGreatDoor
open Go.RowKit
set_option linter.unusedSimpArgs false
set_option linter.unusedVariables false

/-- A number to a base. -/
def digs (b n : Nat) : Bs := if h : n < b ∨ b < 2 then [hexd n] else digs b (n / b) ++ [hexd (n % b)]
termination_by n
decreasing_by exact Nat.div_lt_self (by omega) (by omega)
theorem digs_lt (b n : Nat) (h : n < b) : digs b n = [hexd n] := by rw [digs, dif_pos (Or.inl h)]
theorem digs_ge (b n : Nat) (hb : 2 ≤ b) (h : ¬ n < b) : digs b n = digs b (n / b) ++ [hexd (n % b)] := by rw [digs, dif_neg (by omega)]
theorem digs16 (n : Nat) : digs 16 n = hexDigits n := by
  induction n using Nat.strongRecOn with
  | _ n ih =>
    by_cases h : n < 16
    · rw [digs_lt _ _ h, hexDigits_lt _ h]
    · rw [digs_ge _ _ (by decide) h, hexDigits_ge _ h, ih _ (by omega)]

theorem digits16_at (u : Nat) (h : u < 16) (h2 : u < (⟨#[48, 49, 50, 51, 52, 53, 54, 55, 56, 57, 97, 98, 99, 100, 101, 102]⟩ : ByteArray).size) : (⟨#[48, 49, 50, 51, 52, 53, 54, 55, 56, 57, 97, 98, 99, 100, 101, 102]⟩ : ByteArray)[u]'h2 = hexd u := by
  have : ∀ u : Fin 16, (⟨#[48, 49, 50, 51, 52, 53, 54, 55, 56, 57, 97, 98, 99, 100, 101, 102]⟩ : ByteArray)[u.val]'(Nat.lt_of_lt_of_le u.isLt (by decide)) = hexd u.val := by decide
  exact this ⟨u, h⟩
/-- A string of one byte, out of a row of one byte. -/
theorem byte_str (c : UInt8) (x : Int) (hx : x = (c.toNat : Int)) (W : World) (b : Nat) (hb : b = W.heap.size) : (convert 35 9 (.slice (some ⟨b, 0, none⟩) 1 1)).run Tryz.prog (W.alloc (.cells #[.int .u8 x] 5)) = .ok (.string (strOf [c])) (W.alloc (.cells #[.int .u8 x] 5)) := by
  subst hx; subst hb
  refine run_convert_bytes_back _ _ _ 5 _ _ [c] Tryz.underlying35 Tryz.underlying5 Tryz.underlying9 ?_
  intro j hj
  rw [add_zero_off, cells_alloc_new]
  match j, hj with
  | 0, _ => rfl

set_option maxRecDepth 1000000 in
set_option maxHeartbeats 8000000 in
theorem based_any (n b : Nat) (w : World) (hn : n < 9223372036854775808) (hb2 : 2 ≤ b) (hb16 : b ≤ 16) :
    Calls Tryz.prog 9 #[.int .i64 n, .int .i64 b] w fun e w' => e = .returned (.string (strOf (digs b n))) ∧ Below w.heap.size w w' := by
  go_enter Tryz.func9, Tryz.ntmps9
  go_wp2
  go_loopw [0, 5] (fun vm vs wr => ∃ (m : Nat) (suf : Bs) (q : ByteArray), vm = .int .i64 m ∧ vs = .string q ∧ m < 9223372036854775808 ∧ q.size ≤ 64 ∧ Below w.heap.size w wr ∧ Hid (q = strOf suf ∧ m * 2 ^ suf.length ≤ n ∧ (suf = [] → m = n) ∧ digs b n = if m = 0 ∧ suf ≠ [] then suf else digs b m ++ suf)) (fun vm vs _ => (intOf vm).toNat + (if strLen vs = 0 then 1 else 0))
  case atStart => exact ⟨n, [], strOf [], rfl, rfl, hn, by simp [strOf_size], Below.refl _ _, Lib.hid ⟨rfl, by simp, fun _ => rfl, by simp⟩⟩
  case round =>
    obtain ⟨m, suf, q, rfl, rfl, hm, hq, hbw, HI⟩ := hrel
    obtain ⟨wo, rfl⟩ : ∃ wo : World, wo = wr := ⟨_, rfl⟩
    have hB := hbw.size
    by_cases hgo : m = 0 ∧ suf ≠ []
    · obtain ⟨rfl, hne⟩ := hgo
      have hemp : q.toList.isEmpty = false := by rw [HI.out.1, strOf_isEmpty]; exact beq_eq_false_iff_ne.2 hne
      have hr : Hid (digs b n = suf) := by rw [HI.out.2.2.2, if_pos ⟨rfl, hne⟩]; exact Lib.hid rfl
      go_wp2
      go_ret
      refine ⟨?_, hbw⟩
      rw [hr.out, ← HI.out.1]
      exact rfl
    · have hd : digs b n = digs b m ++ suf := by rw [HI.out.2.2.2, if_neg hgo]
      have hlen : suf.length ≤ 62 := by
        by_cases h0 : m = 0
        · have : suf = [] := Classical.byContradiction fun h => hgo ⟨h0, h⟩
          rw [this]; simp
        · refine Classical.byContradiction fun h => ?_
          have h1 : 2 ^ 63 ≤ 2 ^ suf.length := Nat.pow_le_pow_right (by decide) (by omega)
          have h2 : 1 * 2 ^ suf.length ≤ m * 2 ^ suf.length := Nat.mul_le_mul_right _ (by omega)
          have h3 := HI.out.2.1
          omega
      have hqz : q.size ≤ 62 := by rw [HI.out.1, strOf_size]; exact hlen
      obtain ⟨u, hu⟩ : ∃ u, m % b = u := ⟨_, rfl⟩
      obtain ⟨d, hdv⟩ : ∃ d, m / b = d := ⟨_, rfl⟩
      have hu16 : u < 16 := by rw [← hu]; exact Nat.lt_of_lt_of_le (Nat.mod_lt _ (by omega)) hb16
      have hrem : Int.tmod (m : Int) (b : Int) = (u : Int) := by rw [← hu]; rfl
      have hquo : Int.tdiv (m : Int) (b : Int) = (d : Int) := by rw [← hdv]; rfl
      have hdm : d ≤ m := by rw [← hdv]; exact Nat.div_le_self _ _
      have hb0 : ¬ ((b : Int) = 0) := by omega
      have hat := digits16_at u hu16 (Nat.lt_of_lt_of_le hu16 (by decide))
      have hst := byte_str (hexd u) ((hexd u).toNat : Int) rfl wo wo.heap.size rfl
      have hnew : Hid (strOf [hexd u] ++ q = strOf (hexd u :: suf) ∧ d * 2 ^ (hexd u :: suf).length ≤ n ∧ (hexd u :: suf = [] → d = n) ∧ digs b n = if d = 0 ∧ hexd u :: suf ≠ [] then hexd u :: suf else digs b d ++ hexd u :: suf) := by
        refine Lib.hid ⟨?_, ?_, fun h => (by cases h), ?_⟩
        · rw [HI.out.1, ← strOf_append]; rfl
        · have h1 : d * b ≤ m := by rw [← hdv]; exact Nat.div_mul_le_self _ _
          have h2 : d * 2 ≤ d * b := Nat.mul_le_mul_left _ hb2
          have h3 : d * 2 * 2 ^ suf.length ≤ m * 2 ^ suf.length := Nat.mul_le_mul_right _ (by omega)
          have h4 : d * 2 ^ (suf.length + 1) = d * 2 * 2 ^ suf.length := by rw [Nat.pow_succ, Nat.mul_assoc, Nat.mul_comm (2 ^ suf.length) 2]
          rw [List.length_cons, h4]
          exact Nat.le_trans h3 HI.out.2.1
        · rw [hd]
          by_cases hlt : m < b
          · have h1 : d = 0 := by rw [← hdv]; exact Nat.div_eq_of_lt hlt
            have h2 : u = m := by rw [← hu]; exact Nat.mod_eq_of_lt hlt
            rw [if_pos ⟨h1, by simp⟩, digs_lt _ _ hlt, h2]
            rfl
          · have h1 : d ≠ 0 := by rw [← hdv]; exact Nat.ne_of_gt (Nat.div_pos (by omega) (by omega))
            rw [if_neg (fun h => h1 h.1), digs_ge _ _ hb2 hlt, hu, hdv, List.append_assoc]
            rfl
      have hdlt : 0 < m → d < m := fun h => by rw [← hdv]; exact Nat.div_lt_self h (by omega)
      have hsuf0 : m = 0 → suf = [] := fun h0 => Classical.byContradiction fun h => hgo ⟨h0, h⟩
      have HQ := HI.out.1
      have hs1 : (strOf [hexd u]).size ≤ 1 := by rw [strOf_size]; simp
      have hways : (0 : Int) < (m : Int) ∨ (m = 0 ∧ q.toList.isEmpty = true) := by
        by_cases h0 : m = 0
        · exact Or.inr ⟨h0, by rw [HQ, hsuf0 h0, strOf_isEmpty]; rfl⟩
        · exact Or.inl (by omega)
      clear HI hgo hu hdv hd HQ hsuf0 hlen
      rcases hways with hpos | ⟨rfl, hemp⟩
      · go_wp2
        refine ⟨⟨d, hexd u :: suf, _, rfl, rfl, by omega, by rw [ByteArray.size_append]; omega, hbw.alloc hB _, hnew⟩, ?_⟩
        have h1 := hdlt (by omega)
        have h2 : strLen (Value.string (strOf [hexd u] ++ q)) ≠ 0 := by
          show (strOf [hexd u] ++ q).size ≠ 0
          rw [ByteArray.size_append, strOf_size]; simp
        rw [if_neg h2]
        simp only [intOf, Int.toNat_natCast]
        omega
      · obtain rfl : d = 0 := by omega
        have hu0 : u = 0 := by
          have h1 : (0 : Int) = (u : Int) := by rw [← hrem]; simp
          omega
        subst hu0
        have h48 : hexd 0 = 48 := rfl
        rw [h48] at hnew hs1
        have hat0 : (⟨#[48, 49, 50, 51, 52, 53, 54, 55, 56, 57, 97, 98, 99, 100, 101, 102]⟩ : ByteArray)[0] = 48 := rfl
        have hst0 := byte_str 48 48 rfl wo wo.heap.size rfl
        clear hst hat hrem hquo
        go_wp2
        refine ⟨⟨0, 48 :: suf, _, rfl, rfl, by omega, by rw [ByteArray.size_append]; omega, hbw.alloc hB _, hnew⟩, ?_⟩
        have h2 : strLen (Value.string (strOf [48] ++ q)) ≠ 0 := by
          show (strOf [48] ++ q).size ≠ 0
          rw [ByteArray.size_append, strOf_size]; simp
        have h3 : strLen (Value.string q) = 0 := by
          show q.size = 0
          rw [isEmpty_data, beq_iff_eq] at hemp
          rw [Lib.size_eq, hemp]; rfl
        rw [if_neg h2, if_pos h3]
        simp [intOf]
end Go.Proofs.YtlhbpdnbfghkoaaGreatDoor
