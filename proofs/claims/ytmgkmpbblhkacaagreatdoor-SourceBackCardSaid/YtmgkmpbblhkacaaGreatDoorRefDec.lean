/- The reference's Decimal and Text4. -/
import Derived.Test.YtmgkmpbblhkacaaGreatDoorMgP
namespace Go.Proofs.YtmgkmpbblhkacaaGreatDoor
open Go.RowKit
set_option linter.unusedSimpArgs false
set_option linter.unusedVariables false

theorem hexd_dec (n : Nat) (h : n < 10) : (48 : Int) + (n : Int) = ((hexd n).toNat : Int) := by
  have : ∀ n : Fin 10, (48 : Int) + (n.val : Int) = ((hexd n.val).toNat : Int) := by decide
  exact this ⟨n, h⟩
set_option maxRecDepth 1000000 in
set_option maxHeartbeats 8000000 in
theorem Decimal_any (n : Nat) : ∀ (w : World), n < 4611686018427387904 →
    Calls Tryz.prog 145 #[.int .i64 n] w fun e w' => e = .returned (.string (strOf (digs 10 n))) ∧ Below w.heap.size w w' := by
  induction n using Nat.strongRecOn with
  | _ n ih =>
    intro w hn
    have IH := Lib.hid ih
    clear ih
    by_cases h10 : n < 10
    · have HD := Lib.hid (digs_lt 10 n h10)
      have hst := byte_str (hexd n) (48 + (n : Int)) (hexd_dec n h10) w w.heap.size rfl
      go_enter Tryz.func145, Tryz.ntmps145
      go_wp2_with fail
      go_ret
      exact ⟨by rw [HD.out]; exact rfl, (Below.refl _ w).alloc (Nat.le_refl _) _⟩
    · have HD := Lib.hid (digs_ge 10 n (by decide) h10)
      have C1 := Lib.hid (fun w' : World => show Calls Tryz.prog 145 #[.int .i64 ((n : Int) / 10)] w' fun e w'' => e = .returned (.string (strOf (digs 10 (n / 10)))) ∧ Below w'.heap.size w' w'' from IH.out (n / 10) (by omega) w' (by omega))
      have C2 := Lib.hid (fun w' : World => show Calls Tryz.prog 145 #[.int .i64 ((n : Int) % 10)] w' fun e w'' => e = .returned (.string (strOf (digs 10 (n % 10)))) ∧ Below w'.heap.size w' w'' from IH.out (n % 10) (by omega) w' (by omega))
      have z1 := digs_len 10 (by decide) (n / 10) 62 (by decide) (by omega)
      have z2 := digs_len 10 (by decide) (n % 10) 62 (by decide) (by omega)
      have hz1 : (strOf (digs 10 (n / 10))).size ≤ 62 := by rw [strOf_size]; exact z1
      have hz2 : (strOf (digs 10 (n % 10))).size ≤ 62 := by rw [strOf_size]; exact z2
      have e2 : digs 10 (n % 10) = [hexd (n % 10)] := digs_lt _ _ (by omega)
      have hfin : Hid (strOf (digs 10 (n / 10)) ++ strOf (digs 10 (n % 10)) = strOf (digs 10 n)) := Lib.hid (by rw [HD.out, e2, strOf_append])
      obtain ⟨s1, hs1⟩ : ∃ s, strOf (digs 10 (n / 10)) = s := ⟨_, rfl⟩
      obtain ⟨s2, hs2⟩ : ∃ s, strOf (digs 10 (n % 10)) = s := ⟨_, rfl⟩
      rw [hs1] at C1 hz1 hfin
      rw [hs2] at C2 hz2 hfin
      clear e2 hs1 hs2 IH z1 z2
      go_enter Tryz.func145, Tryz.ntmps145
      go_wp2_with fail
      refine (C1.out _).mono ?_
      rintro e w1 ⟨rfl, hb1⟩
      go_wp2_with fail
      refine (C2.out _).mono ?_
      rintro e w2 ⟨rfl, hb2⟩
      go_wp2_with fail
      go_ret
      exact ⟨by rw [← hfin.out]; exact rfl, hb1.trans (hb2.mono hb1.size)⟩
/-- Decimal, at a whole number. -/
theorem Decimal_at (x : Int) (n : Nat) (w : World) (hx : x = (n : Int)) (hn : n < 4611686018427387904) (d : ByteArray) (hd : strOf (digs 10 n) = d) :
    Calls Tryz.prog 145 #[.int .i64 x] w fun e w' => e = .returned (.string d) ∧ Below w.heap.size w w' := by
  subst hx; subst hd
  exact Decimal_any n w hn
set_option maxRecDepth 1000000 in
set_option maxHeartbeats 8000000 in
theorem refText4_any (n : Nat) (w : World) (hn : n < 4294967296) :
    Calls Tryz.prog 117 #[.int .u32 n] w fun e w' => e = .returned (.string (strOf (text4 n))) ∧ Below w.heap.size w w' := by
  have e4 : strOf (text4 n) = strOf (digs 10 (n / 16777216)) ++ (⟨#[46]⟩ : ByteArray) ++ strOf (digs 10 (n / 65536 % 256)) ++ (⟨#[46]⟩ : ByteArray) ++ strOf (digs 10 (n / 256 % 256)) ++ (⟨#[46]⟩ : ByteArray) ++ strOf (digs 10 (n % 256)) := by
    unfold text4 parts4
    rw [dec8_digs _ (show n / 16777216 < 256 by omega), dec8_digs _ (show n / 65536 % 256 < 256 by omega), dec8_digs _ (show n / 256 % 256 < 256 by omega), dec8_digs _ (show n % 256 < 256 by omega), show n / 16777216 % 256 = n / 16777216 by omega]
    rw [joinB_cons, joinB_cons, joinB_cons, joinB_one, show (⟨#[46]⟩ : ByteArray) = strOf [46] from rfl, ← strOf_append, ← strOf_append, ← strOf_append, ← strOf_append, ← strOf_append, ← strOf_append]
    simp
  have z : ∀ m, m < 4294967296 → (strOf (digs 10 m)).size ≤ 32 := fun m hm => by rw [strOf_size]; exact digs_len 10 (by decide) m 32 (by decide) hm
  have z1 := z (n / 16777216) (by omega)
  have z2 := z (n / 65536 % 256) (by omega)
  have z3 := z (n / 256 % 256) (by omega)
  have z4 := z (n % 256) (by omega)
  obtain ⟨d1, h1⟩ : ∃ d, strOf (digs 10 (n / 16777216)) = d := ⟨_, rfl⟩
  obtain ⟨d2, h2⟩ : ∃ d, strOf (digs 10 (n / 65536 % 256)) = d := ⟨_, rfl⟩
  obtain ⟨d3, h3⟩ : ∃ d, strOf (digs 10 (n / 256 % 256)) = d := ⟨_, rfl⟩
  obtain ⟨d4, h4⟩ : ∃ d, strOf (digs 10 (n % 256)) = d := ⟨_, rfl⟩
  rw [h1, h2, h3, h4] at e4
  rw [h1] at z1
  rw [h2] at z2
  rw [h3] at z3
  rw [h4] at z4
  have E4 := Lib.hid e4
  have H1 := Lib.hid h1
  have H2 := Lib.hid h2
  have H3 := Lib.hid h3
  have H4 := Lib.hid h4
  clear z e4 h1 h2 h3 h4
  go_enter Tryz.func117, Tryz.ntmps117
  go_wp2_with fail
  refine (Decimal_at _ (n / 16777216) _ (by omega) (by omega) d1 H1.out).mono ?_
  rintro e w1 ⟨rfl, hb1⟩
  go_wp2_with fail
  refine (Decimal_at _ (n / 65536 % 256) _ (by omega) (by omega) d2 H2.out).mono ?_
  rintro e w2 ⟨rfl, hb2⟩
  go_wp2_with fail
  refine (Decimal_at _ (n / 256 % 256) _ (by omega) (by omega) d3 H3.out).mono ?_
  rintro e w3 ⟨rfl, hb3⟩
  go_wp2_with fail
  refine (Decimal_at _ (n % 256) _ (by omega) (by omega) d4 H4.out).mono ?_
  rintro e w4 ⟨rfl, hb4⟩
  go_wp2_with fail
  go_ret
  have g2 := hb1.trans (hb2.mono hb1.size)
  have g3 := g2.trans (hb3.mono g2.size)
  exact ⟨by rw [E4.out]; exact rfl, g3.trans (hb4.mono g3.size)⟩
end Go.Proofs.YtmgkmpbblhkacaaGreatDoor
