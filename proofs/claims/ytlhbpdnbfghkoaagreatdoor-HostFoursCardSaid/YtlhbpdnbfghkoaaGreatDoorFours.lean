/- HostFours: each address of four bytes is written in many ways, and parsed as one. The walks: the reference's Decimal and Text4, and the law. -/
import Derived.Test.YtlhbpdnbfghkoaaGreatDoorFoursP
import Derived.Test.YtlhbpdnbfghkoaaGreatDoorBits
namespace Go.Proofs.YtlhbpdnbfghkoaaGreatDoor
open Go.RowKit
set_option linter.unusedSimpArgs false
set_option linter.unusedVariables false

theorem hexd_dec (n : Nat) (h : n < 10) : (48 : Int) + (n : Int) = ((hexd n).toNat : Int) := by
  have : ∀ n : Fin 10, (48 : Int) + (n.val : Int) = ((hexd n.val).toNat : Int) := by decide
  exact this ⟨n, h⟩
set_option maxRecDepth 1000000 in
set_option maxHeartbeats 8000000 in
theorem Decimal_any (n : Nat) : ∀ (w : World), n < 4611686018427387904 →
    Calls Tryz.prog 8 #[.int .i64 n] w fun e w' => e = .returned (.string (strOf (digs 10 n))) ∧ Below w.heap.size w w' := by
  induction n using Nat.strongRecOn with
  | _ n ih =>
    intro w hn
    have IH := Lib.hid ih
    clear ih
    by_cases h10 : n < 10
    · have HD := Lib.hid (digs_lt 10 n h10)
      have hst := byte_str (hexd n) (48 + (n : Int)) (hexd_dec n h10) w w.heap.size rfl
      go_enter Tryz.func8, Tryz.ntmps8
      go_wp2_with fail
      go_ret
      exact ⟨by rw [HD.out]; exact rfl, (Below.refl _ w).alloc (Nat.le_refl _) _⟩
    · have HD := Lib.hid (digs_ge 10 n (by decide) h10)
      have C1 := Lib.hid (fun w' : World => show Calls Tryz.prog 8 #[.int .i64 ((n : Int) / 10)] w' fun e w'' => e = .returned (.string (strOf (digs 10 (n / 10)))) ∧ Below w'.heap.size w' w'' from IH.out (n / 10) (by omega) w' (by omega))
      have C2 := Lib.hid (fun w' : World => show Calls Tryz.prog 8 #[.int .i64 ((n : Int) % 10)] w' fun e w'' => e = .returned (.string (strOf (digs 10 (n % 10)))) ∧ Below w'.heap.size w' w'' from IH.out (n % 10) (by omega) w' (by omega))
      have z1 := digs_len 10 (by decide) (n / 10) 62 (by decide) (by omega)
      have z2 := digs_len 10 (by decide) (n % 10) 62 (by decide) (by omega)
      have hz1 : (strOf (digs 10 (n / 10))).size ≤ 62 := by rw [strOf_size]; exact z1
      have hz2 : (strOf (digs 10 (n % 10))).size ≤ 62 := by rw [strOf_size]; exact z2
      have e2 : digs 10 (n % 10) = [hexd (n % 10)] := digs_lt _ _ (by omega)
      have hfin : Hid (strOf (digs 10 (n / 10)) ++ strOf (digs 10 (n % 10)) = strOf (digs 10 n)) := Lib.hid (by rw [HD.out, e2, strOf_append])
      obtain ⟨s1, hs1⟩ : ∃ s, strOf (digs 10 (n / 10)) = s := ⟨_, rfl⟩
      obtain ⟨s2, hs2⟩ : ∃ s, strOf (digs 10 (n % 10)) = s := ⟨_, rfl⟩
      rw [hs1] at C1 hz1 hfin
      rw [hs2] at C2 hz2 hfin
      clear e2 hs1 hs2 IH z1 z2
      go_enter Tryz.func8, Tryz.ntmps8
      go_wp2_with fail
      refine (C1.out _).mono ?_
      rintro e w1 ⟨rfl, hb1⟩
      go_wp2_with fail
      refine (C2.out _).mono ?_
      rintro e w2 ⟨rfl, hb2⟩
      go_wp2_with fail
      go_ret
      exact ⟨by rw [← hfin.out]; exact rfl, hb1.trans (hb2.mono hb1.size)⟩
/-- Decimal, at a whole number. -/
theorem Decimal_at (x : Int) (n : Nat) (w : World) (hx : x = (n : Int)) (hn : n < 4611686018427387904) (d : ByteArray) (hd : strOf (digs 10 n) = d) :
    Calls Tryz.prog 8 #[.int .i64 x] w fun e w' => e = .returned (.string d) ∧ Below w.heap.size w w' := by
  subst hx; subst hd
  exact Decimal_any n w hn
theorem based_at (x b : Int) (n : Nat) (k : Nat) (w : World) (hx : x = (n : Int)) (hb : b = (k : Int)) (hk2 : 2 ≤ k) (hk16 : k ≤ 16) (hn : n < 9223372036854775808) (d : ByteArray) (hd : strOf (digs k n) = d) :
    Calls Tryz.prog 9 #[.int .i64 x, .int .i64 b] w fun e w' => e = .returned (.string d) ∧ Below w.heap.size w w' := by
  subst hx; subst hd; subst hb
  exact based_any n k w hn hk2 hk16

set_option maxRecDepth 1000000 in
set_option maxHeartbeats 8000000 in
theorem refText4_any (n : Nat) (w : World) (hn : n < 4294967296) :
    Calls Tryz.prog 7 #[.int .u32 n] w fun e w' => e = .returned (.string (strOf (text4 n))) ∧ Below w.heap.size w w' := by
  have e4 : strOf (text4 n) = strOf (digs 10 (n / 16777216)) ++ (⟨#[46]⟩ : ByteArray) ++ strOf (digs 10 (n / 65536 % 256)) ++ (⟨#[46]⟩ : ByteArray) ++ strOf (digs 10 (n / 256 % 256)) ++ (⟨#[46]⟩ : ByteArray) ++ strOf (digs 10 (n % 256)) := by
    unfold text4 parts4
    rw [dec8_digs _ (show n / 16777216 < 256 by omega), dec8_digs _ (show n / 65536 % 256 < 256 by omega), dec8_digs _ (show n / 256 % 256 < 256 by omega), dec8_digs _ (show n % 256 < 256 by omega), show n / 16777216 % 256 = n / 16777216 by omega]
    rw [joinB_cons, joinB_cons, joinB_cons, joinB_one, show (⟨#[46]⟩ : ByteArray) = strOf [46] from rfl, ← strOf_append, ← strOf_append, ← strOf_append, ← strOf_append, ← strOf_append, ← strOf_append]
    simp
  have z : ∀ m, m < 4294967296 → (strOf (digs 10 m)).size ≤ 32 := fun m hm => by rw [strOf_size]; exact digs_len 10 (by decide) m 32 (by decide) hm
  have z1 := z (n / 16777216) (by omega)
  have z2 := z (n / 65536 % 256) (by omega)
  have z3 := z (n / 256 % 256) (by omega)
  have z4 := z (n % 256) (by omega)
  obtain ⟨d1, h1⟩ : ∃ d, strOf (digs 10 (n / 16777216)) = d := ⟨_, rfl⟩
  obtain ⟨d2, h2⟩ : ∃ d, strOf (digs 10 (n / 65536 % 256)) = d := ⟨_, rfl⟩
  obtain ⟨d3, h3⟩ : ∃ d, strOf (digs 10 (n / 256 % 256)) = d := ⟨_, rfl⟩
  obtain ⟨d4, h4⟩ : ∃ d, strOf (digs 10 (n % 256)) = d := ⟨_, rfl⟩
  rw [h1, h2, h3, h4] at e4
  rw [h1] at z1
  rw [h2] at z2
  rw [h3] at z3
  rw [h4] at z4
  have E4 := Lib.hid e4
  have H1 := Lib.hid h1
  have H2 := Lib.hid h2
  have H3 := Lib.hid h3
  have H4 := Lib.hid h4
  clear z e4 h1 h2 h3 h4
  go_enter Tryz.func7, Tryz.ntmps7
  go_wp2_with fail
  refine (Decimal_at _ (n / 16777216) _ (by omega) (by omega) d1 H1.out).mono ?_
  rintro e w1 ⟨rfl, hb1⟩
  go_wp2_with fail
  refine (Decimal_at _ (n / 65536 % 256) _ (by omega) (by omega) d2 H2.out).mono ?_
  rintro e w2 ⟨rfl, hb2⟩
  go_wp2_with fail
  refine (Decimal_at _ (n / 256 % 256) _ (by omega) (by omega) d3 H3.out).mono ?_
  rintro e w3 ⟨rfl, hb3⟩
  go_wp2_with fail
  refine (Decimal_at _ (n % 256) _ (by omega) (by omega) d4 H4.out).mono ?_
  rintro e w4 ⟨rfl, hb4⟩
  go_wp2_with fail
  go_ret
  have g2 := hb1.trans (hb2.mono hb1.size)
  have g3 := g2.trans (hb3.mono g2.size)
  exact ⟨by rw [E4.out]; exact rfl, g3.trans (hb4.mono g3.size)⟩

theorem u32_and_pow (m k : Nat) (hm : m < 4294967296) (hk : k < 32) : bits .and .u32 (m : Int) ((2 ^ k - 1 : Nat) : Int) = ((m % 2 ^ k : Nat) : Int) := by
  have hk2 : 2 ^ k < 2 ^ 32 := Nat.pow_lt_pow_right (by decide) hk
  have hp : 0 < 2 ^ k := Nat.pow_pos (by decide)
  have h1 : (BitVec.ofInt 32 ((2 ^ k - 1 : Nat) : Int)).toNat = 2 ^ k - 1 := by
    rw [BitVec.toNat_ofInt]
    have : ((2 ^ k - 1 : Nat) : Int) % ((2 ^ 32 : Nat) : Int) = ((2 ^ k - 1 : Nat) : Int) := Int.emod_eq_of_lt (by omega) (by omega)
    rw [this]; rfl
  have h2 : (BitVec.ofInt 32 (m : Int)).toNat = m := by
    rw [BitVec.toNat_ofInt]
    have : (m : Int) % ((2 ^ 32 : Nat) : Int) = (m : Int) := Int.emod_eq_of_lt (by omega) (by omega)
    rw [this]; rfl
  have hmod := Nat.mod_lt m hp
  have key : (BitVec.ofInt 32 (m : Int) &&& BitVec.ofInt 32 ((2 ^ k - 1 : Nat) : Int)).toNat = m % 2 ^ k := by
    rw [BitVec.toNat_and, h1, h2, Nat.and_two_pow_sub_one_eq_mod]
  show IntKind.u32.wrap ((BitVec.ofInt 32 (m : Int) &&& BitVec.ofInt 32 ((2 ^ k - 1 : Nat) : Int)).toNat : Nat) = _
  rw [key]
  generalize m % 2 ^ k = r at hmod ⊢
  simp [IntKind.wrap, IntKind.bits, IntKind.signed]
  omega
theorem u32_255 (x : Int) (m : Nat) (hx : x = (m : Int)) (hm : m < 4294967296) : bits .and .u32 x 255 = ((m % 256 : Nat) : Int) := by subst hx; exact u32_and_pow m 8 hm (by decide)
theorem u32_24 (x : Int) (m : Nat) (hx : x = (m : Int)) (hm : m < 4294967296) : bits .and .u32 x 16777215 = ((m % 16777216 : Nat) : Int) := by subst hx; exact u32_and_pow m 24 hm (by decide)
theorem u32_16 (x : Int) (m : Nat) (hx : x = (m : Int)) (hm : m < 4294967296) : bits .and .u32 x 65535 = ((m % 65536 : Nat) : Int) := by subst hx; exact u32_and_pow m 16 hm (by decide)
theorem OwnS.built (w : World) (B : Nat) (hB : B ≤ w.heap.size) (ps : List Bs) (hm : ps.length ≤ 1000000) : OwnS (w.alloc (.cells (ps.map fun p => Value.string (strOf p)).toArray 9)) B (.slice (some ⟨w.heap.size, 0, none⟩) ps.length ps.length) ps := by
  refine ⟨by simp, Or.inr ⟨w.heap.size, ps.length, _, rfl, hB, heap_alloc_new w _, Nat.le_refl _, by unfold maxLen; omega, by simp, ?_⟩⟩
  rw [List.take_of_length_le (by simp)]
/-- 's = append(s, x, y ..)', strings. -/
theorem app_strs {w : World} {ops : Array Oper} {rest : List Oper} {o : Oper} {a : Act} {Q : Exit → Act → World → Prop} (hgd : o.guard = none) (s x : Operand)
    (ho : o.op = .call { callee := .builtin .append, args := #[s, x], argTypes := #[27, 27] }) (B : Nat) (v : Value) (ps qs : List Bs) (hs : a.eval s = v) (hown : OwnS w B v ps)
    (ad : Addr) (c : Nat) (hx : a.eval x = .slice (some ad) qs.length c) (hc : ∀ (j : Nat) (p : Bs), qs[j]? = some p → w.cell? (ad.add j) = some (.string (strOf p))) (hn : ps.length ≤ 1000000) (hq : qs.length ≤ 1000000) (hB : B ≤ w.heap.size)
    (h : ∀ v' w', OwnS w' B v' (ps ++ qs) → w.grownBy w' v.ownBlock → wpList Tryz.prog ops Q rest (a.put o.dst v') w') : wpList Tryz.prog ops Q (o :: rest) a w := by
  obtain ⟨i0, hi, hz0, hz1, hz2⟩ := info_parts infoS
  refine wpList_append_own w hgd s x 27 ho B 9 i0 (.string ByteArray.empty) 1 16 Tryz.underlying27 hi hz0 hz1 hz2 rfl (by decide) v ps.length _ hs hown ad qs.length c (qs.map fun p => Value.string (strOf p)) hx (by simp) ?_ ?_ ?_ ?_ hB ?_
  · intro j u hu
    rw [List.getElem?_map] at hu
    cases hq : qs[j]? with
    | none => rw [hq] at hu; simp at hu
    | some q => rw [hq] at hu; simp at hu; subst hu; exact hc j q hq
  · intro u hu; simp at hu; obtain ⟨q, _, rfl⟩ := hu; rfl
  · unfold maxLen; omega
  · omega
  · intro v' w' h1 h2 _
    refine h v' w' ?_ h2
    unfold OwnS
    simpa using h1
theorem IPv4_at (s : ByteArray) (n : Nat) (w : World) (hs : s.size ≤ 1000000) (hG : GL w) (h : ip4 s.data.toList = (n, true, 0)) :
    Calls Tryz.prog 10 #[.string s] w fun e w' => e = .returned (.tuple #[.int .u32 n, .bool true, .int .i64 0]) ∧ Below w.heap.size w w' := by
  have := IPv4_any s w hs hG
  rw [h] at this
  exact this
set_option maxRecDepth 1000000 in
set_option maxHeartbeats 3000000 in
theorem fours_any (n : Nat) (w : World) (hn : n < 4294967296) (hG : GL w) :
    Calls Tryz.prog 3 #[.int .u32 n] w fun e w' => e = .returned (.bool true) ∧ Below w.heap.size w w' := by
  have CS := Lib.hid (shown_any w hG)
  have CT := Lib.hid (fun w' => refText4_any n w' hn)
  have z : ∀ b m, 2 ≤ b → m < 4294967296 → (strOf (digs b m)).size ≤ 32 := fun b m hb hm => by rw [strOf_size]; exact digs_len b hb m 32 (by decide) hm
  have hb1 := u32_255 ((n : Int) / 65536) (n / 65536) rfl (by omega)
  have hb2 := u32_255 ((n : Int) / 256) (n / 256) rfl (by omega)
  have hb3 := u32_255 (n : Int) n rfl hn
  have hb4 := u32_24 (n : Int) n rfl hn
  have hb5 := u32_16 (n : Int) n rfl hn
  have zw : (strOf (text4 n)).size ≤ 32 := by rw [strOf_size]; have := text4_len n; omega
  obtain ⟨W, hW⟩ : ∃ W, strOf (text4 n) = W := ⟨_, rfl⟩
  rw [hW] at CT zw
  have HW := Lib.hid hW
  clear hW
  have zdN := z 10 (n) (by decide) (by omega)
  have zdA := z 10 (n / 16777216) (by decide) (by omega)
  have zd24 := z 10 (n % 16777216) (by decide) (by omega)
  have zdB := z 10 (n / 65536 % 256) (by decide) (by omega)
  have zd16 := z 10 (n % 65536) (by decide) (by omega)
  have zxA := z 16 (n / 16777216) (by decide) (by omega)
  have zxB := z 16 (n / 65536 % 256) (by decide) (by omega)
  have zoC := z 8 (n / 256 % 256) (by decide) (by omega)
  have zdD := z 10 (n % 256) (by decide) (by omega)
  have zoN := z 8 (n) (by decide) (by omega)
  have zxN := z 16 (n) (by decide) (by omega)
  have E1 : strOf (text4 n ++ [46]) = W ++ (⟨#[46]⟩ : ByteArray) := by rw [strOf_append, HW.out]; rfl
  have E3 : strOf (digs 10 (n / 16777216) ++ [46] ++ digs 10 (n % 16777216)) = strOf (digs 10 (n / 16777216)) ++ (⟨#[46]⟩ : ByteArray) ++ strOf (digs 10 (n % 16777216)) := by rw [strOf_append, strOf_append]; rfl
  have E4 : strOf (digs 10 (n / 16777216) ++ [46] ++ digs 10 (n / 65536 % 256) ++ [46] ++ digs 10 (n % 65536)) = strOf (digs 10 (n / 16777216)) ++ (⟨#[46]⟩ : ByteArray) ++ strOf (digs 10 (n / 65536 % 256)) ++ (⟨#[46]⟩ : ByteArray) ++ strOf (digs 10 (n % 65536)) := by rw [strOf_append, strOf_append, strOf_append, strOf_append]; rfl
  have E5 : strOf ([48, 120] ++ digs 16 (n / 16777216) ++ [46, 48, 88] ++ digs 16 (n / 65536 % 256) ++ [46, 48] ++ digs 8 (n / 256 % 256) ++ [46] ++ digs 10 (n % 256)) = (⟨#[48, 120]⟩ : ByteArray) ++ strOf (digs 16 (n / 16777216)) ++ (⟨#[46, 48, 88]⟩ : ByteArray) ++ strOf (digs 16 (n / 65536 % 256)) ++ (⟨#[46, 48]⟩ : ByteArray) ++ strOf (digs 8 (n / 256 % 256)) ++ (⟨#[46]⟩ : ByteArray) ++ strOf (digs 10 (n % 256)) := by rw [strOf_append, strOf_append, strOf_append, strOf_append, strOf_append, strOf_append, strOf_append]; rfl
  have E6 : strOf ([48] ++ digs 8 n) = (⟨#[48]⟩ : ByteArray) ++ strOf (digs 8 n) := by rw [strOf_append]; rfl
  have E7 : strOf ([48, 120] ++ digs 16 n) = (⟨#[48, 120]⟩ : ByteArray) ++ strOf (digs 16 n) := by rw [strOf_append]; rfl
  obtain ⟨dN, hdN⟩ : ∃ d, strOf (digs 10 (n)) = d := ⟨_, rfl⟩
  obtain ⟨dA, hdA⟩ : ∃ d, strOf (digs 10 (n / 16777216)) = d := ⟨_, rfl⟩
  obtain ⟨d24, hd24⟩ : ∃ d, strOf (digs 10 (n % 16777216)) = d := ⟨_, rfl⟩
  obtain ⟨dB, hdB⟩ : ∃ d, strOf (digs 10 (n / 65536 % 256)) = d := ⟨_, rfl⟩
  obtain ⟨d16, hd16⟩ : ∃ d, strOf (digs 10 (n % 65536)) = d := ⟨_, rfl⟩
  obtain ⟨xA, hxA⟩ : ∃ d, strOf (digs 16 (n / 16777216)) = d := ⟨_, rfl⟩
  obtain ⟨xB, hxB⟩ : ∃ d, strOf (digs 16 (n / 65536 % 256)) = d := ⟨_, rfl⟩
  obtain ⟨oC, hoC⟩ : ∃ d, strOf (digs 8 (n / 256 % 256)) = d := ⟨_, rfl⟩
  obtain ⟨dD, hdD⟩ : ∃ d, strOf (digs 10 (n % 256)) = d := ⟨_, rfl⟩
  obtain ⟨oN, hoN⟩ : ∃ d, strOf (digs 8 (n)) = d := ⟨_, rfl⟩
  obtain ⟨xN, hxN⟩ : ∃ d, strOf (digs 16 (n)) = d := ⟨_, rfl⟩
  rw [hdA, hd24] at E3
  rw [hdA, hdB, hd16] at E4
  rw [hxA, hxB, hoC, hdD] at E5
  rw [hoN] at E6
  rw [hxN] at E7
  rw [hdN] at zdN
  have HdN := Lib.hid hdN
  rw [hdA] at zdA
  have HdA := Lib.hid hdA
  rw [hd24] at zd24
  have Hd24 := Lib.hid hd24
  rw [hdB] at zdB
  have HdB := Lib.hid hdB
  rw [hd16] at zd16
  have Hd16 := Lib.hid hd16
  rw [hxA] at zxA
  have HxA := Lib.hid hxA
  rw [hxB] at zxB
  have HxB := Lib.hid hxB
  rw [hoC] at zoC
  have HoC := Lib.hid hoC
  rw [hdD] at zdD
  have HdD := Lib.hid hdD
  rw [hoN] at zoN
  have HoN := Lib.hid hoN
  rw [hxN] at zxN
  have HxN := Lib.hid hxN
  have HWF := Lib.hid (fours_plain n hn)
  have F1 := Lib.hid E1
  have F3 := Lib.hid E3
  have F4 := Lib.hid E4
  have F5 := Lib.hid E5
  have F6 := Lib.hid E6
  have F7 := Lib.hid E7
  clear z hdN hdA hd24 hdB hd16 hxA hxB hoC hdD hoN hxN E1 E3 E4 E5 E6 E7
  go_enter Tryz.func3, Tryz.ntmps3
  go_wp2_with fail
  refine CS.out.mono ?_
  rintro e w1 ⟨rfl, hw1⟩
  clear CS
  go_wp2_with fail
  refine (CT.out _).mono ?_
  rintro e w2 ⟨rfl, hw2⟩
  have g2 := hw1.trans (hw2.mono hw1.size)
  clear CT
  go_wp2_with fail
  refine (Decimal_at _ (n) _ (by omega) (by omega) dN HdN.out).mono ?_
  rintro e w3 ⟨rfl, hw3⟩
  have g3 := g2.trans (hw3.mono g2.size)
  go_wp2_with fail
  refine (Decimal_at _ (n / 16777216) _ (by omega) (by omega) dA HdA.out).mono ?_
  rintro e w4 ⟨rfl, hw4⟩
  have g4 := g3.trans (hw4.mono g3.size)
  go_wp2_with fail
  refine (Decimal_at _ (n % 16777216) _ (by omega) (by omega) d24 Hd24.out).mono ?_
  rintro e w5 ⟨rfl, hw5⟩
  have g5 := g4.trans (hw5.mono g4.size)
  go_wp2_with fail
  refine (Decimal_at _ (n / 16777216) _ (by omega) (by omega) dA HdA.out).mono ?_
  rintro e w6 ⟨rfl, hw6⟩
  have g6 := g5.trans (hw6.mono g5.size)
  go_wp2_with fail
  refine (Decimal_at _ (n / 65536 % 256) _ (by omega) (by omega) dB HdB.out).mono ?_
  rintro e w7 ⟨rfl, hw7⟩
  have g7 := g6.trans (hw7.mono g6.size)
  go_wp2_with fail
  refine (Decimal_at _ (n % 65536) _ (by omega) (by omega) d16 Hd16.out).mono ?_
  rintro e w8 ⟨rfl, hw8⟩
  have g8 := g7.trans (hw8.mono g7.size)
  go_wp2_with fail
  have hown5 : Hid (OwnS (w8.alloc (.cells #[.string W, .string (W ++ (⟨#[46]⟩ : ByteArray)), .string dN, .string (dA ++ (⟨#[46]⟩ : ByteArray) ++ d24), .string (dA ++ (⟨#[46]⟩ : ByteArray) ++ dB ++ (⟨#[46]⟩ : ByteArray) ++ d16)] 9)) w.heap.size (.slice (some ⟨w8.heap.size, 0, none⟩) 5 5) [text4 n, text4 n ++ [46], digs 10 n, digs 10 (n / 16777216) ++ [46] ++ digs 10 (n % 16777216), digs 10 (n / 16777216) ++ [46] ++ digs 10 (n / 65536 % 256) ++ [46] ++ digs 10 (n % 65536)]) := by
    have := OwnS.built w8 w.heap.size g8.size [text4 n, text4 n ++ [46], digs 10 n, digs 10 (n / 16777216) ++ [46] ++ digs 10 (n % 16777216), digs 10 (n / 16777216) ++ [46] ++ digs 10 (n / 65536 % 256) ++ [46] ++ digs 10 (n % 65536)] (by simp)
    simp only [List.map_cons, List.map_nil] at this
    rw [HW.out, F1.out, HdN.out, F3.out, F4.out] at this
    exact this
  have g9 := g8.alloc g8.size (.cells #[.string W, .string (W ++ (⟨#[46]⟩ : ByteArray)), .string dN, .string (dA ++ (⟨#[46]⟩ : ByteArray) ++ d24), .string (dA ++ (⟨#[46]⟩ : ByteArray) ++ dB ++ (⟨#[46]⟩ : ByteArray) ++ d16)] 9)
  generalize w8.alloc (.cells #[.string W, .string (W ++ (⟨#[46]⟩ : ByteArray)), .string dN, .string (dA ++ (⟨#[46]⟩ : ByteArray) ++ d24), .string (dA ++ (⟨#[46]⟩ : ByteArray) ++ dB ++ (⟨#[46]⟩ : ByteArray) ++ d16)] 9) = w9 at hown5 g9 ⊢
  generalize w8.heap.size = k5 at hown5 ⊢
  refine (based_at _ _ (n / 16777216) 16 _ (by omega) rfl (by decide) (by decide) (by omega) xA HxA.out).mono ?_
  rintro e w10 ⟨rfl, hw10⟩
  have g10 := g9.trans (hw10.mono g9.size)
  go_wp2_with fail
  refine (based_at _ _ (n / 65536 % 256) 16 _ (by omega) rfl (by decide) (by decide) (by omega) xB HxB.out).mono ?_
  rintro e w11 ⟨rfl, hw11⟩
  have g11 := g10.trans (hw11.mono g10.size)
  go_wp2_with fail
  refine (based_at _ _ (n / 256 % 256) 8 _ (by omega) rfl (by decide) (by decide) (by omega) oC HoC.out).mono ?_
  rintro e w12 ⟨rfl, hw12⟩
  have g12 := g11.trans (hw12.mono g11.size)
  go_wp2_with fail
  refine (Decimal_at _ (n % 256) _ (by omega) (by omega) dD HdD.out).mono ?_
  rintro e w13 ⟨rfl, hw13⟩
  have g13 := g12.trans (hw13.mono g12.size)
  go_wp2_with fail
  refine (based_at _ _ (n) 8 _ (by omega) rfl (by decide) (by decide) (by omega) oN HoN.out).mono ?_
  rintro e w14 ⟨rfl, hw14⟩
  have g14 := g13.trans (hw14.mono g13.size)
  go_wp2_with fail
  refine (based_at _ _ (n) 16 _ (by omega) rfl (by decide) (by decide) (by omega) xN HxN.out).mono ?_
  rintro e w15 ⟨rfl, hw15⟩
  have g15 := g14.trans (hw15.mono g14.size)
  have hown5' := hown5.out.below hw10
  have HO := Lib.hid ((((((OwnS.below hown5.out hw10).below hw11).below hw12).below hw13).below hw14).below hw15)
  have hcell3 : ∀ (j : Nat) (p : Bs), ([[48, 120] ++ digs 16 (n / 16777216) ++ [46, 48, 88] ++ digs 16 (n / 65536 % 256) ++ [46, 48] ++ digs 8 (n / 256 % 256) ++ [46] ++ digs 10 (n % 256), [48] ++ digs 8 n, [48, 120] ++ digs 16 n] : List Bs)[j]? = some p → (w15.alloc (.cells #[.string ((⟨#[48, 120]⟩ : ByteArray) ++ xA ++ (⟨#[46, 48, 88]⟩ : ByteArray) ++ xB ++ (⟨#[46, 48]⟩ : ByteArray) ++ oC ++ (⟨#[46]⟩ : ByteArray) ++ dD), .string ((⟨#[48]⟩ : ByteArray) ++ oN), .string ((⟨#[48, 120]⟩ : ByteArray) ++ xN)] 9)).cell? ((⟨w15.heap.size, 0, none⟩ : Addr).add j) = some (.string (strOf p)) := by
    intro j p hp
    rw [add_zero_off, cells_alloc_new]
    match j, hp with
    | 0, hp => simp only [List.getElem?_cons_zero, Option.some.injEq] at hp; rw [← hp, F5.out]; rfl
    | 1, hp => simp only [List.getElem?_cons_succ, List.getElem?_cons_zero, Option.some.injEq] at hp; rw [← hp, F6.out]; rfl
    | 2, hp => simp only [List.getElem?_cons_succ, List.getElem?_cons_zero, Option.some.injEq] at hp; rw [← hp, F7.out]; rfl
    | j + 3, hp => simp at hp
  have HC3 := Lib.hid hcell3
  clear hcell3 hown5' hown5
  go_wp2_with (first | (at_builtin; refine app_strs rfl _ _ rfl w.heap.size _ [text4 n, text4 n ++ [46], digs 10 n, digs 10 (n / 16777216) ++ [46] ++ digs 10 (n % 16777216), digs 10 (n / 16777216) ++ [46] ++ digs 10 (n / 65536 % 256) ++ [46] ++ digs 10 (n % 65536)] [[48, 120] ++ digs 16 (n / 16777216) ++ [46, 48, 88] ++ digs 16 (n / 65536 % 256) ++ [46, 48] ++ digs 8 (n / 256 % 256) ++ [46] ++ digs 10 (n % 256), [48] ++ digs 8 n, [48, 120] ++ digs 16 n] rfl (HO.out.below ((Below.refl _ _).alloc (Nat.le_refl _) _)) ⟨w15.heap.size, 0, none⟩ 3 rfl HC3.out (by simp) (by simp) (by have := g15.size; simp; omega) ?_; intro v' wf hown hg))
  have gf : Below w.heap.size w wf := (g15.alloc g15.size _).grown hg (by have := g15.size; simp; omega) HO.out.base
  have hown8 : OwnS wf w.heap.size v' (ways n) := hown
  obtain ⟨hv, _⟩ | ⟨g, cp, rfl, hgB, hgc, hglt, hgcell⟩ := OwnS.form hown8
  · rename_i h0
    exact absurd h0 (by simp [ways])
  · have hgcell' : Hid (∀ (j : Nat) (p : Bs), (ways n)[j]? = some p → wf.cell? ⟨g, j, none⟩ = some (.string (strOf p))) := Lib.hid hgcell
    have h8 : (ways n).length = 8 := rfl
    have HD := Lib.hid (fun (w' : World) (hG' : GL w') => Domain_at W false w' (by omega) hG' (by
      rw [← HW.out, strOf_data]
      unfold domP
      rw [ip4_text4 n hn]; rfl))
    rw [h8]
    clear hgcell h8 hg HO HC3 hown hown8
    have gs := gf.size
    go_loopw [10] (fun vi wr => ∃ i : Nat, vi = .int .i64 i ∧ i ≤ 8 ∧ Below wf.heap.size wf wr) (fun vi _ => 8 - (intOf vi).toNat)
    case atStart => exact ⟨0, rfl, by omega, Below.refl _ _⟩
    case round =>
      obtain ⟨i, rfl, hi, hbr⟩ := hrel
      obtain ⟨wo, rfl⟩ : ∃ wo : World, wo = wr := ⟨_, rfl⟩
      have hB := hbr.size
      have gw := gf.trans (hbr.mono gs)
      by_cases hlt : i < 8
      · obtain ⟨p, hp⟩ : ∃ p, (ways n)[i]? = some p := ⟨_, List.getElem?_eq_getElem hlt⟩
        obtain ⟨q1, q2, q3⟩ := HWF.out p (List.mem_of_getElem? hp)
        have hcell : wo.cell? ⟨g, i, none⟩ = some (.string (strOf p)) := by
          rw [hbr.cell (p := ⟨g, i, none⟩) hglt]; exact hgcell'.out i p hp
        have hzp : (strOf p).size ≤ 1000000 := by rw [strOf_size]; omega
        have C1 := Lib.hid (fun (w' : World) (hG' : GL w') => IPv4_at (strOf p) n w' hzp hG' (by rw [strOf_data]; exact q1))
        have C2 := Lib.hid (fun (w' : World) (hG' : GL w') => is_at (strOf p) W true w' hzp hG' (by rw [strOf_data, q2, ← HW.out, strOf_data]; simp))
        obtain ⟨T, hT⟩ : ∃ T, strOf p = T := ⟨_, rfl⟩
        rw [hT] at C1 C2 hcell
        clear hp q1 q2 q3 hT hzp
        go_wp2_with fail
        refine (C1.out _ (hG.below gw)).mono ?_
        rintro e x1 ⟨rfl, hx1⟩
        have gx1 := gw.trans (hx1.mono gw.size)
        have hcell1 : x1.cell? ⟨g, i, none⟩ = some (.string T) := by
          rw [hx1.cell (p := ⟨g, i, none⟩) (Nat.lt_of_lt_of_le hglt hB)]; exact hcell
        clear hcell
        go_wp2_with (first | (go_at_call 11; refine (C2.out _ (hG.below gx1)).mono ?_; rintro e x2 ⟨rfl, hx2⟩))
        exact ⟨⟨i + 1, rfl, by omega, (hbr.trans (hx1.mono hB)).trans (hx2.mono (Nat.le_trans hB hx1.size))⟩, by simp [intOf]; omega⟩
      · obtain rfl : i = 8 := by omega
        go_wp2_with (first | (go_at_call 12; refine (HD.out _ (hG.below gw)).mono ?_; rintro e x1 ⟨rfl, hx1⟩))
        go_ret
        exact ⟨rfl, gw.trans (hx1.mono gw.size)⟩
theorem fours_at (m : Int) (w : World) (hm : (Lit.int .u32 m).wf = true) (hG : GL w) :
    Calls Tryz.prog 3 #[.int .u32 m] w fun e w' => e = .returned (.bool true) ∧ Below w.heap.size w w' := by
  have ha : 0 ≤ m ∧ m < 4294967296 := by
    simp [Lit.wf, IntKind.min, IntKind.max, IntKind.signed, IntKind.bits] at hm
    omega
  obtain ⟨n, rfl⟩ : ∃ n : Nat, m = n := ⟨m.toNat, by omega⟩
  exact fours_any n w (by omega) hG
end Go.Proofs.YtlhbpdnbfghkoaaGreatDoor
