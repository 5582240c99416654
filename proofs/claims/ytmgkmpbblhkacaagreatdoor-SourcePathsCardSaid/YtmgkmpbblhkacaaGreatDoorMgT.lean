/- The reference's signed, dot, dots. The reference's dot, dots. The reference's dots. -/
import Derived.Test.YtmgkmpbblhkacaaGreatDoorR8b
import Derived.Deep.RegionHeld3
namespace Go.Proofs.YtmgkmpbblhkacaaGreatDoor
open Go.RowKit
set_option linter.unusedSimpArgs false
set_option linter.unusedVariables false

/-- transeptref08.signed. -/
def signedP (k : Nat) (s : Bs) (at_ : Nat) : Bs := if at_ = s.length then [] else (s.drop at_).take 1 ++ encP k (s.drop (at_ + 1))
set_option maxRecDepth 1000000 in
set_option maxHeartbeats 2000000 in
theorem refSigned_any (s : ByteArray) (at_ k : Nat) (w : World) (hs : s.size ≤ 300000) (ha : at_ ≤ s.size) (h1 : 1 ≤ k) (h5 : k ≤ 5) :
    Calls Tryz.prog 48 #[.string s, .int .i64 at_, .int .i64 k] w fun e w' => e = .returned (.string (strOf (signedP k s.data.toList at_))) ∧ Below w.heap.size w w' := by
  by_cases he : at_ = s.size
  · have hr : Hid (signedP k s.data.toList at_ = []) := Lib.hid (by unfold signedP; rw [if_pos (by rw [he, Lib.size_eq])])
    subst he
    go_enter Tryz.func48, Tryz.ntmps48
    go_wp2
    go_ret
    exact ⟨by rw [hr.out]; exact rfl, Below.refl _ _⟩
  · have hlt : at_ < s.size := by omega
    have e1 : (s.extract (at_ + 1) s.size).data.toList = s.data.toList.drop (at_ + 1) := by rw [extract_from, strOf_data]
    have z1 : (s.extract (at_ + 1) s.size).size ≤ 300000 := by rw [ByteArray.size_extract]; omega
    have CE := fun w' => Encode_any k (s.extract (at_ + 1) s.size) w' (by omega) h1 h5
    rw [e1] at CE
    have hx : s.extract at_ (at_ + 1) = strOf ((s.data.toList.drop at_).take 1) := by
      rw [extract_strOf, List.drop_take, show at_ + 1 - at_ = 1 by omega]
    have hr : Hid (strOf (signedP k s.data.toList at_) = s.extract at_ (at_ + 1) ++ strOf (encP k (s.data.toList.drop (at_ + 1)))) := by
      unfold signedP; rw [if_neg (by rw [← Lib.size_eq]; exact he), strOf_append, hx]; exact Lib.hid rfl
    have hel := encP_len k (s.data.toList.drop (at_ + 1))
    rw [List.length_drop, ← Lib.size_eq] at hel
    have CE' := Lib.hid CE
    obtain ⟨E, hE⟩ : ∃ E, strOf (encP k (s.data.toList.drop (at_ + 1))) = E := ⟨_, rfl⟩
    have hEz : E.size ≤ 900000 := by rw [← hE, strOf_size]; omega
    rw [hE] at CE' hr
    obtain ⟨X, hX⟩ : ∃ X, s.extract at_ (at_ + 1) = X := ⟨_, rfl⟩
    have hXz : X.size ≤ 1 := by rw [← hX, ByteArray.size_extract]; omega
    rw [hX] at hr
    have hne : ((at_ : Int) == (s.size : Int)) = false := beq_eq_false_iff_ne.2 (by omega)
    clear CE e1 hx hel hE h1 h5 he z1
    go_enter Tryz.func48, Tryz.ntmps48
    go_wp2_with fail
    have m1 : IntKind.i64.wrap ((at_ : Int) + 1) = (at_ : Int) + 1 := IntWalk.i64_in _ (by omega)
    have n1 : (0 : Int) ≤ (at_ : Int) + 1 := by omega
    have t1 : ((at_ : Int) + 1).toNat = at_ + 1 := by omega
    have l1 : at_ + 1 ≤ s.size := by omega
    have l1' : (at_ : Int) + 1 ≤ (s.size : Int) := by omega
    have l2 : at_ ≤ at_ + 1 := by omega
    have l3 : (at_ : Int) ≤ (at_ : Int) + 1 := by omega
    have hnb : ¬ 9223372036854775807 < X.size + E.size := by omega
    go_region_law (first | (go_simp; go_at_call 49; refine (CE'.out _).mono ?_; rintro e w2 ⟨rfl, hb2⟩))
    all_goals
      try go_wp2
      go_ret
      exact ⟨by rw [hr.out]; exact rfl, (Below.drew (Below.refl _ _)).trans hb2⟩
end Go.Proofs.YtmgkmpbblhkacaaGreatDoor
namespace Go.Proofs.YtmgkmpbblhkacaaGreatDoor
open Go.RowKit
set_option linter.unusedSimpArgs false
set_option linter.unusedVariables false

/-- transeptref08.dot. -/
def dotP (s : Bs) : Nat :=
  if s[0]? = some 46 then 1
  else if s[0]? = some 37 ∧ s[1]? = some 50 ∧ (s[2]? = some 101 ∨ s[2]? = some 69) then 3 else 0
theorem dotP_le (s : Bs) : dotP s ≤ s.length ∧ dotP s ≤ 3 := by
  unfold dotP
  split
  · next h =>
    have := (List.getElem?_eq_some_iff.1 h).1
    omega
  · split
    · next h =>
      rcases h with ⟨_, _, h2 | h2⟩ <;>
      · have := (List.getElem?_eq_some_iff.1 h2).1
        omega
    · omega
set_option maxRecDepth 1000000 in
set_option maxHeartbeats 4000000 in
theorem refDot_any (s : ByteArray) (w : World) (hs : s.size ≤ 1000000) :
    Calls Tryz.prog 146 #[.string s] w fun e w' => e = .returned (.int .i64 (dotP s.data.toList : Nat)) ∧ w = w' := by
  by_cases h0 : s.size = 0
  · have hl : s.data.toList = [] := by rw [← List.length_eq_zero_iff, ← Lib.size_eq]; exact h0
    have hemp : s.toList.isEmpty = true := by rw [isEmpty_data, hl]; rfl
    have hr : Hid (dotP s.data.toList = 0) := Lib.hid (by rw [hl]; rfl)
    have h3 : ¬ (3 : Int) ≤ (s.size : Int) := by omega
    clear hl h0
    go_enter Tryz.func146, Tryz.ntmps146
    go_wp2
    go_ret
    exact ⟨by rw [hr.out]; exact rfl, rfl⟩
  have z0 : 0 < s.size := by omega
  have hemp : s.toList.isEmpty = false := by
    rw [isEmpty_data]
    refine beq_eq_false_iff_ne.2 fun h => ?_
    rw [Lib.size_eq, h] at z0
    exact absurd z0 (by decide)
  have g0 := getI s 0 z0
  by_cases c0 : s[0] = 46
  · have hr : Hid (dotP s.data.toList = 1) := Lib.hid (by unfold dotP; rw [g0, c0]; rfl)
    have b0 := u8_eqL _ 46 46 rfl c0
    clear g0 c0 h0
    go_enter Tryz.func146, Tryz.ntmps146
    go_wp2
    go_ret
    exact ⟨by rw [hr.out]; exact rfl, rfl⟩
  have b0 := u8_neL _ 46 46 rfl c0
  have n0 : s.data.toList[0]? ≠ some 46 := by rw [g0]; exact fun h => c0 (Option.some.inj h)
  by_cases hz : s.size < 3
  · have g2 : s.data.toList[2]? = none := List.getElem?_eq_none (by rw [← Lib.size_eq]; omega)
    have hr : Hid (dotP s.data.toList = 0) := Lib.hid (by unfold dotP; rw [if_neg n0, g2]; simp)
    have h3 : ¬ (3 : Int) ≤ (s.size : Int) := by omega
    clear g0 c0 h0 n0 g2
    go_enter Tryz.func146, Tryz.ntmps146
    go_wp2
    go_ret
    exact ⟨by rw [hr.out]; exact rfl, rfl⟩
  have h3 : (3 : Int) ≤ (s.size : Int) := by omega
  have z1 : 1 < s.size := by omega
  have z2 : 2 < s.size := by omega
  have g1 := getI s 1 z1
  have g2 := getI s 2 z2
  by_cases c1 : s[0] = 37
  case neg =>
    have hr : Hid (dotP s.data.toList = 0) := Lib.hid (by unfold dotP; rw [if_neg n0, g0]; exact if_neg (fun h => c1 (Option.some.inj h.1)))
    have b1 := u8_neL _ 37 37 rfl c1
    clear g0 c0 h0 n0 g2 g1 c1 hz
    go_enter Tryz.func146, Tryz.ntmps146
    go_wp2
    go_ret
    exact ⟨by rw [hr.out]; exact rfl, rfl⟩
  have b1 := u8_eqL _ 37 37 rfl c1
  by_cases c2 : s[1] = 50
  case neg =>
    have hr : Hid (dotP s.data.toList = 0) := Lib.hid (by unfold dotP; rw [if_neg n0, g1]; exact if_neg (fun h => c2 (Option.some.inj h.2.1)))
    have b2 := u8_neL _ 50 50 rfl c2
    clear g0 c0 h0 n0 g2 g1 c1 c2 hz
    go_enter Tryz.func146, Tryz.ntmps146
    go_wp2
    go_ret
    exact ⟨by rw [hr.out]; exact rfl, rfl⟩
  have b2 := u8_eqL _ 50 50 rfl c2
  by_cases c3 : s[2] = 101
  · have hr : Hid (dotP s.data.toList = 3) := Lib.hid (by unfold dotP; rw [if_neg n0, g0, g1, g2, c1, c2, c3]; rfl)
    have b3 := u8_eqL _ 101 101 rfl c3
    clear g0 c0 h0 n0 g2 g1 c1 c2 c3 hz
    go_enter Tryz.func146, Tryz.ntmps146
    go_wp2
    go_ret
    exact ⟨by rw [hr.out]; exact rfl, rfl⟩
  have b3 := u8_neL _ 101 101 rfl c3
  by_cases c4 : s[2] = 69
  · have hr : Hid (dotP s.data.toList = 3) := Lib.hid (by unfold dotP; rw [if_neg n0, g0, g1, g2, c1, c2, c4]; rfl)
    have b4 := u8_eqL _ 69 69 rfl c4
    clear g0 c0 h0 n0 g2 g1 c1 c2 c3 c4 hz
    go_enter Tryz.func146, Tryz.ntmps146
    go_wp2
    go_ret
    exact ⟨by rw [hr.out]; exact rfl, rfl⟩
  · have hr : Hid (dotP s.data.toList = 0) := Lib.hid (by
      unfold dotP
      rw [if_neg n0, g2]
      exact if_neg (fun h => by
        rcases h.2.2 with h | h
        · exact c3 (Option.some.inj h)
        · exact c4 (Option.some.inj h)))
    have b4 := u8_neL _ 69 69 rfl c4
    clear g0 c0 h0 n0 g2 g1 c1 c2 c3 c4 hz
    go_enter Tryz.func146, Tryz.ntmps146
    go_wp2
    go_ret
    exact ⟨by rw [hr.out]; exact rfl, rfl⟩
end Go.Proofs.YtmgkmpbblhkacaaGreatDoor
namespace Go.Proofs.YtmgkmpbblhkacaaGreatDoor
open Go.RowKit
set_option linter.unusedSimpArgs false
set_option linter.unusedVariables false

/-- transeptref08.dots. -/
def dotsP (s : Bs) : Nat :=
  if dotP s = 0 then 0
  else if dotP s = s.length then 1
  else if 0 < dotP (s.drop (dotP s)) ∧ dotP s + dotP (s.drop (dotP s)) = s.length then 2 else 0
set_option maxRecDepth 1000000 in
set_option maxHeartbeats 4000000 in
theorem refDots_any (s : ByteArray) (w : World) (hs : s.size ≤ 1000000) :
    Calls Tryz.prog 118 #[.string s] w fun e w' => e = .returned (.int .i64 (dotsP s.data.toList : Nat)) ∧ w = w' := by
  have C1 := Lib.hid (refDot_any s w hs)
  have hle := dotP_le s.data.toList
  obtain ⟨a, ha⟩ : ∃ a, dotP s.data.toList = a := ⟨_, rfl⟩
  have hR : dotsP s.data.toList = if a = 0 then 0 else if a = s.size then 1 else if 0 < dotP (s.data.toList.drop a) ∧ a + dotP (s.data.toList.drop a) = s.size then 2 else 0 := by
    unfold dotsP; rw [ha, ← Lib.size_eq]
  rw [ha, ← Lib.size_eq] at hle
  rw [ha] at C1
  have hle1 := hle.1
  clear hle ha
  by_cases a0 : a = 0
  · have hr : Hid (dotsP s.data.toList = 0) := Lib.hid (by rw [hR, if_pos a0])
    subst a0
    clear hR
    go_enter Tryz.func118, Tryz.ntmps118
    go_wp2_with (first | (go_at_call 146; refine C1.out.mono ?_; rintro e w1 ⟨rfl, rfl⟩))
    go_ret
    exact ⟨by rw [hr.out]; exact rfl, rfl⟩
  have q0 : ((a : Int) == 0) = false := beq_eq_false_iff_ne.2 (by omega)
  by_cases a1 : a = s.size
  · have hr : Hid (dotsP s.data.toList = 1) := Lib.hid (by rw [hR, if_neg a0, if_pos a1])
    have q1 : ((a : Int) == (s.size : Int)) = true := by rw [a1]; exact beq_self_eq_true _
    clear hR a1 a0
    go_enter Tryz.func118, Tryz.ntmps118
    go_wp2_with (first | (go_at_call 146; refine C1.out.mono ?_; rintro e w1 ⟨rfl, rfl⟩))
    go_ret
    exact ⟨by rw [hr.out]; exact rfl, rfl⟩
  have q1 : ((a : Int) == (s.size : Int)) = false := beq_eq_false_iff_ne.2 (by omega)
  have e1 : (s.extract a s.size).data.toList = s.data.toList.drop a := by rw [extract_from, strOf_data]
  have C2 := refDot_any (s.extract a s.size) w (by rw [ByteArray.size_extract]; omega)
  rw [e1] at C2
  have hle2 := (dotP_le (s.data.toList.drop a)).1
  rw [List.length_drop, ← Lib.size_eq] at hle2
  obtain ⟨b, hb⟩ : ∃ b, dotP (s.data.toList.drop a) = b := ⟨_, rfl⟩
  rw [hb] at C2 hR hle2
  rw [if_neg a0, if_neg a1] at hR
  have C2' := Lib.hid C2
  clear e1 C2 hb
  have t1 : ((a : Int)).toNat = a := by omega
  have l1 : (a : Int) ≤ (s.size : Int) := by omega
  have m1 : IntKind.i64.wrap ((a : Int) + b) = (a : Int) + b := IntWalk.i64_in _ (by omega)
  by_cases b0 : b = 0
  · have hr : Hid (dotsP s.data.toList = 0) := Lib.hid (by rw [hR]; exact if_neg (by omega))
    subst b0
    clear hR
    go_enter Tryz.func118, Tryz.ntmps118
    go_wp2_with (first | (go_at_call 146; first | (with_reducible refine C1.out.mono ?_; rintro e w1 ⟨rfl, rfl⟩) | (with_reducible refine C2'.out.mono ?_; rintro e w1 ⟨rfl, rfl⟩)))
    go_ret
    exact ⟨by rw [hr.out]; exact rfl, rfl⟩
  have q2 : (0 : Int) < (b : Int) := by omega
  by_cases b1 : a + b = s.size
  · have hr : Hid (dotsP s.data.toList = 2) := Lib.hid (by rw [hR]; exact if_pos (by omega))
    have q3 : ((a : Int) + (b : Int) == (s.size : Int)) = true := beq_iff_eq.2 (by omega)
    clear hR b1 b0
    go_enter Tryz.func118, Tryz.ntmps118
    go_wp2_with (first | (go_at_call 146; first | (with_reducible refine C1.out.mono ?_; rintro e w1 ⟨rfl, rfl⟩) | (with_reducible refine C2'.out.mono ?_; rintro e w1 ⟨rfl, rfl⟩)))
    go_ret
    exact ⟨by rw [hr.out]; exact rfl, rfl⟩
  · have hr : Hid (dotsP s.data.toList = 0) := Lib.hid (by rw [hR]; exact if_neg (by omega))
    have q3 : ((a : Int) + (b : Int) == (s.size : Int)) = false := beq_eq_false_iff_ne.2 (by omega)
    clear hR b1 b0
    go_enter Tryz.func118, Tryz.ntmps118
    go_wp2_with (first | (go_at_call 146; first | (with_reducible refine C1.out.mono ?_; rintro e w1 ⟨rfl, rfl⟩) | (with_reducible refine C2'.out.mono ?_; rintro e w1 ⟨rfl, rfl⟩)))
    go_ret
    exact ⟨by rw [hr.out]; exact rfl, rfl⟩
end Go.Proofs.YtmgkmpbblhkacaaGreatDoor
