/- The reference's Find, lower, port, Default. -/
import Derived.Test.YtmgkmpbblhkacaaGreatDoorR6
import Derived.Test.YtmgkmpbblhkacaaGreatDoorMgQ
import Derived.Test.YtmgkmpbblhkacaaGreatDoorR7f
namespace Go.Proofs.YtmgkmpbblhkacaaGreatDoor
open Go.RowKit
set_option linter.unusedSimpArgs false
set_option linter.unusedVariables false

/-- The first place of a byte. -/
def findP (c : UInt8) : Bs → Nat
  | [] => 0
  | x :: r => if x = c then 0 else findP c r + 1
theorem findP_le (c : UInt8) (l : Bs) : findP c l ≤ l.length := by
  induction l with
  | nil => simp [findP]
  | cons x r ih => unfold findP; split <;> simp <;> omega
set_option maxRecDepth 1000000 in
theorem refFind_any (s : ByteArray) (c : UInt8) (w : World) (hs : s.size ≤ 1000000) :
    Calls Tryz.prog 46 #[.string s, .int .u8 c.toNat] w fun e w' => e = .returned (.int .i64 (findP c s.data.toList : Nat)) ∧ w = w' := by
  go_enter Tryz.func46, Tryz.ntmps46
  go_wp2
  go_loop [5] (fun vi => ∃ i : Nat, vi = .int .i64 i ∧ i ≤ s.size ∧ Hid (findP c s.data.toList = i + findP c (s.data.toList.drop i))) (fun vi => s.size - (intOf vi).toNat)
  case atStart => exact ⟨0, rfl, by omega, Lib.hid (by simp)⟩
  case round =>
    obtain ⟨i, rfl, hi, HI⟩ := hrel
    by_cases hlt : i < s.size
    · have hd := drop_at s i hlt
      by_cases hc : s[i] = c
      · have hr : Hid (findP c s.data.toList = i) := by rw [HI.out, hd, findP, if_pos hc]; exact Lib.hid rfl
        have hb := u8_eq _ _ hc
        clear hd hc HI
        go_wp2
        go_ret
        exact ⟨by rw [hr.out]; exact rfl, rfl⟩
      · have hr : Hid (findP c s.data.toList = (i + 1) + findP c (s.data.toList.drop (i + 1))) := by
          rw [HI.out, hd, findP, if_neg hc]
          exact Lib.hid (by omega)
        have hb := u8_ne _ _ hc
        clear hd hc HI
        go_wp2
        go_round
        case rel => exact ⟨i + 1, by go_num, by omega, hr⟩
        case measure => simp [intOf]; omega
    · obtain rfl : i = s.size := by omega
      have hr : Hid (findP c s.data.toList = s.size) := by rw [HI.out, drop_end]; exact Lib.hid rfl
      clear HI
      go_wp2
      go_ret
      exact ⟨by rw [hr.out]; exact rfl, rfl⟩
set_option maxRecDepth 1000000 in
set_option maxHeartbeats 2000000 in
theorem refLower_any (s : ByteArray) (w : World) (hs : s.size ≤ 1000000) :
    Calls Tryz.prog 47 #[.string s] w fun e w' => e = .returned (.string (strOf (s.data.toList.map lowB))) ∧ Below w.heap.size w w' := by
  go_enter Tryz.func47, Tryz.ntmps47
  go_wp2
  have hown0 := Lib.hid (OwnY.new w w.heap.size (Nat.le_refl _))
  have hb0 : Below w.heap.size w (w.alloc (.cells #[] 5)) := (Below.refl _ w).alloc (Nat.le_refl _) _
  have HS := Lib.hid hs
  go_loopw [3, 4] (fun v vi wr => ∃ (i : Nat) (xs : Bs) (g c : Nat), v = .slice (some ⟨g, 0, none⟩) xs.length c ∧ vi = .int .i64 i ∧ i ≤ s.size ∧ xs.length ≤ i ∧ Below w.heap.size w wr ∧ Hid (OwnY wr w.heap.size (.slice (some ⟨g, 0, none⟩) xs.length c) xs ∧ xs = (s.data.toList.take i).map lowB)) (fun _ vi _ => s.size - (intOf vi).toNat)
  case atStart => exact ⟨0, [], w.heap.size, 0, rfl, rfl, by omega, by simp, hb0, Lib.hid ⟨hown0.out, by simp⟩⟩
  case round =>
    obtain ⟨i, xs, g, cp, rfl, rfl, hi, hxl, hbw, HI⟩ := hrel
    obtain ⟨wo, rfl⟩ : ∃ wo : World, wo = wr := ⟨_, rfl⟩
    have hB := hbw.size
    by_cases hlt : i < s.size
    · have HO := Lib.hid HI.out.1
      have hget := getI s i hlt
      obtain ⟨c, hc⟩ : ∃ c, s[i] = c := ⟨_, rfl⟩
      rw [hc] at hget
      have hc256 := c.toNat_lt
      have HN : Hid (xs ++ [lowB c] = (s.data.toList.take (i + 1)).map lowB) := by
        rw [List.take_add_one, hget, List.map_append, ← HI.out.2]; exact Lib.hid rfl
      have hlv := low_val c
      clear HI hget
      have hways : (65 ≤ c.toNat ∧ c.toNat ≤ 90) ∨ (c.toNat < 65) ∨ (65 ≤ c.toNat ∧ 90 < c.toNat) := by omega
      rcases hways with hup | hup | hup
      · rw [if_pos hup] at hlv
        have h1 : (65 : Int) ≤ c.toNat := by omega
        have h2 : (c.toNat : Int) ≤ 90 := by omega
        have HC := Lib.hid (one_newY (lowB c) ((c.toNat : Int) + 32) hlv.symm wo)
        clear hlv hup
        go_wp2_with (first | (at_builtin; refine app_u8 (qs := [lowB c]) rfl _ _ rfl w.heap.size _ xs rfl (HO.out.below ((Below.refl _ _).alloc (Nat.le_refl _) _)) ⟨wo.heap.size, 0, none⟩ 1 rfl HC.out (by omega) (by simp) (by simp; omega) ?_; intro v2 w2 hown2 hg2))
        rcases OwnY.form hown2 with ⟨_, h⟩ | ⟨g2, cp2, rfl, _⟩
        · simp at h
        · have hb2 : Below w.heap.size w w2 := (hbw.alloc hB _).grown hg2 (by simp; omega) HO.out.base
          exact ⟨⟨i + 1, _, g2, cp2, rfl, rfl, by omega, by simp; omega, hb2, Lib.hid ⟨hown2, HN.out⟩⟩, by simp [intOf]; omega⟩
      all_goals
        rw [if_neg (by omega)] at hlv
        have h1 : (c.toNat : Int) < 65 ∨ ((65 : Int) ≤ c.toNat ∧ (90 : Int) < c.toNat) := by omega
        have HC := Lib.hid (one_newY (lowB c) (c.toNat : Int) hlv.symm wo)
        clear hlv hup
        rcases h1 with h1 | ⟨h1, h2⟩
        all_goals
          go_wp2_with (first | (at_builtin; refine app_u8 (qs := [lowB c]) rfl _ _ rfl w.heap.size _ xs rfl (HO.out.below ((Below.refl _ _).alloc (Nat.le_refl _) _)) ⟨wo.heap.size, 0, none⟩ 1 rfl HC.out (by omega) (by simp) (by simp; omega) ?_; intro v2 w2 hown2 hg2))
          rcases OwnY.form hown2 with ⟨_, h⟩ | ⟨g2, cp2, rfl, _⟩
          · simp at h
          · have hb2 : Below w.heap.size w w2 := (hbw.alloc hB _).grown hg2 (by simp; omega) HO.out.base
            exact ⟨⟨i + 1, _, g2, cp2, rfl, rfl, by omega, by simp; omega, hb2, Lib.hid ⟨hown2, HN.out⟩⟩, by simp [intOf]; omega⟩
    · obtain rfl : i = s.size := by omega
      have hv : (Value.slice (some ⟨g, 0, none⟩) xs.length cp) ≠ .slice none 0 0 := by intro h; cases h
      have hend : Hid (xs = s.data.toList.map lowB) := by
        rw [HI.out.2, List.take_of_length_le (by rw [← Lib.size_eq]; exact Nat.le_refl _)]
        exact Lib.hid rfl
      have hst := own_str HI.out.1 hv
      clear HI hv
      go_wp2
      go_ret
      exact ⟨by rw [← hend.out]; exact rfl, hbw⟩
/-- The number of a port's digits, at most 70000; none: there are other bytes. -/
def portL : Nat → Bs → Option Nat
  | n, [] => some n
  | n, c :: r => if 48 ≤ c.toNat ∧ c.toNat ≤ 57 then portL (min (n * 10 + (c.toNat - 48)) 70000) r else none
/-- transeptref08.port. -/
def portP (s : Bs) : Nat × Bool := match portL 0 s with | none => (0, false) | some n => (n, decide (n ≤ 65535))
set_option maxRecDepth 1000000 in
set_option maxHeartbeats 1000000 in
theorem refPort_any (s : ByteArray) (w : World) (hs : s.size ≤ 1000000) :
    Calls Tryz.prog 82 #[.string s] w fun e w' => e = .returned (.tuple #[.int .i64 ((portP s.data.toList).1 : Nat), .bool (portP s.data.toList).2]) ∧ w = w' := by
  have HP : Hid (portP s.data.toList = match portL 0 s.data.toList with | none => (0, false) | some n => (n, decide (n ≤ 65535))) := Lib.hid rfl
  go_enter Tryz.func82, Tryz.ntmps82
  go_wp2
  go_loop [4, 5] (fun vn vi => ∃ i n : Nat, vn = .int .i64 n ∧ vi = .int .i64 i ∧ i ≤ s.size ∧ n ≤ 70000 ∧ Hid (portL 0 s.data.toList = portL n (s.data.toList.drop i))) (fun _ vi => s.size - (intOf vi).toNat)
  case atStart => exact ⟨0, 0, rfl, rfl, by omega, by omega, Lib.hid (by simp)⟩
  case round =>
    obtain ⟨i, n, rfl, rfl, hi, hn, HI⟩ := hrel
    by_cases hlt : i < s.size
    · have hd := drop_at s i hlt
      have hc256 := s[i].toNat_lt
      by_cases hok : 48 ≤ s[i].toNat ∧ s[i].toNat ≤ 57
      · have HN : Hid (portL 0 s.data.toList = portL (min (n * 10 + (s[i].toNat - 48)) 70000) (s.data.toList.drop (i + 1))) := by
          rw [HI.out, hd, portL, if_pos hok]; exact Lib.hid rfl
        have h1 : (48 : Int) ≤ s[i].toNat := by omega
        have h2 : (s[i].toNat : Int) ≤ 57 := by omega
        clear hd HI
        go_wp2
        refine ⟨⟨i + 1, min (n * 10 + (s[i].toNat - 48)) 70000, ?_, rfl, by omega, by omega, HN⟩, by simp [intOf]; omega⟩
        congr 1; omega
      · have HN : Hid (portP s.data.toList = (0, false)) := by
          rw [HP.out, HI.out, hd, portL, if_neg hok]; exact Lib.hid rfl
        have hways : (s[i].toNat : Int) < 48 ∨ ((48 : Int) ≤ s[i].toNat ∧ (57 : Int) < s[i].toNat) := by omega
        clear hd HI hok
        rcases hways with h1 | ⟨h1, h2⟩
        all_goals
          go_wp2
          go_ret2
          exact ⟨by rw [HN.out]; exact rfl, rfl⟩
    · obtain rfl : i = s.size := by omega
      have HN : Hid (portP s.data.toList = (n, decide (n ≤ 65535))) := by rw [HP.out, HI.out, drop_end]; exact Lib.hid rfl
      have hdc : decide ((n : Int) ≤ 65535) = decide (n ≤ 65535) := by rw [Bool.eq_iff_iff]; simp; omega
      clear HI
      go_wp2
      go_ret2
      exact ⟨by rw [HN.out]; first | exact rfl | simp [hdc], rfl⟩
end Go.Proofs.YtmgkmpbblhkacaaGreatDoor
