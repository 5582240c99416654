/- The law's labels. -/
import Derived.Test.YtmgkmpbblhkacaaGreatDoorLabH
import Derived.Test.YtmgkmpbblhkacaaGreatDoorR7b
namespace Go.Proofs.YtmgkmpbblhkacaaGreatDoor
open Go.RowKit
set_option linter.unusedSimpArgs false
set_option linter.unusedVariables false

set_option maxRecDepth 1000000 in
set_option maxHeartbeats 8000000 in
theorem lawLabels_any (s : ByteArray) (w : World) (hs : s.size ≤ 9223372036854775807) :
    Calls Tryz.prog 16 #[.string s] w fun e w' => e = .returned (.string (strOf (labL s.data.toList))) ∧ w = w' := by
  obtain ⟨l, hl⟩ : ∃ l, s.data.toList = l := ⟨_, rfl⟩
  have HL := Lib.hid hl
  rw [hl]
  clear hl
  go_enter Tryz.func16, Tryz.ntmps16
  go_wp2
  go_loop [3, 4] (fun vq vi => ∃ (i : Nat) (q : ByteArray), vq = .string q ∧ vi = .int .i64 i ∧ i ≤ s.size ∧ i ≤ 30 ∧ q.size ≤ 1 + 2 * i ∧ Hid (labL l = q.data.toList ++ labG ((l.take 30).drop i))) (fun _ vi => 30 - (intOf vi).toNat)
  case atStart => exact ⟨0, ⟨#[120]⟩, rfl, rfl, by omega, by omega, by decide, Lib.hid rfl⟩
  case round =>
    obtain ⟨i, q, rfl, rfl, hi, hi30, hq, HI⟩ := hrel
    by_cases hlt : i < s.size
    · by_cases h30 : i < 30
      · have hget := getI s i hlt
        rw [HL.out] at hget
        have hd : (l.take 30).drop i = s[i] :: (l.take 30).drop (i + 1) := by
          have h1 : (l.take 30)[i]? = some s[i] := by rw [List.getElem?_take, if_pos h30]; exact hget
          obtain ⟨h2, h3⟩ := List.getElem?_eq_some_iff.1 h1
          rw [List.drop_eq_getElem_cons h2, h3]
        have m1 : IntKind.i64.wrap ((i : Int) + 1) = (i : Int) + 1 := IntWalk.i64_in _ (by omega)
        have t1 : ((i : Int) + 1).toNat = i + 1 := by omega
        have l30 : (i : Int) < 30 := by omega
        by_cases hlow : isLow s[i] = true
        · have hc := of_decide_eq_true hlow
          have b1 : (97 : Int) ≤ (s[i].toNat : Int) := by omega
          have b2 : (s[i].toNat : Int) ≤ 122 := by omega
          have hne : s[i] ≠ 46 := by intro e; rw [e] at hlow; exact absurd hlow (by decide)
          have b3 := u8_neL s[i] 46 46 rfl hne
          have hx : s.extract i (i + 1) = strOf [s[i]] := by
            rw [extract_strOf, List.drop_take, show i + 1 - i = 1 by omega, drop_at s i hlt]; rfl
          have hxz : (s.extract i (i + 1)).size = 1 := by rw [hx]; rfl
          have hN : Hid (labL l = (q ++ s.extract i (i + 1)).data.toList ++ labG ((l.take 30).drop (i + 1))) := by
            rw [HI.out, hd, labG, if_pos hlow, hx]
            refine Lib.hid ?_
            simp [ByteArray.data_append, strOf]
          have hqz : (q ++ s.extract i (i + 1)).size ≤ 1 + 2 * (i + 1) := by rw [ByteArray.size_append, hxz]; omega
          obtain ⟨X, hX⟩ : ∃ X, s.extract i (i + 1) = X := ⟨_, rfl⟩
          rw [hX] at hN hqz hxz
          have hs1 : ¬ 9223372036854775807 < q.size + X.size := by omega
          have HQ := Lib.hid hqz
          clear hget hd HI hlow hc hne hx hxz hqz
          go_wp2
          exact ⟨⟨i + 1, _, rfl, rfl, by omega, by omega, HQ.out, hN⟩, by simp [intOf]; omega⟩
        · have hc : ¬ (97 ≤ s[i].toNat ∧ s[i].toNat ≤ 122) := fun h => hlow (decide_eq_true h)
          by_cases h46 : s[i] = 46
          · have b3 := u8_eqL s[i] 46 46 rfl h46
            have b1 : ¬ (97 : Int) ≤ (s[i].toNat : Int) := by rw [h46]; decide
            have hN : Hid (labL l = (q ++ ⟨#[46, 120]⟩).data.toList ++ labG ((l.take 30).drop (i + 1))) := by
              rw [HI.out, hd, labG, if_neg hlow, if_pos h46]
              refine Lib.hid ?_
              simp [ByteArray.data_append]
            have hs1 : ¬ 9223372036854775807 < q.size + 2 := by omega
            have hqz : (q ++ (⟨#[46, 120]⟩ : ByteArray)).size ≤ 1 + 2 * (i + 1) := by
              rw [ByteArray.size_append]
              have : (⟨#[46, 120]⟩ : ByteArray).size = 2 := rfl
              omega
            have HQ := Lib.hid hqz
            clear hget hd HI hlow hc h46 hqz
            go_wp2
            exact ⟨⟨i + 1, _, rfl, rfl, by omega, by omega, HQ.out, hN⟩, by simp [intOf]; omega⟩
          · have b3 := u8_neL s[i] 46 46 rfl h46
            have hN : Hid (labL l = q.data.toList ++ labG ((l.take 30).drop (i + 1))) := by
              rw [HI.out, hd, labG, if_neg hlow, if_neg h46]; exact Lib.hid rfl
            by_cases h97 : 97 ≤ s[i].toNat
            · have b1 : (97 : Int) ≤ (s[i].toNat : Int) := by omega
              have b2 : ¬ (s[i].toNat : Int) ≤ 122 := by omega
              clear hget hd HI hlow hc h46
              go_wp2
              exact ⟨⟨i + 1, _, rfl, rfl, by omega, by omega, by omega, hN⟩, by simp [intOf]; omega⟩
            · have b1 : ¬ (97 : Int) ≤ (s[i].toNat : Int) := by omega
              clear hget hd HI hlow hc h46
              go_wp2
              exact ⟨⟨i + 1, _, rfl, rfl, by omega, by omega, by omega, hN⟩, by simp [intOf]; omega⟩
      · have l30 : ¬ (i : Int) < 30 := by omega
        have hr : Hid (strOf (labL l) = q) := by
          rw [HI.out, List.drop_of_length_le (by simp; omega)]
          refine Lib.hid ?_
          simp [labG, strOf]
        clear HI
        go_wp2
        go_ret
        exact ⟨by rw [hr.out]; rfl, rfl⟩
    · have hr : Hid (strOf (labL l) = q) := by
        rw [HI.out, List.drop_of_length_le (by rw [List.length_take, ← HL.out, ← Lib.size_eq]; omega)]
        refine Lib.hid ?_
        simp [labG, strOf]
      clear HI
      go_wp2
      go_ret
      exact ⟨by rw [hr.out]; rfl, rfl⟩
end Go.Proofs.YtmgkmpbblhkacaaGreatDoor
