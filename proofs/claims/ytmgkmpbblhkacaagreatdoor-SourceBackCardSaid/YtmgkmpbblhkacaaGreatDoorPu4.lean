/- strconv.ParseUint to one base and size: what it gathers, or an error. -/
import Derived.Test.YtmgkmpbblhkacaaGreatDoorPu
namespace Go.Proofs.YtmgkmpbblhkacaaGreatDoor
open Go.RowKit
set_option linter.unusedSimpArgs false
set_option linter.unusedVariables false

set_option maxHeartbeats 32000000 in
set_option maxRecDepth 100000 in
theorem iParseUint_10_8 (t : ByteArray) (hmax : t.size ≤ 9223372036854775806) (w : World) :
    Calls Tryz.prog 156 #[.string t, .int .i64 10, .int .i64 8] w fun e w' => UintEnd (parseU 10 255 t.data.toList) e ∧ Below w.heap.size w w' := by
  by_cases hne : t.size = 0
  · have hl : t.data.toList = [] := by
      apply List.eq_nil_of_length_eq_zero; rw [← Lib.size_eq]; exact hne
    have hF : parseU 10 255 t.data.toList = none := by rw [hl]; rfl
    rw [hF]
    have hemp : t.toList.isEmpty = true := by
      rw [← decide_eq_emptyBytes]
      exact decide_eq_true (by apply ByteArray.ext; apply Array.ext'; rw [hl]; rfl)
    clear hF hl hne
    go_enter Tryz.func156, Tryz.ntmps156
    go_wp2
    go_ret2
    exact ⟨uintEnd_none _ 2 (Or.inl rfl), Below.refl _ _⟩
  · have hemp : t.toList.isEmpty = false := by
      rw [← decide_eq_emptyBytes]
      exact decide_eq_false (fun h => hne (by rw [h]; rfl))
    have hF : parseU 10 255 t.data.toList = pu 10 255 0 t.data.toList := by
      unfold parseU; rw [if_neg (fun h => hne (by rw [Lib.size_eq, h]; rfl))]
    rw [hF]
    clear hF
    have hcv := Lib.run_convert_string_bytes (P := Tryz.prog) w 9 43 5 t (u := .string) Tryz.underlying9 Tryz.underlying43 Tryz.underlying5
    have hB : ∀ j, j < t.size → (Lib.bytesWorld w 5 t).cell? ⟨w.heap.size, j, none⟩ = some (.int .u8 (t.data.toList.getD j 0).toNat) := fun j hj => Lib.bytesWorld_cell w 5 t j hj
    have hbw : Below w.heap.size w (Lib.bytesWorld w 5 t) := Lib.bytesWorld_below w 5 t
    generalize Lib.bytesWorld w 5 t = W1 at hcv hB hbw
    obtain ⟨bs, hL⟩ : ∃ bs, bs = t.data.toList := ⟨_, rfl⟩
    have hLn : bs.length = t.size := by rw [hL, Lib.size_eq]
    rw [← hL] at hB ⊢
    clear hL
    have hmv : IntKind.u64.wrap (IntKind.u64.wrap 256 - 1) = 255 := by
      rw [IntKind.wrap_u64, IntKind.wrap_u64]
      decide
    have HL := Lib.hid hLn
    clear hLn
    go_enter Tryz.func156, Tryz.ntmps156
    go_wp2
    go_loop [12, 13, 101] (fun vu vn vi => ∃ (k acc : Nat) (a : Int), vu = .bool false ∧ vn = .int .u64 a ∧ vi = .int .i64 k ∧ k ≤ t.size ∧ 0 ≤ a ∧ a ≤ 255 ∧ Hid (a = (acc : Int) ∧ pu 10 255 0 bs = pu 10 255 acc (bs.drop k)))
      (fun _ _ vi => t.size - (intOf vi).toNat)
    case atStart => exact ⟨0, 0, 0, rfl, rfl, rfl, by omega, by omega, by omega, rfl, rfl⟩
    case round =>
      obtain ⟨k, acc, a, rfl, rfl, rfl, hk, a0, a1, hh⟩ := hrel
      by_cases hkn : k < t.size
      · have hkb : k < bs.length := by rw [HL.out]; exact hkn
        have hc := hB k hkn
        have hdrop : bs.drop k = bs[k] :: bs.drop (k + 1) := List.drop_eq_getElem_cons hkb
        have hget : bs.getD k 0 = bs[k] := by simp [List.getD, List.getElem?_eq_getElem hkb]
        rw [hget] at hc
        have hh2 := hh.out
        rw [hdrop] at hh2
        generalize bs[k] = c at hc hh2
        have hc256 : c.toNat < 256 := c.toNat_lt
        have HH := Lib.hid hh2
        clear hB hdrop hget hh hh2
        obtain ⟨lo, hlo⟩ : ∃ lo, (c ||| 32).toNat = lo := ⟨_, rfl⟩
        have HLO : Hid (Go.bits .or .u8 (c.toNat : Int) 32 = (lo : Int)) := by rw [← hlo]; exact lower_bits c
        have hlo256 : lo < 256 := by rw [← hlo]; exact (c ||| 32).toNat_lt
        have H95 : Hid (Go.bits .or .u8 95 32 = 127) := Lib.hid (by decide)
        by_cases hA : 48 ≤ c.toNat ∧ c.toNat ≤ 57
        · obtain ⟨hA0, hA1⟩ := id hA
          have hdg : dig c = c.toNat - 48 := by unfold dig; rw [if_pos hA]
          by_cases hlt : c.toNat - 48 < 10
          · by_cases hov : a * 10 + ((c.toNat : Int) - 48) ≤ 255
            · have HN : Hid (a * 10 + ((c.toNat : Int) - 48) = ((acc * 10 + (c.toNat - 48) : Nat) : Int) ∧ pu 10 255 0 bs = pu 10 255 (acc * 10 + (c.toNat - 48)) (bs.drop (k + 1))) := by
                have h1 := HH.out.1
                refine Lib.hid ⟨by omega, ?_⟩
                rw [HH.out.2, pu, hdg, if_pos ⟨hlt, by omega⟩]
              have hk1 : a * 10 + ((c.toNat : Int) - 48) ≥ 0 := by omega
              clear HH hdg
              go_wp2_with (go_at_call 171; refine (Tryz.internal_strconv_lower _ _).mono ?_; rintro e w' ⟨rfl, rfl⟩; first | rw [HLO.out] | rw [H95.out])
              all_goals exact ⟨⟨k + 1, acc * 10 + (c.toNat - 48), a * 10 + ((c.toNat : Int) - 48), rfl, (by first | rfl | (congr 1; omega)), (by first | rfl | (congr 1; omega)), by omega, by omega, by omega, HN⟩, by simp [intOf]; omega⟩
            · have hF : pu 10 255 0 bs = none := by
                have h1 := HH.out.1
                rw [HH.out.2, pu, hdg, if_neg (by omega)]
              have HF := Lib.hid hF
              clear HH hdg hF
              go_wp2_with (go_at_call 171; refine (Tryz.internal_strconv_lower _ _).mono ?_; rintro e w' ⟨rfl, rfl⟩; first | rw [HLO.out] | rw [H95.out])
              all_goals go_ret2
              all_goals exact ⟨by rw [HF.out]; exact uintEnd_none _ 1 (Or.inr rfl), hbw⟩
          · have hF : pu 10 255 0 bs = none := by
              rw [HH.out.2, pu, hdg, if_neg (fun h => hlt h.1)]
            have HF := Lib.hid hF
            clear HH hdg hF
            go_wp2_with (go_at_call 171; refine (Tryz.internal_strconv_lower _ _).mono ?_; rintro e w' ⟨rfl, rfl⟩; first | rw [HLO.out] | rw [H95.out])
            all_goals go_ret2
            all_goals exact ⟨by rw [HF.out]; exact uintEnd_none _ 2 (Or.inl rfl), hbw⟩
        · by_cases hBB : 97 ≤ lo ∧ lo ≤ 122
          · obtain ⟨hB0, hB1⟩ := id hBB
            have h95 : ((c.toNat : Int) == 95) = false := beq_eq_false_iff_ne.2 (fun e => by have e2 : c = 95 := UInt8.toNat_inj.1 (by simpa using (by omega : c.toNat = 95)); rw [e2] at hlo; rw [← hlo] at hB1; exact absurd hB1 (by decide))
            have hdg : dig c = lo - 87 := by unfold dig; rw [if_neg hA, hlo, if_pos hBB]
            by_cases hlt : lo - 87 < 10
            · by_cases hov : a * 10 + ((lo : Int) - 97 + 10) ≤ 255
              · have HN : Hid (a * 10 + ((lo : Int) - 97 + 10) = ((acc * 10 + (lo - 87) : Nat) : Int) ∧ pu 10 255 0 bs = pu 10 255 (acc * 10 + (lo - 87)) (bs.drop (k + 1))) := by
                  have h1 := HH.out.1
                  refine Lib.hid ⟨by omega, ?_⟩
                  rw [HH.out.2, pu, hdg, if_pos ⟨hlt, by omega⟩]
                have hk1 : a * 10 + ((lo : Int) - 97 + 10) ≥ 0 := by omega
                clear HH hdg
                go_wp2_with (go_at_call 171; refine (Tryz.internal_strconv_lower _ _).mono ?_; rintro e w' ⟨rfl, rfl⟩; first | rw [HLO.out] | rw [H95.out])
                all_goals exact ⟨⟨k + 1, acc * 10 + (lo - 87), a * 10 + ((lo : Int) - 97 + 10), rfl, (by first | rfl | (congr 1; omega)), (by first | rfl | (congr 1; omega)), by omega, by omega, by omega, HN⟩, by simp [intOf]; omega⟩
              · have hF : pu 10 255 0 bs = none := by
                  have h1 := HH.out.1
                  rw [HH.out.2, pu, hdg, if_neg (by omega)]
                have HF := Lib.hid hF
                clear HH hdg hF
                go_wp2_with (go_at_call 171; refine (Tryz.internal_strconv_lower _ _).mono ?_; rintro e w' ⟨rfl, rfl⟩; first | rw [HLO.out] | rw [H95.out])
                all_goals go_ret2
                all_goals exact ⟨by rw [HF.out]; exact uintEnd_none _ 1 (Or.inr rfl), hbw⟩
            · have hF : pu 10 255 0 bs = none := by
                rw [HH.out.2, pu, hdg, if_neg (fun h => hlt h.1)]
              have HF := Lib.hid hF
              clear HH hdg hF
              go_wp2_with (go_at_call 171; refine (Tryz.internal_strconv_lower _ _).mono ?_; rintro e w' ⟨rfl, rfl⟩; first | rw [HLO.out] | rw [H95.out])
              all_goals go_ret2
              all_goals exact ⟨by rw [HF.out]; exact uintEnd_none _ 2 (Or.inl rfl), hbw⟩
          · have hdg : dig c = 255 := by unfold dig; rw [if_neg hA, hlo, if_neg hBB]
            have hF : pu 10 255 0 bs = none := by
              rw [HH.out.2, pu, hdg, if_neg (fun h => absurd h.1 (by decide))]
            have HF := Lib.hid hF
            clear HH hdg hF
            go_wp2_with (go_at_call 171; refine (Tryz.internal_strconv_lower _ _).mono ?_; rintro e w' ⟨rfl, rfl⟩; first | rw [HLO.out] | rw [H95.out])
            all_goals go_ret2
            all_goals exact ⟨by rw [HF.out]; exact uintEnd_none _ 2 (Or.inl rfl), hbw⟩
      · have hkk : k = t.size := by omega
        subst hkk
        have hF : pu 10 255 0 bs = some acc := by
          rw [hh.out.2, List.drop_eq_nil_of_le (by rw [HL.out]; exact Nat.le_refl _)]; rfl
        have HF := Lib.hid hF
        obtain rfl : a = (acc : Int) := hh.out.1
        clear hF hh
        go_wp2
        go_ret2
        exact ⟨by rw [HF.out]; exact uintEnd_some acc, hbw⟩
end Go.Proofs.YtmgkmpbblhkacaaGreatDoor
