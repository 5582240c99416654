/- HostNames: a name is its letters in lower case, decoded. The walk. -/
import Derived.Test.YtlhbpdnbfghkoaaGreatDoorNamesP
import Derived.Test.YtlhbpdnbfghkoaaGreatDoorRef06
import Derived.Test.YtlhbpdnbfghkoaaGreatDoorBased
namespace Go.Proofs.YtlhbpdnbfghkoaaGreatDoor
open Go.RowKit
set_option linter.unusedSimpArgs false
set_option linter.unusedVariables false

/-- A digit to base sixteen, as a text. -/
def hxS (x : Int) : ByteArray := strOf [hexd x.toNat]
theorem hxS_quo (c : UInt8) : hxS ((c.toNat : Int) / 16) = strOf [hexd (c.toNat / 16)] := rfl
theorem hxS_rem (c : UInt8) : hxS ((c.toNat : Int) % 16) = strOf [hexd (c.toNat % 16)] := rfl
theorem hxS_size (x : Int) : (hxS x).size = 1 := by unfold hxS; rw [strOf_size]; rfl
theorem based_hx (x : Int) (w : World) (h0 : 0 ≤ x) (h1 : x < 16) :
    Calls Tryz.prog 9 #[.int .i64 x, .int .i64 16] w fun e w' => e = .returned (.string (hxS x)) ∧ Below w.heap.size w w' := by
  obtain ⟨n, rfl⟩ : ∃ n : Nat, x = n := ⟨x.toNat, by omega⟩
  have := based_any n 16 w (by omega) (by decide) (by decide)
  rw [digs_lt _ _ (by omega)] at this
  exact this
set_option maxRecDepth 1000000 in
set_option maxHeartbeats 3000000 in
theorem names_any (s : ByteArray) (which : Int) (w : World) (hs : s.size ≤ 9223372036854775807) (hG : GL w) :
    Calls Tryz.prog 4 #[.string s, .int .i64 which] w fun e w' => e = .returned (.bool true) ∧ Below w.heap.size w w' := by
  have CS := Lib.hid (shown_any w hG)
  go_enter Tryz.func4, Tryz.ntmps4
  go_wp2_with fail
  refine CS.out.mono ?_
  rintro e w1 ⟨rfl, hb1⟩
  clear CS
  go_wp2_with fail
  obtain ⟨t, ht⟩ : ∃ t, s.extract 0 (min (s.size : Int) 100).toNat = t := ⟨_, rfl⟩
  have htz : t.size ≤ 100 := by rw [← ht, ByteArray.size_extract]; omega
  rw [ht]
  clear ht
  have hG1 := hG.below hb1
  go_loopw [6, 7, 8] (fun v6 v7 vi wr => ∃ (i : Nat) (q6 q7 : ByteArray), v6 = .string q6 ∧ v7 = .string q7 ∧ vi = .int .i64 i ∧ i ≤ t.size ∧ q6.size ≤ i ∧ q7.size ≤ 3 * i ∧ Below w.heap.size w wr ∧ Hid (∃ T W : Bs, q7 = strOf T ∧ q6 = strOf W ∧ Tells T W)) (fun _ _ vi _ => t.size - (intOf vi).toNat)
  case atStart => exact ⟨0, ⟨#[]⟩, ⟨#[]⟩, rfl, rfl, rfl, by omega, by decide, by decide, hb1, Lib.hid ⟨[], [], rfl, rfl, tells_nil⟩⟩
  case round =>
    obtain ⟨i, q6, q7, rfl, rfl, rfl, hi, hz6, hz7, hbw, HI⟩ := hrel
    obtain ⟨wo, rfl⟩ : ∃ wo : World, wo = wr := ⟨_, rfl⟩
    have hB := hbw.size
    by_cases hlt : i < t.size
    · obtain ⟨c, hc⟩ : ∃ c, t[i] = c := ⟨_, rfl⟩
      have hlt256 := c.toNat_lt
      by_cases hok : okn c = true
      · obtain ⟨T, W, hT, hW, hTW⟩ := HI.out
        have HP : Hid (∃ T W : Bs, q7 ++ strOf [c] = strOf T ∧ q6 ++ strOf [c] = strOf W ∧ Tells T W) :=
          Lib.hid ⟨T ++ [c], W ++ [c], by rw [hT, strOf_append], by rw [hW, strOf_append], tells_plain T W c hTW hok⟩
        have HC : Hid (∃ T W : Bs, q7 ++ (⟨#[37]⟩ : ByteArray) ++ hxS ((c.toNat : Int) / 16) ++ hxS ((c.toNat : Int) % 16) = strOf T ∧ q6 ++ strOf [c] = strOf W ∧ Tells T W) :=
          Lib.hid ⟨T ++ 37 :: hexd (c.toNat / 16) :: [hexd (c.toNat % 16)], W ++ [c], by
            rw [hxS_quo, hxS_rem, hT, show (⟨#[37]⟩ : ByteArray) = strOf [37] from rfl, ← strOf_append, ← strOf_append, ← strOf_append]; simp, by rw [hW, strOf_append], tells_coded T W c hTW hok⟩
        have HU : Hid (97 ≤ c.toNat → c.toNat ≤ 122 → ∃ T W : Bs, q7 ++ strOf [c - 32] = strOf T ∧ q6 ++ strOf [c] = strOf W ∧ Tells T W) :=
          Lib.hid (fun h1 h2 => ⟨T ++ [c - 32], W ++ [c], by rw [hT, strOf_append], by rw [hW, strOf_append], tells_upper T W c hTW h1 h2⟩)
        have hst := byte_str c (c.toNat : Int) rfl wo wo.heap.size rfl
        have hc1 : (strOf [c]).size ≤ 1 := by rw [strOf_size]; simp
        have hways : (((97 : Int) ≤ c.toNat ∧ (c.toNat : Int) ≤ 122)) ∨ ((c.toNat : Int) < 97 ∧ (48 : Int) ≤ c.toNat ∧ (c.toNat : Int) ≤ 57) ∨ c = 45 ∨ c = 46 := by
          simp only [okn, Bool.or_eq_true, Bool.and_eq_true, decide_eq_true_eq] at hok
          rcases hok with ((⟨h1, h2⟩ | ⟨h1, h2⟩) | h) | h
          · exact Or.inl ⟨by omega, by omega⟩
          · exact Or.inr (Or.inl ⟨by omega, by omega, by omega⟩)
          · exact Or.inr (Or.inr (Or.inl h))
          · exact Or.inr (Or.inr (Or.inr h))
        have hsd1 := hxS_size ((c.toNat : Int) / 16)
        have hsd2 := hxS_size ((c.toNat : Int) % 16)
        have hsz1 : (hxS ((c.toNat : Int) / 16)).size ≤ 1 := by omega
        have hsz2 : (hxS ((c.toNat : Int) % 16)).size ≤ 1 := by omega
        have hzw : (q6 ++ strOf [c]).size ≤ i + 1 := by rw [ByteArray.size_append]; omega
        have hzp : (q7 ++ strOf [c]).size ≤ 3 * (i + 1) := by rw [ByteArray.size_append]; omega
        have hzu : (q7 ++ strOf [c - 32]).size ≤ 3 * (i + 1) := by rw [ByteArray.size_append, strOf_size]; simp; omega
        have hzc : (q7 ++ (⟨#[37]⟩ : ByteArray) ++ hxS ((c.toNat : Int) / 16) ++ hxS ((c.toNat : Int) % 16)).size ≤ 3 * (i + 1) := by
          rw [ByteArray.size_append, ByteArray.size_append, ByteArray.size_append]; have h1 : (⟨#[37]⟩ : ByteArray).size = 1 := rfl; omega
        clear HI hT hW hTW hok hsd1 hsd2
        rcases hways with ⟨h1, h2⟩ | ⟨h1, h2, h3⟩ | heq45 | heq46
        · have hup := (okn_upper c (by omega) (by omega)).2.2.2.2
          have HU2 := HU.out (by omega) (by omega)
          have HU3 := Lib.hid HU2
          have hst2 := byte_str (c - 32) ((c.toNat : Int) - 32) hup.symm (wo.alloc (.cells #[.int .u8 (c.toNat : Int)] 5)) (wo.heap.size + 1) (by simp)
          have hst3 := byte_str c (c.toNat : Int) rfl (wo.alloc (.cells #[.int .u8 (c.toNat : Int)] 5)) (wo.heap.size + 1) (by simp)
          have hcu : (strOf [c - 32]).size ≤ 1 := by rw [strOf_size]; simp
          clear HU HU2 hup
          have tok1 : True := trivial
          go_wp2_with (first | (go_at_call 9; have _t := tok1; refine (based_hx _ _ (by omega) (by omega)).mono ?_; rintro e w4 ⟨rfl, hb4⟩; clear tok1) | (go_at_call 9; refine (based_hx _ _ (by omega) (by omega)).mono ?_; rintro e w5 ⟨rfl, hb5⟩))
          all_goals
            have hb2 : Below w.heap.size w (wo.alloc (.cells #[.int .u8 (c.toNat : Int)] 5)) := hbw.alloc hB _
            first
            | exact ⟨⟨i + 1, _, _, rfl, rfl, rfl, by omega, hzw, hzc, (hb2.trans (hb4.mono hb2.size)).trans (hb5.mono (Nat.le_trans hb2.size hb4.size)), HC⟩, by simp [intOf]; omega⟩
            | exact ⟨⟨i + 1, _, _, rfl, rfl, rfl, by omega, hzw, hzu, hb2.alloc hb2.size _, HU3⟩, by simp [intOf]; omega⟩
            | exact ⟨⟨i + 1, _, _, rfl, rfl, rfl, by omega, hzw, hzp, hb2.alloc hb2.size _, HP⟩, by simp [intOf]; omega⟩
        · have h4 : decide ((c.toNat : Int) < 48) = false := decide_eq_false (by omega)
          have hst3 := byte_str c (c.toNat : Int) rfl (wo.alloc (.cells #[.int .u8 (c.toNat : Int)] 5)) (wo.heap.size + 1) (by simp)
          clear HU
          have tok1 : True := trivial
          go_wp2_with (first | (go_at_call 9; have _t := tok1; refine (based_hx _ _ (by omega) (by omega)).mono ?_; rintro e w4 ⟨rfl, hb4⟩; clear tok1) | (go_at_call 9; refine (based_hx _ _ (by omega) (by omega)).mono ?_; rintro e w5 ⟨rfl, hb5⟩))
          all_goals
            have hb2 : Below w.heap.size w (wo.alloc (.cells #[.int .u8 (c.toNat : Int)] 5)) := hbw.alloc hB _
            first
            | exact ⟨⟨i + 1, _, _, rfl, rfl, rfl, by omega, hzw, hzc, (hb2.trans (hb4.mono hb2.size)).trans (hb5.mono (Nat.le_trans hb2.size hb4.size)), HC⟩, by simp [intOf]; omega⟩
            | exact ⟨⟨i + 1, _, _, rfl, rfl, rfl, by omega, hzw, hzp, hb2.alloc hb2.size _, HP⟩, by simp [intOf]; omega⟩
        · have heq := heq45
          clear heq45
          have h1 : ((c.toNat : Int) != 45) = false := by rw [heq]; rfl
          have h3 : (c.toNat : Int) < 97 := by rw [heq]; decide
          have h4 : (c.toNat : Int) < 48 := by rw [heq]; decide
          clear heq
          have hst3 := byte_str c (c.toNat : Int) rfl (wo.alloc (.cells #[.int .u8 (c.toNat : Int)] 5)) (wo.heap.size + 1) (by simp)
          clear HU
          have tok1 : True := trivial
          go_wp2_with (first | (go_at_call 9; have _t := tok1; refine (based_hx _ _ (by omega) (by omega)).mono ?_; rintro e w4 ⟨rfl, hb4⟩; clear tok1) | (go_at_call 9; refine (based_hx _ _ (by omega) (by omega)).mono ?_; rintro e w5 ⟨rfl, hb5⟩))
          all_goals
            have hb2 : Below w.heap.size w (wo.alloc (.cells #[.int .u8 (c.toNat : Int)] 5)) := hbw.alloc hB _
            first
            | exact ⟨⟨i + 1, _, _, rfl, rfl, rfl, by omega, hzw, hzc, (hb2.trans (hb4.mono hb2.size)).trans (hb5.mono (Nat.le_trans hb2.size hb4.size)), HC⟩, by simp [intOf]; omega⟩
            | exact ⟨⟨i + 1, _, _, rfl, rfl, rfl, by omega, hzw, hzp, hb2.alloc hb2.size _, HP⟩, by simp [intOf]; omega⟩
        · have heq := heq46
          clear heq46
          have h1 : ((c.toNat : Int) != 45) = true := by rw [heq]; rfl
          have h2 : ((c.toNat : Int) != 46) = false := by rw [heq]; rfl
          have h3 : (c.toNat : Int) < 97 := by rw [heq]; decide
          have h4 : (c.toNat : Int) < 48 := by rw [heq]; decide
          clear heq
          have hst3 := byte_str c (c.toNat : Int) rfl (wo.alloc (.cells #[.int .u8 (c.toNat : Int)] 5)) (wo.heap.size + 1) (by simp)
          clear HU
          have tok1 : True := trivial
          go_wp2_with (first | (go_at_call 9; have _t := tok1; refine (based_hx _ _ (by omega) (by omega)).mono ?_; rintro e w4 ⟨rfl, hb4⟩; clear tok1) | (go_at_call 9; refine (based_hx _ _ (by omega) (by omega)).mono ?_; rintro e w5 ⟨rfl, hb5⟩))
          all_goals
            have hb2 : Below w.heap.size w (wo.alloc (.cells #[.int .u8 (c.toNat : Int)] 5)) := hbw.alloc hB _
            first
            | exact ⟨⟨i + 1, _, _, rfl, rfl, rfl, by omega, hzw, hzc, (hb2.trans (hb4.mono hb2.size)).trans (hb5.mono (Nat.le_trans hb2.size hb4.size)), HC⟩, by simp [intOf]; omega⟩
            | exact ⟨⟨i + 1, _, _, rfl, rfl, rfl, by omega, hzw, hzp, hb2.alloc hb2.size _, HP⟩, by simp [intOf]; omega⟩
      · have hskip : ((c.toNat : Int) < 97 ∨ (122 : Int) < c.toNat) ∧ ((c.toNat : Int) < 48 ∨ (57 : Int) < c.toNat) ∧ ((c.toNat : Int) == 45) = false ∧ ((c.toNat : Int) == 46) = false := by
          simp only [okn, Bool.or_eq_true, Bool.and_eq_true, decide_eq_true_eq, not_or, not_and] at hok
          obtain ⟨⟨⟨h1, h2⟩, h3⟩, h4⟩ := hok
          refine ⟨by omega, by omega, ?_, ?_⟩
          · refine beq_eq_false_iff_ne.2 (fun hh => h3 (UInt8.toNat_inj.1 ?_))
            show c.toNat = 45
            omega
          · refine beq_eq_false_iff_ne.2 (fun hh => h4 (UInt8.toNat_inj.1 ?_))
            show c.toNat = 46
            omega
        obtain ⟨h1, h2, h3, h4⟩ := hskip
        have h3' : ((c.toNat : Int) != 45) = true := by unfold bne; rw [h3]; rfl
        have h4' : ((c.toNat : Int) != 46) = true := by unfold bne; rw [h4]; rfl
        clear hok
        rcases h1 with h1 | h1
        · rcases h2 with h2 | h2
          all_goals
            go_wp2
            exact ⟨⟨i + 1, q6, q7, rfl, rfl, rfl, by omega, by omega, by omega, hbw, HI⟩, by simp [intOf]; omega⟩
        · have h1' : (97 : Int) ≤ c.toNat := by omega
          have h2' : (57 : Int) < c.toNat := by omega
          have h2'' : (48 : Int) ≤ c.toNat := by omega
          have hd1 : decide ((c.toNat : Int) ≤ 122) = false := decide_eq_false (by omega)
          have hd2 : decide ((c.toNat : Int) < 48) = false := decide_eq_false (by omega)
          clear h2
          go_wp2
          exact ⟨⟨i + 1, q6, q7, rfl, rfl, rfl, by omega, by omega, by omega, hbw, HI⟩, by simp [intOf]; omega⟩
    · obtain rfl : i = t.size := by omega
      obtain ⟨T, W, hT, hW, hTW⟩ := HI.out
      have hGo := hG.below hbw
      have hzT : (q7 ++ (⟨#[90]⟩ : ByteArray)).size ≤ 1000000 := by
        rw [ByteArray.size_append]; have h1 : (⟨#[90]⟩ : ByteArray).size = 1 := rfl; omega
      have hzW : (q6 ++ (⟨#[122]⟩ : ByteArray)).size ≤ 1000000 := by
        rw [ByteArray.size_append]; have h1 : (⟨#[122]⟩ : ByteArray).size = 1 := rfl; omega
      have CI := Lib.hid (fun (w' : World) (hb : Below wo.heap.size wo w') => is_at (q7 ++ (⟨#[90]⟩ : ByteArray)) (q6 ++ (⟨#[122]⟩ : ByteArray)) true w' hzT (hGo.below hb) (by
        rw [hT, hW, show (⟨#[90]⟩ : ByteArray) = strOf [90] from rfl, show (⟨#[122]⟩ : ByteArray) = strOf [122] from rfl, ← strOf_append, ← strOf_append, strOf_data, strOf_data, tells_parse T W hTW]; simp))
      have CD := Lib.hid (fun (w' : World) (hb : Below wo.heap.size wo w') => Domain_at (q6 ++ (⟨#[122]⟩ : ByteArray)) true w' hzW (hGo.below hb) (by
        rw [hW, show (⟨#[122]⟩ : ByteArray) = strOf [122] from rfl, ← strOf_append, strOf_data, tells_dom T W hTW]))
      have CE := Lib.hid (fun (w' : World) => refDecode_any q7 w' (by omega))
      obtain ⟨dd, hdd⟩ : ∃ dd, pdec q7.data.toList = dd := ⟨_, rfl⟩
      have hne : ((strOf dd).toList == ([37] : Bs)) = false := by
        rw [beq_eq_false_iff_ne, ByteArray.toList_eq, strOf_data]
        intro h3
        refine tells_dec T W hTW ?_
        rw [← h3, ← hdd, hT, strOf_data]
      rw [hdd] at CE
      obtain ⟨de, hde⟩ : ∃ de, strOf dd = de := ⟨_, rfl⟩
      rw [hde] at CE hne
      clear HI hT hW hTW hdd hde hzT hzW
      go_wp2_with (first | (go_at_call 11; refine (CI.out _ (Below.refl _ _)).mono ?_; rintro e w2 ⟨rfl, hb2⟩) | (go_at_call 12; refine (CD.out _ hb2).mono ?_; rintro e w3 ⟨rfl, hb3⟩) | (go_at_call 13; refine (CE.out _).mono ?_; rintro e w4 ⟨rfl, hb4⟩))
      go_ret
      have h2 := hbw.trans (hb2.mono hB)
      have h3 := h2.trans (hb3.mono h2.size)
      exact ⟨rfl, h3.trans (hb4.mono h3.size)⟩
end Go.Proofs.YtlhbpdnbfghkoaaGreatDoor
