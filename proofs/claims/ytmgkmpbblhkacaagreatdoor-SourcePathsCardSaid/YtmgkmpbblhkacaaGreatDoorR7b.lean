/- The reference's number, parts, Ends, IPv4. -/
import Derived.Test.YtmgkmpbblhkacaaGreatDoorR7
import Derived.Test.YtmgkmpbblhkacaaGreatDoorIp4
namespace Go.Proofs.YtmgkmpbblhkacaaGreatDoor
open Go.RowKit
set_option linter.unusedSimpArgs false
set_option linter.unusedVariables false

/-- transeptref07.number. -/
def numR (l : Bs) : Option Nat :=
  if l = [] then none
  else if 2 ≤ l.length ∧ l.headD 0 = 48 ∧ (l.getD 1 0 = 120 ∨ l.getD 1 0 = 88) then basedL 16 0 (l.drop 2)
  else if 2 ≤ l.length ∧ l.headD 0 = 48 then basedL 8 0 (l.drop 1)
  else basedL 10 0 l
theorem u8_neL (c d : UInt8) (k : Int) (hk : (d.toNat : Int) = k) (h : c ≠ d) : ((c.toNat : Int) == k) = false := by rw [← hk]; exact u8_ne c d h
theorem u8_eqL (c d : UInt8) (k : Int) (hk : (d.toNat : Int) = k) (h : c = d) : ((c.toNat : Int) == k) = true := by rw [← hk]; exact u8_eq c d h
theorem refBased_at (s : ByteArray) (b : Nat) (w : World) (hs : s.size ≤ 1000000) (h1 : 2 ≤ b) (h16 : b ≤ 16) (r : Option Nat) (hr : basedL b 0 s.data.toList = r) :
    Calls Tryz.prog 57 #[.string s, .int .u64 b] w fun e w' => e = .returned (.tuple #[.int .u64 (r.getD 0 : Nat), .bool r.isSome]) ∧ w = w' := by
  subst hr
  exact refBased_any s b w hs h1 h16
theorem head_get (s : ByteArray) (h : 0 < s.size) : s.data.toList.headD 0 = s[0] := by
  rw [headD_get _ (by rw [← Lib.size_eq]; exact h), ← data_get s 0 h]
theorem one_get (s : ByteArray) (h : 1 < s.size) : s.data.toList.getD 1 0 = s[1] := by
  rw [← data_get s 1 h, List.getD_eq_getElem?_getD, List.getElem?_eq_getElem (by rw [← Lib.size_eq]; exact h)]; rfl
set_option maxRecDepth 1000000 in
set_option maxHeartbeats 8000000 in
theorem refNumber_any (s : ByteArray) (w : World) (hs : s.size ≤ 1000000) (r : Option Nat) (hr : numR s.data.toList = r) :
    Calls Tryz.prog 58 #[.string s] w fun e w' => e = .returned (.tuple #[.int .u64 (r.getD 0 : Nat), .bool r.isSome]) ∧ w = w' := by
  by_cases h0 : s.data.toList = []
  · obtain rfl : r = none := by rw [← hr, h0]; rfl
    have hemp : s.toList.isEmpty = true := by rw [isEmpty_data, h0]; rfl
    clear hr h0
    go_enter Tryz.func58, Tryz.ntmps58
    go_wp2
    go_ret2
    exact ⟨rfl, rfl⟩
  · have hemp : s.toList.isEmpty = false := by rw [isEmpty_data]; exact beq_eq_false_iff_ne.2 h0
    have hz : 0 < s.size := by rw [Lib.size_eq]; exact List.length_pos_iff.2 h0
    unfold numR at hr
    rw [if_neg h0] at hr
    have e2 : (s.extract 2 s.size).data.toList = s.data.toList.drop 2 := by rw [extract_from, strOf_data]
    have e1 : (s.extract 1 s.size).data.toList = s.data.toList.drop 1 := by rw [extract_from, strOf_data]
    have z2 : (s.extract 2 s.size).size ≤ 1000000 := by rw [ByteArray.size_extract]; omega
    have z1 : (s.extract 1 s.size).size ≤ 1000000 := by rw [ByteArray.size_extract]; omega
    by_cases h2 : 2 ≤ s.size
    · rw [head_get s hz, one_get s (by omega), ← Lib.size_eq] at hr
      have h2' : (2 : Int) ≤ (s.size : Int) := by omega
      by_cases h48 : s[0] = 48
      · have b48 := u8_eqL _ _ 48 rfl h48
        by_cases hx : s[1] = 120 ∨ s[1] = 88
        · rw [if_pos ⟨h2, h48, hx⟩, ← e2] at hr
          have C := Lib.hid (refBased_at (s.extract 2 s.size) 16 w z2 (by decide) (by decide) r hr)
          clear hr e1 e2 z1 z2 h48 h0
          by_cases hx1 : s[1] = 120
          · have bx := u8_eqL _ _ 120 rfl hx1
            clear hx hx1
            go_enter Tryz.func58, Tryz.ntmps58
            go_wp2_with (first | (go_at_call 57; refine C.out.mono ?_; rintro e w2 ⟨rfl, rfl⟩))
            go_ret2
            exact ⟨rfl, rfl⟩
          · have bx := u8_neL _ _ 120 rfl hx1
            have bX := u8_eqL _ _ 88 rfl (show s[1] = 88 from hx.resolve_left hx1)
            clear hx hx1
            go_enter Tryz.func58, Tryz.ntmps58
            go_wp2_with (first | (go_at_call 57; refine C.out.mono ?_; rintro e w2 ⟨rfl, rfl⟩))
            go_ret2
            exact ⟨rfl, rfl⟩
        · rw [if_neg (fun h => hx h.2.2), if_pos ⟨h2, h48⟩, ← e1] at hr
          have C := Lib.hid (refBased_at (s.extract 1 s.size) 8 w z1 (by decide) (by decide) r hr)
          have bx := u8_neL _ _ 120 rfl (show s[1] ≠ 120 from fun h => hx (Or.inl h))
          have bX := u8_neL _ _ 88 rfl (show s[1] ≠ 88 from fun h => hx (Or.inr h))
          clear hr e1 e2 z1 z2 h48 h0 hx
          go_enter Tryz.func58, Tryz.ntmps58
          go_wp2_with (first | (go_at_call 57; refine C.out.mono ?_; rintro e w2 ⟨rfl, rfl⟩))
          go_ret2
          exact ⟨rfl, rfl⟩
      · rw [if_neg (fun h => h48 h.2.1), if_neg (fun h => h48 h.2)] at hr
        have C := Lib.hid (refBased_at s 10 w hs (by decide) (by decide) r hr)
        have b48 := u8_neL _ _ 48 rfl h48
        clear hr e1 e2 z1 z2 h48 h0
        go_enter Tryz.func58, Tryz.ntmps58
        go_wp2_with (first | (go_at_call 57; refine C.out.mono ?_; rintro e w2 ⟨rfl, rfl⟩))
        go_ret2
        exact ⟨rfl, rfl⟩
    · rw [← Lib.size_eq, if_neg (fun h => h2 h.1), if_neg (fun h => h2 h.1)] at hr
      have C := Lib.hid (refBased_at s 10 w hs (by decide) (by decide) r hr)
      have h2' : (s.size : Int) < 2 := by omega
      clear hr e1 e2 z1 z2 h0
      go_enter Tryz.func58, Tryz.ntmps58
      go_wp2_with (first | (go_at_call 57; refine C.out.mono ?_; rintro e w2 ⟨rfl, rfl⟩))
      go_ret2
      exact ⟨rfl, rfl⟩
theorem OwnS.front {w : World} {B g cp : Nat} {ps : List Bs} (h : OwnS w B (.slice (some ⟨g, 0, none⟩) ps.length cp) ps) : OwnS w B (.slice (some ⟨g, 0, none⟩) ps.dropLast.length cp) ps.dropLast := by
  refine ⟨by simp, ?_⟩
  rcases h.2 with ⟨h1, _⟩ | ⟨g', cap, cur, hv, hg, hc, hn, hm, hs, ht⟩
  · cases h1
  · injection hv with hv1 hv2 hv3
    injection hv1 with hv1
    injection hv1 with hv1
    subst hv1; subst hv3
    refine Or.inr ⟨g, cp, cur, rfl, hg, hc, by simp; omega, hm, hs, ?_⟩
    have e : ps.dropLast.length * 1 = min (ps.length - 1) (ps.length * 1) := by simp
    rw [e, ← List.take_take, ht, List.dropLast_eq_take, List.map_take]
set_option maxRecDepth 1000000 in
set_option maxHeartbeats 1000000 in
theorem refParts_any (s : ByteArray) (w : World) (hs : s.size ≤ 1000000) :
    Calls Tryz.prog 56 #[.string s] w fun e w' => ∃ (g cp : Nat), e = .returned (.slice (some ⟨g, 0, none⟩) (ip4parts s.data.toList).length cp) ∧ OwnS w' w.heap.size (.slice (some ⟨g, 0, none⟩) (ip4parts s.data.toList).length cp) (ip4parts s.data.toList) ∧ Below w.heap.size w w' := by
  have C := Lib.hid (refSplit_any s 46 w hs)
  have hlen := split1_len_le 46 s.data.toList
  have hpos := split1_pos 46 s.data.toList
  rw [← Lib.size_eq] at hlen
  obtain ⟨ps, hps⟩ : ∃ ps, split1 46 s.data.toList = ps := ⟨_, rfl⟩
  have hip : ip4parts s.data.toList = if 1 < ps.length ∧ ps.getLastD [] = [] then ps.dropLast else ps := by unfold ip4parts; rw [hps]
  rw [hps] at C hlen hpos
  have hlast := getLastD_at ps (List.length_pos_iff.1 hpos)
  have HIP := Lib.hid hip
  have HLAST := Lib.hid hlast
  clear hps hip hlast
  go_enter Tryz.func56, Tryz.ntmps56
  go_wp2_with fail
  refine C.out.mono ?_
  rintro e w1 ⟨g, cp, rfl, hown, hb1⟩
  clear C
  obtain ⟨m, hm⟩ : ∃ m, ps.length = m := ⟨_, rfl⟩
  obtain ⟨hv, _⟩ | ⟨g', cp', hv, hgB, hgc, hglt, hgcell⟩ := OwnS.form hown
  · cases hv
  · injection hv with hv1 hv2 hv3
    injection hv1 with hv1
    injection hv1 with hv1
    subst hv1; subst hv3
    have hcell := hgcell (ps.length - 1) _ HLAST.out
    have HO := Lib.hid hown
    have HM := Lib.hid hm
    rw [hm] at hcell hlen hpos hgc ⊢
    clear hgcell hown hm hv2
    by_cases h1 : 1 < m
    · have h1' : (1 : Int) < (m : Int) := by omega
      have t1 : ((m : Int) - 1).toNat = m - 1 := by omega
      by_cases hl : ps.getLastD [] = []
      · have hemp : (strOf (ps.getLastD [])).toList.isEmpty = true := by rw [strOf_isEmpty, hl]; rfl
        have hr : Hid (ip4parts s.data.toList = ps.dropLast) := by rw [HIP.out, if_pos ⟨by rw [HM.out]; exact h1, hl⟩]; exact Lib.hid rfl
        obtain ⟨lst, hlst⟩ : ∃ lst, strOf (ps.getLastD []) = lst := ⟨_, rfl⟩
        rw [hlst] at hcell hemp
        clear hl hlst HLAST HIP
        go_wp2
        go_ret
        refine ⟨g, cp, ?_, ?_, hb1⟩
        · rw [hr.out, List.length_dropLast, HM.out]; congr 1
        · rw [hr.out]; exact HO.out.front
      · have hemp : (strOf (ps.getLastD [])).toList.isEmpty = false := by rw [strOf_isEmpty]; exact beq_eq_false_iff_ne.2 hl
        have hr : Hid (ip4parts s.data.toList = ps) := by rw [HIP.out, if_neg (fun h => hl h.2)]; exact Lib.hid rfl
        obtain ⟨lst, hlst⟩ : ∃ lst, strOf (ps.getLastD []) = lst := ⟨_, rfl⟩
        rw [hlst] at hcell hemp
        clear hl hlst HLAST HIP
        go_wp2
        go_ret
        exact ⟨g, cp, by rw [hr.out, HM.out]; exact rfl, by rw [hr.out]; exact HO.out, hb1⟩
    · have h1' : (m : Int) ≤ 1 := by omega
      have hr : Hid (ip4parts s.data.toList = ps) := by rw [HIP.out, if_neg (fun h => h1 (by rw [← HM.out]; exact h.1))]; exact Lib.hid rfl
      clear HLAST HIP hcell
      go_wp2
      go_ret
      exact ⟨g, cp, by rw [hr.out, HM.out]; exact rfl, by rw [hr.out]; exact HO.out, hb1⟩
end Go.Proofs.YtmgkmpbblhkacaaGreatDoor
