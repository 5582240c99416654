/- host.number: a part's number. -/
import Derived.Test.YtmgkmpbblhkacaaGreatDoorPub
import Derived.Test.YtmgkmpbblhkacaaGreatDoorOnly
namespace Go.Proofs.YtmgkmpbblhkacaaGreatDoor
open Go.RowKit
set_option linter.unusedSimpArgs false
set_option linter.unusedVariables false

theorem only_oct (s : ByteArray) (w : World) (hs : s.size ≤ 1000000) (hG : GL w) :
    Calls Tryz.prog 149 #[.string s, .string ⟨#[48, 49, 50, 51, 52, 53, 54, 55]⟩] w fun e w' => e = .returned (.bool (onlyB s.data.toList octal)) ∧ Below w.heap.size w w' :=
  only_any s ⟨#[48, 49, 50, 51, 52, 53, 54, 55]⟩ w hs hG (by decide) (by decide)
theorem only_dec (s : ByteArray) (w : World) (hs : s.size ≤ 1000000) (hG : GL w) :
    Calls Tryz.prog 149 #[.string s, .string ⟨#[48, 49, 50, 51, 52, 53, 54, 55, 56, 57]⟩] w fun e w' => e = .returned (.bool (onlyB s.data.toList decimal)) ∧ Below w.heap.size w w' :=
  only_any s ⟨#[48, 49, 50, 51, 52, 53, 54, 55, 56, 57]⟩ w hs hG (by decide) (by decide)
theorem only_hex (s : ByteArray) (w : World) (hs : s.size ≤ 1000000) (hG : GL w) :
    Calls Tryz.prog 149 #[.string s, .string ⟨#[48, 49, 50, 51, 52, 53, 54, 55, 56, 57, 97, 98, 99, 100, 101, 102, 65, 66, 67, 68, 69, 70]⟩] w fun e w' => e = .returned (.bool (onlyB s.data.toList hexa)) ∧ Below w.heap.size w w' :=
  only_any s ⟨#[48, 49, 50, 51, 52, 53, 54, 55, 56, 57, 97, 98, 99, 100, 101, 102, 65, 66, 67, 68, 69, 70]⟩ w hs hG (by decide) (by decide)

/-- What host.number hands back. -/
def numRes (r : Option Nat) : Value := .tuple #[.int .u64 (r.getD 0), .bool r.isSome]
theorem extract_from (s : ByteArray) (a : Nat) : s.extract a s.size = strOf (s.data.toList.drop a) := by
  rw [extract_strOf, List.take_of_length_le (by simp)]

set_option maxRecDepth 1000000 in
set_option maxHeartbeats 8000000 in
theorem number_hexA (s : ByteArray) (w : World) (hs : s.size ≤ 1000000) (hG : GL w) (h0 : s.data.toList ≠ []) (hp : ([48, 120] : Bs).isPrefixOf s.data.toList = true) :
    Calls Tryz.prog 148 #[.string s] w fun e w' => e = .returned (numRes (numB 16 hexa (s.data.toList.drop 2))) ∧ Below w.heap.size w w' := by
  have hemp : s.toList.isEmpty = false := by rw [isEmpty_data]; exact beq_eq_false_iff_ne.2 h0
  obtain ⟨t, ht⟩ : ∃ t : ByteArray, t = strOf (s.data.toList.drop 2) := ⟨_, rfl⟩
  have htl : t.data.toList = s.data.toList.drop 2 := by rw [ht]; exact strOf_data _
  have hts : t.size ≤ 1000000 := by rw [Lib.size_eq, htl]; simp; try omega
  rw [← htl]
  have hex : Hid (s.extract 2 s.size = t) := by rw [ht]; exact Lib.hid (extract_from s 2)
  have CP := fun (p : ByteArray) (w : World) => lib_HasPrefix s p w
  have CO := fun (w' : World) (hb : Below w.heap.size w w') => only_hex t w' hts (hG.below hb)
  obtain ⟨u, hu⟩ : ∃ u, t.data.toList.dropWhile (· == 48) = u := ⟨_, rfl⟩
  have CT := fun (w' : World) => lib_TrimLeft0 t w'
  rw [hu] at CT
  have hus : (strOf u).size ≤ 1000000 := by
    rw [strOf_size, ← hu]
    have : (t.data.toList.dropWhile (· == 48)).length ≤ t.data.toList.length := (List.dropWhile_sublist _).length_le
    rw [← Lib.size_eq] at this
    omega
  have CN := fun (w' : World) (hb : Below w.heap.size w w') => ParseUint_16_40 (strOf u) hus w' (hG.below hb)
  rw [strOf_data] at CN
  have hue : (strOf u).toList.isEmpty = (u == []) := strOf_isEmpty u
  have hlen2 : 2 ≤ s.size := by rw [Lib.size_eq]; exact (List.isPrefixOf_iff_prefix.1 hp).length_le
  have hpA : Hid ((⟨#[48, 120]⟩ : ByteArray).data.toList.isPrefixOf s.data.toList = true) := Lib.hid hp
  clear hp
  cases ho : onlyB t.data.toList hexa with
  | false =>
    rw [ho] at CO
    have HR : Hid (numB 16 hexa t.data.toList = none) := by unfold numB; rw [ho]; exact Lib.hid rfl
    have CO' := Lib.hid CO
    have CP' := Lib.hid CP
    clear CO CT CN CP hu ho ht htl hue
    go_enter Tryz.func148, Tryz.ntmps148
    go_wp2_with (first | (go_at_call 88; refine (CP'.out _ _).mono ?_; rintro e w2 ⟨rfl, rfl⟩; first | (rw [hpA.out])) | (go_at_call 149; (try rw [hex.out]); refine (CO'.out _ (Below.refl _ _)).mono ?_; rintro e w3 ⟨rfl, hb3⟩))
    go_ret2
    exact ⟨by rw [HR.out]; rfl, hb3⟩
  | true =>
    rw [ho] at CO
    cases hue0 : (u == []) with
    | true =>
      rw [hue0] at hue
      have HR : Hid (numB 16 hexa t.data.toList = some 0) := by unfold numB; rw [ho, hu, if_pos rfl, if_pos (by simpa using hue0)]; exact Lib.hid rfl
      have CO' := Lib.hid CO
      have CP' := Lib.hid CP
      have CT' := Lib.hid CT
      clear CO CT CN CP hu ho ht htl
      go_enter Tryz.func148, Tryz.ntmps148
      go_wp2_with (first | (go_at_call 88; refine (CP'.out _ _).mono ?_; rintro e w2 ⟨rfl, rfl⟩; first | (rw [hpA.out])) | (go_at_call 149; (try rw [hex.out]); refine (CO'.out _ (Below.refl _ _)).mono ?_; rintro e w3 ⟨rfl, hb3⟩) | (go_at_call 165; (try rw [hex.out]); refine (CT'.out _).mono ?_; rintro e w4 ⟨rfl, rfl⟩))
      go_ret2
      exact ⟨by rw [HR.out]; rfl, hb3⟩
    | false =>
      rw [hue0] at hue
      cases hn : parseU 16 1099511627775 u with
      | none =>
        rw [hn] at CN
        have HR : Hid (numB 16 hexa t.data.toList = some 1099511627776) := by unfold numB; rw [ho, hu, if_pos rfl, if_neg (by simpa using hue0), hn]; exact Lib.hid rfl
        have CO' := Lib.hid CO
        have CP' := Lib.hid CP
        have CT' := Lib.hid CT
        have CN' := Lib.hid CN
        clear CO CT CN CP hu ho ht htl hn
        go_enter Tryz.func148, Tryz.ntmps148
        go_wp2_with (first | (go_at_call 88; refine (CP'.out _ _).mono ?_; rintro e w2 ⟨rfl, rfl⟩; first | (rw [hpA.out])) | (go_at_call 149; (try rw [hex.out]); refine (CO'.out _ (Below.refl _ _)).mono ?_; rintro e w3 ⟨rfl, hb3⟩) | (go_at_call 165; (try rw [hex.out]); refine (CT'.out _).mono ?_; rintro e w4 ⟨rfl, rfl⟩) | (go_at_call 166; refine (CN'.out _ hb3).mono ?_; rintro e w5 ⟨⟨v5, te5, pe5, rfl⟩, hb5⟩))
        go_ret2
        exact ⟨by rw [HR.out]; rfl, hb3.trans (hb5.mono hb3.size)⟩
      | some n =>
        rw [hn] at CN
        have HR : Hid (numB 16 hexa t.data.toList = some n) := by unfold numB; rw [ho, hu, if_pos rfl, if_neg (by simpa using hue0), hn]; exact Lib.hid rfl
        have CO' := Lib.hid CO
        have CP' := Lib.hid CP
        have CT' := Lib.hid CT
        have CN' : Hid (∀ (w' : World), Below w.heap.size w w' → Calls Tryz.prog 166 #[.string (strOf u), .int .i64 16, .int .i64 40] w' fun e w2 => e = .returned (.tuple #[.int .u64 n, .nilIface]) ∧ Below w'.heap.size w' w2) := Lib.hid CN
        clear CO CT CN CP hu ho ht htl hn
        go_enter Tryz.func148, Tryz.ntmps148
        go_wp2_with (first | (go_at_call 88; refine (CP'.out _ _).mono ?_; rintro e w2 ⟨rfl, rfl⟩; first | (rw [hpA.out])) | (go_at_call 149; (try rw [hex.out]); refine (CO'.out _ (Below.refl _ _)).mono ?_; rintro e w3 ⟨rfl, hb3⟩) | (go_at_call 165; (try rw [hex.out]); refine (CT'.out _).mono ?_; rintro e w4 ⟨rfl, rfl⟩) | (go_at_call 166; refine (CN'.out _ hb3).mono ?_; rintro e w5 ⟨rfl, hb5⟩))
        go_ret2
        exact ⟨by rw [HR.out]; rfl, hb3.trans (hb5.mono hb3.size)⟩

set_option maxRecDepth 1000000 in
set_option maxHeartbeats 8000000 in
theorem number_hexB (s : ByteArray) (w : World) (hs : s.size ≤ 1000000) (hG : GL w) (h0 : s.data.toList ≠ []) (hp : ([48, 120] : Bs).isPrefixOf s.data.toList = false) (hq : ([48, 88] : Bs).isPrefixOf s.data.toList = true) :
    Calls Tryz.prog 148 #[.string s] w fun e w' => e = .returned (numRes (numB 16 hexa (s.data.toList.drop 2))) ∧ Below w.heap.size w w' := by
  have hemp : s.toList.isEmpty = false := by rw [isEmpty_data]; exact beq_eq_false_iff_ne.2 h0
  obtain ⟨t, ht⟩ : ∃ t : ByteArray, t = strOf (s.data.toList.drop 2) := ⟨_, rfl⟩
  have htl : t.data.toList = s.data.toList.drop 2 := by rw [ht]; exact strOf_data _
  have hts : t.size ≤ 1000000 := by rw [Lib.size_eq, htl]; simp; try omega
  rw [← htl]
  have hex : Hid (s.extract 2 s.size = t) := by rw [ht]; exact Lib.hid (extract_from s 2)
  have CP := fun (p : ByteArray) (w : World) => lib_HasPrefix s p w
  have CO := fun (w' : World) (hb : Below w.heap.size w w') => only_hex t w' hts (hG.below hb)
  obtain ⟨u, hu⟩ : ∃ u, t.data.toList.dropWhile (· == 48) = u := ⟨_, rfl⟩
  have CT := fun (w' : World) => lib_TrimLeft0 t w'
  rw [hu] at CT
  have hus : (strOf u).size ≤ 1000000 := by
    rw [strOf_size, ← hu]
    have : (t.data.toList.dropWhile (· == 48)).length ≤ t.data.toList.length := (List.dropWhile_sublist _).length_le
    rw [← Lib.size_eq] at this
    omega
  have CN := fun (w' : World) (hb : Below w.heap.size w w') => ParseUint_16_40 (strOf u) hus w' (hG.below hb)
  rw [strOf_data] at CN
  have hue : (strOf u).toList.isEmpty = (u == []) := strOf_isEmpty u
  have hlen2 : 2 ≤ s.size := by rw [Lib.size_eq]; exact (List.isPrefixOf_iff_prefix.1 hq).length_le
  have hpA : Hid ((⟨#[48, 120]⟩ : ByteArray).data.toList.isPrefixOf s.data.toList = false) := Lib.hid hp
  have hpB : Hid ((⟨#[48, 88]⟩ : ByteArray).data.toList.isPrefixOf s.data.toList = true) := Lib.hid hq
  clear hp hq
  cases ho : onlyB t.data.toList hexa with
  | false =>
    rw [ho] at CO
    have HR : Hid (numB 16 hexa t.data.toList = none) := by unfold numB; rw [ho]; exact Lib.hid rfl
    have CO' := Lib.hid CO
    have CP' := Lib.hid CP
    clear CO CT CN CP hu ho ht htl hue
    go_enter Tryz.func148, Tryz.ntmps148
    go_wp2_with (first | (go_at_call 88; refine (CP'.out _ _).mono ?_; rintro e w2 ⟨rfl, rfl⟩; first | (rw [hpA.out]) | (rw [hpB.out])) | (go_at_call 149; (try rw [hex.out]); refine (CO'.out _ (Below.refl _ _)).mono ?_; rintro e w3 ⟨rfl, hb3⟩))
    go_ret2
    exact ⟨by rw [HR.out]; rfl, hb3⟩
  | true =>
    rw [ho] at CO
    cases hue0 : (u == []) with
    | true =>
      rw [hue0] at hue
      have HR : Hid (numB 16 hexa t.data.toList = some 0) := by unfold numB; rw [ho, hu, if_pos rfl, if_pos (by simpa using hue0)]; exact Lib.hid rfl
      have CO' := Lib.hid CO
      have CP' := Lib.hid CP
      have CT' := Lib.hid CT
      clear CO CT CN CP hu ho ht htl
      go_enter Tryz.func148, Tryz.ntmps148
      go_wp2_with (first | (go_at_call 88; refine (CP'.out _ _).mono ?_; rintro e w2 ⟨rfl, rfl⟩; first | (rw [hpA.out]) | (rw [hpB.out])) | (go_at_call 149; (try rw [hex.out]); refine (CO'.out _ (Below.refl _ _)).mono ?_; rintro e w3 ⟨rfl, hb3⟩) | (go_at_call 165; (try rw [hex.out]); refine (CT'.out _).mono ?_; rintro e w4 ⟨rfl, rfl⟩))
      go_ret2
      exact ⟨by rw [HR.out]; rfl, hb3⟩
    | false =>
      rw [hue0] at hue
      cases hn : parseU 16 1099511627775 u with
      | none =>
        rw [hn] at CN
        have HR : Hid (numB 16 hexa t.data.toList = some 1099511627776) := by unfold numB; rw [ho, hu, if_pos rfl, if_neg (by simpa using hue0), hn]; exact Lib.hid rfl
        have CO' := Lib.hid CO
        have CP' := Lib.hid CP
        have CT' := Lib.hid CT
        have CN' := Lib.hid CN
        clear CO CT CN CP hu ho ht htl hn
        go_enter Tryz.func148, Tryz.ntmps148
        go_wp2_with (first | (go_at_call 88; refine (CP'.out _ _).mono ?_; rintro e w2 ⟨rfl, rfl⟩; first | (rw [hpA.out]) | (rw [hpB.out])) | (go_at_call 149; (try rw [hex.out]); refine (CO'.out _ (Below.refl _ _)).mono ?_; rintro e w3 ⟨rfl, hb3⟩) | (go_at_call 165; (try rw [hex.out]); refine (CT'.out _).mono ?_; rintro e w4 ⟨rfl, rfl⟩) | (go_at_call 166; refine (CN'.out _ hb3).mono ?_; rintro e w5 ⟨⟨v5, te5, pe5, rfl⟩, hb5⟩))
        go_ret2
        exact ⟨by rw [HR.out]; rfl, hb3.trans (hb5.mono hb3.size)⟩
      | some n =>
        rw [hn] at CN
        have HR : Hid (numB 16 hexa t.data.toList = some n) := by unfold numB; rw [ho, hu, if_pos rfl, if_neg (by simpa using hue0), hn]; exact Lib.hid rfl
        have CO' := Lib.hid CO
        have CP' := Lib.hid CP
        have CT' := Lib.hid CT
        have CN' : Hid (∀ (w' : World), Below w.heap.size w w' → Calls Tryz.prog 166 #[.string (strOf u), .int .i64 16, .int .i64 40] w' fun e w2 => e = .returned (.tuple #[.int .u64 n, .nilIface]) ∧ Below w'.heap.size w' w2) := Lib.hid CN
        clear CO CT CN CP hu ho ht htl hn
        go_enter Tryz.func148, Tryz.ntmps148
        go_wp2_with (first | (go_at_call 88; refine (CP'.out _ _).mono ?_; rintro e w2 ⟨rfl, rfl⟩; first | (rw [hpA.out]) | (rw [hpB.out])) | (go_at_call 149; (try rw [hex.out]); refine (CO'.out _ (Below.refl _ _)).mono ?_; rintro e w3 ⟨rfl, hb3⟩) | (go_at_call 165; (try rw [hex.out]); refine (CT'.out _).mono ?_; rintro e w4 ⟨rfl, rfl⟩) | (go_at_call 166; refine (CN'.out _ hb3).mono ?_; rintro e w5 ⟨rfl, hb5⟩))
        go_ret2
        exact ⟨by rw [HR.out]; rfl, hb3.trans (hb5.mono hb3.size)⟩

set_option maxRecDepth 1000000 in
set_option maxHeartbeats 8000000 in
theorem number_oct (s : ByteArray) (w : World) (hs : s.size ≤ 1000000) (hG : GL w) (h0 : s.data.toList ≠ []) (hp : ([48, 120] : Bs).isPrefixOf s.data.toList = false) (hq : ([48, 88] : Bs).isPrefixOf s.data.toList = false) (hl : 1 < s.size) (hc : s[0] = 48) :
    Calls Tryz.prog 148 #[.string s] w fun e w' => e = .returned (numRes (numB 8 octal (s.data.toList.drop 1))) ∧ Below w.heap.size w w' := by
  have hemp : s.toList.isEmpty = false := by rw [isEmpty_data]; exact beq_eq_false_iff_ne.2 h0
  obtain ⟨t, ht⟩ : ∃ t : ByteArray, t = strOf (s.data.toList.drop 1) := ⟨_, rfl⟩
  have htl : t.data.toList = s.data.toList.drop 1 := by rw [ht]; exact strOf_data _
  have hts : t.size ≤ 1000000 := by rw [Lib.size_eq, htl]; simp; try omega
  rw [← htl]
  have hex : Hid (s.extract 1 s.size = t) := by rw [ht]; exact Lib.hid (extract_from s 1)
  have CP := fun (p : ByteArray) (w : World) => lib_HasPrefix s p w
  have CO := fun (w' : World) (hb : Below w.heap.size w w') => only_oct t w' hts (hG.below hb)
  obtain ⟨u, hu⟩ : ∃ u, t.data.toList.dropWhile (· == 48) = u := ⟨_, rfl⟩
  have CT := fun (w' : World) => lib_TrimLeft0 t w'
  rw [hu] at CT
  have hus : (strOf u).size ≤ 1000000 := by
    rw [strOf_size, ← hu]
    have : (t.data.toList.dropWhile (· == 48)).length ≤ t.data.toList.length := (List.dropWhile_sublist _).length_le
    rw [← Lib.size_eq] at this
    omega
  have CN := fun (w' : World) (hb : Below w.heap.size w w') => ParseUint_8_40 (strOf u) hus w' (hG.below hb)
  rw [strOf_data] at CN
  have hue : (strOf u).toList.isEmpty = (u == []) := strOf_isEmpty u
  have hpA : Hid ((⟨#[48, 120]⟩ : ByteArray).data.toList.isPrefixOf s.data.toList = false) := Lib.hid hp
  have hpB : Hid ((⟨#[48, 88]⟩ : ByteArray).data.toList.isPrefixOf s.data.toList = false) := Lib.hid hq
  clear hp hq
  have hl2 : (1 : Int) < (s.size : Int) := by omega
  have hc2 : ((s[0].toNat : Int) == 48) = true := by rw [hc]; rfl
  cases ho : onlyB t.data.toList octal with
  | false =>
    rw [ho] at CO
    have HR : Hid (numB 8 octal t.data.toList = none) := by unfold numB; rw [ho]; exact Lib.hid rfl
    have CO' := Lib.hid CO
    have CP' := Lib.hid CP
    clear CO CT CN CP hu ho ht htl hue
    go_enter Tryz.func148, Tryz.ntmps148
    go_wp2_with (first | (go_at_call 88; refine (CP'.out _ _).mono ?_; rintro e w2 ⟨rfl, rfl⟩; first | (rw [hpA.out]) | (rw [hpB.out])) | (go_at_call 149; (try rw [hex.out]); refine (CO'.out _ (Below.refl _ _)).mono ?_; rintro e w3 ⟨rfl, hb3⟩))
    go_ret2
    exact ⟨by rw [HR.out]; rfl, hb3⟩
  | true =>
    rw [ho] at CO
    cases hue0 : (u == []) with
    | true =>
      rw [hue0] at hue
      have HR : Hid (numB 8 octal t.data.toList = some 0) := by unfold numB; rw [ho, hu, if_pos rfl, if_pos (by simpa using hue0)]; exact Lib.hid rfl
      have CO' := Lib.hid CO
      have CP' := Lib.hid CP
      have CT' := Lib.hid CT
      clear CO CT CN CP hu ho ht htl
      go_enter Tryz.func148, Tryz.ntmps148
      go_wp2_with (first | (go_at_call 88; refine (CP'.out _ _).mono ?_; rintro e w2 ⟨rfl, rfl⟩; first | (rw [hpA.out]) | (rw [hpB.out])) | (go_at_call 149; (try rw [hex.out]); refine (CO'.out _ (Below.refl _ _)).mono ?_; rintro e w3 ⟨rfl, hb3⟩) | (go_at_call 165; (try rw [hex.out]); refine (CT'.out _).mono ?_; rintro e w4 ⟨rfl, rfl⟩))
      go_ret2
      exact ⟨by rw [HR.out]; rfl, hb3⟩
    | false =>
      rw [hue0] at hue
      cases hn : parseU 8 1099511627775 u with
      | none =>
        rw [hn] at CN
        have HR : Hid (numB 8 octal t.data.toList = some 1099511627776) := by unfold numB; rw [ho, hu, if_pos rfl, if_neg (by simpa using hue0), hn]; exact Lib.hid rfl
        have CO' := Lib.hid CO
        have CP' := Lib.hid CP
        have CT' := Lib.hid CT
        have CN' := Lib.hid CN
        clear CO CT CN CP hu ho ht htl hn
        go_enter Tryz.func148, Tryz.ntmps148
        go_wp2_with (first | (go_at_call 88; refine (CP'.out _ _).mono ?_; rintro e w2 ⟨rfl, rfl⟩; first | (rw [hpA.out]) | (rw [hpB.out])) | (go_at_call 149; (try rw [hex.out]); refine (CO'.out _ (Below.refl _ _)).mono ?_; rintro e w3 ⟨rfl, hb3⟩) | (go_at_call 165; (try rw [hex.out]); refine (CT'.out _).mono ?_; rintro e w4 ⟨rfl, rfl⟩) | (go_at_call 166; refine (CN'.out _ hb3).mono ?_; rintro e w5 ⟨⟨v5, te5, pe5, rfl⟩, hb5⟩))
        go_ret2
        exact ⟨by rw [HR.out]; rfl, hb3.trans (hb5.mono hb3.size)⟩
      | some n =>
        rw [hn] at CN
        have HR : Hid (numB 8 octal t.data.toList = some n) := by unfold numB; rw [ho, hu, if_pos rfl, if_neg (by simpa using hue0), hn]; exact Lib.hid rfl
        have CO' := Lib.hid CO
        have CP' := Lib.hid CP
        have CT' := Lib.hid CT
        have CN' : Hid (∀ (w' : World), Below w.heap.size w w' → Calls Tryz.prog 166 #[.string (strOf u), .int .i64 8, .int .i64 40] w' fun e w2 => e = .returned (.tuple #[.int .u64 n, .nilIface]) ∧ Below w'.heap.size w' w2) := Lib.hid CN
        clear CO CT CN CP hu ho ht htl hn
        go_enter Tryz.func148, Tryz.ntmps148
        go_wp2_with (first | (go_at_call 88; refine (CP'.out _ _).mono ?_; rintro e w2 ⟨rfl, rfl⟩; first | (rw [hpA.out]) | (rw [hpB.out])) | (go_at_call 149; (try rw [hex.out]); refine (CO'.out _ (Below.refl _ _)).mono ?_; rintro e w3 ⟨rfl, hb3⟩) | (go_at_call 165; (try rw [hex.out]); refine (CT'.out _).mono ?_; rintro e w4 ⟨rfl, rfl⟩) | (go_at_call 166; refine (CN'.out _ hb3).mono ?_; rintro e w5 ⟨rfl, hb5⟩))
        go_ret2
        exact ⟨by rw [HR.out]; rfl, hb3.trans (hb5.mono hb3.size)⟩

set_option maxRecDepth 1000000 in
set_option maxHeartbeats 8000000 in
theorem number_dec1 (s : ByteArray) (w : World) (hs : s.size ≤ 1000000) (hG : GL w) (h0 : s.data.toList ≠ []) (hp : ([48, 120] : Bs).isPrefixOf s.data.toList = false) (hq : ([48, 88] : Bs).isPrefixOf s.data.toList = false) (hl : ¬ 1 < s.size) :
    Calls Tryz.prog 148 #[.string s] w fun e w' => e = .returned (numRes (numB 10 decimal (s.data.toList))) ∧ Below w.heap.size w w' := by
  have hemp : s.toList.isEmpty = false := by rw [isEmpty_data]; exact beq_eq_false_iff_ne.2 h0
  obtain ⟨t, ht⟩ : ∃ t : ByteArray, t = s := ⟨_, rfl⟩
  have htl : t.data.toList = s.data.toList := by rw [ht]
  have hts : t.size ≤ 1000000 := by rw [Lib.size_eq, htl]; simp; try omega
  rw [← htl]
  have hst : t = s := ht
  subst hst
  have CP := fun (p : ByteArray) (w : World) => lib_HasPrefix t p w
  have CO := fun (w' : World) (hb : Below w.heap.size w w') => only_dec t w' hts (hG.below hb)
  obtain ⟨u, hu⟩ : ∃ u, t.data.toList.dropWhile (· == 48) = u := ⟨_, rfl⟩
  have CT := fun (w' : World) => lib_TrimLeft0 t w'
  rw [hu] at CT
  have hus : (strOf u).size ≤ 1000000 := by
    rw [strOf_size, ← hu]
    have : (t.data.toList.dropWhile (· == 48)).length ≤ t.data.toList.length := (List.dropWhile_sublist _).length_le
    rw [← Lib.size_eq] at this
    omega
  have CN := fun (w' : World) (hb : Below w.heap.size w w') => ParseUint_10_40 (strOf u) hus w' (hG.below hb)
  rw [strOf_data] at CN
  have hue : (strOf u).toList.isEmpty = (u == []) := strOf_isEmpty u
  have hpA : Hid ((⟨#[48, 120]⟩ : ByteArray).data.toList.isPrefixOf t.data.toList = false) := Lib.hid hp
  have hpB : Hid ((⟨#[48, 88]⟩ : ByteArray).data.toList.isPrefixOf t.data.toList = false) := Lib.hid hq
  clear hp hq
  have hl2 : ¬ ((1 : Int) < (t.size : Int)) := by omega
  have hl3 : decide ((1 : Int) < (t.size : Int)) = false := decide_eq_false hl2
  cases ho : onlyB t.data.toList decimal with
  | false =>
    rw [ho] at CO
    have HR : Hid (numB 10 decimal t.data.toList = none) := by unfold numB; rw [ho]; exact Lib.hid rfl
    have CO' := Lib.hid CO
    have CP' := Lib.hid CP
    clear CO CT CN CP hu ho ht htl hue
    go_enter Tryz.func148, Tryz.ntmps148
    go_wp2_with (first | (go_at_call 88; refine (CP'.out _ _).mono ?_; rintro e w2 ⟨rfl, rfl⟩; first | (rw [hpA.out]) | (rw [hpB.out])) | (go_at_call 149; refine (CO'.out _ (Below.refl _ _)).mono ?_; rintro e w3 ⟨rfl, hb3⟩))
    go_ret2
    exact ⟨by rw [HR.out]; rfl, hb3⟩
  | true =>
    rw [ho] at CO
    cases hue0 : (u == []) with
    | true =>
      rw [hue0] at hue
      have HR : Hid (numB 10 decimal t.data.toList = some 0) := by unfold numB; rw [ho, hu, if_pos rfl, if_pos (by simpa using hue0)]; exact Lib.hid rfl
      have CO' := Lib.hid CO
      have CP' := Lib.hid CP
      have CT' := Lib.hid CT
      clear CO CT CN CP hu ho ht htl
      go_enter Tryz.func148, Tryz.ntmps148
      go_wp2_with (first | (go_at_call 88; refine (CP'.out _ _).mono ?_; rintro e w2 ⟨rfl, rfl⟩; first | (rw [hpA.out]) | (rw [hpB.out])) | (go_at_call 149; refine (CO'.out _ (Below.refl _ _)).mono ?_; rintro e w3 ⟨rfl, hb3⟩) | (go_at_call 165; refine (CT'.out _).mono ?_; rintro e w4 ⟨rfl, rfl⟩))
      go_ret2
      exact ⟨by rw [HR.out]; rfl, hb3⟩
    | false =>
      rw [hue0] at hue
      cases hn : parseU 10 1099511627775 u with
      | none =>
        rw [hn] at CN
        have HR : Hid (numB 10 decimal t.data.toList = some 1099511627776) := by unfold numB; rw [ho, hu, if_pos rfl, if_neg (by simpa using hue0), hn]; exact Lib.hid rfl
        have CO' := Lib.hid CO
        have CP' := Lib.hid CP
        have CT' := Lib.hid CT
        have CN' := Lib.hid CN
        clear CO CT CN CP hu ho ht htl hn
        go_enter Tryz.func148, Tryz.ntmps148
        go_wp2_with (first | (go_at_call 88; refine (CP'.out _ _).mono ?_; rintro e w2 ⟨rfl, rfl⟩; first | (rw [hpA.out]) | (rw [hpB.out])) | (go_at_call 149; refine (CO'.out _ (Below.refl _ _)).mono ?_; rintro e w3 ⟨rfl, hb3⟩) | (go_at_call 165; refine (CT'.out _).mono ?_; rintro e w4 ⟨rfl, rfl⟩) | (go_at_call 166; refine (CN'.out _ hb3).mono ?_; rintro e w5 ⟨⟨v5, te5, pe5, rfl⟩, hb5⟩))
        go_ret2
        exact ⟨by rw [HR.out]; rfl, hb3.trans (hb5.mono hb3.size)⟩
      | some n =>
        rw [hn] at CN
        have HR : Hid (numB 10 decimal t.data.toList = some n) := by unfold numB; rw [ho, hu, if_pos rfl, if_neg (by simpa using hue0), hn]; exact Lib.hid rfl
        have CO' := Lib.hid CO
        have CP' := Lib.hid CP
        have CT' := Lib.hid CT
        have CN' : Hid (∀ (w' : World), Below w.heap.size w w' → Calls Tryz.prog 166 #[.string (strOf u), .int .i64 10, .int .i64 40] w' fun e w2 => e = .returned (.tuple #[.int .u64 n, .nilIface]) ∧ Below w'.heap.size w' w2) := Lib.hid CN
        clear CO CT CN CP hu ho ht htl hn
        go_enter Tryz.func148, Tryz.ntmps148
        go_wp2_with (first | (go_at_call 88; refine (CP'.out _ _).mono ?_; rintro e w2 ⟨rfl, rfl⟩; first | (rw [hpA.out]) | (rw [hpB.out])) | (go_at_call 149; refine (CO'.out _ (Below.refl _ _)).mono ?_; rintro e w3 ⟨rfl, hb3⟩) | (go_at_call 165; refine (CT'.out _).mono ?_; rintro e w4 ⟨rfl, rfl⟩) | (go_at_call 166; refine (CN'.out _ hb3).mono ?_; rintro e w5 ⟨rfl, hb5⟩))
        go_ret2
        exact ⟨by rw [HR.out]; rfl, hb3.trans (hb5.mono hb3.size)⟩

set_option maxRecDepth 1000000 in
set_option maxHeartbeats 8000000 in
theorem number_dec2 (s : ByteArray) (w : World) (hs : s.size ≤ 1000000) (hG : GL w) (h0 : s.data.toList ≠ []) (hp : ([48, 120] : Bs).isPrefixOf s.data.toList = false) (hq : ([48, 88] : Bs).isPrefixOf s.data.toList = false) (hl : 1 < s.size) (hc : s[0] ≠ 48) :
    Calls Tryz.prog 148 #[.string s] w fun e w' => e = .returned (numRes (numB 10 decimal (s.data.toList))) ∧ Below w.heap.size w w' := by
  have hemp : s.toList.isEmpty = false := by rw [isEmpty_data]; exact beq_eq_false_iff_ne.2 h0
  obtain ⟨t, ht⟩ : ∃ t : ByteArray, t = s := ⟨_, rfl⟩
  have htl : t.data.toList = s.data.toList := by rw [ht]
  have hts : t.size ≤ 1000000 := by rw [Lib.size_eq, htl]; simp; try omega
  rw [← htl]
  have hst : t = s := ht
  subst hst
  have CP := fun (p : ByteArray) (w : World) => lib_HasPrefix t p w
  have CO := fun (w' : World) (hb : Below w.heap.size w w') => only_dec t w' hts (hG.below hb)
  obtain ⟨u, hu⟩ : ∃ u, t.data.toList.dropWhile (· == 48) = u := ⟨_, rfl⟩
  have CT := fun (w' : World) => lib_TrimLeft0 t w'
  rw [hu] at CT
  have hus : (strOf u).size ≤ 1000000 := by
    rw [strOf_size, ← hu]
    have : (t.data.toList.dropWhile (· == 48)).length ≤ t.data.toList.length := (List.dropWhile_sublist _).length_le
    rw [← Lib.size_eq] at this
    omega
  have CN := fun (w' : World) (hb : Below w.heap.size w w') => ParseUint_10_40 (strOf u) hus w' (hG.below hb)
  rw [strOf_data] at CN
  have hue : (strOf u).toList.isEmpty = (u == []) := strOf_isEmpty u
  have hpA : Hid ((⟨#[48, 120]⟩ : ByteArray).data.toList.isPrefixOf t.data.toList = false) := Lib.hid hp
  have hpB : Hid ((⟨#[48, 88]⟩ : ByteArray).data.toList.isPrefixOf t.data.toList = false) := Lib.hid hq
  clear hp hq
  have hl2 : (1 : Int) < (t.size : Int) := by omega
  have hc2 : ((t[0].toNat : Int) == 48) = false := beq_eq_false_iff_ne.2 (fun e => hc (UInt8.toNat_inj.1 (by simpa using (by omega : t[0].toNat = 48))))
  cases ho : onlyB t.data.toList decimal with
  | false =>
    rw [ho] at CO
    have HR : Hid (numB 10 decimal t.data.toList = none) := by unfold numB; rw [ho]; exact Lib.hid rfl
    have CO' := Lib.hid CO
    have CP' := Lib.hid CP
    clear CO CT CN CP hu ho ht htl hue
    go_enter Tryz.func148, Tryz.ntmps148
    go_wp2_with (first | (go_at_call 88; refine (CP'.out _ _).mono ?_; rintro e w2 ⟨rfl, rfl⟩; first | (rw [hpA.out]) | (rw [hpB.out])) | (go_at_call 149; refine (CO'.out _ (Below.refl _ _)).mono ?_; rintro e w3 ⟨rfl, hb3⟩))
    go_ret2
    exact ⟨by rw [HR.out]; rfl, hb3⟩
  | true =>
    rw [ho] at CO
    cases hue0 : (u == []) with
    | true =>
      rw [hue0] at hue
      have HR : Hid (numB 10 decimal t.data.toList = some 0) := by unfold numB; rw [ho, hu, if_pos rfl, if_pos (by simpa using hue0)]; exact Lib.hid rfl
      have CO' := Lib.hid CO
      have CP' := Lib.hid CP
      have CT' := Lib.hid CT
      clear CO CT CN CP hu ho ht htl
      go_enter Tryz.func148, Tryz.ntmps148
      go_wp2_with (first | (go_at_call 88; refine (CP'.out _ _).mono ?_; rintro e w2 ⟨rfl, rfl⟩; first | (rw [hpA.out]) | (rw [hpB.out])) | (go_at_call 149; refine (CO'.out _ (Below.refl _ _)).mono ?_; rintro e w3 ⟨rfl, hb3⟩) | (go_at_call 165; refine (CT'.out _).mono ?_; rintro e w4 ⟨rfl, rfl⟩))
      go_ret2
      exact ⟨by rw [HR.out]; rfl, hb3⟩
    | false =>
      rw [hue0] at hue
      cases hn : parseU 10 1099511627775 u with
      | none =>
        rw [hn] at CN
        have HR : Hid (numB 10 decimal t.data.toList = some 1099511627776) := by unfold numB; rw [ho, hu, if_pos rfl, if_neg (by simpa using hue0), hn]; exact Lib.hid rfl
        have CO' := Lib.hid CO
        have CP' := Lib.hid CP
        have CT' := Lib.hid CT
        have CN' := Lib.hid CN
        clear CO CT CN CP hu ho ht htl hn
        go_enter Tryz.func148, Tryz.ntmps148
        go_wp2_with (first | (go_at_call 88; refine (CP'.out _ _).mono ?_; rintro e w2 ⟨rfl, rfl⟩; first | (rw [hpA.out]) | (rw [hpB.out])) | (go_at_call 149; refine (CO'.out _ (Below.refl _ _)).mono ?_; rintro e w3 ⟨rfl, hb3⟩) | (go_at_call 165; refine (CT'.out _).mono ?_; rintro e w4 ⟨rfl, rfl⟩) | (go_at_call 166; refine (CN'.out _ hb3).mono ?_; rintro e w5 ⟨⟨v5, te5, pe5, rfl⟩, hb5⟩))
        go_ret2
        exact ⟨by rw [HR.out]; rfl, hb3.trans (hb5.mono hb3.size)⟩
      | some n =>
        rw [hn] at CN
        have HR : Hid (numB 10 decimal t.data.toList = some n) := by unfold numB; rw [ho, hu, if_pos rfl, if_neg (by simpa using hue0), hn]; exact Lib.hid rfl
        have CO' := Lib.hid CO
        have CP' := Lib.hid CP
        have CT' := Lib.hid CT
        have CN' : Hid (∀ (w' : World), Below w.heap.size w w' → Calls Tryz.prog 166 #[.string (strOf u), .int .i64 10, .int .i64 40] w' fun e w2 => e = .returned (.tuple #[.int .u64 n, .nilIface]) ∧ Below w'.heap.size w' w2) := Lib.hid CN
        clear CO CT CN CP hu ho ht htl hn
        go_enter Tryz.func148, Tryz.ntmps148
        go_wp2_with (first | (go_at_call 88; refine (CP'.out _ _).mono ?_; rintro e w2 ⟨rfl, rfl⟩; first | (rw [hpA.out]) | (rw [hpB.out])) | (go_at_call 149; refine (CO'.out _ (Below.refl _ _)).mono ?_; rintro e w3 ⟨rfl, hb3⟩) | (go_at_call 165; refine (CT'.out _).mono ?_; rintro e w4 ⟨rfl, rfl⟩) | (go_at_call 166; refine (CN'.out _ hb3).mono ?_; rintro e w5 ⟨rfl, hb5⟩))
        go_ret2
        exact ⟨by rw [HR.out]; rfl, hb3.trans (hb5.mono hb3.size)⟩
end Go.Proofs.YtmgkmpbblhkacaaGreatDoor
