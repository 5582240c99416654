/- The reference's number, parts, Ends, IPv4. The reference's Ends, IPv4, Domain. -/
import Derived.Test.YtmgkmpbblhkacaaGreatDoorR7
import Derived.Test.YtmgkmpbblhkacaaGreatDoorIp4
namespace Go.Proofs.YtmgkmpbblhkacaaGreatDoor
open Go.RowKit
set_option linter.unusedSimpArgs false
set_option linter.unusedVariables false

/-- transeptref07.number. -/
def numR (l : Bs) : Option Nat :=
  if l = [] then none
  else if 2 ≤ l.length ∧ l.headD 0 = 48 ∧ (l.getD 1 0 = 120 ∨ l.getD 1 0 = 88) then basedL 16 0 (l.drop 2)
  else if 2 ≤ l.length ∧ l.headD 0 = 48 then basedL 8 0 (l.drop 1)
  else basedL 10 0 l
theorem u8_neL (c d : UInt8) (k : Int) (hk : (d.toNat : Int) = k) (h : c ≠ d) : ((c.toNat : Int) == k) = false := by rw [← hk]; exact u8_ne c d h
theorem u8_eqL (c d : UInt8) (k : Int) (hk : (d.toNat : Int) = k) (h : c = d) : ((c.toNat : Int) == k) = true := by rw [← hk]; exact u8_eq c d h
theorem refBased_at (s : ByteArray) (b : Nat) (w : World) (hs : s.size ≤ 1000000) (h1 : 2 ≤ b) (h16 : b ≤ 16) (r : Option Nat) (hr : basedL b 0 s.data.toList = r) :
    Calls Tryz.prog 57 #[.string s, .int .u64 b] w fun e w' => e = .returned (.tuple #[.int .u64 (r.getD 0 : Nat), .bool r.isSome]) ∧ w = w' := by
  subst hr
  exact refBased_any s b w hs h1 h16
theorem head_get (s : ByteArray) (h : 0 < s.size) : s.data.toList.headD 0 = s[0] := by
  rw [headD_get _ (by rw [← Lib.size_eq]; exact h), ← data_get s 0 h]
theorem one_get (s : ByteArray) (h : 1 < s.size) : s.data.toList.getD 1 0 = s[1] := by
  rw [← data_get s 1 h, List.getD_eq_getElem?_getD, List.getElem?_eq_getElem (by rw [← Lib.size_eq]; exact h)]; rfl
set_option maxRecDepth 1000000 in
set_option maxHeartbeats 8000000 in
theorem refNumber_any (s : ByteArray) (w : World) (hs : s.size ≤ 1000000) (r : Option Nat) (hr : numR s.data.toList = r) :
    Calls Tryz.prog 58 #[.string s] w fun e w' => e = .returned (.tuple #[.int .u64 (r.getD 0 : Nat), .bool r.isSome]) ∧ w = w' := by
  by_cases h0 : s.data.toList = []
  · obtain rfl : r = none := by rw [← hr, h0]; rfl
    have hemp : s.toList.isEmpty = true := by rw [isEmpty_data, h0]; rfl
    clear hr h0
    go_enter Tryz.func58, Tryz.ntmps58
    go_wp2
    go_ret2
    exact ⟨rfl, rfl⟩
  · have hemp : s.toList.isEmpty = false := by rw [isEmpty_data]; exact beq_eq_false_iff_ne.2 h0
    have hz : 0 < s.size := by rw [Lib.size_eq]; exact List.length_pos_iff.2 h0
    unfold numR at hr
    rw [if_neg h0] at hr
    have e2 : (s.extract 2 s.size).data.toList = s.data.toList.drop 2 := by rw [extract_from, strOf_data]
    have e1 : (s.extract 1 s.size).data.toList = s.data.toList.drop 1 := by rw [extract_from, strOf_data]
    have z2 : (s.extract 2 s.size).size ≤ 1000000 := by rw [ByteArray.size_extract]; omega
    have z1 : (s.extract 1 s.size).size ≤ 1000000 := by rw [ByteArray.size_extract]; omega
    by_cases h2 : 2 ≤ s.size
    · rw [head_get s hz, one_get s (by omega), ← Lib.size_eq] at hr
      have h2' : (2 : Int) ≤ (s.size : Int) := by omega
      by_cases h48 : s[0] = 48
      · have b48 := u8_eqL _ _ 48 rfl h48
        by_cases hx : s[1] = 120 ∨ s[1] = 88
        · rw [if_pos ⟨h2, h48, hx⟩, ← e2] at hr
          have C := Lib.hid (refBased_at (s.extract 2 s.size) 16 w z2 (by decide) (by decide) r hr)
          clear hr e1 e2 z1 z2 h48 h0
          by_cases hx1 : s[1] = 120
          · have bx := u8_eqL _ _ 120 rfl hx1
            clear hx hx1
            go_enter Tryz.func58, Tryz.ntmps58
            go_wp2_with (first | (go_at_call 57; refine C.out.mono ?_; rintro e w2 ⟨rfl, rfl⟩))
            go_ret2
            exact ⟨rfl, rfl⟩
          · have bx := u8_neL _ _ 120 rfl hx1
            have bX := u8_eqL _ _ 88 rfl (show s[1] = 88 from hx.resolve_left hx1)
            clear hx hx1
            go_enter Tryz.func58, Tryz.ntmps58
            go_wp2_with (first | (go_at_call 57; refine C.out.mono ?_; rintro e w2 ⟨rfl, rfl⟩))
            go_ret2
            exact ⟨rfl, rfl⟩
        · rw [if_neg (fun h => hx h.2.2), if_pos ⟨h2, h48⟩, ← e1] at hr
          have C := Lib.hid (refBased_at (s.extract 1 s.size) 8 w z1 (by decide) (by decide) r hr)
          have bx := u8_neL _ _ 120 rfl (show s[1] ≠ 120 from fun h => hx (Or.inl h))
          have bX := u8_neL _ _ 88 rfl (show s[1] ≠ 88 from fun h => hx (Or.inr h))
          clear hr e1 e2 z1 z2 h48 h0 hx
          go_enter Tryz.func58, Tryz.ntmps58
          go_wp2_with (first | (go_at_call 57; refine C.out.mono ?_; rintro e w2 ⟨rfl, rfl⟩))
          go_ret2
          exact ⟨rfl, rfl⟩
      · rw [if_neg (fun h => h48 h.2.1), if_neg (fun h => h48 h.2)] at hr
        have C := Lib.hid (refBased_at s 10 w hs (by decide) (by decide) r hr)
        have b48 := u8_neL _ _ 48 rfl h48
        clear hr e1 e2 z1 z2 h48 h0
        go_enter Tryz.func58, Tryz.ntmps58
        go_wp2_with (first | (go_at_call 57; refine C.out.mono ?_; rintro e w2 ⟨rfl, rfl⟩))
        go_ret2
        exact ⟨rfl, rfl⟩
    · rw [← Lib.size_eq, if_neg (fun h => h2 h.1), if_neg (fun h => h2 h.1)] at hr
      have C := Lib.hid (refBased_at s 10 w hs (by decide) (by decide) r hr)
      have h2' : (s.size : Int) < 2 := by omega
      clear hr e1 e2 z1 z2 h0
      go_enter Tryz.func58, Tryz.ntmps58
      go_wp2_with (first | (go_at_call 57; refine C.out.mono ?_; rintro e w2 ⟨rfl, rfl⟩))
      go_ret2
      exact ⟨rfl, rfl⟩
theorem OwnS.front {w : World} {B g cp : Nat} {ps : List Bs} (h : OwnS w B (.slice (some ⟨g, 0, none⟩) ps.length cp) ps) : OwnS w B (.slice (some ⟨g, 0, none⟩) ps.dropLast.length cp) ps.dropLast := by
  refine ⟨by simp, ?_⟩
  rcases h.2 with ⟨h1, _⟩ | ⟨g', cap, cur, hv, hg, hc, hn, hm, hs, ht⟩
  · cases h1
  · injection hv with hv1 hv2 hv3
    injection hv1 with hv1
    injection hv1 with hv1
    subst hv1; subst hv3
    refine Or.inr ⟨g, cp, cur, rfl, hg, hc, by simp; omega, hm, hs, ?_⟩
    have e : ps.dropLast.length * 1 = min (ps.length - 1) (ps.length * 1) := by simp
    rw [e, ← List.take_take, ht, List.dropLast_eq_take, List.map_take]
set_option maxRecDepth 1000000 in
set_option maxHeartbeats 1000000 in
theorem refParts_any (s : ByteArray) (w : World) (hs : s.size ≤ 1000000) :
    Calls Tryz.prog 56 #[.string s] w fun e w' => ∃ (g cp : Nat), e = .returned (.slice (some ⟨g, 0, none⟩) (ip4parts s.data.toList).length cp) ∧ OwnS w' w.heap.size (.slice (some ⟨g, 0, none⟩) (ip4parts s.data.toList).length cp) (ip4parts s.data.toList) ∧ Below w.heap.size w w' := by
  have C := Lib.hid (refSplit_any s 46 w hs)
  have hlen := split1_len_le 46 s.data.toList
  have hpos := split1_pos 46 s.data.toList
  rw [← Lib.size_eq] at hlen
  obtain ⟨ps, hps⟩ : ∃ ps, split1 46 s.data.toList = ps := ⟨_, rfl⟩
  have hip : ip4parts s.data.toList = if 1 < ps.length ∧ ps.getLastD [] = [] then ps.dropLast else ps := by unfold ip4parts; rw [hps]
  rw [hps] at C hlen hpos
  have hlast := getLastD_at ps (List.length_pos_iff.1 hpos)
  have HIP := Lib.hid hip
  have HLAST := Lib.hid hlast
  clear hps hip hlast
  go_enter Tryz.func56, Tryz.ntmps56
  go_wp2_with fail
  refine C.out.mono ?_
  rintro e w1 ⟨g, cp, rfl, hown, hb1⟩
  clear C
  obtain ⟨m, hm⟩ : ∃ m, ps.length = m := ⟨_, rfl⟩
  obtain ⟨hv, _⟩ | ⟨g', cp', hv, hgB, hgc, hglt, hgcell⟩ := OwnS.form hown
  · cases hv
  · injection hv with hv1 hv2 hv3
    injection hv1 with hv1
    injection hv1 with hv1
    subst hv1; subst hv3
    have hcell := hgcell (ps.length - 1) _ HLAST.out
    have HO := Lib.hid hown
    have HM := Lib.hid hm
    rw [hm] at hcell hlen hpos hgc ⊢
    clear hgcell hown hm hv2
    by_cases h1 : 1 < m
    · have h1' : (1 : Int) < (m : Int) := by omega
      have t1 : ((m : Int) - 1).toNat = m - 1 := by omega
      by_cases hl : ps.getLastD [] = []
      · have hemp : (strOf (ps.getLastD [])).toList.isEmpty = true := by rw [strOf_isEmpty, hl]; rfl
        have hr : Hid (ip4parts s.data.toList = ps.dropLast) := by rw [HIP.out, if_pos ⟨by rw [HM.out]; exact h1, hl⟩]; exact Lib.hid rfl
        obtain ⟨lst, hlst⟩ : ∃ lst, strOf (ps.getLastD []) = lst := ⟨_, rfl⟩
        rw [hlst] at hcell hemp
        clear hl hlst HLAST HIP
        go_wp2
        go_ret
        refine ⟨g, cp, ?_, ?_, hb1⟩
        · rw [hr.out, List.length_dropLast, HM.out]; congr 1
        · rw [hr.out]; exact HO.out.front
      · have hemp : (strOf (ps.getLastD [])).toList.isEmpty = false := by rw [strOf_isEmpty]; exact beq_eq_false_iff_ne.2 hl
        have hr : Hid (ip4parts s.data.toList = ps) := by rw [HIP.out, if_neg (fun h => hl h.2)]; exact Lib.hid rfl
        obtain ⟨lst, hlst⟩ : ∃ lst, strOf (ps.getLastD []) = lst := ⟨_, rfl⟩
        rw [hlst] at hcell hemp
        clear hl hlst HLAST HIP
        go_wp2
        go_ret
        exact ⟨g, cp, by rw [hr.out, HM.out]; exact rfl, by rw [hr.out]; exact HO.out, hb1⟩
    · have h1' : (m : Int) ≤ 1 := by omega
      have hr : Hid (ip4parts s.data.toList = ps) := by rw [HIP.out, if_neg (fun h => h1 (by rw [← HM.out]; exact h.1))]; exact Lib.hid rfl
      clear HLAST HIP hcell
      go_wp2
      go_ret
      exact ⟨g, cp, by rw [hr.out, HM.out]; exact rfl, by rw [hr.out]; exact HO.out, hb1⟩
end Go.Proofs.YtmgkmpbblhkacaaGreatDoor
namespace Go.Proofs.YtmgkmpbblhkacaaGreatDoor
open Go.RowKit
set_option linter.unusedSimpArgs false
set_option linter.unusedVariables false

theorem ip4parts_ne (l : Bs) : ip4parts l ≠ [] := by
  unfold ip4parts
  simp only
  split
  · rename_i h
    intro hh
    have := congrArg List.length hh
    rw [List.length_dropLast, List.length_nil] at this
    omega
  · exact split1_ne 46 l
theorem ip4parts_len (l : Bs) : (ip4parts l).length ≤ l.length + 1 := by
  have := split1_len_le 46 l
  unfold ip4parts
  simp only
  split
  · rw [List.length_dropLast]; omega
  · exact this
theorem ip4parts_mem (l : Bs) : ∀ p ∈ ip4parts l, p.length ≤ l.length := by
  intro p hp
  unfold ip4parts at hp
  simp only at hp
  split at hp
  · exact split1_mem_le 46 l p ((List.dropLast_sublist _).subset hp)
  · exact split1_mem_le 46 l p hp
/-- transeptref07.Ends. -/
def endsR (l : Bs) : Bool := (numR ((ip4parts l).getLastD [])).isSome || ((basedL 10 0 ((ip4parts l).getLastD [])).isSome && decide ((ip4parts l).getLastD [] ≠ []))
set_option maxRecDepth 1000000 in
set_option maxHeartbeats 2000000 in
theorem refEnds_any (s : ByteArray) (w : World) (hs : s.size ≤ 1000000) :
    Calls Tryz.prog 30 #[.string s] w fun e w' => e = .returned (.bool (endsR s.data.toList)) ∧ Below w.heap.size w w' := by
  have C := Lib.hid (refParts_any s w hs)
  have hne := ip4parts_ne s.data.toList
  have hmem := ip4parts_mem s.data.toList
  have hlen := ip4parts_len s.data.toList
  have hz := (Lib.size_eq s).symm
  rw [hz] at hmem hlen
  obtain ⟨ps, hps⟩ : ∃ ps, ip4parts s.data.toList = ps := ⟨_, rfl⟩
  have hE : endsR s.data.toList = ((numR (ps.getLastD [])).isSome || ((basedL 10 0 (ps.getLastD [])).isSome && decide (ps.getLastD [] ≠ []))) := by unfold endsR; rw [hps]
  rw [hps] at C hne hmem hlen
  have hlast := getLastD_at ps hne
  have hpos := List.length_pos_iff.2 hne
  obtain ⟨lst, hlst⟩ : ∃ lst, ps.getLastD [] = lst := ⟨_, rfl⟩
  rw [hlst] at hlast hE
  have hlz := hmem lst (List.mem_of_getElem? hlast)
  have HE := Lib.hid hE
  have HLAST := Lib.hid hlast
  have hzs : (strOf lst).size ≤ 1000000 := by rw [strOf_size]; omega
  obtain ⟨r1, h1⟩ : ∃ r, basedL 10 0 lst = r := ⟨_, rfl⟩
  obtain ⟨r2, h2⟩ : ∃ r, numR lst = r := ⟨_, rfl⟩
  have C1 := Lib.hid (fun w' => refBased_at (strOf lst) 10 w' hzs (by decide) (by decide) r1 (by rw [strOf_data]; exact h1))
  have C2 := Lib.hid (fun w' => refNumber_any (strOf lst) w' hzs r2 (by rw [strOf_data]; exact h2))
  have hemp : (strOf lst).toList.isEmpty = decide (lst = []) := by
    rw [strOf_isEmpty, Bool.eq_iff_iff]; simp
  rw [h1, h2] at hE
  have HE2 := Lib.hid hE
  have HEMP := Lib.hid hemp
  obtain ⟨L, hL⟩ : ∃ L, strOf lst = L := ⟨_, rfl⟩
  have HLL := Lib.hid hL
  rw [hL] at C1 C2 HEMP
  clear hps hE hlast hlst hemp h1 h2 hL hmem hz HE hzs hlz hne
  go_enter Tryz.func30, Tryz.ntmps30
  go_wp2_with fail
  refine C.out.mono ?_
  rintro e w1 ⟨g, cp, rfl, hown, hb1⟩
  clear C
  obtain ⟨m, hm⟩ : ∃ m, ps.length = m := ⟨_, rfl⟩
  obtain ⟨hv, _⟩ | ⟨g', cp', hv, hgB, hgc, hglt, hgcell⟩ := OwnS.form hown
  · cases hv
  · injection hv with hv1 hv2 hv3
    injection hv1 with hv1
    injection hv1 with hv1
    subst hv1; subst hv3
    have hcell := hgcell (ps.length - 1) _ HLAST.out
    rw [hm] at hcell hlen hpos hgc ⊢
    rw [HLL.out] at hcell
    have t1 : ((m : Int) - 1).toNat = m - 1 := by omega
    clear hgcell hown hm hv2 HLAST HLL
    have hways : r2 = none ∧ r1 = none ∨ r2 = none ∧ r1.isSome = true ∧ lst = [] ∨ r2 = none ∧ r1.isSome = true ∧ lst ≠ [] ∨ r2.isSome = true := by
      cases r2 <;> cases r1 <;> by_cases h : lst = [] <;> simp [h]
    have hne0 : lst ≠ [] → L.toList.isEmpty = false := fun h => by rw [HEMP.out]; simp [h]
    have heq0 : lst = [] → L.toList.isEmpty = true := fun h => by rw [HEMP.out]; simp [h]
    have HNE := Lib.hid hne0
    have HEQ := Lib.hid heq0
    clear hne0 heq0
    rcases hways with ⟨h2, h1⟩ | ⟨h2, h1, h0⟩ | ⟨h2, h1, h0⟩ | h2
    · have hr : Hid (endsR s.data.toList = false) := by rw [HE2.out, h2, h1]; exact Lib.hid rfl
      subst h1; subst h2
      go_wp2_with (first | (go_at_call 57; refine (C1.out _).mono ?_; rintro e w2 ⟨rfl, rfl⟩) | (go_at_call 58; refine (C2.out _).mono ?_; rintro e w3 ⟨rfl, rfl⟩))
      go_ret
      exact ⟨by rw [hr.out]; exact rfl, hb1⟩
    · have hr : Hid (endsR s.data.toList = false) := by rw [HE2.out, h2, h1, h0]; exact Lib.hid rfl
      have hemp := HEQ.out h0
      obtain ⟨n, rfl⟩ := Option.isSome_iff_exists.1 h1
      clear h1 h0
      subst h2
      go_wp2_with (first | (go_at_call 57; refine (C1.out _).mono ?_; rintro e w2 ⟨rfl, rfl⟩) | (go_at_call 58; refine (C2.out _).mono ?_; rintro e w3 ⟨rfl, rfl⟩))
      go_ret
      exact ⟨by rw [hr.out]; exact rfl, hb1⟩
    · have hr : Hid (endsR s.data.toList = true) := by rw [HE2.out, h2, h1]; exact Lib.hid (by simp [h0])
      have hemp := HNE.out h0
      obtain ⟨n, rfl⟩ := Option.isSome_iff_exists.1 h1
      clear h1 h0
      subst h2
      go_wp2_with (first | (go_at_call 57; refine (C1.out _).mono ?_; rintro e w2 ⟨rfl, rfl⟩) | (go_at_call 58; refine (C2.out _).mono ?_; rintro e w3 ⟨rfl, rfl⟩))
      go_ret
      exact ⟨by rw [hr.out]; exact rfl, hb1⟩
    · have hr : Hid (endsR s.data.toList = true) := by rw [HE2.out, h2]; exact Lib.hid rfl
      obtain ⟨n, rfl⟩ := Option.isSome_iff_exists.1 h2
      clear h2
      go_wp2_with (first | (go_at_call 57; refine (C1.out _).mono ?_; rintro e w2 ⟨rfl, rfl⟩) | (go_at_call 58; refine (C2.out _).mono ?_; rintro e w3 ⟨rfl, rfl⟩))
      go_ret
      exact ⟨by rw [hr.out]; exact rfl, hb1⟩
/-- The parts of an address, gathered. -/
def loopR (len : Nat) : Nat → Nat → Nat → List Bs → Option Nat
  | _, out, _, [] => some out
  | i, out, room, p :: r =>
    match numR p with
    | none => none
    | some n =>
      if (i + 1 < len ∧ 255 < n) ∨ room ≤ n then none
      else if i + 1 < len then loopR len (i + 1) (out + n * (room / 256)) (room / 256) r else loopR len (i + 1) (out + n) room r
/-- transeptref07.IPv4. -/
def ip4R (l : Bs) : Nat × Bool × Int :=
  if endsR l = false then (0, false, 0)
  else if 4 < (ip4parts l).length then (0, true, 7)
  else match loopR (ip4parts l).length 0 0 4294967296 (ip4parts l) with
    | none => (0, true, 7)
    | some n => (n % 4294967296, true, 0)
theorem numR_le (l : Bs) (n : Nat) (h : numR l = some n) : n ≤ 1099511627776 := by
  unfold numR at h
  split at h
  · cases h
  · split at h
    · exact basedL_le _ _ 0 n (by omega) h
    · split at h
      · exact basedL_le _ _ 0 n (by omega) h
      · exact basedL_le _ _ 0 n (by omega) h
theorem ret_u32 {a b : Int} {x y : Value} (h : a = b) : Ending.returned (.tuple #[.int .u32 a, x, y]) = Ending.returned (.tuple #[.int .u32 b, x, y]) := by rw [h]
set_option maxRecDepth 1000000 in
set_option maxHeartbeats 4000000 in
theorem refIPv4_any (s : ByteArray) (w : World) (hs : s.size ≤ 1000000) :
    Calls Tryz.prog 116 #[.string s] w fun e w' => e = .returned (.tuple #[.int .u32 ((ip4R s.data.toList).1 : Nat), .bool (ip4R s.data.toList).2.1, .int .i64 (ip4R s.data.toList).2.2]) ∧ Below w.heap.size w w' := by
  have CE := Lib.hid (refEnds_any s w hs)
  obtain ⟨b, hb⟩ : ∃ b, endsR s.data.toList = b := ⟨_, rfl⟩
  rw [hb] at CE
  have HS := Lib.hid hs
  cases b with
  | false =>
    have hr : Hid (ip4R s.data.toList = (0, false, 0)) := Lib.hid (by unfold ip4R; rw [if_pos hb])
    clear hb
    go_enter Tryz.func116, Tryz.ntmps116
    go_wp2_with (first | (go_at_call 30; refine CE.out.mono ?_; rintro e w1 ⟨rfl, hb1⟩))
    go_ret3
    exact ⟨by rw [hr.out]; exact rfl, hb1⟩
  | true =>
    have CP := Lib.hid (fun w' => refParts_any s w' hs)
    have hmem := ip4parts_mem s.data.toList
    have hlen := ip4parts_len s.data.toList
    have hne := ip4parts_ne s.data.toList
    have hz := (Lib.size_eq s).symm
    rw [hz] at hmem hlen
    obtain ⟨ps, hps⟩ : ∃ ps, ip4parts s.data.toList = ps := ⟨_, rfl⟩
    have hR : ip4R s.data.toList = if 4 < ps.length then ((0, true, 7) : Nat × Bool × Int) else match loopR ps.length 0 0 4294967296 ps with | none => (0, true, 7) | some n => (n % 4294967296, true, 0) := by
      unfold ip4R; rw [if_neg (by rw [hb]; simp), hps]
    rw [hps] at CP hmem hlen hne
    have HR := Lib.hid hR
    have HMEM := Lib.hid hmem
    clear hb hz hps hR hmem hne
    go_enter Tryz.func116, Tryz.ntmps116
    go_wp2_with fail
    refine CE.out.mono ?_
    rintro e w1 ⟨rfl, hb1⟩
    go_wp2_with fail
    refine (CP.out _).mono ?_
    rintro e w2 ⟨g, cp, rfl, hown, hb2⟩
    clear CE CP
    obtain ⟨m, hm⟩ : ∃ m, ps.length = m := ⟨_, rfl⟩
    obtain ⟨hv, _⟩ | ⟨g', cp', hv, hgB, hgc, hglt, hgcell⟩ := OwnS.form hown
    · cases hv
    · injection hv with hv1 hv2 hv3
      injection hv1 with hv1
      injection hv1 with hv1
      subst hv1; subst hv3
      have HCELL := Lib.hid hgcell
      have HM := Lib.hid hm
      have hbb : Below w.heap.size w w2 := hb1.trans (hb2.mono hb1.size)
      rw [hm] at hlen hgc ⊢
      clear hgcell hown hm hv2
      by_cases hlt4 : 4 < m
      · have hr : Hid (ip4R s.data.toList = (0, true, 7)) := by rw [HR.out, if_pos (by rw [HM.out]; exact hlt4)]; exact Lib.hid rfl
        have hl4 : (4 : Int) < (m : Int) := by omega
        go_wp2
        go_ret3
        exact ⟨by rw [hr.out]; exact rfl, hbb⟩
      · have hl4 : (m : Int) ≤ 4 := by omega
        have HR2 : Hid (ip4R s.data.toList = match loopR m 0 0 4294967296 ps with | none => ((0, true, 7) : Nat × Bool × Int) | some n => (n % 4294967296, true, 0)) := by rw [HR.out, if_neg (by rw [HM.out]; exact hlt4), HM.out]; exact Lib.hid rfl
        clear HR hlt4
        go_wp2
        go_loopw [7, 8, 9] (fun vo vr vi wr => ∃ (i o r : Nat), vo = .int .u64 o ∧ vr = .int .u64 r ∧ vi = .int .i64 i ∧ i ≤ m ∧ o ≤ i * 1099511627776 ∧ r ≤ 4294967296 ∧ w2 = wr ∧ Hid (loopR m 0 0 4294967296 ps = loopR m i o r (ps.drop i))) (fun _ _ vi _ => m - (intOf vi).toNat)
        case atStart => exact ⟨0, 0, 4294967296, rfl, rfl, rfl, by omega, by omega, by omega, rfl, Lib.hid (by simp)⟩
        case round =>
          obtain ⟨i, o, r, rfl, rfl, rfl, hi, ho, hr32, rfl, HI⟩ := hrel
          by_cases hlt : i < m
          · obtain ⟨p, hp⟩ : ∃ p, ps[i]? = some p := ⟨_, List.getElem?_eq_getElem (by rw [HM.out]; exact hlt)⟩
            have hdrop : ps.drop i = p :: ps.drop (i + 1) := by
              obtain ⟨h1, h2⟩ := List.getElem?_eq_some_iff.1 hp
              rw [List.drop_eq_getElem_cons h1, h2]
            have hcell := HCELL.out i p hp
            have hzp : (strOf p).size ≤ 1000000 := by rw [strOf_size]; have := HMEM.out p (List.mem_of_getElem? hp); omega
            obtain ⟨nr, hnr⟩ : ∃ nr, numR p = nr := ⟨_, rfl⟩
            have CN := Lib.hid (fun w' => refNumber_any (strOf p) w' hzp nr (by rw [strOf_data]; exact hnr))
            obtain ⟨T, hT⟩ : ∃ T, strOf p = T := ⟨_, rfl⟩
            rw [hT] at CN hcell
            have hL : loopR m 0 0 4294967296 ps = match (generalizing := false) nr with
              | none => none
              | some n => if (i + 1 < m ∧ 255 < n) ∨ r ≤ n then none else if i + 1 < m then loopR m (i + 1) (o + n * (r / 256)) (r / 256) (ps.drop (i + 1)) else loopR m (i + 1) (o + n) r (ps.drop (i + 1)) := by
              rw [HI.out, hdrop, loopR, hnr]
            have HLR := Lib.hid hL
            cases nr with
            | none =>
              have hr : Hid (ip4R s.data.toList = (0, true, 7)) := by rw [HR2.out, HLR.out]; exact Lib.hid rfl
              clear hp hdrop hzp hnr hT hL HI
              go_wp2_with (first | (go_at_call 58; refine (CN.out _).mono ?_; rintro e w3 ⟨rfl, rfl⟩))
              go_ret3
              exact ⟨by rw [hr.out]; exact rfl, hbb⟩
            | some n =>
              have hn40 := numR_le p n hnr
              by_cases hbad : (i + 1 < m ∧ 255 < n) ∨ r ≤ n
              · have hr : Hid (ip4R s.data.toList = (0, true, 7)) := by rw [HR2.out, HLR.out]; simp only; rw [if_pos hbad]; exact Lib.hid rfl
                have hways : (i + 1 < m ∧ 255 < n) ∨ (i + 1 < m ∧ n ≤ 255 ∧ r ≤ n) ∨ (m ≤ i + 1 ∧ r ≤ n) := by omega
                clear hp hdrop hzp hnr hT hL HI hbad
                rcases hways with ⟨q1, q2⟩ | ⟨q1, q2, q3⟩ | ⟨q1, q2⟩
                all_goals
                  go_wp2_with (first | (go_at_call 58; refine (CN.out _).mono ?_; rintro e w3 ⟨rfl, rfl⟩))
                  go_ret3
                  exact ⟨by rw [hr.out]; exact rfl, hbb⟩
              · by_cases hmore : i + 1 < m
                · have HN : Hid (loopR m 0 0 4294967296 ps = loopR m (i + 1) (o + n * (r / 256)) (r / 256) (ps.drop (i + 1))) := by rw [HLR.out]; simp only; rw [if_neg hbad, if_pos hmore]; exact Lib.hid rfl
                  have q1 : n ≤ 255 := by omega
                  have q2 : n < r := by omega
                  obtain ⟨rm, hrm⟩ : ∃ rm, r / 256 = rm := ⟨_, rfl⟩
                  have hrm2 : rm ≤ 16777216 := by omega
                  have hrmI : (r : Int) / 256 = (rm : Int) := by omega
                  obtain ⟨q, hq⟩ : ∃ q, n * rm = q := ⟨_, rfl⟩
                  have hq2 : q ≤ 255 * 16777216 := by rw [← hq]; exact Nat.mul_le_mul q1 hrm2
                  have hqI : (n : Int) * (rm : Int) = (q : Int) := by rw [← hq]; simp
                  rw [hrm, hq] at HN
                  clear hp hdrop hzp hnr hT hL HI hbad hrm hq
                  go_wp2_with (first | (go_at_call 58; refine (CN.out _).mono ?_; rintro e w3 ⟨rfl, rfl⟩))
                  refine ⟨⟨i + 1, o + q, rm, by go_num, rfl, by go_num, by omega, by omega, by omega, ?_, HN⟩, by simp [intOf]; omega⟩
                  trivial
                · have HN : Hid (loopR m 0 0 4294967296 ps = loopR m (i + 1) (o + n) r (ps.drop (i + 1))) := by rw [HLR.out]; simp only; rw [if_neg hbad, if_neg hmore]; exact Lib.hid rfl
                  have q2 : n < r := by omega
                  have q3 : m ≤ i + 1 := by omega
                  clear hp hdrop hzp hnr hT hL HI hbad hmore
                  go_wp2_with (first | (go_at_call 58; refine (CN.out _).mono ?_; rintro e w3 ⟨rfl, rfl⟩))
                  refine ⟨⟨i + 1, o + n, r, by go_num, rfl, by go_num, by omega, by omega, by omega, ?_, HN⟩, by simp [intOf]; omega⟩
                  trivial
          · obtain rfl : i = m := by omega
            have hr : Hid (ip4R s.data.toList = (o % 4294967296, true, 0)) := by
              rw [HR2.out, HI.out, List.drop_of_length_le (by rw [HM.out]; exact Nat.le_refl _)]; exact Lib.hid rfl
            clear HI
            go_wp2
            go_ret3
            exact ⟨by rw [hr.out]; exact ret_u32 (by first | rfl | omega), hbb⟩
end Go.Proofs.YtmgkmpbblhkacaaGreatDoor
