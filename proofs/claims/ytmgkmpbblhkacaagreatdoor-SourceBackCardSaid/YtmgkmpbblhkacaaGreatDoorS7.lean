/- source.hosted. -/
import Derived.Test.YtmgkmpbblhkacaaGreatDoorS6
namespace Go.Proofs.YtmgkmpbblhkacaaGreatDoor
open Go.RowKit
set_option linter.unusedSimpArgs false
set_option linter.unusedVariables false

/-- The scheme, what is behind it, is it one? -/
def hostS1 (s : Bs) : Bs × Bs × Bool :=
  if (Lib.cut s [58, 47, 47]).2.2 = true ∧ Lib.contains (Lib.cut s [58, 47, 47]).1 [47] = false then (lowS (Lib.cut s [58, 47, 47]).1, (Lib.cut s [58, 47, 47]).2.1, schemeP (Lib.cut s [58, 47, 47]).1)
  else ([], s, true)
/-- What is ahead of the path; the path; is it one? -/
def hostS2 (r : Bs) : Bs × Bs × Bool :=
  if 0 ≤ Lib.indexByte r 47 then (r.take (Lib.indexByte r 47).toNat, r.drop (Lib.indexByte r 47).toNat, !badP (strOf (r.drop (Lib.indexByte r 47).toNat)))
  else (r, [], true)
/-- The host; its port. -/
def hostS3 (r : Bs) : Bs × Option Int := ((Lib.cut r [58]).1, if (Lib.cut r [58]).2.2 = true then portS (Lib.cut r [58]).2.1 else some (-1))
def hostOK (h : Bs) : Bool := (h == [42]) || labelsP (Lib.trimPrefix h [42, 46])
def hostFin (sc pa h : Bs) (ok : Bool) (po : Option Int) : Option SrcL :=
  match po with
  | none => none
  | some q => if ok = true ∧ hostOK h = true then some ⟨3, sc, lowS h, q, pa, []⟩ else none
/-- source.hosted. -/
def hostedS (s : Bs) : Option SrcL :=
  hostFin (hostS1 s).1 (hostS2 (hostS1 s).2.1).2.1 (hostS3 (hostS2 (hostS1 s).2.1).1).1 ((hostS1 s).2.2 && (hostS2 (hostS1 s).2.1).2.2) (hostS3 (hostS2 (hostS1 s).2.1).1).2
def HostedEnd (r : Option SrcL) (e : Ending) : Prop :=
  match r with
  | some x => e = .returned (.tuple #[srcVal x, .bool true])
  | none => ∃ (a : Int) (b c : ByteArray) (d : Int) (f g : ByteArray), e = .returned (.tuple #[.agg #[.int .i64 a, .string b, .string c, .int .i64 d, .string f, .string g], .bool false])
theorem lib_TrimStar (s : ByteArray) (w : World) :
    Calls Tryz.prog 44 #[.string s, .string ⟨#[42, 46]⟩] w fun e w' => e = .returned (.string (strOf (Lib.trimPrefix s.data.toList [42, 46]))) ∧ w = w' :=
  (Tryz.strings_TrimPrefix s ⟨#[42, 46]⟩ w).mono fun _ _ ⟨h, h2⟩ => ⟨h, h2.symm⟩
set_option maxRecDepth 1000000 in
set_option maxHeartbeats 20000000 in
theorem hosted_any (s : ByteArray) (w : World) (hs : s.size ≤ 100000) (hG : GL w) :
    Calls Tryz.prog 24 #[.string s] w fun e w' => HostedEnd (hostedS s.data.toList) e ∧ Below w.heap.size w w' := by
  obtain ⟨ct, hct⟩ : ∃ ct, Lib.cut s.data.toList [58, 47, 47] = ct := ⟨_, rfl⟩
  obtain ⟨p1, hp1⟩ : ∃ p1, hostS1 s.data.toList = p1 := ⟨_, rfl⟩
  have hP1 : p1 = if ct.2.2 = true ∧ Lib.contains ct.1 [47] = false then (lowS ct.1, ct.2.1, schemeP ct.1) else ([], s.data.toList, true) := by rw [← hp1]; unfold hostS1; rw [hct]
  have CC : ∀ w', GL w' → Calls Tryz.prog 32 #[.string s, .string ⟨#[58, 47, 47]⟩] w' fun e w'' => e = .returned (.tuple #[.string (strOf ct.1), .string (strOf ct.2.1), .bool ct.2.2]) ∧ Below w'.heap.size w' w'' := by
    intro w' hG'; have := lib_Cut s ⟨#[58, 47, 47]⟩ w' hG' (by omega); rw [show (⟨#[58, 47, 47]⟩ : ByteArray).data.toList = [58, 47, 47] from rfl, hct] at this; exact this
  have hz1 : (strOf ct.1).size ≤ 100000 := by rw [strOf_size]; have := cut_len1 s.data.toList [58, 47, 47]; rw [hct, ← Lib.size_eq] at this; omega
  have hz2 : (strOf ct.2.1).size ≤ 100000 := by rw [strOf_size]; have := cut_len2 s.data.toList [58, 47, 47]; rw [hct, ← Lib.size_eq] at this; omega
  have hr : hostedS s.data.toList = hostFin p1.1 (hostS2 p1.2.1).2.1 (hostS3 (hostS2 p1.2.1).1).1 (p1.2.2 && (hostS2 p1.2.1).2.2) (hostS3 (hostS2 p1.2.1).1).2 := by unfold hostedS; rw [hp1]
  have HR := Lib.hid hr
  have HCC := Lib.hid CC
  have HP1 := Lib.hid hP1
  have HGL := Lib.hid hG
  clear CC hP1 hp1 hct hG hr
  obtain ⟨a, v, is⟩ := ct
  simp only at HCC HP1 hz1 hz2
  obtain ⟨A, hA⟩ : ∃ A, strOf a = A := ⟨_, rfl⟩
  obtain ⟨V, hV⟩ : ∃ V, strOf v = V := ⟨_, rfl⟩
  have hAl : A.data.toList = a := by rw [← hA, strOf_data]
  rw [hA, hV] at HCC
  rw [hA] at hz1
  rw [hV] at hz2
  have CK : Hid (∀ w', GL w' → Calls Tryz.prog 36 #[.string A, .string ⟨#[47]⟩] w' fun e w'' => e = .returned (.bool (Lib.contains a [47])) ∧ w' = w'') := by
    refine Lib.hid fun w' hG' => ?_
    have := lib_Contains A ⟨#[47]⟩ w' hG' (by omega)
    rw [hAl] at this
    exact this
  have CL : Hid (∀ w', GL w' → Calls Tryz.prog 23 #[.string A] w' fun e w'' => e = .returned (.string (strOf (lowS a))) ∧ Below w'.heap.size w' w'') := by
    refine Lib.hid fun w' hG' => ?_
    have := lower_any A w' (by omega) hG'
    rw [hAl] at this
    exact this
  have CS : Hid (∀ w', GL w' → Calls Tryz.prog 22 #[.string A] w' fun e w'' => e = .returned (.bool (schemeP a)) ∧ Below w'.heap.size w' w'') := by
    refine Lib.hid fun w' hG' => ?_
    have := sourceScheme_any A w' (by omega) hG'
    rw [hAl] at this
    exact this
  have HV := Lib.hid hV
  clear hA hAl hV
  go_enter Tryz.func24, Tryz.ntmps24
  go_wp2_with fail
  refine (HCC.out _ ?_).mono ?_
  · exact (HGL.out.alloc _).alloc _
  rintro e w1 ⟨rfl, hb1⟩
  obtain ⟨hA1, hX1, hs1, hbw1⟩ := two_blocks hb1
  have hG1 := HGL.out.below hbw1
  clear hb1
  obtain ⟨g0, g1, g2, g3, g4, g5⟩ := six_free hX1
  obtain ⟨u0, u1, u2, u3, u4, u5⟩ := six_cells hX1
  go_upto_region 4 with fail
  obtain ⟨kb, hkb⟩ : ∃ kb, Lib.contains a [47] = kb := ⟨_, rfl⟩
  rw [hkb] at CK HP1
  clear hkb
  go_cut [25] (fun v25 wc => v25 = .bool (is && !kb) ∧ wc = w1)
  case first =>
    cases is with
    | false =>
      go_wp2_with fail
      go_meet
      exact ⟨rfl, rfl⟩
    | true =>
      cases kb with
      | false =>
        go_wp2_with (go_at_call 36; refine (CK.out _ hG1).mono ?_; rintro e w2 ⟨rfl, rfl⟩)
        go_meet
        exact ⟨rfl, rfl⟩
      | true =>
        go_wp2_with (go_at_call 36; refine (CK.out _ hG1).mono ?_; rintro e w2 ⟨rfl, rfl⟩)
        go_meet
        exact ⟨rfl, rfl⟩
  case rest =>
  obtain ⟨rfl, rfl⟩ := hcut
  go_upto_if 25 with fail
  go_cut [0, 5] (fun v0 v5 wc => ∃ SB : ByteArray, v0 = .string SB ∧ v5 = .bool p1.2.2 ∧ SB.size ≤ 100000 ∧ Hid (SB.data.toList = p1.2.1) ∧ wc.heap[w.heap.size + 1]? = some (.cells #[.int .i64 3, .string (strOf p1.1), .string ⟨#[]⟩, .int .i64 (-1), .string ⟨#[]⟩, .string ⟨#[]⟩] 24 (0, 0)) ∧ wc.heap[w.heap.size]? = some (.cells #[.int .i64 0, .string ⟨#[]⟩, .string ⟨#[]⟩, .int .i64 0, .string ⟨#[]⟩, .string ⟨#[]⟩] 24 (0, 0)) ∧ Below w.heap.size w wc ∧ w.heap.size + 2 ≤ wc.heap.size)
  case first =>
    have hno : Hid ((is && !kb) = false → p1 = ([], s.data.toList, true)) := Lib.hid (fun h => by
      rw [HP1.out, if_neg]
      rintro ⟨h1, h2⟩
      rw [h1, h2] at h
      cases h)
    cases hcb : (is && !kb) with
    | false =>
      have HE := Lib.hid (hno.out hcb)
      clear hno HP1 hcb
      go_wp2_with fail
      go_meet
      exact ⟨s, rfl, by rw [HE.out], by omega, by rw [HE.out]; exact Lib.hid rfl, by rw [HE.out]; exact hX1, hA1, hbw1, hs1⟩
    | true =>
        have hik : is = true ∧ kb = false := by
          revert hcb
          cases is <;> cases kb <;> simp
        obtain ⟨rfl, rfl⟩ := hik
        clear hcb
        have e : p1 = (lowS a, v, schemeP a) := by rw [HP1.out, if_pos ⟨rfl, rfl⟩]
        have HE := Lib.hid e
        clear e hno HP1
        go_wp2_with fail
        refine (CL.out _ hG1).mono ?_
        rintro e w2 ⟨rfl, hb2⟩
        have hX2 := block_past hX1 hb2
        have hA2 := block_past hA1 hb2
        have hbw2 := hbw1.trans (hb2.mono (by omega))
        have hs2 := hb2.size
        have hG2 := HGL.out.below hbw2
        clear hX1 hA1 hb2
        go_wp2_with fail
        refine (CS.out _ hG2).mono ?_
        rintro e w3 ⟨rfl, hb3⟩
        have hX3 := block_past hX2 hb3
        have hA3 := block_past hA2 hb3
        have hbw3 := hbw2.trans (hb3.mono (by omega))
        have hs3 := hb3.size
        clear hX2 hA2 hb3
        have gg := frozen_of_heap hX3 1
        have uu := cell_of_heap hX3 1
        go_wp2_with fail
        go_meet
        exact ⟨V, rfl, by rw [HE.out], by omega, by rw [HE.out, ← HV.out]; exact Lib.hid (strOf_data v), by rw [HE.out]; exact heap_setCell_at hX3 1 _, block_past_set hA3 (by omega), hbw3.setCell (Nat.le_succ _) _, by rw [size_setCell]; omega⟩
  case rest =>
  obtain ⟨SB, rfl, rfl, hSz, HSB, hX2, hA2, hbw2, hs2⟩ := hcut
  obtain ⟨w2, rfl⟩ : ∃ w2 : World, w2 = wc := ⟨_, rfl⟩
  clear HP1 CL CS CK HCC HV hX1 hA1 g0 g1 g2 g3 g4 g5 u0 u1 u2 u3 u4 u5
  obtain ⟨sc, r, ok1⟩ := p1
  simp only at HSB hX2 HR ⊢
  obtain ⟨ix, hix⟩ : ∃ ix, Lib.indexByte r 47 = ix := ⟨_, rfl⟩
  have hixlt : ix < r.length := by rw [← hix]; exact indexByte_lt r 47
  have CI : ∀ w', Calls Tryz.prog 39 #[.string SB, .int .u8 47] w' fun e w'' => e = .returned (.int .i64 ix) ∧ w' = w'' := by
    intro w'; have := lib_IndexByte SB 47 w'; rw [HSB.out] at this; rw [← hix]; exact this
  have HCI := Lib.hid CI
  have hrz : r.length = SB.size := by rw [← HSB.out, ← Lib.size_eq]
  obtain ⟨p2, hp2⟩ : ∃ p2, hostS2 r = p2 := ⟨_, rfl⟩
  have hP2 : p2 = if 0 ≤ ix then (r.take ix.toNat, r.drop ix.toNat, !badP (strOf (r.drop ix.toNat))) else (r, [], true) := by rw [← hp2]; unfold hostS2; rw [hix]
  have HP2 := Lib.hid hP2
  have hixlt' : ix < SB.size := by omega
  rw [hp2] at HR
  clear CI hix hP2 hp2 hrz hixlt
  obtain ⟨g0, g1, g2, g3, g4, g5⟩ := six_free hX2
  obtain ⟨u0, u1, u2, u3, u4, u5⟩ := six_cells hX2
  go_upto_if 35 with (go_at_call 39; refine (HCI.out _).mono ?_; rintro e w3 ⟨rfl, rfl⟩)
  go_cut [0, 5] (fun v0 v5 wc => ∃ SB : ByteArray, v0 = .string SB ∧ v5 = .bool (ok1 && p2.2.2) ∧ SB.size ≤ 100000 ∧ Hid (SB.data.toList = p2.1) ∧ wc.heap[w.heap.size + 1]? = some (.cells #[.int .i64 3, .string (strOf sc), .string ⟨#[]⟩, .int .i64 (-1), .string (strOf p2.2.1), .string ⟨#[]⟩] 24 (0, 0)) ∧ wc.heap[w.heap.size]? = some (.cells #[.int .i64 0, .string ⟨#[]⟩, .string ⟨#[]⟩, .int .i64 0, .string ⟨#[]⟩, .string ⟨#[]⟩] 24 (0, 0)) ∧ Below w.heap.size w wc ∧ w.heap.size + 2 ≤ wc.heap.size)
  case first =>
    by_cases hge : 0 ≤ ix
    · obtain ⟨j, rfl⟩ : ∃ j : Nat, ix = j := ⟨ix.toNat, by omega⟩
      have hjle : (j : Int) ≤ SB.size := by omega
      have e : p2 = (r.take j, r.drop j, !badP (strOf (r.drop j))) := by rw [HP2.out, if_pos hge]; rfl
      obtain ⟨HB, hHB⟩ : ∃ HB, SB.extract 0 j = HB := ⟨_, rfl⟩
      obtain ⟨PB, hPB⟩ : ∃ PB, SB.extract j SB.size = PB := ⟨_, rfl⟩
      have hHl : HB.data.toList = r.take j := by rw [← hHB, extract_strOf, strOf_data, HSB.out]; simp
      have hPl : PB = strOf (r.drop j) := by rw [← hPB, extract_from, HSB.out]
      have hHz : HB.size ≤ 100000 := by rw [← hHB, ByteArray.size_extract]; omega
      have CB : Hid (∀ w', Calls Tryz.prog 40 #[.string PB, .func (.func 41) #[] #[]] w' fun e w'' => e = .returned (.bool (badP PB)) ∧ Below w'.heap.size w' w'') := Lib.hid (fun w' => lib_ContainsPath PB w')
      obtain ⟨bp, hbp⟩ : ∃ bp, badP PB = bp := ⟨_, rfl⟩
      rw [hbp] at CB
      rw [← hPl, hbp] at e
      have HE := Lib.hid e
      have HHl := Lib.hid hHl
      have HPl := Lib.hid hPl
      clear e hbp HP2 hHl hPl hge
      go_wp2_with fail
      go_region_with (fail)
      all_goals
        obtain ⟨w3, hw3⟩ : ∃ w3, (w2.setCell ⟨w.heap.size + 1, 4, none⟩ (.string PB)).drew = w3 := ⟨_, rfl⟩
        have hX3 : w3.heap[w.heap.size + 1]? = some (.cells #[.int .i64 3, .string (strOf sc), .string ⟨#[]⟩, .int .i64 (-1), .string PB, .string ⟨#[]⟩] 24 (0, 0)) := by rw [← hw3]; exact heap_setCell_at hX2 4 _
        have hA3 : w3.heap[w.heap.size]? = some (.cells #[.int .i64 0, .string ⟨#[]⟩, .string ⟨#[]⟩, .int .i64 0, .string ⟨#[]⟩, .string ⟨#[]⟩] 24 (0, 0)) := by rw [← hw3]; exact block_past_set (c := w.heap.size + 1) (k := 4) (v := .string PB) hA2 (by omega)
        have hbw3 : Below w.heap.size w w3 := by rw [← hw3]; exact Below.drew (hbw2.setCell (Nat.le_succ _) _)
        have hs3 : w.heap.size + 2 ≤ w3.heap.size := by rw [← hw3]; show _ ≤ (w2.setCell _ _).heap.size; rw [size_setCell]; exact hs2
        rw [hw3]
        clear hw3 hX2 hA2 hbw2 hs2 u0 u1 u2 u3 u4 u5 g0 g1 g2 g3 g4 g5
        have uu := cell_of_heap hX3 4
        cases ok1 with
        | false =>
          go_wp2_with fail
          go_meet
          exact ⟨HB, rfl, by rw [HE.out]; rfl, hHz, by rw [HE.out]; exact HHl, by rw [HE.out, ← HPl.out]; exact hX3, hA3, hbw3, hs3⟩
        | true =>
          go_wp2_with (go_at_call 40; refine (CB.out _).mono ?_; rintro e w4 ⟨rfl, hb4⟩)
          go_meet
          exact ⟨HB, rfl, by rw [HE.out]; rfl, hHz, by rw [HE.out]; exact HHl, by rw [HE.out, ← HPl.out]; exact block_past hX3 hb4, block_past hA3 hb4, hbw3.trans (hb4.mono (by omega)), by have := hb4.size; omega⟩
    · have e : p2 = (r, [], true) := by rw [HP2.out, if_neg hge]
      have HE := Lib.hid e
      clear e HP2
      go_wp2_with fail
      go_meet
      exact ⟨SB, rfl, by rw [HE.out, Bool.and_true], hSz, by rw [HE.out]; exact HSB, by rw [HE.out]; exact hX2, hA2, hbw2, hs2⟩
  case rest =>
  obtain ⟨HB, rfl, rfl, hHz, HHB, hX4, hA4, hbw4, hs4⟩ := hcut
  obtain ⟨w4, rfl⟩ : ∃ w4 : World, w4 = wc := ⟨_, rfl⟩
  clear HP2 HCI
  obtain ⟨hh, pa, ok2'⟩ := p2
  simp only at HHB hX4 HR ⊢
  obtain ⟨ok2, hok2⟩ : ∃ ok2, (ok1 && ok2') = ok2 := ⟨_, rfl⟩
  rw [hok2] at HR ⊢
  clear hok2
  obtain ⟨PA, hPA⟩ : ∃ PA, strOf pa = PA := ⟨_, rfl⟩
  rw [hPA] at hX4
  obtain ⟨ct2, hct2⟩ : ∃ ct2, Lib.cut hh [58] = ct2 := ⟨_, rfl⟩
  obtain ⟨po, hpo⟩ : ∃ po, (hostS3 hh).2 = po := ⟨_, rfl⟩
  have hPO : po = if ct2.2.2 = true then portS ct2.2.1 else some (-1) := by rw [← hpo]; unfold hostS3; rw [hct2]
  have hH1 : (hostS3 hh).1 = ct2.1 := by unfold hostS3; rw [hct2]
  rw [hpo, hH1] at HR
  have CC2 : ∀ w', GL w' → Calls Tryz.prog 32 #[.string HB, .string ⟨#[58]⟩] w' fun e w'' => e = .returned (.tuple #[.string (strOf ct2.1), .string (strOf ct2.2.1), .bool ct2.2.2]) ∧ Below w'.heap.size w' w'' := by
    intro w' hG'; have := lib_Cut HB ⟨#[58]⟩ w' hG' (by omega); rw [show (⟨#[58]⟩ : ByteArray).data.toList = [58] from rfl, HHB.out, hct2] at this; exact this
  have hz3 : (strOf ct2.1).size ≤ 100000 := by rw [strOf_size]; have := cut_len1 hh [58]; rw [hct2] at this; rw [Lib.size_eq, HHB.out] at hHz; omega
  have hz4 : (strOf ct2.2.1).size ≤ 100000 := by rw [strOf_size]; have := cut_len2 hh [58]; rw [hct2] at this; rw [Lib.size_eq, HHB.out] at hHz; omega
  have HCC2 := Lib.hid CC2
  have HPO := Lib.hid hPO
  have HPA := Lib.hid hPA
  clear CC2 hPO hH1 hpo hct2 hPA
  obtain ⟨h3, p3, is3⟩ := ct2
  simp only at HCC2 HPO HR hz3 hz4
  obtain ⟨H3, hH3⟩ : ∃ H3, strOf h3 = H3 := ⟨_, rfl⟩
  obtain ⟨P3, hP3⟩ : ∃ P3, strOf p3 = P3 := ⟨_, rfl⟩
  have hH3l : H3.data.toList = h3 := by rw [← hH3, strOf_data]
  have hP3l : P3.data.toList = p3 := by rw [← hP3, strOf_data]
  rw [hH3, hP3] at HCC2
  rw [hH3] at hz3
  rw [hP3] at hz4
  have CP : Hid (∀ w', GL w' → Calls Tryz.prog 42 #[.string P3] w' fun e w'' => PortEnd (portS p3) e ∧ Below w'.heap.size w' w'') := by
    refine Lib.hid fun w' hG' => ?_
    have := sourcePort_any P3 w' (by omega) hG'
    rw [hP3l] at this
    exact this
  have HH3 := Lib.hid hH3l
  have hG4 := HGL.out.below hbw4
  clear hH3 hP3 hH3l hP3l
  go_wp2_with fail
  refine (HCC2.out _ hG4).mono ?_
  rintro e w5 ⟨rfl, hb5⟩
  have hX5 := block_past hX4 hb5
  have hA5 := block_past hA4 hb5
  have hbw5 := hbw4.trans (hb5.mono (by omega))
  have hs5 := hb5.size
  have hG5 := HGL.out.below hbw5
  clear hX4 hA4 hb5
  go_upto_if 56 with fail
  go_cut [5] (fun v5 wc => ∃ (b : Bool) (q : Int), v5 = .bool b ∧ Hid ((po = none → b = false) ∧ ∀ z, po = some z → b = ok2 ∧ q = z) ∧ wc.heap[w.heap.size + 1]? = some (.cells #[.int .i64 3, .string (strOf sc), .string ⟨#[]⟩, .int .i64 q, .string PA, .string ⟨#[]⟩] 24 (0, 0)) ∧ wc.heap[w.heap.size]? = some (.cells #[.int .i64 0, .string ⟨#[]⟩, .string ⟨#[]⟩, .int .i64 0, .string ⟨#[]⟩, .string ⟨#[]⟩] 24 (0, 0)) ∧ Below w.heap.size w wc ∧ w.heap.size + 2 ≤ wc.heap.size)
  case first =>
    cases is3 with
    | false =>
      have e : po = some (-1) := by rw [HPO.out, if_neg (by simp)]
      have HE := Lib.hid e
      clear e HPO
      go_wp2_with fail
      go_meet
      exact ⟨ok2, -1, rfl, Lib.hid ⟨fun h => (by rw [HE.out] at h; cases h), fun z h => (by rw [HE.out] at h; cases h; exact ⟨rfl, rfl⟩)⟩, hX5, hA5, hbw5, by omega⟩
    | true =>
      have e : po = portS p3 := by rw [HPO.out, if_pos rfl]
      have g3 := frozen_of_heap hX5 3
      have c3 := cell_of_heap hX5 3
      cases hpp : portS p3 with
      | none =>
        rw [hpp] at CP e
        have HE := Lib.hid e
        clear e HPO hpp
        go_wp2_with fail
        refine (CP.out _ hG5).mono ?_
        rintro e w6 ⟨⟨n, rfl⟩, hb6⟩
        have hX6 := block_past hX5 hb6
        have hA6 := block_past hA5 hb6
        have hbw6 := hbw5.trans (hb6.mono (by omega))
        have hs6 := hb6.size
        clear hb6 hX5 hA5 g3 c3
        have g3 := frozen_of_heap hX6 3
        have c3 := cell_of_heap hX6 3
        cases ok2 with
        | false =>
          go_wp2_with fail
          go_meet
          exact ⟨false, n, rfl, Lib.hid ⟨fun h => rfl, fun z h => (by rw [HE.out] at h; cases h)⟩, heap_setCell_at hX6 3 _, block_past_set hA6 (by omega), hbw6.setCell (Nat.le_succ _) _, by rw [size_setCell]; omega⟩
        | true =>
          go_wp2_with fail
          go_meet
          exact ⟨false, n, rfl, Lib.hid ⟨fun h => rfl, fun z h => (by rw [HE.out] at h; cases h)⟩, heap_setCell_at hX6 3 _, block_past_set hA6 (by omega), hbw6.setCell (Nat.le_succ _) _, by rw [size_setCell]; omega⟩
      | some n =>
        rw [hpp] at CP e
        have HE := Lib.hid e
        clear e HPO hpp
        go_wp2_with fail
        refine (CP.out _ hG5).mono ?_
        rintro e w6 ⟨rfl, hb6⟩
        have hX6 := block_past hX5 hb6
        have hA6 := block_past hA5 hb6
        have hbw6 := hbw5.trans (hb6.mono (by omega))
        have hs6 := hb6.size
        clear hb6 hX5 hA5 g3 c3
        have g3 := frozen_of_heap hX6 3
        have c3 := cell_of_heap hX6 3
        cases ok2 with
        | false =>
          go_wp2_with fail
          go_meet
          exact ⟨false, n, rfl, Lib.hid ⟨fun h => rfl, fun z h => (by rw [HE.out] at h; cases h; exact ⟨rfl, rfl⟩)⟩, heap_setCell_at hX6 3 _, block_past_set hA6 (by omega), hbw6.setCell (Nat.le_succ _) _, by rw [size_setCell]; omega⟩
        | true =>
          go_wp2_with fail
          go_meet
          exact ⟨true, n, rfl, Lib.hid ⟨fun h => (by rw [HE.out] at h; cases h), fun z h => (by rw [HE.out] at h; cases h; exact ⟨rfl, rfl⟩)⟩, heap_setCell_at hX6 3 _, block_past_set hA6 (by omega), hbw6.setCell (Nat.le_succ _) _, by rw [size_setCell]; omega⟩
  case rest =>
  obtain ⟨ok3, q, rfl, HB3, hX7, hA7, hbw7, hs7⟩ := hcut
  obtain ⟨w7, rfl⟩ : ∃ w7 : World, w7 = wc := ⟨_, rfl⟩
  clear hX5 hA5 HPO CP HCC2
  have hG7 := HGL.out.below hbw7
  have CLH : Hid (∀ w', GL w' → Calls Tryz.prog 23 #[.string H3] w' fun e w'' => e = .returned (.string (strOf (lowS h3))) ∧ Below w'.heap.size w' w'') := by
    refine Lib.hid fun w' hG' => ?_
    have := lower_any H3 w' (by omega) hG'
    rw [HH3.out] at this
    exact this
  obtain ⟨LH, hLH⟩ : ∃ LH, strOf (lowS h3) = LH := ⟨_, rfl⟩
  rw [hLH] at CLH
  have HLH := Lib.hid hLH
  clear hLH
  go_wp2_with fail
  refine (CLH.out _ hG7).mono ?_
  rintro e w8 ⟨rfl, hb8⟩
  have hX8 := block_past hX7 hb8
  have hA8 := block_past hA7 hb8
  have hbw8 := hbw7.trans (hb8.mono (by omega))
  have hs8 := hb8.size
  clear hX7 hA7 hb8
  have g2 := frozen_of_heap hX8 2
  have c2 := cell_of_heap hX8 2
  go_wp2_with fail
  obtain ⟨w9, hw9⟩ : ∃ w9, w8.setCell ⟨w.heap.size + 1, 2, none⟩ (.string LH) = w9 := ⟨_, rfl⟩
  have hX9 : w9.heap[w.heap.size + 1]? = some (.cells #[.int .i64 3, .string (strOf sc), .string LH, .int .i64 q, .string PA, .string ⟨#[]⟩] 24 (0, 0)) := by rw [← hw9]; exact heap_setCell_at hX8 2 _
  have hA9 := block_past_set (c := w.heap.size + 1) (k := 2) (v := .string LH) hA8 (by omega)
  have hbw9 : Below w.heap.size w w9 := by rw [← hw9]; exact hbw8.setCell (Nat.le_succ _) _
  rw [hw9] at hA9 ⊢
  have hG9 := HGL.out.below hbw9
  clear hw9 hX8 hA8 hbw8 g2 c2 hs8 hs7
  obtain ⟨c0, c1, c2, c3, c4, c5⟩ := six_cells hX9
  obtain ⟨l0, l1, l2, l3, l4, l5⟩ := six_cells hA9
  obtain ⟨f0, f1, f2, f3, f4, f5⟩ := six_free hA9
  have hbd : Below w.heap.size w w9.drew := Below.drew hbw9
  cases ok3 with
  | false =>
    have hr : Hid (hostedS s.data.toList = none) := by
      rw [HR.out]
      cases po with
      | none => exact Lib.hid rfl
      | some z =>
        have := (HB3.out.2 z rfl).1
        unfold hostFin
        rw [← this]
        exact Lib.hid rfl
    have hk : HostedEnd (hostedS s.data.toList) (.returned (.tuple #[.agg #[.int .i64 3, .string (strOf sc), .string LH, .int .i64 q, .string PA, .string ⟨#[]⟩], .bool false])) := by
      rw [hr.out]; exact ⟨_, _, _, _, _, _, rfl⟩
    have HK := Lib.hid hk
    clear HB3 HR hk hr
    have hund : undef = Value.tuple #[] := rfl
    first | go_region_with (fail) | fail "region"
    all_goals
      clear hund hX9 hA9
      go_wp2
      exact bodyPost_ret (v := .tuple #[.agg #[.int .i64 3, .string (strOf sc), .string LH, .int .i64 q, .string PA, .string ⟨#[]⟩], .bool false]) (by simp [results, Tryz.results24, go_sem, l0, l1, l2, l3, l4, l5]) rfl ⟨HK.out, Below.drew ((((((hbw9.setCell (Nat.le_refl _) _).setCell (Nat.le_refl _) _).setCell (Nat.le_refl _) _).setCell (Nat.le_refl _) _).setCell (Nat.le_refl _) _).setCell (Nat.le_refl _) _)⟩
  | true =>
    have hpo : po = some q ∧ ok2 = true := by
      cases hp : po with
      | none => exact absurd (HB3.out.1 hp) (by simp)
      | some z =>
        have h := HB3.out.2 z hp
        exact ⟨by rw [h.2], h.1.symm⟩
    have hf : hostedS s.data.toList = if hostOK h3 = true then some ⟨3, sc, lowS h3, q, pa, []⟩ else none := by
      rw [HR.out, hpo.1, hpo.2]
      unfold hostFin
      by_cases hk : hostOK h3 = true
      · rw [if_pos hk]; exact if_pos ⟨rfl, hk⟩
      · rw [if_neg hk]; exact if_neg (fun h => hk h.2)
    have HF := Lib.hid hf
    have hgood : Hid (hostOK h3 = true → HostedEnd (hostedS s.data.toList) (.returned (.tuple #[.agg #[.int .i64 3, .string (strOf sc), .string LH, .int .i64 q, .string PA, .string ⟨#[]⟩], .bool true]))) := by
      refine Lib.hid fun hk => ?_
      rw [HF.out, if_pos hk, ← HLH.out, ← HPA.out]
      exact rfl
    have hbad : Hid (hostOK h3 = false → HostedEnd (hostedS s.data.toList) (.returned (.tuple #[.agg #[.int .i64 3, .string (strOf sc), .string LH, .int .i64 q, .string PA, .string ⟨#[]⟩], .bool false]))) := by
      refine Lib.hid fun hk => ?_
      rw [HF.out, hk, if_neg (by simp)]
      exact ⟨_, _, _, _, _, _, rfl⟩
    clear hf hpo HB3 HR HF
    by_cases h42 : h3 = [42]
    · have hs3 : H3 = ⟨#[42]⟩ := str_of H3 [42] (HH3.out.trans h42)
      subst hs3
      have hk := hgood.out (by unfold hostOK; rw [h42]; rfl)
      have HK := Lib.hid hk
      clear hk hgood hbad h42
      first | go_region_with (fail) | fail "region"
      all_goals
        clear hX9 hA9
        go_wp2
        exact bodyPost_ret (v := .tuple #[.agg #[.int .i64 3, .string (strOf sc), .string LH, .int .i64 q, .string PA, .string ⟨#[]⟩], .bool true]) (by simp [results, Tryz.results24, go_sem, l0, l1, l2, l3, l4, l5]) rfl ⟨HK.out, Below.drew ((((((hbw9.setCell (Nat.le_refl _) _).setCell (Nat.le_refl _) _).setCell (Nat.le_refl _) _).setCell (Nat.le_refl _) _).setCell (Nat.le_refl _) _).setCell (Nat.le_refl _) _)⟩
    · have hne := str_ne H3 [42] (by rw [HH3.out]; exact h42)
      obtain ⟨TP, hTP⟩ : ∃ TP, strOf (Lib.trimPrefix h3 [42, 46]) = TP := ⟨_, rfl⟩
      have hTPl : TP.data.toList = Lib.trimPrefix h3 [42, 46] := by rw [← hTP, strOf_data]
      have hTPz : TP.size ≤ 1000000 := by
        rw [← hTP, strOf_size]
        have : (Lib.trimPrefix h3 [42, 46]).length ≤ h3.length := by unfold Lib.trimPrefix; split <;> simp
        rw [Lib.size_eq, HH3.out] at hz3
        omega
      have CT : Hid (∀ w', Calls Tryz.prog 44 #[.string H3, .string ⟨#[42, 46]⟩] w' fun e w'' => e = .returned (.string TP) ∧ w' = w'') := by
        refine Lib.hid fun w' => ?_
        have := lib_TrimStar H3 w'
        rw [HH3.out, hTP] at this
        exact this
      obtain ⟨lb, hlb⟩ : ∃ lb, labelsP (Lib.trimPrefix h3 [42, 46]) = lb := ⟨_, rfl⟩
      have CLB : Hid (∀ w', GL w' → Calls Tryz.prog 43 #[.string TP] w' fun e w'' => e = .returned (.bool lb) ∧ Below w'.heap.size w' w'') := by
        refine Lib.hid fun w' hG' => ?_
        have := labels_any TP w' hTPz hG'
        rw [hTPl, hlb] at this
        exact this
      have hok : hostOK h3 = lb := by unfold hostOK; rw [beq_eq_false_iff_ne.2 h42, hlb]; rfl
      rw [hok] at hgood hbad
      clear hok hlb hTPl hTP h42
      cases lb with
      | true =>
        have hk := hgood.out rfl
        have HK := Lib.hid hk
        clear hk hgood hbad
        first | go_region_with (first | (go_at_call 44; refine (CT.out _).mono ?_; rintro e w10 ⟨rfl, rfl⟩) | (go_at_call 43; refine (CLB.out _ (by first | exact hG9.drew | exact hG9)).mono ?_; rintro e w10 ⟨rfl, hb10⟩; have hX10 := block_past_drew hX9 hb10; have hA10 := block_past_drew hA9 hb10; have hbw10 := hbw9.trans ((below_past_drew hb10).mono hbw9.size); have hu := six_cells hX10; have hf := six_free hA10; have hx := six_cells hA10; obtain ⟨i0, i1, i2, i3, i4, i5⟩ := hu; obtain ⟨j0, j1, j2, j3, j4, j5⟩ := hf; obtain ⟨l0, l1, l2, l3, l4, l5⟩ := hx)) | fail "region"
        all_goals
          clear hX9 hA9
          go_wp2
          exact bodyPost_ret (v := .tuple #[.agg #[.int .i64 3, .string (strOf sc), .string LH, .int .i64 q, .string PA, .string ⟨#[]⟩], .bool true]) (by simp [results, Tryz.results24, go_sem, l0, l1, l2, l3, l4, l5]) rfl ⟨HK.out, (((((hbw10.setCell (Nat.le_refl _) _).setCell (Nat.le_refl _) _).setCell (Nat.le_refl _) _).setCell (Nat.le_refl _) _).setCell (Nat.le_refl _) _).setCell (Nat.le_refl _) _⟩
      | false =>
        have hk := hbad.out rfl
        have HK := Lib.hid hk
        clear hk hgood hbad
        first | go_region_with (first | (go_at_call 44; refine (CT.out _).mono ?_; rintro e w10 ⟨rfl, rfl⟩) | (go_at_call 43; refine (CLB.out _ (by first | exact hG9.drew | exact hG9)).mono ?_; rintro e w10 ⟨rfl, hb10⟩; have hX10 := block_past_drew hX9 hb10; have hA10 := block_past_drew hA9 hb10; have hbw10 := hbw9.trans ((below_past_drew hb10).mono hbw9.size); have hu := six_cells hX10; have hf := six_free hA10; have hx := six_cells hA10; obtain ⟨i0, i1, i2, i3, i4, i5⟩ := hu; obtain ⟨j0, j1, j2, j3, j4, j5⟩ := hf; obtain ⟨l0, l1, l2, l3, l4, l5⟩ := hx)) | fail "region"
        all_goals
          clear hX9 hA9
          go_wp2
          exact bodyPost_ret (v := .tuple #[.agg #[.int .i64 3, .string (strOf sc), .string LH, .int .i64 q, .string PA, .string ⟨#[]⟩], .bool false]) (by simp [results, Tryz.results24, go_sem, l0, l1, l2, l3, l4, l5]) rfl ⟨HK.out, (((((hbw10.setCell (Nat.le_refl _) _).setCell (Nat.le_refl _) _).setCell (Nat.le_refl _) _).setCell (Nat.le_refl _) _).setCell (Nat.le_refl _) _).setCell (Nat.le_refl _) _⟩
end Go.Proofs.YtmgkmpbblhkacaaGreatDoor
