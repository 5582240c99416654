/- SourceWords: the walk. -/
import Derived.Test.YtmgkmpbblhkacaaGreatDoorMgU
import Derived.Test.YtmgkmpbblhkacaaGreatDoorMgY
import Derived.Deep.RegionHeld3
namespace Go.Proofs.YtmgkmpbblhkacaaGreatDoor
open Go.RowKit Go.MapKept
set_option linter.unusedSimpArgs false
set_option linter.unusedVariables false

/-- What source.Match says of a source in quotes that is not 'self': nothing, whatever the URLs. -/
theorem match_none (x : SrcL) (u v : UrlL) (red : Bool) (w : World) (h : x.kind = 0 ∨ x.kind = 5 ∨ x.kind = 6 ∨ x.kind = 7) :
    Calls Tryz.prog 14 #[srcVal x, urlVal u, urlVal v, .bool red] w fun e w' => e = .returned (.bool false) ∧ Below w.heap.size w w' :=
  match_other (strOf u.sc) (strOf u.ho) (strOf u.pa) (strOf u.qu) (strOf u.fr) (strOf v.sc) (strOf v.ho) (strOf v.pa) (strOf v.qu) (strOf v.fr) (strOf x.sc) (strOf x.ho) (strOf x.pa) (strOf x.tx) x.kind u.po v.po x.po red w (by omega) (by omega) (by omega) (by omega)
set_option maxRecDepth 1000000 in
set_option maxHeartbeats 8000000 in
theorem sourceWords_any (s a b : ByteArray) (red : Bool) (w : World) (hs : s.size ≤ 9223372036854775807) (ha : a.size ≤ 9223372036854775807) (hb : b.size ≤ 9223372036854775807) (hG : GLS w) :
    Calls Tryz.prog 7 #[.string s, .string a, .string b, .bool red] w fun e w' => e = .returned (.bool true) ∧ Below w.heap.size w w' := by
  have HS := Lib.hid (shown_any w hG)
  have HG := Lib.hid hG
  obtain ⟨ks, hks⟩ : ∃ ks : Nat, min (s.size : Int) 200 = (ks : Int) := ⟨min s.size 200, by omega⟩
  obtain ⟨ka, hka⟩ : ∃ ka : Nat, min (a.size : Int) 200 = (ka : Int) := ⟨min a.size 200, by omega⟩
  obtain ⟨kb, hkb⟩ : ∃ kb : Nat, min (b.size : Int) 200 = (kb : Int) := ⟨min b.size 200, by omega⟩
  have ls : ks ≤ s.size := by omega
  have la : ka ≤ a.size := by omega
  have lb : kb ≤ b.size := by omega
  obtain ⟨S, hS⟩ : ∃ S, s.extract 0 ks = S := ⟨_, rfl⟩
  obtain ⟨A, hA⟩ : ∃ A, a.extract 0 ka = A := ⟨_, rfl⟩
  obtain ⟨B, hB⟩ : ∃ B, b.extract 0 kb = B := ⟨_, rfl⟩
  have hSz : S.size ≤ 200 := by rw [← hS, ByteArray.size_extract]; omega
  have hAz : A.size ≤ 200 := by rw [← hA, ByteArray.size_extract]; omega
  have hBz : B.size ≤ 200 := by rw [← hB, ByteArray.size_extract]; omega
  have CP := fun w' (hG' : GLS w') => sourceParse_any S w' (by omega) hG'.toGL
  have CA := fun w' => url_any A w' (by omega)
  have CB := fun w' => url_any B w' (by omega)
  obtain ⟨ua, hua⟩ : ∃ u, urlA A.data.toList = u := ⟨_, rfl⟩
  obtain ⟨ub, hub⟩ : ∃ u, urlA B.data.toList = u := ⟨_, rfl⟩
  rw [hua] at CA
  rw [hub] at CB
  obtain ⟨r, hr⟩ : ∃ r, srcP S.data.toList = r := ⟨_, rfl⟩
  rw [hr] at CP
  have HP := Lib.hid CP
  clear CP hr hG
  cases r with
  | none =>
    clear CA CB hua hub
    go_enter Tryz.func7, Tryz.ntmps7
    go_wp2_with fail
    refine HS.out.mono ?_
    rintro e w1 ⟨rfl, hb1⟩
    have hG1 := HG.out.below hb1
    go_wp2_with fail
    refine (HP.out _ hG1).mono ?_
    rintro e w2 ⟨he, hb2⟩
    obtain rfl : e = .returned (.tuple #[.agg #[.int .i64 0, .string ⟨#[]⟩, .string ⟨#[]⟩, .int .i64 0, .string ⟨#[]⟩, .string ⟨#[]⟩], .bool false]) := he
    have hbw2 := hb1.trans (hb2.mono hb1.size)
    go_wp2
    go_ret
    exact ⟨rfl, hbw2.alloc hbw2.size _⟩
  | some x =>
    have hway : (x.kind = 0 ∨ x.kind = 5 ∨ x.kind = 6 ∨ x.kind = 7) ∨ ((x.kind == 0) = false ∧ (x.kind == 5) = false ∧ (x.kind == 6) = false ∧ (x.kind == 7) = false) := by
      by_cases h0 : x.kind = 0
      · exact Or.inl (Or.inl h0)
      · by_cases h5 : x.kind = 5
        · exact Or.inl (Or.inr (Or.inl h5))
        · by_cases h6 : x.kind = 6
          · exact Or.inl (Or.inr (Or.inr (Or.inl h6)))
          · by_cases h7 : x.kind = 7
            · exact Or.inl (Or.inr (Or.inr (Or.inr h7)))
            · exact Or.inr ⟨beq_eq_false_iff_ne.2 h0, beq_eq_false_iff_ne.2 h5, beq_eq_false_iff_ne.2 h6, beq_eq_false_iff_ne.2 h7⟩
    have CM := fun (h : x.kind = 0 ∨ x.kind = 5 ∨ x.kind = 6 ∨ x.kind = 7) w' => match_none x ua ub red w' h
    obtain ⟨VA, hVA⟩ : ∃ v, urlVal ua = v := ⟨_, rfl⟩
    obtain ⟨VB, hVB⟩ : ∃ v, urlVal ub = v := ⟨_, rfl⟩
    rw [hVA] at CA CM
    rw [hVB] at CB CM
    have hVV : ∃ V : ByteArray → Value, V A = VA ∧ V B = VB ∧ ∀ (X : ByteArray) (w' : World), X.size ≤ 200 → Calls Tryz.prog 13 #[.string X] w' fun e w'' => e = .returned (V X) ∧ Below w'.heap.size w' w'' :=
      ⟨fun X => urlVal (urlA X.data.toList), by show urlVal (urlA A.data.toList) = VA; rw [hua, hVA], by show urlVal (urlA B.data.toList) = VB; rw [hub, hVB], fun X w' hX => url_any X w' (by omega)⟩
    obtain ⟨V, hV1, hV2, hVC⟩ := hVV
    have HV2 := Lib.hid hVC
    have HM0 := Lib.hid CM
    clear CA CB CM hVA hVB hua hub hVC
    obtain ⟨k, xs, xh, xn, xp, xt⟩ := x
    obtain ⟨XS, h1⟩ : ∃ b, strOf xs = b := ⟨_, rfl⟩
    obtain ⟨XH, h2⟩ : ∃ b, strOf xh = b := ⟨_, rfl⟩
    obtain ⟨XP, h3⟩ : ∃ b, strOf xp = b := ⟨_, rfl⟩
    obtain ⟨XT, h4⟩ : ∃ b, strOf xt = b := ⟨_, rfl⟩
    have hv : srcVal ⟨k, xs, xh, xn, xp, xt⟩ = .agg #[.int .i64 k, .string XS, .string XH, .int .i64 xn, .string XP, .string XT] := by
      unfold srcVal; rw [h1, h2, h3, h4]
    rw [hv] at HM0
    have HV := Lib.hid hv
    clear h1 h2 h3 h4 hv
    simp only at hway HM0
    rcases hway with hk | ⟨k0, k5, k6, k7⟩
    · have HM := Lib.hid (HM0.out hk)
      clear HM0
      have hw : (k != 0) = false ∨ ((k != 0) = true ∧ (k != 5) = false) ∨ ((k != 0) = true ∧ (k != 5) = true ∧ (k != 6) = false) ∨ ((k != 0) = true ∧ (k != 5) = true ∧ (k != 6) = true ∧ (k != 7) = false) := by
        rcases hk with rfl | rfl | rfl | rfl
        · exact Or.inl rfl
        · exact Or.inr (Or.inl ⟨rfl, rfl⟩)
        · exact Or.inr (Or.inr (Or.inl ⟨rfl, rfl, rfl⟩))
        · exact Or.inr (Or.inr (Or.inr ⟨rfl, rfl, rfl, rfl⟩))
      clear hk
      have hund : undef = Value.tuple #[] := rfl
      rcases hw with n0 | ⟨n0, n5⟩ | ⟨n0, n5, n6⟩ | ⟨n0, n5, n6, n7⟩
      all_goals
        go_enter Tryz.func7, Tryz.ntmps7
        go_wp2_with fail
        refine HS.out.mono ?_
        rintro e w1 ⟨rfl, hb1⟩
        have hG1 := HG.out.below hb1
        go_wp2_with fail
        refine (HP.out _ hG1).mono ?_
        rintro e w2 ⟨he, hb2⟩
        obtain rfl := (show e = .returned (.tuple #[_, .bool true]) from he)
        rw [HV.out]
        have hbw2 := hb1.trans (hb2.mono hb1.size)
        clear hb1 hb2
        go_upto_region 3 with fail
        obtain ⟨w3, hw3⟩ : ∃ w3, w2.alloc (.cells #[.int .i64 k, .string XS, .string XH, .int .i64 xn, .string XP, .string XT] 24) = w3 := ⟨_, rfl⟩
        have hX3 : w3.heap[w2.heap.size]? = some (.cells #[.int .i64 k, .string XS, .string XH, .int .i64 xn, .string XP, .string XT] 24 (0, 0)) := by rw [← hw3]; exact heap_alloc_new _ _
        have hbw3 : Below w.heap.size w w3 := by rw [← hw3]; exact hbw2.alloc hbw2.size _
        rw [hw3]
        have hG3 := HG.out.below hbw3
        clear hw3
        obtain ⟨c0, c1, c2, c3, c4, c5⟩ := six_cells hX3
        have tok1 : True := trivial
        go_upto_region 5 with fail
        go_region_held3 (fun w' : World => w'.cell? ⟨w2.heap.size, 0, none⟩ = some (.int .i64 k) ∧ w'.cell? ⟨w2.heap.size, 1, none⟩ = some (.string XS) ∧ w'.cell? ⟨w2.heap.size, 2, none⟩ = some (.string XH) ∧ w'.cell? ⟨w2.heap.size, 3, none⟩ = some (.int .i64 xn) ∧ w'.cell? ⟨w2.heap.size, 4, none⟩ = some (.string XP) ∧ w'.cell? ⟨w2.heap.size, 5, none⟩ = some (.string XT) ∧ Below w3.heap.size w3 w')
          (first | exact six_held hX3 (Below.drew (Below.refl _ _)) | assumption | exact six_held hX3 (held_trans (by assumption) hb4))
          (first | (go_at_call 13; refine (HV2.out _ _ (by first | assumption | omega)).mono ?_; rintro e w4 ⟨rfl, hb4⟩) | (go_at_call 14; refine (HM.out _).mono ?_; rintro e w4 ⟨rfl, hb4⟩))
        all_goals
          rename_i hheld
          have hbw6 := hbw3.trans (hheld.2.2.2.2.2.2.mono hbw3.size)
          go_wp2
          go_ret
          exact ⟨rfl, hbw6⟩
    · clear HV2 HM0
      go_enter Tryz.func7, Tryz.ntmps7
      go_wp2_with fail
      refine HS.out.mono ?_
      rintro e w1 ⟨rfl, hb1⟩
      have hG1 := HG.out.below hb1
      go_wp2_with fail
      refine (HP.out _ hG1).mono ?_
      rintro e w2 ⟨he, hb2⟩
      obtain rfl := (show e = .returned (.tuple #[_, .bool true]) from he)
      rw [HV.out]
      have hbw2 := hb1.trans (hb2.mono hb1.size)
      clear hb1 hb2
      have n0 : (k != 0) = true := by unfold bne; rw [k0]; rfl
      have n5 : (k != 5) = true := by unfold bne; rw [k5]; rfl
      have n6 : (k != 6) = true := by unfold bne; rw [k6]; rfl
      have n7 : (k != 7) = true := by unfold bne; rw [k7]; rfl
      go_wp2
      go_ret
      exact ⟨rfl, hbw2.alloc hbw2.size _⟩
end Go.Proofs.YtmgkmpbblhkacaaGreatDoor
