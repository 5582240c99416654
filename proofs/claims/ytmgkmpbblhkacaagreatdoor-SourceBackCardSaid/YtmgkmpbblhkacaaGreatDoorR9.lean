/- The reference's Path. -/
import Derived.Test.YtmgkmpbblhkacaaGreatDoorMgT
namespace Go.Proofs.YtmgkmpbblhkacaaGreatDoor
open Go.RowKit
set_option linter.unusedSimpArgs false
set_option linter.unusedVariables false

/-- transeptref08.Path's pieces. -/
def pathS (out : List Bs) : List Bs → List Bs
  | [] => out
  | p :: r =>
    if dotsP p = 0 then pathS (out ++ [encP 5 p]) r
    else if r = [] then pathS ((if dotsP p = 2 then out.dropLast else out) ++ [[]]) r
    else pathS (if dotsP p = 2 then out.dropLast else out) r
def joinS : List Bs → Bs
  | [] => []
  | p :: r => 47 :: (p ++ joinS r)
theorem joinS_add (a b : List Bs) : joinS (a ++ b) = joinS a ++ joinS b := by
  induction a with
  | nil => rfl
  | cons x r ih => simp [joinS, ih]
/-- transeptref08.Path. -/
def pathP (s : Bs) : Bs :=
  if joinS (pathS [] (split1 47 (s.drop 1))) = [] then [47] else joinS (pathS [] (split1 47 (s.drop 1)))
theorem dotsP_le (s : Bs) : dotsP s ≤ 2 := by
  unfold dotsP; split
  · omega
  · split
    · omega
    · split <;> omega
set_option maxRecDepth 1000000 in
set_option maxHeartbeats 8000000 in
theorem refPath_any (s : ByteArray) (w : World) (hs : s.size ≤ 300000) :
    Calls Tryz.prog 84 #[.string s] w fun e w' => e = .returned (.string (strOf (pathP s.data.toList))) ∧ Below w.heap.size w w' := by
  have hfirst : (s.toList.isEmpty = true ∧ s.data.toList.drop 1 = s.data.toList) ∨ (s.toList.isEmpty = false ∧ 1 ≤ s.size) := by
    by_cases h0 : s.data.toList = []
    · exact Or.inl ⟨by rw [isEmpty_data, h0]; rfl, by rw [h0]; rfl⟩
    · exact Or.inr ⟨by rw [isEmpty_data]; exact beq_eq_false_iff_ne.2 h0, by rw [Lib.size_eq]; exact List.length_pos_iff.2 h0⟩
  obtain ⟨L, hL⟩ : ∃ L, split1 47 (s.data.toList.drop 1) = L := ⟨_, rfl⟩
  have hmem : ∀ p ∈ L, p.length ≤ 300000 := by
    intro p hp
    rw [← hL] at hp
    have := split1_mem_le 47 _ p hp
    rw [List.length_drop, ← Lib.size_eq] at this
    omega
  have hlen : L.length ≤ 300001 := by
    rw [← hL]
    have := split1_len_le 47 (s.data.toList.drop 1)
    rw [List.length_drop, ← Lib.size_eq] at this
    omega
  have hP : pathP s.data.toList = if joinS (pathS [] L) = [] then [47] else joinS (pathS [] L) := by unfold pathP; rw [hL]
  have CS : ∀ X : ByteArray, X.size ≤ 300000 → X.data.toList = s.data.toList.drop 1 → ∀ w', Calls Tryz.prog 94 #[.string X, .int .u8 47] w' fun e w'' => ∃ (g cp : Nat), e = .returned (.slice (some ⟨g, 0, none⟩) L.length cp) ∧ OwnS w'' w'.heap.size (.slice (some ⟨g, 0, none⟩) L.length cp) L ∧ Below w'.heap.size w' w'' := by
    intro X hz hx w'
    have := refSplit_any X 47 w' (by omega)
    rw [hx, hL] at this
    exact this
  have HCS := Lib.hid CS
  have HP := Lib.hid hP
  have HMEM := Lib.hid hmem
  clear CS hP hmem hL
  obtain ⟨m, hm⟩ : ∃ m, L.length = m := ⟨_, rfl⟩
  rw [hm] at HCS hlen
  have HM := Lib.hid hm
  clear hm
  rcases hfirst with ⟨hemp, hd⟩ | ⟨hemp, hz1⟩
  all_goals
    first
    | have CC := Lib.hid (HCS.out s hs hd.symm)
    | (have CC := Lib.hid (HCS.out (s.extract 1 s.size) (by rw [ByteArray.size_extract]; omega) (by rw [extract_from, strOf_data])); have hl1 : (1 : Int) ≤ (s.size : Int) := by omega)
    clear HCS
    go_enter Tryz.func84, Tryz.ntmps84
    go_wp2_with (first | (go_at_call 94; refine (CC.out _).mono ?_; rintro e w1 ⟨g, cp, rfl, hown, hb1⟩))
    obtain ⟨hv, _⟩ | ⟨g', cp', hv, hgB, hgc, hglt, hgcell⟩ := OwnS.form hown
    · cases hv
    injection hv with hv1 hv2 hv3
    injection hv1 with hv1
    injection hv1 with hv1
    subst hv1; subst hv3
    have HCELL := Lib.hid hgcell
    have hown0 := Lib.hid (OwnS.new w1 w1.heap.size (Nat.le_refl _))
    have hb0 : Below w1.heap.size w1 (w1.alloc (.cells #[] 9)) := (Below.refl _ w1).alloc (Nat.le_refl _) _
    clear hgcell hown hv2 CC
    have hB1 := hb1.size
    go_loopw [4, 5] (fun v vi wr => ∃ (i : Nat) (xs : List Bs) (g2 c2 : Nat), v = .slice (some ⟨g2, 0, none⟩) xs.length c2 ∧ vi = .int .i64 i ∧ i ≤ m ∧ xs.length ≤ i ∧ Below w1.heap.size w1 wr ∧ Hid (OwnS wr w1.heap.size (.slice (some ⟨g2, 0, none⟩) xs.length c2) xs ∧ pathS [] L = pathS xs (L.drop i) ∧ ∀ x ∈ xs, x.length ≤ 900000)) (fun _ vi _ => m - (intOf vi).toNat)
    case atStart => exact ⟨0, [], w1.heap.size, 0, rfl, rfl, by omega, by simp, hb0, Lib.hid ⟨hown0.out, by simp, by simp⟩⟩
    case round =>
      obtain ⟨i, xs, g2, c2, rfl, rfl, hi, hxl, hbw, HI⟩ := hrel
      obtain ⟨wo, rfl⟩ : ∃ wo : World, wo = wr := ⟨_, rfl⟩
      have hB := hbw.size
      have hbb : Below w.heap.size w wo := hb1.trans (hbw.mono hB1)
      by_cases hlt : i < m
      · obtain ⟨p, hp⟩ : ∃ p, L[i]? = some p := ⟨_, List.getElem?_eq_getElem (by rw [HM.out]; exact hlt)⟩
        have hdrop : L.drop i = p :: L.drop (i + 1) := by
          obtain ⟨h1, h2⟩ := List.getElem?_eq_some_iff.1 hp
          rw [List.drop_eq_getElem_cons h1, h2]
        have hpz := HMEM.out p (List.mem_of_getElem? hp)
        have hcell : wo.cell? ⟨g, i, none⟩ = some (.string (strOf p)) := by rw [hbw.cell hglt]; exact HCELL.out i p hp
        have CD := fun w' => refDots_any (strOf p) w' (by rw [strOf_size]; omega)
        have CE := fun w' => Encode_any 5 (strOf p) w' (by rw [strOf_size]; omega) (by omega) (by omega)
        rw [strOf_data] at CD CE
        have hel := encP_len 5 p
        obtain ⟨n, hn⟩ : ∃ n, dotsP p = n := ⟨_, rfl⟩
        have hn2 : n ≤ 2 := by rw [← hn]; exact dotsP_le p
        rw [hn] at CD
        have HD := Lib.hid CD
        have HE := Lib.hid CE
        have HO := Lib.hid HI.out.1
        have HALL := Lib.hid HI.out.2.2
        have hst : pathS [] L = if n = 0 then pathS (xs ++ [encP 5 p]) (L.drop (i + 1)) else if L.drop (i + 1) = [] then pathS ((if n = 2 then xs.dropLast else xs) ++ [[]]) (L.drop (i + 1)) else pathS (if n = 2 then xs.dropLast else xs) (L.drop (i + 1)) := by
          rw [HI.out.2.1, hdrop, pathS, hn]
        have hend : L.drop (i + 1) = [] ↔ i + 1 = m := by rw [List.drop_eq_nil_iff, HM.out]; omega
        obtain ⟨T, hT⟩ : ∃ T, strOf p = T := ⟨_, rfl⟩
        rw [hT] at HD HE hcell
        have HST := Lib.hid hst
        have HEND := Lib.hid hend
        have HEL := Lib.hid hel
        clear CD CE hT hn hdrop hp HI hst hend hel
        by_cases h0 : n = 0
        · subst h0
          have HN : Hid (pathS [] L = pathS (xs ++ [encP 5 p]) (L.drop (i + 1)) ∧ ∀ x ∈ xs ++ [encP 5 p], x.length ≤ 900000) := by
            refine Lib.hid ⟨by rw [HST.out, if_pos rfl], ?_⟩
            intro x hx
            rcases List.mem_append.1 hx with hx | hx
            · exact HALL.out x hx
            · rw [List.mem_singleton.1 hx]; have := HEL.out; omega
          have hpl2 : (xs ++ [encP 5 p]).length ≤ i + 1 := by simp; omega
          have HCE : Hid (∀ W : World, (W.alloc (.cells #[.string (strOf (encP 5 p))] 9)).cell? ⟨W.heap.size, 0, none⟩ = some (.string (strOf (encP 5 p)))) := Lib.hid (by intro W; rw [cells_alloc_new]; rfl)
          clear HST HEND HEL HALL
          go_wp2_with (first | (go_at_call 118; with_reducible refine (HD.out _).mono ?_; rintro e w3 ⟨rfl, rfl⟩) | (go_at_call 49; refine (HE.out _).mono ?_; rintro e w4 ⟨rfl, hb4⟩) | (have hB4 := hb4.size; at_builtin; refine app_str rfl _ _ rfl w1.heap.size _ xs (encP 5 p) rfl ((HO.out.below hb4).below ((Below.refl _ _).alloc (Nat.le_refl _) _)) ⟨w4.heap.size, 0, none⟩ 1 rfl (HCE.out _) (by omega) (by simp; omega) ?_; intro v2 w2 hown2 hg2))
          have hB4 := hb4.size
          have hb2 : Below w1.heap.size w1 w2 := ((hbw.trans (hb4.mono hB)).alloc (by omega) _).grown hg2 (by simp; omega) HO.out.base
          rcases OwnS.form hown2 with ⟨_, h⟩ | ⟨g5, c5, rfl, _⟩
          · simp at h
          · exact ⟨⟨i + 1, _, g5, c5, rfl, rfl, by omega, hpl2, hb2, Lib.hid ⟨hown2, HN.out⟩⟩, by simp [intOf]; omega⟩
        · have hways : (n ≠ 2 ∨ xs.length = 0) ∨ (n = 2 ∧ 0 < xs.length) := by omega
          rcases hways with hk | ⟨rfl, hk0⟩
          · have HS1 : Hid ((if n = 2 then xs.dropLast else xs) = xs) := by
              rcases hk with hk | hk
              · rw [if_neg hk]; exact Lib.hid rfl
              · rw [List.length_eq_zero_iff.1 hk]; exact Lib.hid (by simp)
            have hk' : n = 1 ∨ (n = 2 ∧ xs.length = 0) := by omega
            by_cases hE : i + 1 = m
            · have HN : Hid (pathS [] L = pathS (xs ++ [[]]) (L.drop (i + 1)) ∧ ∀ x ∈ xs ++ [[]], x.length ≤ 900000) := by
                refine Lib.hid ⟨by rw [HST.out, if_neg h0, if_pos (HEND.out.2 hE), HS1.out], ?_⟩
                intro x hx
                rcases List.mem_append.1 hx with hx | hx
                · exact HALL.out x hx
                · rw [List.mem_singleton.1 hx]; simp
              have HLN2 : Hid ((xs ++ [[]]).length ≤ i + 1) := Lib.hid (by simp; omega)
              have HLN : Hid (xs.length ≤ 300001) := Lib.hid (by omega)
              have HCE : Hid (∀ W : World, (W.alloc (.cells #[.string ⟨#[]⟩] 9)).cell? ⟨W.heap.size, 0, none⟩ = some (.string (strOf []))) := Lib.hid (by intro W; rw [cells_alloc_new]; rfl)
              have qE : ((i : Int) + 1 == (m : Int)) = true := beq_iff_eq.2 (by omega)
              clear HST HEND HEL HALL HS1 hk hE h0
              rcases hk' with rfl | ⟨rfl, hk⟩
              · go_wp2_with (first | (go_at_call 118; with_reducible refine (HD.out _).mono ?_; rintro e w3 ⟨rfl, rfl⟩) | (at_builtin; refine app_str rfl _ _ rfl w1.heap.size _ xs [] rfl (HO.out.below ((Below.refl _ _).alloc (Nat.le_refl _) _)) ⟨wo.heap.size, 0, none⟩ 1 rfl (HCE.out _) (by have := HLN.out; omega) (by simp; omega) ?_; intro v2 w2 hown2 hg2))
                rcases OwnS.form hown2 with ⟨_, h⟩ | ⟨g4, c4, rfl, _⟩
                · simp at h
                · have hb2 : Below w1.heap.size w1 w2 := (hbw.alloc hB _).grown hg2 (by simp; omega) HO.out.base
                  exact ⟨⟨i + 1, _, g4, c4, rfl, rfl, by omega, HLN2.out, hb2, Lib.hid ⟨hown2, HN.out⟩⟩, by simp [intOf]; omega⟩
              · obtain rfl := List.length_eq_zero_iff.1 hk
                clear hk
                go_wp2_with (first | (go_at_call 118; with_reducible refine (HD.out _).mono ?_; rintro e w3 ⟨rfl, rfl⟩) | (at_builtin; refine app_str rfl _ _ rfl w1.heap.size _ [] [] rfl (HO.out.below ((Below.refl _ _).alloc (Nat.le_refl _) _)) ⟨wo.heap.size, 0, none⟩ 1 rfl (HCE.out _) (by have := HLN.out; omega) (by simp; omega) ?_; intro v2 w2 hown2 hg2))
                rcases OwnS.form hown2 with ⟨_, h⟩ | ⟨g4, c4, rfl, _⟩
                · simp at h
                · have hb2 : Below w1.heap.size w1 w2 := (hbw.alloc hB _).grown hg2 (by simp; omega) HO.out.base
                  exact ⟨⟨i + 1, _, g4, c4, rfl, rfl, by omega, HLN2.out, hb2, Lib.hid ⟨hown2, HN.out⟩⟩, by simp [intOf]; omega⟩
            · have HN : Hid (pathS [] L = pathS xs (L.drop (i + 1)) ∧ ∀ x ∈ xs, x.length ≤ 900000) := by
                refine Lib.hid ⟨by rw [HST.out, if_neg h0, if_neg (fun h => hE (HEND.out.1 h)), HS1.out], HALL.out⟩
              have qE : ((i : Int) + 1 == (m : Int)) = false := beq_eq_false_iff_ne.2 (by omega)
              clear HST HEND HEL HALL HS1 hk h0
              rcases hk' with rfl | ⟨rfl, hk⟩
              · go_wp2_with (first | (go_at_call 118; with_reducible refine (HD.out _).mono ?_; rintro e w3 ⟨rfl, rfl⟩))
                exact ⟨⟨i + 1, xs, g2, c2, rfl, rfl, by omega, by omega, hbw, Lib.hid ⟨HO.out, HN.out⟩⟩, by simp [intOf]; omega⟩
              · obtain rfl := List.length_eq_zero_iff.1 hk
                clear hk
                go_wp2_with (first | (go_at_call 118; with_reducible refine (HD.out _).mono ?_; rintro e w3 ⟨rfl, rfl⟩))
                exact ⟨⟨i + 1, [], g2, c2, rfl, rfl, by omega, by simp, hbw, Lib.hid ⟨HO.out, HN.out⟩⟩, by simp [intOf]; omega⟩
          · have HF : Hid (OwnS wo w1.heap.size (.slice (some ⟨g2, 0, none⟩) (xs.length - 1) c2) xs.dropLast) := Lib.hid (by have := HO.out.front; rwa [List.length_dropLast] at this)
            have hk0' : (0 : Int) < (xs.length : Int) := by omega
            have t1 : ((xs.length : Int) - 1).toNat = xs.length - 1 := by omega
            have hgc2 : xs.length ≤ c2 := by
              rcases OwnS.form HO.out with ⟨h, _⟩ | ⟨g6, c6, h, _, h2, _⟩
              · cases h
              · injection h with _ _ h3; omega
            have HALL2 : Hid (∀ x ∈ xs.dropLast, x.length ≤ 900000) := Lib.hid fun x hx => HALL.out x (List.dropLast_subset _ hx)
            have HDL : Hid (xs.dropLast.length = xs.length - 1) := Lib.hid (List.length_dropLast)
            by_cases hE : i + 1 = m
            · have HN : Hid (pathS [] L = pathS (xs.dropLast ++ [[]]) (L.drop (i + 1)) ∧ ∀ x ∈ xs.dropLast ++ [[]], x.length ≤ 900000) := by
                refine Lib.hid ⟨by rw [HST.out, if_neg h0, if_pos (HEND.out.2 hE), if_pos rfl], ?_⟩
                intro x hx
                rcases List.mem_append.1 hx with hx | hx
                · exact HALL2.out x hx
                · rw [List.mem_singleton.1 hx]; simp
              have HLN2 : Hid ((xs.dropLast ++ [[]]).length ≤ i + 1) := Lib.hid (by simp; omega)
              have HLN : Hid (xs.dropLast.length ≤ 300001) := Lib.hid (by rw [HDL.out]; omega)
              have HCE : Hid (∀ W : World, (W.alloc (.cells #[.string ⟨#[]⟩] 9)).cell? ⟨W.heap.size, 0, none⟩ = some (.string (strOf []))) := Lib.hid (by intro W; rw [cells_alloc_new]; rfl)
              have qE : ((i : Int) + 1 == (m : Int)) = true := beq_iff_eq.2 (by omega)
              clear HST HEND HEL HALL HALL2 hE h0
              go_wp2_with (first | (go_at_call 118; with_reducible refine (HD.out _).mono ?_; rintro e w3 ⟨rfl, rfl⟩) | (at_builtin; refine app_str rfl _ _ rfl w1.heap.size _ xs.dropLast [] rfl (HF.out.below ((Below.refl _ _).alloc (Nat.le_refl _) _)) ⟨wo.heap.size, 0, none⟩ 1 rfl (HCE.out _) (by have := HLN.out; omega) (by simp; omega) ?_; intro v2 w2 hown2 hg2))
              rcases OwnS.form hown2 with ⟨_, h⟩ | ⟨g4, c4, rfl, _⟩
              · simp at h
              · have hb2 : Below w1.heap.size w1 w2 := (hbw.alloc hB _).grown hg2 (by simp; omega) HF.out.base
                exact ⟨⟨i + 1, _, g4, c4, rfl, rfl, by omega, HLN2.out, hb2, Lib.hid ⟨hown2, HN.out⟩⟩, by simp [intOf]; omega⟩
            · have HN : Hid (pathS [] L = pathS xs.dropLast (L.drop (i + 1)) ∧ ∀ x ∈ xs.dropLast, x.length ≤ 900000) := by
                refine Lib.hid ⟨by rw [HST.out, if_neg h0, if_neg (fun h => hE (HEND.out.1 h)), if_pos rfl], HALL2.out⟩
              have qE : ((i : Int) + 1 == (m : Int)) = false := beq_eq_false_iff_ne.2 (by omega)
              clear HST HEND HEL HALL HALL2 h0
              go_wp2_with (first | (go_at_call 118; with_reducible refine (HD.out _).mono ?_; rintro e w3 ⟨rfl, rfl⟩))
              exact ⟨⟨i + 1, xs.dropLast, g2, c2, by rw [HDL.out], rfl, by omega, by rw [HDL.out]; omega, hbw, Lib.hid ⟨by rw [HDL.out]; exact HF.out, HN.out⟩⟩, by simp [intOf]; omega⟩
      · obtain rfl : i = m := by omega
        have HX : Hid (pathS [] L = xs ∧ OwnS wo w1.heap.size (.slice (some ⟨g2, 0, none⟩) xs.length c2) xs ∧ ∀ x ∈ xs, x.length ≤ 900000) := by
          refine Lib.hid ⟨?_, HI.out.1, HI.out.2.2⟩
          rw [HI.out.2.1, List.drop_of_length_le (by rw [HM.out]; exact Nat.le_refl _)]; rfl
        obtain ⟨hv, _⟩ | ⟨g3, c3, hv, hgB3, hgc3, hglt3, hgcell3⟩ := OwnS.form HX.out.2.1
        · cases hv
        injection hv with hv1 hv2 hv3
        injection hv1 with hv1
        injection hv1 with hv1
        subst hv1; subst hv3
        obtain ⟨K, hK⟩ : ∃ K, xs.length = K := ⟨_, rfl⟩
        have HK := Lib.hid hK
        have HC3 := Lib.hid hgcell3
        rw [hK] at hxl hgc3 ⊢
        clear hgcell3 HI hK hv2
        go_wp2
        go_loopw [7, 8] (fun vt vj wr => ∃ (j : Nat) (q : ByteArray), vt = .string q ∧ vj = .int .i64 j ∧ j ≤ K ∧ q.size ≤ j * 900001 ∧ wo = wr ∧ Hid (q = strOf (joinS (xs.take j)))) (fun _ vj _ => K - (intOf vj).toNat)
        case atStart => exact ⟨0, ⟨#[]⟩, rfl, rfl, by omega, by decide, rfl, Lib.hid rfl⟩
        case round =>
          obtain ⟨j, q, rfl, rfl, hj, hq, rfl, HQ⟩ := hrel
          by_cases hjl : j < K
          · obtain ⟨p, hp⟩ : ∃ p, xs[j]? = some p := ⟨_, List.getElem?_eq_getElem (by rw [HK.out]; exact hjl)⟩
            have hcell := HC3.out j p hp
            have hpz := HX.out.2.2 p (List.mem_of_getElem? hp)
            have HN : Hid (q ++ strOf [47] ++ strOf p = strOf (joinS (xs.take (j + 1)))) := by
              rw [HQ.out, List.take_add_one, hp, joinS_add, strOf_append]
              refine Lib.hid ?_
              simp [joinS, ← strOf_append]
            obtain ⟨T, hT⟩ : ∃ T, strOf p = T := ⟨_, rfl⟩
            have hTz : T.size ≤ 900000 := by rw [← hT, strOf_size]; exact hpz
            rw [hT] at hcell HN
            have hs1 : ¬ 9223372036854775807 < q.size + 1 := by omega
            have hs2 : ¬ 9223372036854775807 < q.size + 1 + T.size := by omega
            clear hp hT hpz
            go_wp2
            exact ⟨⟨j + 1, _, rfl, rfl, by omega, by have h47 : (ByteArray.mk #[47]).size = 1 := rfl; simp only [ByteArray.size_append, h47]; omega, trivial, HN⟩, by simp [intOf]; omega⟩
          · obtain rfl : j = K := by omega
            have hr : Hid (pathP s.data.toList = if q.data.toList = [] then [47] else q.data.toList) := by
              have e : joinS (pathS [] L) = q.data.toList := by rw [HQ.out, strOf_data, HX.out.1, List.take_of_length_le (by rw [HK.out]; exact Nat.le_refl _)]
              rw [HP.out, e]; exact Lib.hid rfl
            by_cases hqe : q.data.toList = []
            · have hqm : q.toList.isEmpty = true := by rw [isEmpty_data, hqe]; rfl
              have hr2 : Hid (pathP s.data.toList = [47]) := by rw [hr.out, if_pos hqe]; exact Lib.hid rfl
              clear hr hqe
              go_wp2
              go_ret
              exact ⟨by rw [hr2.out]; exact rfl, hbb⟩
            · have hqm : q.toList.isEmpty = false := by rw [isEmpty_data]; exact beq_eq_false_iff_ne.2 hqe
              have hr2 : Hid (strOf (pathP s.data.toList) = q) := by rw [hr.out, if_neg hqe]; exact Lib.hid (str_of q _ rfl).symm
              clear hr hqe
              go_wp2
              go_ret
              exact ⟨by rw [hr2.out]; exact rfl, hbb⟩
end Go.Proofs.YtmgkmpbblhkacaaGreatDoor
