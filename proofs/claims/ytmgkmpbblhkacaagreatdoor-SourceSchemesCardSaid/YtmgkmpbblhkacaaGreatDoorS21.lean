/- SourceSchemes: the walk. -/
import Derived.Test.YtmgkmpbblhkacaaGreatDoorMgU
import Derived.Test.YtmgkmpbblhkacaaGreatDoorFive
namespace Go.Proofs.YtmgkmpbblhkacaaGreatDoor
open Go.RowKit Go.MapKept
set_option linter.unusedSimpArgs false
set_option linter.unusedVariables false

/-- The known schemes. -/
def schL : List Bs := [sHttp, sHttps, sWs, sWss, sData, sBlob, sAbout]
theorem schL_ne : ∀ x ∈ schL, x ≠ [] := by decide
theorem host_star (f t : Bs) (n : Int) (hf : f ≠ []) : hostM f [42] [] (-2) t [97] [47] t n false = togetherP f t := by
  unfold hostM
  rw [if_neg hf, show nameM [42] [97] = true by decide, show pathM [] [47] false = true by decide, show portM (-2) n t = true by unfold portM; simp]
  simp
theorem host_own (f t : Bs) (n : Int) : hostM [] [97] [] (-2) t [97] [47] f n false = togetherP f t := by
  unfold hostM
  rw [if_pos rfl, show nameM [97] [97] = true by decide, show pathM [] [47] false = true by decide, show portM (-2) n t = true by unfold portM; simp]
  simp
set_option maxRecDepth 1000000 in
set_option maxHeartbeats 40000000 in
theorem sourceSchemes_any (a b port : Int) (w : World) (hG : GLS w) :
    Calls Tryz.prog 8 #[.int .i64 a, .int .i64 b, .int .i64 port] w fun e w' => e = .returned (.bool true) ∧ Below w.heap.size w w' := by
  have HS := Lib.hid (shown_any w hG)
  have HG := Lib.hid hG
  obtain ⟨n, hn⟩ : ∃ n, bits .and .i64 port 65535 = n := ⟨_, rfl⟩
  obtain ⟨p0, hp0, hpe⟩ := i64_and16 a
  obtain ⟨q0, hq0, hqe⟩ := i64_and16 b
  obtain ⟨p, hp⟩ : ∃ p, p0 % 7 = p := ⟨_, rfl⟩
  obtain ⟨q, hq⟩ : ∃ q, q0 % 7 = q := ⟨_, rfl⟩
  have hpt : Int.tmod (p0 : Int) 7 = (p : Int) := by rw [← hp]; simp [Int.tmod_eq_emod_of_nonneg]
  have hqt : Int.tmod (q0 : Int) 7 = (q : Int) := by rw [← hq]; simp [Int.tmod_eq_emod_of_nonneg]
  have hpl : p < 7 := by omega
  have hql : q < 7 := by omega
  obtain ⟨F, hF⟩ : ∃ F : ByteArray, F = strOf (schL.getD p []) := ⟨_, rfl⟩
  obtain ⟨T, hT⟩ : ∃ T : ByteArray, T = strOf (schL.getD q []) := ⟨_, rfl⟩
  have hFl : F.data.toList = schL.getD p [] := by rw [hF, strOf_data]
  have hTl : T.data.toList = schL.getD q [] := by rw [hT, strOf_data]
  have hne : F.data.toList ≠ [] := by
    rw [hFl]
    rcases p with _ | _ | _ | _ | _ | _ | _ | p
    all_goals first | decide | omega
  have hcF : (#[.string ⟨#[104, 116, 116, 112]⟩, .string ⟨#[104, 116, 116, 112, 115]⟩, .string ⟨#[119, 115]⟩, .string ⟨#[119, 115, 115]⟩, .string ⟨#[100, 97, 116, 97]⟩, .string ⟨#[98, 108, 111, 98]⟩, .string ⟨#[97, 98, 111, 117, 116]⟩] : Array Value)[p]? = some (.string F) := by
    rw [hF]
    rcases p with _ | _ | _ | _ | _ | _ | _ | p
    all_goals first | rfl | (exfalso; omega)
  have hcT : (#[.string ⟨#[104, 116, 116, 112]⟩, .string ⟨#[104, 116, 116, 112, 115]⟩, .string ⟨#[119, 115]⟩, .string ⟨#[119, 115, 115]⟩, .string ⟨#[100, 97, 116, 97]⟩, .string ⟨#[98, 108, 111, 98]⟩, .string ⟨#[97, 98, 111, 117, 116]⟩] : Array Value)[q]? = some (.string T) := by
    rw [hT]
    rcases q with _ | _ | _ | _ | _ | _ | _ | q
    all_goals first | rfl | (exfalso; omega)
  obtain ⟨tg, htg⟩ : ∃ tg, togetherP F.data.toList T.data.toList = tg := ⟨_, rfl⟩
  have C1 : ∀ w', GLS w' → Calls Tryz.prog 14 #[.agg #[.int .i64 2, .string F, .string ⟨#[]⟩, .int .i64 (-1), .string ⟨#[]⟩, .string ⟨#[]⟩], .agg #[.string T, .string ⟨#[97]⟩, .int .i64 n, .string ⟨#[47]⟩, .string ⟨#[]⟩, .string ⟨#[]⟩], .agg #[.string T, .string ⟨#[97]⟩, .int .i64 n, .string ⟨#[47]⟩, .string ⟨#[]⟩, .string ⟨#[]⟩], .bool false] w' fun e w'' => e = .returned (.bool tg) ∧ Below w'.heap.size w' w'' := by
    intro w' hG'
    have h := match_scheme T ⟨#[97]⟩ ⟨#[47]⟩ ⟨#[]⟩ ⟨#[]⟩ T ⟨#[97]⟩ ⟨#[47]⟩ ⟨#[]⟩ ⟨#[]⟩ F ⟨#[]⟩ ⟨#[]⟩ ⟨#[]⟩ n n (-1) false w' hG'
    rw [htg] at h
    exact h
  have hTz : T.size ≤ 1000000 := by
    rw [hT, strOf_size]
    rcases q with _ | _ | _ | _ | _ | _ | _ | q
    all_goals first | decide | omega
  have C2 : ∀ w', GLS w' → Calls Tryz.prog 14 #[.agg #[.int .i64 3, .string F, .string ⟨#[42]⟩, .int .i64 (-2), .string ⟨#[]⟩, .string ⟨#[]⟩], .agg #[.string T, .string ⟨#[97]⟩, .int .i64 n, .string ⟨#[47]⟩, .string ⟨#[]⟩, .string ⟨#[]⟩], .agg #[.string T, .string ⟨#[97]⟩, .int .i64 n, .string ⟨#[47]⟩, .string ⟨#[]⟩, .string ⟨#[]⟩], .bool false] w' fun e w'' => e = .returned (.bool tg) ∧ Below w'.heap.size w' w'' := by
    intro w' hG'
    have h := match_host T ⟨#[97]⟩ ⟨#[47]⟩ ⟨#[]⟩ ⟨#[]⟩ T ⟨#[97]⟩ ⟨#[47]⟩ ⟨#[]⟩ ⟨#[]⟩ F ⟨#[42]⟩ ⟨#[]⟩ ⟨#[]⟩ n n (-2) false w' (by decide) (by decide) (by decide) (by decide) hG'
    rw [show hostM F.data.toList (⟨#[42]⟩ : ByteArray).data.toList (⟨#[]⟩ : ByteArray).data.toList (-2) T.data.toList (⟨#[97]⟩ : ByteArray).data.toList (⟨#[47]⟩ : ByteArray).data.toList T.data.toList n false = tg from (host_star _ _ n hne).trans htg] at h
    exact h
  have C3 : ∀ w', GLS w' → Calls Tryz.prog 14 #[.agg #[.int .i64 3, .string ⟨#[]⟩, .string ⟨#[97]⟩, .int .i64 (-2), .string ⟨#[]⟩, .string ⟨#[]⟩], .agg #[.string T, .string ⟨#[97]⟩, .int .i64 n, .string ⟨#[47]⟩, .string ⟨#[]⟩, .string ⟨#[]⟩], .agg #[.string F, .string ⟨#[115]⟩, .int .i64 (-1), .string ⟨#[47]⟩, .string ⟨#[]⟩, .string ⟨#[]⟩], .bool false] w' fun e w'' => e = .returned (.bool tg) ∧ Below w'.heap.size w' w'' := by
    intro w' hG'
    have h := match_host T ⟨#[97]⟩ ⟨#[47]⟩ ⟨#[]⟩ ⟨#[]⟩ F ⟨#[115]⟩ ⟨#[47]⟩ ⟨#[]⟩ ⟨#[]⟩ ⟨#[]⟩ ⟨#[97]⟩ ⟨#[]⟩ ⟨#[]⟩ n (-1) (-2) false w' (by decide) (by decide) (by decide) (by decide) hG'
    rw [show hostM (⟨#[]⟩ : ByteArray).data.toList (⟨#[97]⟩ : ByteArray).data.toList (⟨#[]⟩ : ByteArray).data.toList (-2) T.data.toList (⟨#[97]⟩ : ByteArray).data.toList (⟨#[47]⟩ : ByteArray).data.toList F.data.toList n false = tg from (host_own _ _ n).trans htg] at h
    exact h
  obtain ⟨dv, hdv⟩ : ∃ dv, defP T.data.toList = dv := ⟨_, rfl⟩
  have CD := fun w' => refDefault_any T w'
  rw [hdv] at CD
  have HD := Lib.hid CD
  have HDV := Lib.hid hdv
  clear CD hdv
  have H1 := Lib.hid C1
  have H2 := Lib.hid C2
  have H3 := Lib.hid C3
  have HTG := Lib.hid htg
  have HFl := Lib.hid hFl
  have HTl := Lib.hid hTl
  have HcF := Lib.hid hcF
  have HcT := Lib.hid hcT
  clear C1 C2 C3 htg hFl hTl hF hT hne hp hq hG hcF hcT
  go_enter Tryz.func8, Tryz.ntmps8
  go_wp2_with fail
  refine HS.out.mono ?_
  rintro e w1 ⟨rfl, hb1⟩
  have hG1 := HG.out.below hb1
  have hA : (w1.alloc (.cells #[.string ⟨#[104, 116, 116, 112]⟩, .string ⟨#[104, 116, 116, 112, 115]⟩, .string ⟨#[119, 115]⟩, .string ⟨#[119, 115, 115]⟩, .string ⟨#[100, 97, 116, 97]⟩, .string ⟨#[98, 108, 111, 98]⟩, .string ⟨#[97, 98, 111, 117, 116]⟩] 9)).heap[w1.heap.size]? = some (.cells #[.string ⟨#[104, 116, 116, 112]⟩, .string ⟨#[104, 116, 116, 112, 115]⟩, .string ⟨#[119, 115]⟩, .string ⟨#[119, 115, 115]⟩, .string ⟨#[100, 97, 116, 97]⟩, .string ⟨#[98, 108, 111, 98]⟩, .string ⟨#[97, 98, 111, 117, 116]⟩] 9 (0, 0)) := heap_alloc_new w1 _
  have hcf := (cell_of_heap hA p).trans HcF.out
  have hct := (cell_of_heap hA q).trans HcT.out
  clear hA
  go_upto_region 5 with fail
  go_cut [11] (fun v wc => v = .bool tg ∧ wc = w1.alloc (.cells #[.string ⟨#[104, 116, 116, 112]⟩, .string ⟨#[104, 116, 116, 112, 115]⟩, .string ⟨#[119, 115]⟩, .string ⟨#[119, 115, 115]⟩, .string ⟨#[100, 97, 116, 97]⟩, .string ⟨#[98, 108, 111, 98]⟩, .string ⟨#[97, 98, 111, 117, 116]⟩] 9))
  case first =>
    clear H1 H2 H3 hcf hct
    rcases p with _ | _ | _ | _ | _ | _ | _ | p
    all_goals try (exfalso; omega)
    all_goals
      rcases q with _ | _ | _ | _ | _ | _ | _ | q
    all_goals try (exfalso; omega)
    all_goals
      have eF := HFl.out
      have eT := HTl.out
      obtain rfl := str_of F _ eF
      obtain rfl := str_of T _ eT
      clear eF eT
      have hd := HDV.out
      simp [defP, strOf, sHttp, sHttps, sWs, sWss, sData, sBlob, sAbout, schL] at hd
      subst hd
      clear HDV HcF HcT HFl HTl
      simp only [schL, strOf, sHttp, sHttps, sWs, sWss, sData, sBlob, sAbout, List.getD_cons_zero, List.getD_cons_succ] at HD HTG ⊢
      go_wp2_with (go_at_call 17; refine (HD.out _).mono ?_; rintro e w2 ⟨rfl, rfl⟩)
      go_meet
      refine ⟨?_, rfl⟩
      rw [← HTG.out]
      rfl
  case rest =>
  obtain ⟨rfl, rfl⟩ := hcut
  obtain ⟨w2, hw2⟩ : ∃ w2, w1.alloc (.cells #[.string ⟨#[104, 116, 116, 112]⟩, .string ⟨#[104, 116, 116, 112, 115]⟩, .string ⟨#[119, 115]⟩, .string ⟨#[119, 115, 115]⟩, .string ⟨#[100, 97, 116, 97]⟩, .string ⟨#[98, 108, 111, 98]⟩, .string ⟨#[97, 98, 111, 117, 116]⟩] 9) = w2 := ⟨_, rfl⟩
  have hbw2 : Below w.heap.size w w2 := by rw [← hw2]; exact hb1.alloc hb1.size _
  have hG2 := HG.out.below hbw2
  rw [hw2]
  clear hw2 hcf hct hb1 hG1
  obtain ⟨h1, h2, h3, h4, h5, hbn⟩ := five_blocks w2 (.cells #[.int .i64 2, .string F, .string ⟨#[]⟩, .int .i64 (-1), .string ⟨#[]⟩, .string ⟨#[]⟩] 24) (.cells #[.int .i64 3, .string F, .string ⟨#[42]⟩, .int .i64 (-2), .string ⟨#[]⟩, .string ⟨#[]⟩] 24) (.cells #[.int .i64 3, .string ⟨#[]⟩, .string ⟨#[97]⟩, .int .i64 (-2), .string ⟨#[]⟩, .string ⟨#[]⟩] 24) (.cells #[.string T, .string ⟨#[97]⟩, .int .i64 n, .string ⟨#[47]⟩, .string ⟨#[]⟩, .string ⟨#[]⟩] 28) (.cells #[.string F, .string ⟨#[115]⟩, .int .i64 (-1), .string ⟨#[47]⟩, .string ⟨#[]⟩, .string ⟨#[]⟩] 28)
  have hG3 := hG2.below hbn
  have hb3 := hbw2.trans (hbn.mono hbw2.size)
  clear hbn
  cases tg with
  | true => 
    go_wp2_with fail
    refine (H1.out _ hG3).mono ?_
    rintro e w4 ⟨rfl, hb4⟩
    have h2' := block_past h2 hb4
    have h3' := block_past h3 hb4
    have h4' := block_past h4 hb4
    have h5' := block_past h5 hb4
    have hG4 := hG3.below hb4
    have hb4' := hb3.trans (hb4.mono hb3.size)
    clear h1 h2 h3 h4 h5 hb4
    obtain ⟨x0, x1, x2, x3, x4, x5⟩ := six_cells h2'
    obtain ⟨y0, y1, y2, y3, y4, y5⟩ := six_cells h4'
    go_wp2_with fail
    refine (H2.out _ hG4).mono ?_
    rintro e w5 ⟨rfl, hb5⟩
    have h3'' := block_past h3' hb5
    have h4'' := block_past h4' hb5
    have h5'' := block_past h5' hb5
    have hG5 := hG4.below hb5
    have hb5' := hb4'.trans (hb5.mono hb4'.size)
    clear h2' h3' h4' h5' hb5 x0 x1 x2 x3 x4 x5 y0 y1 y2 y3 y4 y5
    obtain ⟨x0, x1, x2, x3, x4, x5⟩ := six_cells h3''
    obtain ⟨y0, y1, y2, y3, y4, y5⟩ := six_cells h4''
    obtain ⟨z0, z1, z2, z3, z4, z5⟩ := six_cells h5''
    go_wp2_with fail
    refine (H3.out _ hG5).mono ?_
    rintro e w6 ⟨rfl, hb6⟩
    have hb6' := hb5'.trans (hb6.mono hb5'.size)
    go_wp2
    go_ret
    exact ⟨rfl, hb6'⟩
  | false => 
    go_wp2_with fail
    refine (H1.out _ hG3).mono ?_
    rintro e w4 ⟨rfl, hb4⟩
    have h2' := block_past h2 hb4
    have h3' := block_past h3 hb4
    have h4' := block_past h4 hb4
    have h5' := block_past h5 hb4
    have hG4 := hG3.below hb4
    have hb4' := hb3.trans (hb4.mono hb3.size)
    clear h1 h2 h3 h4 h5 hb4
    obtain ⟨x0, x1, x2, x3, x4, x5⟩ := six_cells h2'
    obtain ⟨y0, y1, y2, y3, y4, y5⟩ := six_cells h4'
    go_wp2_with fail
    refine (H2.out _ hG4).mono ?_
    rintro e w5 ⟨rfl, hb5⟩
    have h3'' := block_past h3' hb5
    have h4'' := block_past h4' hb5
    have h5'' := block_past h5' hb5
    have hG5 := hG4.below hb5
    have hb5' := hb4'.trans (hb5.mono hb4'.size)
    clear h2' h3' h4' h5' hb5 x0 x1 x2 x3 x4 x5 y0 y1 y2 y3 y4 y5
    obtain ⟨x0, x1, x2, x3, x4, x5⟩ := six_cells h3''
    obtain ⟨y0, y1, y2, y3, y4, y5⟩ := six_cells h4''
    obtain ⟨z0, z1, z2, z3, z4, z5⟩ := six_cells h5''
    go_wp2_with fail
    refine (H3.out _ hG5).mono ?_
    rintro e w6 ⟨rfl, hb6⟩
    have hb6' := hb5'.trans (hb6.mono hb5'.size)
    go_wp2
    go_ret
    exact ⟨rfl, hb6'⟩
end Go.Proofs.YtmgkmpbblhkacaaGreatDoor
