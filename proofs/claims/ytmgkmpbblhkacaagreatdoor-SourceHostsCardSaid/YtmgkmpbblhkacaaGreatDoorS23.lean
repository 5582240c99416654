/- SourceHosts: the walk. -/
import Derived.Test.YtmgkmpbblhkacaaGreatDoorS22
import Derived.Test.YtmgkmpbblhkacaaGreatDoorFive
namespace Go.Proofs.YtmgkmpbblhkacaaGreatDoor
open Go.RowKit Go.MapKept
set_option linter.unusedSimpArgs false
set_option linter.unusedVariables false

theorem match_hh (xh ha hb : ByteArray) (e : Bool) (he : nameM xh.data.toList ha.data.toList = e) (hne : ha.data.toList ≠ []) (hz : ha.size ≤ 1000000) (hx : xh.size ≤ 1000000) (w : World) (hG : GLS w) :
    Calls Tryz.prog 14 #[.agg #[.int .i64 3, .string ⟨#[]⟩, .string xh, .int .i64 (-1), .string ⟨#[]⟩, .string ⟨#[]⟩], .agg #[.string ⟨#[104, 116, 116, 112]⟩, .string ha, .int .i64 (-1), .string ⟨#[47]⟩, .string ⟨#[]⟩, .string ⟨#[]⟩], .agg #[.string ⟨#[104, 116, 116, 112]⟩, .string hb, .int .i64 (-1), .string ⟨#[47]⟩, .string ⟨#[]⟩, .string ⟨#[]⟩], .bool false] w fun e' w' => e' = .returned (.bool e) ∧ Below w.heap.size w w' := by
  have h := match_host ⟨#[104, 116, 116, 112]⟩ ha ⟨#[47]⟩ ⟨#[]⟩ ⟨#[]⟩ ⟨#[104, 116, 116, 112]⟩ hb ⟨#[47]⟩ ⟨#[]⟩ ⟨#[]⟩ ⟨#[]⟩ xh ⟨#[]⟩ ⟨#[]⟩ (-1) (-1) (-1) false w hz (by decide) hx (by decide) hG
  rw [show hostM (⟨#[]⟩ : ByteArray).data.toList xh.data.toList (⟨#[]⟩ : ByteArray).data.toList (-1) (⟨#[104, 116, 116, 112]⟩ : ByteArray).data.toList ha.data.toList (⟨#[47]⟩ : ByteArray).data.toList (⟨#[104, 116, 116, 112]⟩ : ByteArray).data.toList (-1) false = e from (host_http _ _ hne).trans he] at h
  exact h
set_option maxRecDepth 1000000 in
set_option maxHeartbeats 16000000 in
theorem sourceHosts_any (a b : ByteArray) (w : World) (ha : a.size ≤ 9223372036854775807) (hb : b.size ≤ 9223372036854775807) (hG : GLS w) :
    Calls Tryz.prog 6 #[.string a, .string b] w fun e w' => e = .returned (.bool true) ∧ Below w.heap.size w w' := by
  have HS := Lib.hid (shown_any w hG)
  have HG := Lib.hid hG
  have CA := fun w' => lawLabels_any a w' ha
  have CB := fun w' => lawLabels_any b w' hb
  obtain ⟨N, hN⟩ : ∃ N, strOf (labL a.data.toList) = N := ⟨_, rfl⟩
  obtain ⟨B, hB⟩ : ∃ B, strOf (labL b.data.toList) = B := ⟨_, rfl⟩
  rw [hN] at CA
  rw [hB] at CB
  have hNl : N.data.toList = labL a.data.toList := by rw [← hN, strOf_data]
  have hBl : B.data.toList = labL b.data.toList := by rw [← hB, strOf_data]
  have hNz : N.size ≤ 61 := by rw [Lib.size_eq, hNl]; exact labL_len _
  have hBz : B.size ≤ 61 := by rw [Lib.size_eq, hBl]; exact labL_len _
  have hLl : (B ++ (⟨#[46]⟩ : ByteArray) ++ N).data.toList = labL b.data.toList ++ 46 :: labL a.data.toList := by
    rw [← hNl, ← hBl]; simp [ByteArray.data_append]
  have hSl : ((⟨#[42, 46]⟩ : ByteArray) ++ N).data.toList = 42 :: 46 :: labL a.data.toList := by
    rw [← hNl]; simp [ByteArray.data_append]
  have hLz : (B ++ (⟨#[46]⟩ : ByteArray) ++ N).size ≤ 1000000 := by
    rw [ByteArray.size_append, ByteArray.size_append]
    have : (⟨#[46]⟩ : ByteArray).size = 1 := rfl
    omega
  have hSz : ((⟨#[42, 46]⟩ : ByteArray) ++ N).size ≤ 1000000 := by
    rw [ByteArray.size_append]
    have : (⟨#[42, 46]⟩ : ByteArray).size = 2 := rfl
    omega
  have hne1 : N.data.toList ≠ [] := by rw [hNl]; exact List.cons_ne_nil _ _
  have hne2 : (B ++ (⟨#[46]⟩ : ByteArray) ++ N).data.toList ≠ [] := by rw [hLl]; exact List.append_ne_nil_of_left_ne_nil (List.cons_ne_nil _ _) _
  have h120 : (labL a.data.toList).headD 0 ≠ 42 := by rw [labL_head]; decide
  have C1 := Lib.hid (fun w' hG' => match_hh ((⟨#[42, 46]⟩ : ByteArray) ++ N) N N false (by rw [hSl, hNl]; exact star_no _) hne1 (by omega) hSz w' hG')
  have C2 := Lib.hid (fun w' hG' => match_hh ((⟨#[42, 46]⟩ : ByteArray) ++ N) (B ++ (⟨#[46]⟩ : ByteArray) ++ N) N true (by rw [hSl, hLl]; exact star_yes _ _ (List.cons_ne_nil _ _) (long_dom _ _)) hne2 hLz hSz w' hG')
  have C3 := Lib.hid (fun w' hG' => match_hh N N N true (by rw [hNl]; exact own_yes _ (labL_dom _) h120) hne1 (by omega) (by omega) w' hG')
  have C4 := Lib.hid (fun w' hG' => match_hh N (B ++ (⟨#[46]⟩ : ByteArray) ++ N) N false (by rw [hLl, hNl]; exact own_no _ _ h120) hne2 hLz (by omega) w' hG')
  have C5 := Lib.hid (fun w' hG' => match_hh ⟨#[42]⟩ N N true (by rw [hNl]; exact any_yes _ (labL_dom _)) hne1 (by omega) (by decide) w' hG')
  have C6 := Lib.hid (fun w' hG' => match_hh ⟨#[42]⟩ (B ++ (⟨#[46]⟩ : ByteArray) ++ N) N true (by rw [hLl]; exact any_yes _ (long_dom _ _)) hne2 hLz (by decide) w' hG')
  have HA := Lib.hid CA
  have HB := Lib.hid CB
  have o1 : ¬ 9223372036854775807 < B.size + 1 := by omega
  have o2 : ¬ 9223372036854775807 < B.size + 1 + N.size := by omega
  have o3 : ¬ 9223372036854775807 < 2 + N.size := by omega
  clear CA CB hN hB hNl hBl hLl hSl hLz hSz hne1 hne2 h120 hG
  go_enter Tryz.func6, Tryz.ntmps6
  go_wp2_with fail
  refine HS.out.mono ?_
  rintro e w1 ⟨rfl, hb1⟩
  have hG1 := HG.out.below hb1
  obtain ⟨hU, hV, hS, hO, hA, hbn⟩ := five_blocks w1 (.cells #[.string ⟨#[104, 116, 116, 112]⟩, .string N, .int .i64 (-1), .string ⟨#[47]⟩, .string ⟨#[]⟩, .string ⟨#[]⟩] 28) (.cells #[.string ⟨#[104, 116, 116, 112]⟩, .string (B ++ (⟨#[46]⟩ : ByteArray) ++ N), .int .i64 (-1), .string ⟨#[47]⟩, .string ⟨#[]⟩, .string ⟨#[]⟩] 28) (.cells #[.int .i64 3, .string ⟨#[]⟩, .string ((⟨#[42, 46]⟩ : ByteArray) ++ N), .int .i64 (-1), .string ⟨#[]⟩, .string ⟨#[]⟩] 24) (.cells #[.int .i64 3, .string ⟨#[]⟩, .string N, .int .i64 (-1), .string ⟨#[]⟩, .string ⟨#[]⟩] 24) (.cells #[.int .i64 3, .string ⟨#[]⟩, .string ⟨#[42]⟩, .int .i64 (-1), .string ⟨#[]⟩, .string ⟨#[]⟩] 24)
  have hG2 := hG1.below hbn
  have hb2 := hb1.trans (hbn.mono hb1.size)
  clear hbn hb1
  go_wp2_with fail
  refine (HA.out _).mono ?_
  rintro e w2 ⟨rfl, rfl⟩
  go_wp2_with fail
  refine (HB.out _).mono ?_
  rintro e w2 ⟨rfl, rfl⟩
  go_wp2_with fail
  refine (C1.out _ hG2).mono ?_
  rintro e w4 ⟨rfl, hb3⟩
  have hU1 := block_past hU hb3
  have hV1 := block_past hV hb3
  have hS1 := block_past hS hb3
  have hO1 := block_past hO hb3
  have hA1 := block_past hA hb3
  have hG3 := hG2.below hb3
  have hc1 := hb2.trans (hb3.mono hb2.size)
  clear hb3 hU hV hS hO hA
  obtain ⟨x0, x1, x2, x3, x4, x5⟩ := six_cells hS1
  obtain ⟨y0, y1, y2, y3, y4, y5⟩ := six_cells hV1
  obtain ⟨z0, z1, z2, z3, z4, z5⟩ := six_cells hU1
  go_wp2_with fail
  refine (C2.out _ hG3).mono ?_
  rintro e w5 ⟨rfl, hb4⟩
  have hU2 := block_past hU1 hb4
  have hV2 := block_past hV1 hb4
  have hS2 := block_past hS1 hb4
  have hO2 := block_past hO1 hb4
  have hA2 := block_past hA1 hb4
  have hG4 := hG3.below hb4
  have hc2 := hc1.trans (hb4.mono hc1.size)
  clear hb4 hU1 hV1 hS1 hO1 hA1 x0 x1 x2 x3 x4 x5 y0 y1 y2 y3 y4 y5 z0 z1 z2 z3 z4 z5
  obtain ⟨x0, x1, x2, x3, x4, x5⟩ := six_cells hO2
  obtain ⟨y0, y1, y2, y3, y4, y5⟩ := six_cells hU2
  go_wp2_with fail
  refine (C3.out _ hG4).mono ?_
  rintro e w6 ⟨rfl, hb5⟩
  have hU3 := block_past hU2 hb5
  have hV3 := block_past hV2 hb5
  have hS3 := block_past hS2 hb5
  have hO3 := block_past hO2 hb5
  have hA3 := block_past hA2 hb5
  have hG5 := hG4.below hb5
  have hc3 := hc2.trans (hb5.mono hc2.size)
  clear hb5 hU2 hV2 hS2 hO2 hA2 x0 x1 x2 x3 x4 x5 y0 y1 y2 y3 y4 y5
  obtain ⟨x0, x1, x2, x3, x4, x5⟩ := six_cells hO3
  obtain ⟨y0, y1, y2, y3, y4, y5⟩ := six_cells hV3
  obtain ⟨z0, z1, z2, z3, z4, z5⟩ := six_cells hU3
  go_wp2_with fail
  refine (C4.out _ hG5).mono ?_
  rintro e w7 ⟨rfl, hb6⟩
  have hU4 := block_past hU3 hb6
  have hV4 := block_past hV3 hb6
  have hS4 := block_past hS3 hb6
  have hO4 := block_past hO3 hb6
  have hA4 := block_past hA3 hb6
  have hG6 := hG5.below hb6
  have hc4 := hc3.trans (hb6.mono hc3.size)
  clear hb6 hU3 hV3 hS3 hO3 hA3 x0 x1 x2 x3 x4 x5 y0 y1 y2 y3 y4 y5 z0 z1 z2 z3 z4 z5
  obtain ⟨x0, x1, x2, x3, x4, x5⟩ := six_cells hA4
  obtain ⟨y0, y1, y2, y3, y4, y5⟩ := six_cells hU4
  go_wp2_with fail
  refine (C5.out _ hG6).mono ?_
  rintro e w8 ⟨rfl, hb7⟩
  have hU5 := block_past hU4 hb7
  have hV5 := block_past hV4 hb7
  have hS5 := block_past hS4 hb7
  have hO5 := block_past hO4 hb7
  have hA5 := block_past hA4 hb7
  have hG7 := hG6.below hb7
  have hc5 := hc4.trans (hb7.mono hc4.size)
  clear hb7 hU4 hV4 hS4 hO4 hA4 x0 x1 x2 x3 x4 x5 y0 y1 y2 y3 y4 y5
  obtain ⟨x0, x1, x2, x3, x4, x5⟩ := six_cells hA5
  obtain ⟨y0, y1, y2, y3, y4, y5⟩ := six_cells hV5
  obtain ⟨z0, z1, z2, z3, z4, z5⟩ := six_cells hU5
  go_wp2_with fail
  refine (C6.out _ hG7).mono ?_
  rintro e w9 ⟨rfl, hb8⟩
  have hc6 := hc5.trans (hb8.mono hc5.size)
  go_wp2
  go_ret
  exact ⟨rfl, hc6⟩
end Go.Proofs.YtmgkmpbblhkacaaGreatDoor
