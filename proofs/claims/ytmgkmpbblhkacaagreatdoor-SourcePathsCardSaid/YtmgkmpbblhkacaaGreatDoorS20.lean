/- SourcePorts: the walk. -/
import Derived.Test.YtmgkmpbblhkacaaGreatDoorMgU
import Derived.Test.YtmgkmpbblhkacaaGreatDoorMgP
namespace Go.Proofs.YtmgkmpbblhkacaaGreatDoor
open Go.RowKit Go.MapKept
set_option linter.unusedSimpArgs false
set_option linter.unusedVariables false

theorem hostM_a (xn na : Int) : hostM [] [97] [] xn sHttps [97] [47] sHttps na false = portM xn na sHttps := by
  unfold hostM
  rw [show ((!(([97] : Bs) == [])) && togetherP (if ([] : Bs) = [] then sHttps else []) sHttps && nameM [97] [97]) = true by decide, show pathM [] [47] false = true by decide]
  simp
theorem match_a (xn na : Int) (e : Bool) (h : portM xn na sHttps = e) (w : World) (hG : GLS w) :
    Calls Tryz.prog 14 #[.agg #[.int .i64 3, .string ⟨#[]⟩, .string ⟨#[97]⟩, .int .i64 xn, .string ⟨#[]⟩, .string ⟨#[]⟩], .agg #[.string ⟨#[104, 116, 116, 112, 115]⟩, .string ⟨#[97]⟩, .int .i64 na, .string ⟨#[47]⟩, .string ⟨#[]⟩, .string ⟨#[]⟩], .agg #[.string ⟨#[104, 116, 116, 112, 115]⟩, .string ⟨#[97]⟩, .int .i64 na, .string ⟨#[47]⟩, .string ⟨#[]⟩, .string ⟨#[]⟩], .bool false] w fun e' w' => e' = .returned (.bool e) ∧ Below w.heap.size w w' := by
  have hm := match_host ⟨#[104, 116, 116, 112, 115]⟩ ⟨#[97]⟩ ⟨#[47]⟩ ⟨#[]⟩ ⟨#[]⟩ ⟨#[104, 116, 116, 112, 115]⟩ ⟨#[97]⟩ ⟨#[47]⟩ ⟨#[]⟩ ⟨#[]⟩ ⟨#[]⟩ ⟨#[97]⟩ ⟨#[]⟩ ⟨#[]⟩ na na xn false w (by decide) (by decide) (by decide) (by decide) hG
  rw [show hostM (⟨#[]⟩ : ByteArray).data.toList (⟨#[97]⟩ : ByteArray).data.toList (⟨#[]⟩ : ByteArray).data.toList xn (⟨#[104, 116, 116, 112, 115]⟩ : ByteArray).data.toList (⟨#[97]⟩ : ByteArray).data.toList (⟨#[47]⟩ : ByteArray).data.toList (⟨#[104, 116, 116, 112, 115]⟩ : ByteArray).data.toList na false = e from (hostM_a xn na).trans h] at hm
  exact hm
theorem std_https : stdP sHttps = 443 := by decide
/-- Four new blocks. -/
theorem four_blocks (w : World) (a b c d : Obj) : ((((w.alloc a).alloc b).alloc c).alloc d).heap[w.heap.size]? = some a ∧ ((((w.alloc a).alloc b).alloc c).alloc d).heap[w.heap.size + 1]? = some b ∧ ((((w.alloc a).alloc b).alloc c).alloc d).heap[w.heap.size + 1 + 1]? = some c ∧ ((((w.alloc a).alloc b).alloc c).alloc d).heap[w.heap.size + 1 + 1 + 1]? = some d ∧ Below w.heap.size w ((((w.alloc a).alloc b).alloc c).alloc d) := by
  have s1 : (w.alloc a).heap.size = w.heap.size + 1 := by show (w.heap.push _).size = _; rw [Array.size_push]
  have s2 : ((w.alloc a).alloc b).heap.size = w.heap.size + 1 + 1 := by show ((w.heap.push a).push b).size = _; rw [Array.size_push, Array.size_push]
  have s3 := three_size w a b c
  refine ⟨?_, ?_, ?_, ?_, ?_⟩
  · rw [Below.heap_alloc _ _ _ (by omega), Below.heap_alloc _ _ _ (by omega), Below.heap_alloc _ _ _ (by omega)]; exact heap_alloc_new w _
  · rw [Below.heap_alloc _ _ _ (by omega), Below.heap_alloc _ _ _ (by omega), ← s1]; exact heap_alloc_new _ _
  · rw [Below.heap_alloc _ _ _ (by omega), ← s2]; exact heap_alloc_new _ _
  · rw [← s3]; exact heap_alloc_new _ _
  · exact ((((Below.refl _ w).alloc (Nat.le_refl _) a).alloc (by omega) b).alloc (by omega) c).alloc (by omega) d
theorem mask_ok (a : Int) : 0 ≤ bits .and .i64 a 65535 ∧ bits .and .i64 a 65535 ≤ 65535 := by
  obtain ⟨p, hp, h⟩ := i64_and16 a
  rw [h]
  omega
set_option maxRecDepth 1000000 in
set_option maxHeartbeats 16000000 in
theorem sourcePorts_any (a b : Int) (sm : Bool) (w : World) (hG : GLS w) :
    Calls Tryz.prog 9 #[.int .i64 a, .int .i64 b, .bool sm] w fun e w' => e = .returned (.bool true) ∧ Below w.heap.size w w' := by
  have HS := Lib.hid (shown_any w hG)
  have HG := Lib.hid hG
  obtain ⟨i, hi⟩ : ∃ i, bits .and .i64 b 65535 = i := ⟨_, rfl⟩
  obtain ⟨n, hn⟩ : ∃ n, bits .and .i64 a 65535 = n := ⟨_, rfl⟩
  have hi0 : 0 ≤ i := by rw [← hi]; exact (mask_ok b).1
  have hn0 : 0 ≤ n := by rw [← hn]; exact (mask_ok a).1
  clear hG
  by_cases c1 : i = 443
  · have b1 : (i == 443) = true := beq_iff_eq.2 c1
    have CZ := Lib.hid (fun w' hG' => match_a (-2) (-1) true (by decide) w' hG')
    have CY := Lib.hid (fun w' hG' => match_a (-1) (-1) true (by decide) w' hG')
    cases sm with
    | true =>
      have CX := Lib.hid (fun w' hG' => match_a i (-1) true (by unfold portM; rw [c1, std_https]; decide) w' hG')
      clear c1
      go_enter Tryz.func9, Tryz.ntmps9
      go_wp2_with fail
      refine HS.out.mono ?_
      rintro e w1 ⟨rfl, hb1⟩
      have hG1 := HG.out.below hb1
      obtain ⟨hU, hX, hY, hZ, hbn⟩ := four_blocks w1 (.cells #[.string ⟨#[104, 116, 116, 112, 115]⟩, .string ⟨#[97]⟩, .int .i64 (-1), .string ⟨#[47]⟩, .string ⟨#[]⟩, .string ⟨#[]⟩] 28) (.cells #[.int .i64 3, .string ⟨#[]⟩, .string ⟨#[97]⟩, .int .i64 i, .string ⟨#[]⟩, .string ⟨#[]⟩] 24) (.cells #[.int .i64 3, .string ⟨#[]⟩, .string ⟨#[97]⟩, .int .i64 (-1), .string ⟨#[]⟩, .string ⟨#[]⟩] 24) (.cells #[.int .i64 3, .string ⟨#[]⟩, .string ⟨#[97]⟩, .int .i64 (-2), .string ⟨#[]⟩, .string ⟨#[]⟩] 24)
      have hG2 := hG1.below hbn
      have hb2 := hb1.trans (hbn.mono hb1.size)
      clear hbn hb1
      go_wp2_with fail
      refine (CX.out _ hG2).mono ?_
      rintro e w3 ⟨rfl, hb3⟩
      have hU3 := block_past hU hb3
      have hY3 := block_past hY hb3
      have hZ3 := block_past hZ hb3
      have hG3 := hG2.below hb3
      have hb3' := hb2.trans (hb3.mono hb2.size)
      clear hb3 hU hX hY hZ hb2
      obtain ⟨u0, u1, u2, u3, u4, u5⟩ := six_cells hU3
      obtain ⟨y0, y1, y2, y3, y4, y5⟩ := six_cells hY3
      go_wp2_with fail
      refine (CY.out _ hG3).mono ?_
      rintro e w4 ⟨rfl, hb4⟩
      have hU4 := block_past hU3 hb4
      have hZ4 := block_past hZ3 hb4
      have hG4 := hG3.below hb4
      have hb4' := hb3'.trans (hb4.mono hb3'.size)
      clear hb4 hU3 hY3 hZ3 u0 u1 u2 u3 u4 u5 y0 y1 y2 y3 y4 y5
      obtain ⟨u0, u1, u2, u3, u4, u5⟩ := six_cells hU4
      obtain ⟨y0, y1, y2, y3, y4, y5⟩ := six_cells hZ4
      go_wp2_with fail
      refine (CZ.out _ hG4).mono ?_
      rintro e w5 ⟨rfl, hb5⟩
      have hb5' := hb4'.trans (hb5.mono hb4'.size)
      go_wp2
      go_ret
      exact ⟨rfl, hb5'⟩
    | false =>
      by_cases c2 : n = i
      · have b2 : (n == i) = true := beq_iff_eq.2 c2
        have CX := Lib.hid (fun w' hG' => match_a n (-1) true (by unfold portM; rw [c2, c1, std_https]; decide) w' hG')
        clear c1 c2
        go_enter Tryz.func9, Tryz.ntmps9
        go_wp2_with fail
        refine HS.out.mono ?_
        rintro e w1 ⟨rfl, hb1⟩
        have hG1 := HG.out.below hb1
        obtain ⟨hU, hX, hY, hZ, hbn⟩ := four_blocks w1 (.cells #[.string ⟨#[104, 116, 116, 112, 115]⟩, .string ⟨#[97]⟩, .int .i64 (-1), .string ⟨#[47]⟩, .string ⟨#[]⟩, .string ⟨#[]⟩] 28) (.cells #[.int .i64 3, .string ⟨#[]⟩, .string ⟨#[97]⟩, .int .i64 n, .string ⟨#[]⟩, .string ⟨#[]⟩] 24) (.cells #[.int .i64 3, .string ⟨#[]⟩, .string ⟨#[97]⟩, .int .i64 (-1), .string ⟨#[]⟩, .string ⟨#[]⟩] 24) (.cells #[.int .i64 3, .string ⟨#[]⟩, .string ⟨#[97]⟩, .int .i64 (-2), .string ⟨#[]⟩, .string ⟨#[]⟩] 24)
        have hG2 := hG1.below hbn
        have hb2 := hb1.trans (hbn.mono hb1.size)
        clear hbn hb1
        go_wp2_with fail
        refine (CX.out _ hG2).mono ?_
        rintro e w3 ⟨rfl, hb3⟩
        have hU3 := block_past hU hb3
        have hY3 := block_past hY hb3
        have hZ3 := block_past hZ hb3
        have hG3 := hG2.below hb3
        have hb3' := hb2.trans (hb3.mono hb2.size)
        clear hb3 hU hX hY hZ hb2
        obtain ⟨u0, u1, u2, u3, u4, u5⟩ := six_cells hU3
        obtain ⟨y0, y1, y2, y3, y4, y5⟩ := six_cells hY3
        go_wp2_with fail
        refine (CY.out _ hG3).mono ?_
        rintro e w4 ⟨rfl, hb4⟩
        have hU4 := block_past hU3 hb4
        have hZ4 := block_past hZ3 hb4
        have hG4 := hG3.below hb4
        have hb4' := hb3'.trans (hb4.mono hb3'.size)
        clear hb4 hU3 hY3 hZ3 u0 u1 u2 u3 u4 u5 y0 y1 y2 y3 y4 y5
        obtain ⟨u0, u1, u2, u3, u4, u5⟩ := six_cells hU4
        obtain ⟨y0, y1, y2, y3, y4, y5⟩ := six_cells hZ4
        go_wp2_with fail
        refine (CZ.out _ hG4).mono ?_
        rintro e w5 ⟨rfl, hb5⟩
        have hb5' := hb4'.trans (hb5.mono hb4'.size)
        go_wp2
        go_ret
        exact ⟨rfl, hb5'⟩
      · have b2 : (n == i) = false := beq_eq_false_iff_ne.2 c2
        have CX := Lib.hid (fun w' hG' => match_a n (-1) false (by unfold portM; rw [std_https, decide_eq_false (show n ≠ -2 by omega), decide_eq_false (show n ≠ -1 by omega), decide_eq_false (show n ≠ 443 by omega)]; decide) w' hG')
        clear c1 c2
        go_enter Tryz.func9, Tryz.ntmps9
        go_wp2_with fail
        refine HS.out.mono ?_
        rintro e w1 ⟨rfl, hb1⟩
        have hG1 := HG.out.below hb1
        obtain ⟨hU, hX, hY, hZ, hbn⟩ := four_blocks w1 (.cells #[.string ⟨#[104, 116, 116, 112, 115]⟩, .string ⟨#[97]⟩, .int .i64 (-1), .string ⟨#[47]⟩, .string ⟨#[]⟩, .string ⟨#[]⟩] 28) (.cells #[.int .i64 3, .string ⟨#[]⟩, .string ⟨#[97]⟩, .int .i64 n, .string ⟨#[]⟩, .string ⟨#[]⟩] 24) (.cells #[.int .i64 3, .string ⟨#[]⟩, .string ⟨#[97]⟩, .int .i64 (-1), .string ⟨#[]⟩, .string ⟨#[]⟩] 24) (.cells #[.int .i64 3, .string ⟨#[]⟩, .string ⟨#[97]⟩, .int .i64 (-2), .string ⟨#[]⟩, .string ⟨#[]⟩] 24)
        have hG2 := hG1.below hbn
        have hb2 := hb1.trans (hbn.mono hb1.size)
        clear hbn hb1
        go_wp2_with fail
        refine (CX.out _ hG2).mono ?_
        rintro e w3 ⟨rfl, hb3⟩
        have hU3 := block_past hU hb3
        have hY3 := block_past hY hb3
        have hZ3 := block_past hZ hb3
        have hG3 := hG2.below hb3
        have hb3' := hb2.trans (hb3.mono hb2.size)
        clear hb3 hU hX hY hZ hb2
        obtain ⟨u0, u1, u2, u3, u4, u5⟩ := six_cells hU3
        obtain ⟨y0, y1, y2, y3, y4, y5⟩ := six_cells hY3
        go_wp2_with fail
        refine (CY.out _ hG3).mono ?_
        rintro e w4 ⟨rfl, hb4⟩
        have hU4 := block_past hU3 hb4
        have hZ4 := block_past hZ3 hb4
        have hG4 := hG3.below hb4
        have hb4' := hb3'.trans (hb4.mono hb3'.size)
        clear hb4 hU3 hY3 hZ3 u0 u1 u2 u3 u4 u5 y0 y1 y2 y3 y4 y5
        obtain ⟨u0, u1, u2, u3, u4, u5⟩ := six_cells hU4
        obtain ⟨y0, y1, y2, y3, y4, y5⟩ := six_cells hZ4
        go_wp2_with fail
        refine (CZ.out _ hG4).mono ?_
        rintro e w5 ⟨rfl, hb5⟩
        have hb5' := hb4'.trans (hb5.mono hb4'.size)
        go_wp2
        go_ret
        exact ⟨rfl, hb5'⟩
  · have b1 : (i == 443) = false := beq_eq_false_iff_ne.2 c1
    have CZ := Lib.hid (fun w' hG' => match_a (-2) i true (by unfold portM; simp) w' hG')
    have CY := Lib.hid (fun w' hG' => match_a (-1) i false (by unfold portM; rw [decide_eq_false (show (-1 : Int) ≠ i by omega), decide_eq_false (show i ≠ -1 by omega)]; decide) w' hG')
    cases sm with
    | true =>
      have CX := Lib.hid (fun w' hG' => match_a i i true (by unfold portM; simp) w' hG')
      clear c1
      go_enter Tryz.func9, Tryz.ntmps9
      go_wp2_with fail
      refine HS.out.mono ?_
      rintro e w1 ⟨rfl, hb1⟩
      have hG1 := HG.out.below hb1
      obtain ⟨hU, hX, hY, hZ, hbn⟩ := four_blocks w1 (.cells #[.string ⟨#[104, 116, 116, 112, 115]⟩, .string ⟨#[97]⟩, .int .i64 i, .string ⟨#[47]⟩, .string ⟨#[]⟩, .string ⟨#[]⟩] 28) (.cells #[.int .i64 3, .string ⟨#[]⟩, .string ⟨#[97]⟩, .int .i64 i, .string ⟨#[]⟩, .string ⟨#[]⟩] 24) (.cells #[.int .i64 3, .string ⟨#[]⟩, .string ⟨#[97]⟩, .int .i64 (-1), .string ⟨#[]⟩, .string ⟨#[]⟩] 24) (.cells #[.int .i64 3, .string ⟨#[]⟩, .string ⟨#[97]⟩, .int .i64 (-2), .string ⟨#[]⟩, .string ⟨#[]⟩] 24)
      have hG2 := hG1.below hbn
      have hb2 := hb1.trans (hbn.mono hb1.size)
      clear hbn hb1
      go_wp2_with fail
      refine (CX.out _ hG2).mono ?_
      rintro e w3 ⟨rfl, hb3⟩
      have hU3 := block_past hU hb3
      have hY3 := block_past hY hb3
      have hZ3 := block_past hZ hb3
      have hG3 := hG2.below hb3
      have hb3' := hb2.trans (hb3.mono hb2.size)
      clear hb3 hU hX hY hZ hb2
      obtain ⟨u0, u1, u2, u3, u4, u5⟩ := six_cells hU3
      obtain ⟨y0, y1, y2, y3, y4, y5⟩ := six_cells hY3
      go_wp2_with fail
      refine (CY.out _ hG3).mono ?_
      rintro e w4 ⟨rfl, hb4⟩
      have hU4 := block_past hU3 hb4
      have hZ4 := block_past hZ3 hb4
      have hG4 := hG3.below hb4
      have hb4' := hb3'.trans (hb4.mono hb3'.size)
      clear hb4 hU3 hY3 hZ3 u0 u1 u2 u3 u4 u5 y0 y1 y2 y3 y4 y5
      obtain ⟨u0, u1, u2, u3, u4, u5⟩ := six_cells hU4
      obtain ⟨y0, y1, y2, y3, y4, y5⟩ := six_cells hZ4
      go_wp2_with fail
      refine (CZ.out _ hG4).mono ?_
      rintro e w5 ⟨rfl, hb5⟩
      have hb5' := hb4'.trans (hb5.mono hb4'.size)
      go_wp2
      go_ret
      exact ⟨rfl, hb5'⟩
    | false =>
      by_cases c2 : n = i
      · have b2 : (n == i) = true := beq_iff_eq.2 c2
        have CX := Lib.hid (fun w' hG' => match_a n i true (by unfold portM; simp [c2]) w' hG')
        clear c1 c2
        go_enter Tryz.func9, Tryz.ntmps9
        go_wp2_with fail
        refine HS.out.mono ?_
        rintro e w1 ⟨rfl, hb1⟩
        have hG1 := HG.out.below hb1
        obtain ⟨hU, hX, hY, hZ, hbn⟩ := four_blocks w1 (.cells #[.string ⟨#[104, 116, 116, 112, 115]⟩, .string ⟨#[97]⟩, .int .i64 i, .string ⟨#[47]⟩, .string ⟨#[]⟩, .string ⟨#[]⟩] 28) (.cells #[.int .i64 3, .string ⟨#[]⟩, .string ⟨#[97]⟩, .int .i64 n, .string ⟨#[]⟩, .string ⟨#[]⟩] 24) (.cells #[.int .i64 3, .string ⟨#[]⟩, .string ⟨#[97]⟩, .int .i64 (-1), .string ⟨#[]⟩, .string ⟨#[]⟩] 24) (.cells #[.int .i64 3, .string ⟨#[]⟩, .string ⟨#[97]⟩, .int .i64 (-2), .string ⟨#[]⟩, .string ⟨#[]⟩] 24)
        have hG2 := hG1.below hbn
        have hb2 := hb1.trans (hbn.mono hb1.size)
        clear hbn hb1
        go_wp2_with fail
        refine (CX.out _ hG2).mono ?_
        rintro e w3 ⟨rfl, hb3⟩
        have hU3 := block_past hU hb3
        have hY3 := block_past hY hb3
        have hZ3 := block_past hZ hb3
        have hG3 := hG2.below hb3
        have hb3' := hb2.trans (hb3.mono hb2.size)
        clear hb3 hU hX hY hZ hb2
        obtain ⟨u0, u1, u2, u3, u4, u5⟩ := six_cells hU3
        obtain ⟨y0, y1, y2, y3, y4, y5⟩ := six_cells hY3
        go_wp2_with fail
        refine (CY.out _ hG3).mono ?_
        rintro e w4 ⟨rfl, hb4⟩
        have hU4 := block_past hU3 hb4
        have hZ4 := block_past hZ3 hb4
        have hG4 := hG3.below hb4
        have hb4' := hb3'.trans (hb4.mono hb3'.size)
        clear hb4 hU3 hY3 hZ3 u0 u1 u2 u3 u4 u5 y0 y1 y2 y3 y4 y5
        obtain ⟨u0, u1, u2, u3, u4, u5⟩ := six_cells hU4
        obtain ⟨y0, y1, y2, y3, y4, y5⟩ := six_cells hZ4
        go_wp2_with fail
        refine (CZ.out _ hG4).mono ?_
        rintro e w5 ⟨rfl, hb5⟩
        have hb5' := hb4'.trans (hb5.mono hb4'.size)
        go_wp2
        go_ret
        exact ⟨rfl, hb5'⟩
      · have b2 : (n == i) = false := beq_eq_false_iff_ne.2 c2
        have CX := Lib.hid (fun w' hG' => match_a n i false (by unfold portM; rw [decide_eq_false (show n ≠ -2 by omega), decide_eq_false c2, decide_eq_false (show i ≠ -1 by omega)]; rfl) w' hG')
        clear c1 c2
        go_enter Tryz.func9, Tryz.ntmps9
        go_wp2_with fail
        refine HS.out.mono ?_
        rintro e w1 ⟨rfl, hb1⟩
        have hG1 := HG.out.below hb1
        obtain ⟨hU, hX, hY, hZ, hbn⟩ := four_blocks w1 (.cells #[.string ⟨#[104, 116, 116, 112, 115]⟩, .string ⟨#[97]⟩, .int .i64 i, .string ⟨#[47]⟩, .string ⟨#[]⟩, .string ⟨#[]⟩] 28) (.cells #[.int .i64 3, .string ⟨#[]⟩, .string ⟨#[97]⟩, .int .i64 n, .string ⟨#[]⟩, .string ⟨#[]⟩] 24) (.cells #[.int .i64 3, .string ⟨#[]⟩, .string ⟨#[97]⟩, .int .i64 (-1), .string ⟨#[]⟩, .string ⟨#[]⟩] 24) (.cells #[.int .i64 3, .string ⟨#[]⟩, .string ⟨#[97]⟩, .int .i64 (-2), .string ⟨#[]⟩, .string ⟨#[]⟩] 24)
        have hG2 := hG1.below hbn
        have hb2 := hb1.trans (hbn.mono hb1.size)
        clear hbn hb1
        go_wp2_with fail
        refine (CX.out _ hG2).mono ?_
        rintro e w3 ⟨rfl, hb3⟩
        have hU3 := block_past hU hb3
        have hY3 := block_past hY hb3
        have hZ3 := block_past hZ hb3
        have hG3 := hG2.below hb3
        have hb3' := hb2.trans (hb3.mono hb2.size)
        clear hb3 hU hX hY hZ hb2
        obtain ⟨u0, u1, u2, u3, u4, u5⟩ := six_cells hU3
        obtain ⟨y0, y1, y2, y3, y4, y5⟩ := six_cells hY3
        go_wp2_with fail
        refine (CY.out _ hG3).mono ?_
        rintro e w4 ⟨rfl, hb4⟩
        have hU4 := block_past hU3 hb4
        have hZ4 := block_past hZ3 hb4
        have hG4 := hG3.below hb4
        have hb4' := hb3'.trans (hb4.mono hb3'.size)
        clear hb4 hU3 hY3 hZ3 u0 u1 u2 u3 u4 u5 y0 y1 y2 y3 y4 y5
        obtain ⟨u0, u1, u2, u3, u4, u5⟩ := six_cells hU4
        obtain ⟨y0, y1, y2, y3, y4, y5⟩ := six_cells hZ4
        go_wp2_with fail
        refine (CZ.out _ hG4).mono ?_
        rintro e w5 ⟨rfl, hb5⟩
        have hb5' := hb4'.trans (hb5.mono hb4'.size)
        go_wp2
        go_ret
        exact ⟨rfl, hb5'⟩
end Go.Proofs.YtmgkmpbblhkacaaGreatDoor
