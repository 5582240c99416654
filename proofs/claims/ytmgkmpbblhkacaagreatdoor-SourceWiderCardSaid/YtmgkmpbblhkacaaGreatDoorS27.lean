/- SourceWider: the walk. -/
import Derived.Test.YtmgkmpbblhkacaaGreatDoorS26
import Derived.Test.YtmgkmpbblhkacaaGreatDoorMgH
namespace Go.Proofs.YtmgkmpbblhkacaaGreatDoor
open Go.RowKit Go.MapKept
set_option linter.unusedSimpArgs false
set_option linter.unusedVariables false

set_option maxRecDepth 1000000 in
set_option maxHeartbeats 16000000 in
theorem sourceWider_any (s a b : ByteArray) (w : World) (hs : s.size ≤ 9223372036854775807) (ha : a.size ≤ 9223372036854775807) (hb : b.size ≤ 9223372036854775807) (hG : GLS w) :
    Calls Tryz.prog 3 #[.string s, .string a, .string b] w fun e w' => e = .returned (.bool true) ∧ Below w.heap.size w w' := by
  have HS := Lib.hid (shown_any w hG)
  have HG := Lib.hid hG
  obtain ⟨ks, hks⟩ : ∃ ks : Nat, min (s.size : Int) 200 = (ks : Int) := ⟨min s.size 200, by omega⟩
  obtain ⟨ka, hka⟩ : ∃ ka : Nat, min (a.size : Int) 300 = (ka : Int) := ⟨min a.size 300, by omega⟩
  obtain ⟨kb, hkb⟩ : ∃ kb : Nat, min (b.size : Int) 300 = (kb : Int) := ⟨min b.size 300, by omega⟩
  have ls : ks ≤ s.size := by omega
  have la : ka ≤ a.size := by omega
  have lb : kb ≤ b.size := by omega
  obtain ⟨S, hS⟩ : ∃ S, s.extract 0 ks = S := ⟨_, rfl⟩
  obtain ⟨A, hA⟩ : ∃ A, a.extract 0 ka = A := ⟨_, rfl⟩
  obtain ⟨B, hB⟩ : ∃ B, b.extract 0 kb = B := ⟨_, rfl⟩
  have hSz : S.size ≤ 200 := by rw [← hS, ByteArray.size_extract]; omega
  have hAz : A.size ≤ 300 := by rw [← hA, ByteArray.size_extract]; omega
  have hBz : B.size ≤ 300 := by rw [← hB, ByteArray.size_extract]; omega
  have CP := fun w' (hG' : GLS w') => sourceParse_any S w' (by omega) hG'.toGL
  have CA := fun w' => url_any A w' (by omega)
  have CB := fun w' => url_any B w' (by omega)
  have hUl := urlA_len A.data.toList
  obtain ⟨ua, hua⟩ : ∃ u, urlA A.data.toList = u := ⟨_, rfl⟩
  obtain ⟨ub, hub⟩ : ∃ u, urlA B.data.toList = u := ⟨_, rfl⟩
  rw [hua] at CA hUl
  rw [hub] at CB
  rw [← Lib.size_eq] at hUl
  obtain ⟨r, hr⟩ : ∃ r, srcP S.data.toList = r := ⟨_, rfl⟩
  have hXl := fun x (h : r = some x) => srcP_len S.data.toList x (hr.trans h)
  rw [← Lib.size_eq] at hXl
  rw [hr] at CP
  have HP := Lib.hid CP
  obtain ⟨sa, hoa, na, pa, qa, fa⟩ := ua
  obtain ⟨sb, hob, nb, pb, qb, fb⟩ := ub
  simp only at hUl
  obtain ⟨SA, u1⟩ : ∃ b, strOf sa = b := ⟨_, rfl⟩
  obtain ⟨HA, u2⟩ : ∃ b, strOf hoa = b := ⟨_, rfl⟩
  obtain ⟨PA, u3⟩ : ∃ b, strOf pa = b := ⟨_, rfl⟩
  obtain ⟨QA, u4⟩ : ∃ b, strOf qa = b := ⟨_, rfl⟩
  obtain ⟨FA, u5⟩ : ∃ b, strOf fa = b := ⟨_, rfl⟩
  obtain ⟨SB, v1⟩ : ∃ b, strOf sb = b := ⟨_, rfl⟩
  obtain ⟨HB, v2⟩ : ∃ b, strOf hob = b := ⟨_, rfl⟩
  obtain ⟨PB, v3⟩ : ∃ b, strOf pb = b := ⟨_, rfl⟩
  obtain ⟨QB, v4⟩ : ∃ b, strOf qb = b := ⟨_, rfl⟩
  obtain ⟨FB, v5⟩ : ∃ b, strOf fb = b := ⟨_, rfl⟩
  have hva : urlVal ⟨sa, hoa, na, pa, qa, fa⟩ = .agg #[.string SA, .string HA, .int .i64 na, .string PA, .string QA, .string FA] := by
    unfold urlVal urlV; rw [u1, u2, u3, u4, u5]
  have hvb : urlVal ⟨sb, hob, nb, pb, qb, fb⟩ = .agg #[.string SB, .string HB, .int .i64 nb, .string PB, .string QB, .string FB] := by
    unfold urlVal urlV; rw [v1, v2, v3, v4, v5]
  rw [hva] at CA
  rw [hvb] at CB
  have hHA : HA.size ≤ 1000000 := by rw [← u2, strOf_size]; omega
  have hPA : PA.size ≤ 1000000 := by rw [← u3, strOf_size]; omega
  have CUA := Lib.hid CA
  have CUB := Lib.hid CB
  clear CP CA CB hr hua hub hG hUl u1 u2 u3 u4 u5 v1 v2 v3 v4 v5 hva hvb
  go_enter Tryz.func3, Tryz.ntmps3
  go_wp2_with fail
  refine HS.out.mono ?_
  rintro e w1 ⟨rfl, hb1⟩
  have hG1 := HG.out.below hb1
  go_wp2_with fail
  refine (HP.out _ hG1).mono ?_
  rintro e w2 ⟨he, hb2⟩
  have hbw2 := hb1.trans (hb2.mono hb1.size)
  clear HS hb1 hb2 hG1
  have hform : ∃ (k : Int) (XS XH XP XT : ByteArray) (xn : Int) (ok : Bool), e = .returned (.tuple #[.agg #[.int .i64 k, .string XS, .string XH, .int .i64 xn, .string XP, .string XT], .bool ok]) ∧ XH.size ≤ 1000000 ∧ XP.size ≤ 1000000 := by
    cases r with
    | none => exact ⟨0, ⟨#[]⟩, ⟨#[]⟩, ⟨#[]⟩, ⟨#[]⟩, 0, false, he, by decide, by decide⟩
    | some x =>
      obtain ⟨h1, h2⟩ := hXl x rfl
      exact ⟨x.kind, strOf x.sc, strOf x.ho, strOf x.pa, strOf x.tx, x.po, true, he, by rw [strOf_size]; omega, by rw [strOf_size]; omega⟩
  obtain ⟨k, XS, XH, XP, XT, xn, ok, rfl, hXH, hXP⟩ := hform
  clear he hXl HP
  go_upto_region 3 with fail
  obtain ⟨w3, hw3⟩ : ∃ w3, w2.alloc (.cells #[.int .i64 k, .string XS, .string XH, .int .i64 xn, .string XP, .string XT] 24) = w3 := ⟨_, rfl⟩
  have hX3 : w3.heap[w2.heap.size]? = some (.cells #[.int .i64 k, .string XS, .string XH, .int .i64 xn, .string XP, .string XT] 24 (0, 0)) := by rw [← hw3]; exact heap_alloc_new _ _
  have hbw3 : Below w.heap.size w w3 := by rw [← hw3]; exact hbw2.alloc hbw2.size _
  rw [hw3]
  obtain ⟨bx, hbx⟩ : ∃ bx, w2.heap.size = bx := ⟨_, rfl⟩
  have hbxw : w.heap.size ≤ bx := by rw [← hbx]; exact hbw2.size
  rw [hbx] at hX3 ⊢
  clear hw3 hbw2 hbx
  go_wp2_with fail
  refine (CUA.out _).mono ?_
  rintro e w4 ⟨rfl, hb4⟩
  have hX4 := block_past hX3 hb4
  have hbw4 := hbw3.trans (hb4.mono hbw3.size)
  clear hX3 hbw3 hb4
  go_upto_region 4 with fail
  obtain ⟨w5, hw5⟩ : ∃ w5, w4.alloc (.cells #[.string SA, .string HA, .int .i64 na, .string PA, .string QA, .string FA] 28) = w5 := ⟨_, rfl⟩
  have hU5 : w5.heap[w4.heap.size]? = some (.cells #[.string SA, .string HA, .int .i64 na, .string PA, .string QA, .string FA] 28 (0, 0)) := by rw [← hw5]; exact heap_alloc_new _ _
  have hX5 : w5.heap[bx]? = some (.cells #[.int .i64 k, .string XS, .string XH, .int .i64 xn, .string XP, .string XT] 24 (0, 0)) := by rw [← hw5]; exact (Below.heap_alloc _ _ _ (Array.getElem?_eq_some_iff.1 hX4).1).trans hX4
  have hbw5 : Below w.heap.size w w5 := by rw [← hw5]; exact hbw4.alloc hbw4.size _
  rw [hw5]
  have hlt1 : bx < w4.heap.size := (Array.getElem?_eq_some_iff.1 hX4).1
  obtain ⟨bu, hbu⟩ : ∃ bu, w4.heap.size = bu := ⟨_, rfl⟩
  rw [hbu] at hU5 hlt1 ⊢
  clear hw5 hbw4 hX4 hbu
  go_wp2_with fail
  refine (CUB.out _).mono ?_
  rintro e w6 ⟨rfl, hb6⟩
  have hX6 := block_past hX5 hb6
  have hU6 := block_past hU5 hb6
  have hbw6 := hbw5.trans (hb6.mono hbw5.size)
  clear hX5 hU5 hbw5 hb6
  go_upto_region 5 with fail
  obtain ⟨w7, hw7⟩ : ∃ w7, w6.alloc (.cells #[.string SB, .string HB, .int .i64 nb, .string PB, .string QB, .string FB] 28) = w7 := ⟨_, rfl⟩
  have hV7 : w7.heap[w6.heap.size]? = some (.cells #[.string SB, .string HB, .int .i64 nb, .string PB, .string QB, .string FB] 28 (0, 0)) := by rw [← hw7]; exact heap_alloc_new _ _
  have hX7 : w7.heap[bx]? = some (.cells #[.int .i64 k, .string XS, .string XH, .int .i64 xn, .string XP, .string XT] 24 (0, 0)) := by rw [← hw7]; exact (Below.heap_alloc _ _ _ (Array.getElem?_eq_some_iff.1 hX6).1).trans hX6
  have hU7 : w7.heap[bu]? = some (.cells #[.string SA, .string HA, .int .i64 na, .string PA, .string QA, .string FA] 28 (0, 0)) := by rw [← hw7]; exact (Below.heap_alloc _ _ _ (Array.getElem?_eq_some_iff.1 hU6).1).trans hU6
  have hbw7 : Below w.heap.size w w7 := by rw [← hw7]; exact hbw6.alloc hbw6.size _
  rw [hw7]
  have hlt2 : bu < w6.heap.size := (Array.getElem?_eq_some_iff.1 hU6).1
  obtain ⟨bv, hbv⟩ : ∃ bv, w6.heap.size = bv := ⟨_, rfl⟩
  rw [hbv] at hV7 hlt2 ⊢
  clear hw7 hbw6 hX6 hU6 hbv
  have hG7 := HG.out.below hbw7
  obtain ⟨c0, c1, c2, c3, c4, c5⟩ := six_cells hX7
  obtain ⟨d0, d1, d2, d3, d4, d5⟩ := six_cells hU7
  obtain ⟨g0, g1, g2, g3, g4, g5⟩ := six_cells hV7
  cases ok with
  | false =>
    go_wp2
    go_ret
    exact ⟨rfl, hbw7⟩
  | true =>
    by_cases hk : k = 3
    · subst hk
      obtain ⟨m, hm⟩ : ∃ m, hostM XS.data.toList XH.data.toList XP.data.toList xn SA.data.toList HA.data.toList PA.data.toList SB.data.toList na false = m := ⟨_, rfl⟩
      have C0 := Lib.hid (fun w' (hG' : GLS w') => match_host SA HA PA QA FA SB HB PB QB FB XS XH XP XT na nb xn false w' hHA hPA hXH hXP hG')
      rw [hm] at C0
      unfold soV urlV at C0
      go_wp2_with fail
      refine (C0.out _ hG7).mono ?_
      rintro e w8 ⟨rfl, hb8⟩
      have hbw8 := hbw7.trans (hb8.mono hbw7.size)
      cases m with
      | false =>
        go_wp2
        go_ret
        exact ⟨rfl, hbw8⟩
      | true =>
        have hX8 := block_past hX7 hb8
        have hU8 := block_past hU7 hb8
        have hV8 := block_past hV7 hb8
        have hG8 := HG.out.below hbw8
        obtain ⟨W1, W2, W3, W4, W5, W6⟩ := wider _ _ _ _ _ _ _ _ _ hm
        have C1 := Lib.hid (fun w' (hG' : GLS w') => match_host SA HA PA QA FA SB HB PB QB FB XS XH ⟨#[]⟩ XT na nb xn false w' hHA hPA hXH (by decide) hG')
        have C2 := Lib.hid (fun w' (hG' : GLS w') => match_host SA HA PA QA FA SB HB PB QB FB XS XH XP XT na nb xn true w' hHA hPA hXH hXP hG')
        have C3 := Lib.hid (fun w' (hG' : GLS w') => match_host SA HA PA QA FA SB HB PB QB FB XS XH ⟨#[]⟩ XT na nb (-2) false w' hHA hPA hXH (by decide) hG')
        have C4 := Lib.hid (fun w' (hG' : GLS w') => match_host SA HA PA QA FA SB HB PB QB FB XS ⟨#[42]⟩ ⟨#[]⟩ XT na nb (-2) false w' hHA hPA (by decide) (by decide) hG')
        have C5 := Lib.hid (fun w' (hG' : GLS w') => match_scheme SA HA PA QA FA SB HB PB QB FB XS ⟨#[]⟩ ⟨#[]⟩ ⟨#[]⟩ na nb (-1) false w' hG')
        have C6 := Lib.hid (fun w' => refDomain_any HA w' hHA)
        have e0 : (⟨#[]⟩ : ByteArray).data.toList = [] := rfl
        have e42 : (⟨#[42]⟩ : ByteArray).data.toList = [42] := rfl
        rw [e0, W1] at C1
        rw [W2] at C2
        rw [e0, W3] at C3
        rw [e0, e42, W4] at C4
        rw [W6] at C6
        unfold soV urlV at C1 C2 C3 C4 C5
        have HW5 := Lib.hid W5
        clear W1 W2 W3 W4 W5 W6 hm C0 c0 c1 c2 c3 c4 c5 d0 d1 d2 d3 d4 d5 g0 g1 g2 g3 g4 g5 hX7 hU7 hV7 hb8 hbw7 hG7 e0 e42
        obtain ⟨c0, c1, c2, c3, c4, c5⟩ := six_cells hX8
        go_upto_region 8 with fail
        obtain ⟨w9, hw9⟩ : ∃ w9, w8.alloc (.cells #[.int .i64 3, .string XS, .string XH, .int .i64 xn, .string XP, .string XT] 24) = w9 := ⟨_, rfl⟩
        have hY9 : w9.heap[w8.heap.size]? = some (.cells #[.int .i64 3, .string XS, .string XH, .int .i64 xn, .string XP, .string XT] 24 (0, 0)) := by rw [← hw9]; exact heap_alloc_new _ _
        have hX9 : w9.heap[bx]? = some (.cells #[.int .i64 3, .string XS, .string XH, .int .i64 xn, .string XP, .string XT] 24 (0, 0)) := by rw [← hw9]; exact (Below.heap_alloc _ _ _ (Array.getElem?_eq_some_iff.1 hX8).1).trans hX8
        have hU9 : w9.heap[bu]? = some (.cells #[.string SA, .string HA, .int .i64 na, .string PA, .string QA, .string FA] 28 (0, 0)) := by rw [← hw9]; exact (Below.heap_alloc _ _ _ (Array.getElem?_eq_some_iff.1 hU8).1).trans hU8
        have hV9 : w9.heap[bv]? = some (.cells #[.string SB, .string HB, .int .i64 nb, .string PB, .string QB, .string FB] 28 (0, 0)) := by rw [← hw9]; exact (Below.heap_alloc _ _ _ (Array.getElem?_eq_some_iff.1 hV8).1).trans hV8
        have hbw9 : Below w.heap.size w w9 := by rw [← hw9]; exact hbw8.alloc hbw8.size _
        rw [hw9]
        have hlt3 : bv < w8.heap.size := (Array.getElem?_eq_some_iff.1 hV8).1
        have hwy : w.heap.size ≤ w8.heap.size := hbw8.size
        obtain ⟨b_y, hby⟩ : ∃ b_y, w8.heap.size = b_y := ⟨_, rfl⟩
        rw [hby] at hY9 hlt3 hwy ⊢
        clear hw9 hbw8 hX8 hU8 hV8 hby hG8 c0 c1 c2 c3 c4 c5
        obtain ⟨f0, f1, f2, f3, f4, f5⟩ := six_free hY9
        obtain ⟨y0, y1, y2, y3, y4, y5⟩ := six_cells hY9
        go_upto_region 9 with fail
        obtain ⟨w10, hw10⟩ : ∃ w10, w9.setCell ⟨b_y, 4, none⟩ (.string ⟨#[]⟩) = w10 := ⟨_, rfl⟩
        have hY10 : w10.heap[b_y]? = some (.cells #[.int .i64 3, .string XS, .string XH, .int .i64 xn, .string ⟨#[]⟩, .string XT] 24 (0, 0)) := by rw [← hw10]; exact heap_setCell_at hY9 4 _
        have hX10 := block_past_set (k := 4) (v := .string ⟨#[]⟩) hX9 (show bx ≠ b_y by omega)
        have hU10 := block_past_set (k := 4) (v := .string ⟨#[]⟩) hU9 (show bu ≠ b_y by omega)
        have hV10 := block_past_set (k := 4) (v := .string ⟨#[]⟩) hV9 (show bv ≠ b_y by omega)
        have hbw10 : Below w.heap.size w w10 := by rw [← hw10]; exact hbw9.setCell hwy _
        rw [hw10] at hX10 hU10 hV10 ⊢
        have hG10 := HG.out.below hbw10
        clear hw10 hY9 hX9 hU9 hV9 hbw9 f0 f1 f2 f3 f4 f5 y0 y1 y2 y3 y4 y5
        obtain ⟨y0, y1, y2, y3, y4, y5⟩ := six_cells hY10
        obtain ⟨c0, c1, c2, c3, c4, c5⟩ := six_cells hX10
        obtain ⟨d0, d1, d2, d3, d4, d5⟩ := six_cells hU10
        obtain ⟨g0, g1, g2, g3, g4, g5⟩ := six_cells hV10
        go_wp2_with fail
        refine (C1.out _ hG10).mono ?_
        rintro e w11 ⟨rfl, hb11⟩
        have hY11 := block_past hY10 hb11
        have hX11 := block_past hX10 hb11
        have hU11 := block_past hU10 hb11
        have hV11 := block_past hV10 hb11
        have hbw11 := hbw10.trans (hb11.mono hbw10.size)
        have hG11 := HG.out.below hbw11
        clear hY10 hX10 hU10 hV10 hbw10 hb11 hG10 y0 y1 y2 y3 y4 y5 c0 c1 c2 c3 c4 c5 d0 d1 d2 d3 d4 d5 g0 g1 g2 g3 g4 g5 C1
        obtain ⟨c0, c1, c2, c3, c4, c5⟩ := six_cells hX11
        obtain ⟨d0, d1, d2, d3, d4, d5⟩ := six_cells hU11
        obtain ⟨g0, g1, g2, g3, g4, g5⟩ := six_cells hV11
        go_wp2_with fail
        refine (C2.out _ hG11).mono ?_
        rintro e w12 ⟨rfl, hb12⟩
        have hY12 := block_past hY11 hb12
        have hX12 := block_past hX11 hb12
        have hU12 := block_past hU11 hb12
        have hV12 := block_past hV11 hb12
        have hbw12 := hbw11.trans (hb12.mono hbw11.size)
        clear hY11 hX11 hU11 hV11 hbw11 hb12 hG11 c0 c1 c2 c3 c4 c5 d0 d1 d2 d3 d4 d5 g0 g1 g2 g3 g4 g5 C2
        obtain ⟨f0, f1, f2, f3, f4, f5⟩ := six_free hY12
        obtain ⟨y0, y1, y2, y3, y4, y5⟩ := six_cells hY12
        go_upto_region 12 with fail
        obtain ⟨w13, hw13⟩ : ∃ w13, w12.setCell ⟨b_y, 3, none⟩ (.int .i64 (-2)) = w13 := ⟨_, rfl⟩
        have hY13 : w13.heap[b_y]? = some (.cells #[.int .i64 3, .string XS, .string XH, .int .i64 (-2), .string ⟨#[]⟩, .string XT] 24 (0, 0)) := by rw [← hw13]; exact heap_setCell_at hY12 3 _
        have hX13 := block_past_set (k := 3) (v := .int .i64 (-2)) hX12 (show bx ≠ b_y by omega)
        have hU13 := block_past_set (k := 3) (v := .int .i64 (-2)) hU12 (show bu ≠ b_y by omega)
        have hV13 := block_past_set (k := 3) (v := .int .i64 (-2)) hV12 (show bv ≠ b_y by omega)
        have hbw13 : Below w.heap.size w w13 := by rw [← hw13]; exact hbw12.setCell hwy _
        rw [hw13] at hX13 hU13 hV13 ⊢
        have hG13 := HG.out.below hbw13
        clear hw13 hY12 hX12 hU12 hV12 hbw12 f0 f1 f2 f3 f4 f5 y0 y1 y2 y3 y4 y5
        obtain ⟨y0, y1, y2, y3, y4, y5⟩ := six_cells hY13
        obtain ⟨d0, d1, d2, d3, d4, d5⟩ := six_cells hU13
        obtain ⟨g0, g1, g2, g3, g4, g5⟩ := six_cells hV13
        go_wp2_with fail
        refine (C3.out _ hG13).mono ?_
        rintro e w14 ⟨rfl, hb14⟩
        have hY14 := block_past hY13 hb14
        have hX14 := block_past hX13 hb14
        have hU14 := block_past hU13 hb14
        have hV14 := block_past hV13 hb14
        have hbw14 := hbw13.trans (hb14.mono hbw13.size)
        clear hY13 hX13 hU13 hV13 hbw13 hb14 hG13 y0 y1 y2 y3 y4 y5 d0 d1 d2 d3 d4 d5 g0 g1 g2 g3 g4 g5 C3
        obtain ⟨f0, f1, f2, f3, f4, f5⟩ := six_free hY14
        obtain ⟨y0, y1, y2, y3, y4, y5⟩ := six_cells hY14
        go_upto_region 15 with fail
        obtain ⟨w15, hw15⟩ : ∃ w15, w14.setCell ⟨b_y, 2, none⟩ (.string ⟨#[42]⟩) = w15 := ⟨_, rfl⟩
        have hY15 : w15.heap[b_y]? = some (.cells #[.int .i64 3, .string XS, .string ⟨#[42]⟩, .int .i64 (-2), .string ⟨#[]⟩, .string XT] 24 (0, 0)) := by rw [← hw15]; exact heap_setCell_at hY14 2 _
        have hX15 := block_past_set (k := 2) (v := .string ⟨#[42]⟩) hX14 (show bx ≠ b_y by omega)
        have hU15 := block_past_set (k := 2) (v := .string ⟨#[42]⟩) hU14 (show bu ≠ b_y by omega)
        have hV15 := block_past_set (k := 2) (v := .string ⟨#[42]⟩) hV14 (show bv ≠ b_y by omega)
        have hbw15 : Below w.heap.size w w15 := by rw [← hw15]; exact hbw14.setCell hwy _
        rw [hw15] at hX15 hU15 hV15 ⊢
        clear hw15 hY14 hX14 hU14 hV14 hbw14 f0 f1 f2 f3 f4 f5 y0 y1 y2 y3 y4 y5
        obtain ⟨c0, c1, c2, c3, c4, c5⟩ := six_cells hX15
        go_upto_region 16 with fail
        obtain ⟨w16, hw16⟩ : ∃ w16, w15.alloc (.cells #[.int .i64 2, .string XS, .string ⟨#[]⟩, .int .i64 (-1), .string ⟨#[]⟩, .string ⟨#[]⟩] 24) = w16 := ⟨_, rfl⟩
        have hZ16 : w16.heap[w15.heap.size]? = some (.cells #[.int .i64 2, .string XS, .string ⟨#[]⟩, .int .i64 (-1), .string ⟨#[]⟩, .string ⟨#[]⟩] 24 (0, 0)) := by rw [← hw16]; exact heap_alloc_new _ _
        have hY16 : w16.heap[b_y]? = some (.cells #[.int .i64 3, .string XS, .string ⟨#[42]⟩, .int .i64 (-2), .string ⟨#[]⟩, .string XT] 24 (0, 0)) := by rw [← hw16]; exact (Below.heap_alloc _ _ _ (Array.getElem?_eq_some_iff.1 hY15).1).trans hY15
        have hX16 : w16.heap[bx]? = some (.cells #[.int .i64 3, .string XS, .string XH, .int .i64 xn, .string XP, .string XT] 24 (0, 0)) := by rw [← hw16]; exact (Below.heap_alloc _ _ _ (Array.getElem?_eq_some_iff.1 hX15).1).trans hX15
        have hU16 : w16.heap[bu]? = some (.cells #[.string SA, .string HA, .int .i64 na, .string PA, .string QA, .string FA] 28 (0, 0)) := by rw [← hw16]; exact (Below.heap_alloc _ _ _ (Array.getElem?_eq_some_iff.1 hU15).1).trans hU15
        have hV16 : w16.heap[bv]? = some (.cells #[.string SB, .string HB, .int .i64 nb, .string PB, .string QB, .string FB] 28 (0, 0)) := by rw [← hw16]; exact (Below.heap_alloc _ _ _ (Array.getElem?_eq_some_iff.1 hV15).1).trans hV15
        have hbw16 : Below w.heap.size w w16 := by rw [← hw16]; exact hbw15.alloc hbw15.size _
        rw [hw16]
        obtain ⟨b_z, hbz⟩ : ∃ b_z, w15.heap.size = b_z := ⟨_, rfl⟩
        rw [hbz] at hZ16 ⊢
        clear hw16 hY15 hX15 hU15 hV15 hbw15 hbz c0 c1 c2 c3 c4 c5
        have hG16 := HG.out.below hbw16
        obtain ⟨y0, y1, y2, y3, y4, y5⟩ := six_cells hY16
        obtain ⟨d0, d1, d2, d3, d4, d5⟩ := six_cells hU16
        obtain ⟨g0, g1, g2, g3, g4, g5⟩ := six_cells hV16
        go_wp2_with fail
        refine (C4.out _ hG16).mono ?_
        rintro e w17 ⟨rfl, hb17⟩
        have hZ17 := block_past hZ16 hb17
        have hX17 := block_past hX16 hb17
        have hU17 := block_past hU16 hb17
        have hV17 := block_past hV16 hb17
        have hbw17 := hbw16.trans (hb17.mono hbw16.size)
        have hG17 := HG.out.below hbw17
        clear hZ16 hY16 hX16 hU16 hV16 hbw16 hb17 hG16 y0 y1 y2 y3 y4 y5 d0 d1 d2 d3 d4 d5 g0 g1 g2 g3 g4 g5 C4
        obtain ⟨y0, y1, y2, y3, y4, y5⟩ := six_cells hZ17
        obtain ⟨c0, c1, c2, c3, c4, c5⟩ := six_cells hX17
        obtain ⟨d0, d1, d2, d3, d4, d5⟩ := six_cells hU17
        obtain ⟨g0, g1, g2, g3, g4, g5⟩ := six_cells hV17
        by_cases hxs : XS.data.toList = []
        · have he : XS.toList.isEmpty = true := by rw [isEmpty_data, hxs]; rfl
          clear hxs C5 HW5
          go_wp2_with fail
          refine (C6.out _).mono ?_
          rintro e w18 ⟨rfl, hb18⟩
          have hbw18 := hbw17.trans (hb18.mono hbw17.size)
          go_wp2
          go_ret
          exact ⟨rfl, hbw18⟩
        · have he : XS.toList.isEmpty = false := by rw [isEmpty_data]; exact beq_eq_false_iff_ne.2 hxs
          rw [HW5.out hxs] at C5
          clear hxs HW5
          go_wp2_with fail
          refine (C5.out _ hG17).mono ?_
          rintro e w18 ⟨rfl, hb18⟩
          have hU18 := block_past hU17 hb18
          have hbw18 := hbw17.trans (hb18.mono hbw17.size)
          clear y0 y1 y2 y3 y4 y5 c0 c1 c2 c3 c4 c5 d0 d1 d2 d3 d4 d5 g0 g1 g2 g3 g4 g5
          obtain ⟨d0, d1, d2, d3, d4, d5⟩ := six_cells hU18
          go_wp2_with fail
          refine (C6.out _).mono ?_
          rintro e w19 ⟨rfl, hb19⟩
          have hbw19 := hbw18.trans (hb19.mono hbw18.size)
          go_wp2
          go_ret
          exact ⟨rfl, hbw19⟩
    · have hkb : (k == 3) = false := beq_eq_false_iff_ne.2 hk
      have hkn : (k != 3) = true := by unfold bne; rw [hkb]; rfl
      clear hk
      go_wp2
      go_ret
      exact ⟨rfl, hbw7⟩
end Go.Proofs.YtmgkmpbblhkacaaGreatDoor
