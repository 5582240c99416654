/- The law's url and lets. The law's shown. -/
import Derived.Test.YtmgkmpbblhkacaaGreatDoorMgR
import Derived.Test.YtmgkmpbblhkacaaGreatDoorS17
import Derived.Test.YtmgkmpbblhkacaaGreatDoorR10b
import Derived.Test.YtmgkmpbblhkacaaGreatDoorMgF
namespace Go.Proofs.YtmgkmpbblhkacaaGreatDoor
open Go.RowKit Go.MapKept
set_option linter.unusedSimpArgs false
set_option linter.unusedVariables false

theorem url_of (s : ByteArray) (U : UrlL) (w : World) (hs : s.size ≤ 100000) (h : urlP parseNR s.data.toList = some U) (hb : (specHost (urlBody s.data.toList)).headD 0 ≠ 91) :
    Calls Tryz.prog 13 #[.string s] w fun e w' => e = .returned (urlVal U) ∧ Below w.heap.size w w' := by
  have CP := fun w' => refUrl_any parseNR s w' hs (fun X w'' hX hXl => refParseN_any X w'' hX (by rw [hXl]; exact hb))
  rw [h] at CP
  obtain ⟨sc, ho, po, pa, qu, fr⟩ := U
  obtain ⟨SC, h1⟩ : ∃ b, strOf sc = b := ⟨_, rfl⟩
  obtain ⟨HO, h2⟩ : ∃ b, strOf ho = b := ⟨_, rfl⟩
  obtain ⟨PA, h3⟩ : ∃ b, strOf pa = b := ⟨_, rfl⟩
  obtain ⟨QU, h4⟩ : ∃ b, strOf qu = b := ⟨_, rfl⟩
  obtain ⟨FR, h5⟩ : ∃ b, strOf fr = b := ⟨_, rfl⟩
  have hv : urlVal ⟨sc, ho, po, pa, qu, fr⟩ = .agg #[.string SC, .string HO, .int .i64 po, .string PA, .string QU, .string FR] := by
    unfold urlVal urlV; rw [h1, h2, h3, h4, h5]
  have CQ : ∀ w', Calls Tryz.prog 25 #[.string s] w' fun e w'' => e = .returned (.tuple #[.agg #[.string SC, .string HO, .int .i64 po, .string PA, .string QU, .string FR], .int .i64 0]) ∧ Below w'.heap.size w' w'' := by
    intro w'; have := CP w'; rw [← hv]; exact this
  rw [hv]
  have HC := Lib.hid CQ
  clear CP CQ hv h1 h2 h3 h4 h5 h hb
  go_enter Tryz.func13, Tryz.ntmps13
  go_wp2_with fail
  refine (HC.out _).mono ?_
  rintro e w1 ⟨rfl, hb1⟩
  have hA1 := block_new_past hb1
  have hbw1 := below_past_alloc hb1
  have hs1 := size_past_alloc hb1
  clear hb1
  have hA2 : (w1.alloc (.cells #[.string SC, .string HO, .int .i64 po, .string PA, .string QU, .string FR] 28)).heap[w.heap.size]? = some (.cells #[.string ⟨#[]⟩, .string ⟨#[]⟩, .int .i64 0, .string ⟨#[]⟩, .string ⟨#[]⟩, .string ⟨#[]⟩] 28 (0, 0)) := (Below.heap_alloc _ _ _ (by omega)).trans hA1
  have hbw2 : Below w.heap.size w (w1.alloc (.cells #[.string SC, .string HO, .int .i64 po, .string PA, .string QU, .string FR] 28)) := hbw1.alloc (by omega) _
  obtain ⟨x0, x1, x2, x3, x4, x5⟩ := six_cells hA2
  obtain ⟨f0, f1, f2, f3, f4, f5⟩ := six_free hA2
  go_wp2
  exact bodyPost_ret (v := .agg #[.string SC, .string HO, .int .i64 po, .string PA, .string QU, .string FR]) (by simp [results, Tryz.results13, go_sem, x0, x1, x2, x3, x4, x5]) rfl ⟨rfl, (((((hbw2.setCell (Nat.le_refl _) _).setCell (Nat.le_refl _) _).setCell (Nat.le_refl _) _).setCell (Nat.le_refl _) _).setCell (Nat.le_refl _) _).setCell (Nat.le_refl _) _⟩
def selfS : Bs := [104, 116, 116, 112, 115, 58, 47, 47, 115, 101, 108, 102, 46, 101, 120, 97, 109, 112, 108, 101, 47]
def selfU : UrlL := ⟨[104, 116, 116, 112, 115], [115, 101, 108, 102, 46, 101, 120, 97, 109, 112, 108, 101], -1, [47], [], []⟩
set_option maxRecDepth 100000 in
theorem self_url : urlP parseNR selfS = some selfU := by decide
set_option maxRecDepth 100000 in
theorem self_plain : (specHost (urlBody selfS)).headD 0 ≠ 91 := by decide
set_option maxRecDepth 1000000 in
set_option maxHeartbeats 4000000 in
theorem lets_of (s u : ByteArray) (x : SrcL) (U : UrlL) (r : Bool) (w : World) (hs : s.size ≤ 100000) (hu : u.size ≤ 100000) (hG : GLS w) (hx : srcP s.data.toList = some x) (hU : urlP parseNR u.data.toList = some U) (hb : (specHost (urlBody u.data.toList)).headD 0 ≠ 91)
    (CM : ∀ w', GLS w' → Calls Tryz.prog 14 #[srcVal x, urlVal U, urlVal selfU, .bool false] w' fun e w'' => e = .returned (.bool r) ∧ Below w'.heap.size w' w'') :
    Calls Tryz.prog 19 #[.string s, .string u] w fun e w' => e = .returned (.bool r) ∧ Below w.heap.size w w' := by
  have CP := sourceParse_any s w hs hG.toGL
  rw [hx] at CP
  have CU := fun w' => url_of u U w' hu hU hb
  have CZ := fun w' => url_of (strOf selfS) selfU w' (by decide) (by rw [strOf_data]; exact self_url) (by rw [strOf_data]; exact self_plain)
  obtain ⟨k, xs, xh, xn, xp, xt⟩ := x
  obtain ⟨XS, h1⟩ : ∃ b, strOf xs = b := ⟨_, rfl⟩
  obtain ⟨XH, h2⟩ : ∃ b, strOf xh = b := ⟨_, rfl⟩
  obtain ⟨XP, h3⟩ : ∃ b, strOf xp = b := ⟨_, rfl⟩
  obtain ⟨XT, h4⟩ : ∃ b, strOf xt = b := ⟨_, rfl⟩
  have hv : srcVal ⟨k, xs, xh, xn, xp, xt⟩ = .agg #[.int .i64 k, .string XS, .string XH, .int .i64 xn, .string XP, .string XT] := by
    unfold srcVal; rw [h1, h2, h3, h4]
  have CQ : Calls Tryz.prog 12 #[.string s] w fun e w'' => e = .returned (.tuple #[.agg #[.int .i64 k, .string XS, .string XH, .int .i64 xn, .string XP, .string XT], .bool true]) ∧ Below w.heap.size w w'' := by
    rw [← hv]; exact CP
  rw [hv] at CM
  obtain ⟨UV, hUV⟩ : ∃ v, urlVal U = v := ⟨_, rfl⟩
  obtain ⟨ZV, hZV⟩ : ∃ v, urlVal selfU = v := ⟨_, rfl⟩
  rw [hUV] at CU CM
  rw [hZV] at CZ CM
  unfold selfS strOf at CZ
  have HC := Lib.hid CQ
  have HU := Lib.hid CU
  have HZ := Lib.hid CZ
  have HM := Lib.hid CM
  have HG := Lib.hid hG
  clear CP CQ CU CZ CM hG hv h1 h2 h3 h4 hx hU hb hUV hZV
  go_enter Tryz.func19, Tryz.ntmps19
  go_wp2_with fail
  refine HC.out.mono ?_
  rintro e w1 ⟨rfl, hb1⟩
  go_wp2_with fail
  obtain ⟨w2, hw2⟩ : ∃ w2, w1.alloc (.cells #[.int .i64 k, .string XS, .string XH, .int .i64 xn, .string XP, .string XT] 24) = w2 := ⟨_, rfl⟩
  have hX2 : w2.heap[w1.heap.size]? = some (.cells #[.int .i64 k, .string XS, .string XH, .int .i64 xn, .string XP, .string XT] 24 (0, 0)) := by rw [← hw2]; exact heap_alloc_new _ _
  have hbw2 : Below w.heap.size w w2 := by rw [← hw2]; exact hb1.alloc hb1.size _
  rw [hw2]
  have hG2 := HG.out.below hbw2
  clear hw2 hb1
  obtain ⟨c0, c1, c2, c3, c4, c5⟩ := six_cells hX2
  first | go_region_with (first
    | (go_at_call 13; first
        | (with_reducible refine (HU.out _).mono ?_; rintro e w3 ⟨rfl, hb3⟩; have hX3 := block_past_drew hX2 hb3; have hx3 := six_cells hX3; obtain ⟨d0, d1, d2, d3, d4, d5⟩ := hx3)
        | (refine (HZ.out _).mono ?_; rintro e w4 ⟨rfl, hb4⟩; have hX4 := block_past hX3 hb4; have hx4 := six_cells hX4; obtain ⟨g0, g1, g2, g3, g4, g5⟩ := hx4))
    | (go_at_call 14; refine (HM.out _ ((hG2.drew.below hb3).below hb4)).mono ?_; rintro e w5 ⟨rfl, hb5⟩)) | fail "region"
  all_goals
    have hbw5 := hbw2.trans ((((below_past_drew hb3).trans (hb4.mono (below_past_drew hb3).size)).trans (hb5.mono (Nat.le_trans (below_past_drew hb3).size hb4.size))).mono hbw2.size)
    clear hb3 hb4 hb5 hX2 hX3 hX4
    go_wp2
    go_ret
    exact ⟨rfl, hbw5⟩
end Go.Proofs.YtmgkmpbblhkacaaGreatDoor
namespace Go.Proofs.YtmgkmpbblhkacaaGreatDoor
open Go.RowKit Go.MapKept
set_option linter.unusedSimpArgs false
set_option linter.unusedVariables false

set_option maxRecDepth 1000000 in
theorem let0_val : (hostM (strOf [104, 116, 116, 112, 115]).data.toList (strOf [42, 46, 97, 46, 101, 120, 97, 109, 112, 108, 101]).data.toList (strOf [47, 120, 47]).data.toList (-1) (strOf [104, 116, 116, 112, 115]).data.toList (strOf [98, 46, 97, 46, 101, 120, 97, 109, 112, 108, 101]).data.toList (strOf [47, 120, 47, 121]).data.toList (strOf selfU.sc).data.toList (-1) false) = true := by decide
set_option maxRecDepth 1000000 in
theorem let0 (w : World) (hG : GLS w) : Calls Tryz.prog 19 #[.string ⟨#[104, 116, 116, 112, 115, 58, 47, 47, 42, 46, 97, 46, 101, 120, 97, 109, 112, 108, 101, 47, 120, 47]⟩, .string ⟨#[104, 116, 116, 112, 115, 58, 47, 47, 98, 46, 97, 46, 101, 120, 97, 109, 112, 108, 101, 47, 120, 47, 121]⟩] w fun e w' => e = .returned (.bool true) ∧ Below w.heap.size w w' :=
  lets_of ⟨#[104, 116, 116, 112, 115, 58, 47, 47, 42, 46, 97, 46, 101, 120, 97, 109, 112, 108, 101, 47, 120, 47]⟩ ⟨#[104, 116, 116, 112, 115, 58, 47, 47, 98, 46, 97, 46, 101, 120, 97, 109, 112, 108, 101, 47, 120, 47, 121]⟩ ⟨3, [104, 116, 116, 112, 115], [42, 46, 97, 46, 101, 120, 97, 109, 112, 108, 101], -1, [47, 120, 47], []⟩ ⟨[104, 116, 116, 112, 115], [98, 46, 97, 46, 101, 120, 97, 109, 112, 108, 101], -1, [47, 120, 47, 121], [], []⟩ true w (by decide) (by decide) hG (by decide) (by decide) (by decide) (fun w' hG' => by
    have h := match_host (strOf [104, 116, 116, 112, 115]) (strOf [98, 46, 97, 46, 101, 120, 97, 109, 112, 108, 101]) (strOf [47, 120, 47, 121]) (strOf []) (strOf []) (strOf selfU.sc) (strOf selfU.ho) (strOf selfU.pa) (strOf selfU.qu) (strOf selfU.fr) (strOf [104, 116, 116, 112, 115]) (strOf [42, 46, 97, 46, 101, 120, 97, 109, 112, 108, 101]) (strOf [47, 120, 47]) (strOf []) (-1) (-1) (-1) false w' (by decide) (by decide) (by decide) (by decide) hG'
    rw [let0_val] at h
    exact h)
set_option maxRecDepth 1000000 in
theorem let1_val : (hostM (strOf [104, 116, 116, 112, 115]).data.toList (strOf [42, 46, 97, 46, 101, 120, 97, 109, 112, 108, 101]).data.toList (strOf [47, 120, 47]).data.toList (-1) (strOf [104, 116, 116, 112, 115]).data.toList (strOf [97, 46, 101, 120, 97, 109, 112, 108, 101]).data.toList (strOf [47, 120, 47, 121]).data.toList (strOf selfU.sc).data.toList (-1) false) = false := by decide
set_option maxRecDepth 1000000 in
theorem let1 (w : World) (hG : GLS w) : Calls Tryz.prog 19 #[.string ⟨#[104, 116, 116, 112, 115, 58, 47, 47, 42, 46, 97, 46, 101, 120, 97, 109, 112, 108, 101, 47, 120, 47]⟩, .string ⟨#[104, 116, 116, 112, 115, 58, 47, 47, 97, 46, 101, 120, 97, 109, 112, 108, 101, 47, 120, 47, 121]⟩] w fun e w' => e = .returned (.bool false) ∧ Below w.heap.size w w' :=
  lets_of ⟨#[104, 116, 116, 112, 115, 58, 47, 47, 42, 46, 97, 46, 101, 120, 97, 109, 112, 108, 101, 47, 120, 47]⟩ ⟨#[104, 116, 116, 112, 115, 58, 47, 47, 97, 46, 101, 120, 97, 109, 112, 108, 101, 47, 120, 47, 121]⟩ ⟨3, [104, 116, 116, 112, 115], [42, 46, 97, 46, 101, 120, 97, 109, 112, 108, 101], -1, [47, 120, 47], []⟩ ⟨[104, 116, 116, 112, 115], [97, 46, 101, 120, 97, 109, 112, 108, 101], -1, [47, 120, 47, 121], [], []⟩ false w (by decide) (by decide) hG (by decide) (by decide) (by decide) (fun w' hG' => by
    have h := match_host (strOf [104, 116, 116, 112, 115]) (strOf [97, 46, 101, 120, 97, 109, 112, 108, 101]) (strOf [47, 120, 47, 121]) (strOf []) (strOf []) (strOf selfU.sc) (strOf selfU.ho) (strOf selfU.pa) (strOf selfU.qu) (strOf selfU.fr) (strOf [104, 116, 116, 112, 115]) (strOf [42, 46, 97, 46, 101, 120, 97, 109, 112, 108, 101]) (strOf [47, 120, 47]) (strOf []) (-1) (-1) (-1) false w' (by decide) (by decide) (by decide) (by decide) hG'
    rw [let1_val] at h
    exact h)
set_option maxRecDepth 1000000 in
theorem let2_val : (anyM (strOf [104, 116, 116, 112]).data.toList (strOf selfU.sc).data.toList) = true := by decide
set_option maxRecDepth 1000000 in
theorem let2 (w : World) (hG : GLS w) : Calls Tryz.prog 19 #[.string ⟨#[42]⟩, .string ⟨#[104, 116, 116, 112, 58, 47, 47, 98, 47]⟩] w fun e w' => e = .returned (.bool true) ∧ Below w.heap.size w w' :=
  lets_of ⟨#[42]⟩ ⟨#[104, 116, 116, 112, 58, 47, 47, 98, 47]⟩ ⟨1, [], [], -1, [], []⟩ ⟨[104, 116, 116, 112], [98], -1, [47], [], []⟩ true w (by decide) (by decide) hG (by decide) (by decide) (by decide) (fun w' hG' => by
    have h := match_any (strOf [104, 116, 116, 112]) (strOf [98]) (strOf [47]) (strOf []) (strOf []) (strOf selfU.sc) (strOf selfU.ho) (strOf selfU.pa) (strOf selfU.qu) (strOf selfU.fr) (strOf []) (strOf []) (strOf []) (strOf []) (-1) (-1) (-1) false w'
    rw [let2_val] at h
    exact h)
set_option maxRecDepth 1000000 in
theorem let3_val : (anyM (strOf [100, 97, 116, 97]).data.toList (strOf selfU.sc).data.toList) = false := by decide
set_option maxRecDepth 1000000 in
theorem let3 (w : World) (hG : GLS w) : Calls Tryz.prog 19 #[.string ⟨#[42]⟩, .string ⟨#[100, 97, 116, 97, 58, 120]⟩] w fun e w' => e = .returned (.bool false) ∧ Below w.heap.size w w' :=
  lets_of ⟨#[42]⟩ ⟨#[100, 97, 116, 97, 58, 120]⟩ ⟨1, [], [], -1, [], []⟩ ⟨[100, 97, 116, 97], [], -1, [120], [], []⟩ false w (by decide) (by decide) hG (by decide) (by decide) (by decide) (fun w' hG' => by
    have h := match_any (strOf [100, 97, 116, 97]) (strOf []) (strOf [120]) (strOf []) (strOf []) (strOf selfU.sc) (strOf selfU.ho) (strOf selfU.pa) (strOf selfU.qu) (strOf selfU.fr) (strOf []) (strOf []) (strOf []) (strOf []) (-1) (-1) (-1) false w'
    rw [let3_val] at h
    exact h)
set_option maxRecDepth 1000000 in
theorem let4_val : (togetherP (strOf [100, 97, 116, 97]).data.toList (strOf [100, 97, 116, 97]).data.toList) = true := by decide
set_option maxRecDepth 1000000 in
theorem let4 (w : World) (hG : GLS w) : Calls Tryz.prog 19 #[.string ⟨#[100, 97, 116, 97, 58]⟩, .string ⟨#[100, 97, 116, 97, 58, 120]⟩] w fun e w' => e = .returned (.bool true) ∧ Below w.heap.size w w' :=
  lets_of ⟨#[100, 97, 116, 97, 58]⟩ ⟨#[100, 97, 116, 97, 58, 120]⟩ ⟨2, [100, 97, 116, 97], [], -1, [], []⟩ ⟨[100, 97, 116, 97], [], -1, [120], [], []⟩ true w (by decide) (by decide) hG (by decide) (by decide) (by decide) (fun w' hG' => by
    have h := match_scheme (strOf [100, 97, 116, 97]) (strOf []) (strOf [120]) (strOf []) (strOf []) (strOf selfU.sc) (strOf selfU.ho) (strOf selfU.pa) (strOf selfU.qu) (strOf selfU.fr) (strOf [100, 97, 116, 97]) (strOf []) (strOf []) (strOf []) (-1) (-1) (-1) false w' hG'
    rw [let4_val] at h
    exact h)
set_option maxRecDepth 1000000 in
theorem let5_val : (selfM (strOf [104, 116, 116, 112, 115]).data.toList (strOf [115, 101, 108, 102, 46, 101, 120, 97, 109, 112, 108, 101]).data.toList (strOf selfU.sc).data.toList (strOf selfU.ho).data.toList (-1) (-1)) = true := by decide
set_option maxRecDepth 1000000 in
theorem let5 (w : World) (hG : GLS w) : Calls Tryz.prog 19 #[.string ⟨#[39, 115, 101, 108, 102, 39]⟩, .string ⟨#[104, 116, 116, 112, 115, 58, 47, 47, 115, 101, 108, 102, 46, 101, 120, 97, 109, 112, 108, 101, 47, 122]⟩] w fun e w' => e = .returned (.bool true) ∧ Below w.heap.size w w' :=
  lets_of ⟨#[39, 115, 101, 108, 102, 39]⟩ ⟨#[104, 116, 116, 112, 115, 58, 47, 47, 115, 101, 108, 102, 46, 101, 120, 97, 109, 112, 108, 101, 47, 122]⟩ ⟨4, [], [], -1, [], []⟩ ⟨[104, 116, 116, 112, 115], [115, 101, 108, 102, 46, 101, 120, 97, 109, 112, 108, 101], -1, [47, 122], [], []⟩ true w (by decide) (by decide) hG (by decide) (by decide) (by decide) (fun w' hG' => by
    have h := match_self (strOf [104, 116, 116, 112, 115]) (strOf [115, 101, 108, 102, 46, 101, 120, 97, 109, 112, 108, 101]) (strOf [47, 122]) (strOf []) (strOf []) (strOf selfU.sc) (strOf selfU.ho) (strOf selfU.pa) (strOf selfU.qu) (strOf selfU.fr) (strOf []) (strOf []) (strOf []) (strOf []) (-1) (-1) (-1) false w'
    rw [let5_val] at h
    exact h)
set_option maxRecDepth 1000000 in
theorem let6 (w : World) (hG : GLS w) : Calls Tryz.prog 19 #[.string ⟨#[39, 110, 111, 110, 101, 39]⟩, .string ⟨#[104, 116, 116, 112, 115, 58, 47, 47, 115, 101, 108, 102, 46, 101, 120, 97, 109, 112, 108, 101, 47]⟩] w fun e w' => e = .returned (.bool false) ∧ Below w.heap.size w w' :=
  lets_of ⟨#[39, 110, 111, 110, 101, 39]⟩ ⟨#[104, 116, 116, 112, 115, 58, 47, 47, 115, 101, 108, 102, 46, 101, 120, 97, 109, 112, 108, 101, 47]⟩ ⟨0, [], [], -1, [], []⟩ ⟨[104, 116, 116, 112, 115], [115, 101, 108, 102, 46, 101, 120, 97, 109, 112, 108, 101], -1, [47], [], []⟩ false w (by decide) (by decide) hG (by decide) (by decide) (by decide) (fun w' hG' => match_other (strOf [104, 116, 116, 112, 115]) (strOf [115, 101, 108, 102, 46, 101, 120, 97, 109, 112, 108, 101]) (strOf [47]) (strOf []) (strOf []) (strOf selfU.sc) (strOf selfU.ho) (strOf selfU.pa) (strOf selfU.qu) (strOf selfU.fr) (strOf []) (strOf []) (strOf []) (strOf []) 0 (-1) (-1) (-1) false w' (by decide) (by decide) (by decide) (by decide))
set_option maxRecDepth 1000000 in
theorem let7_val : (hostM (strOf []).data.toList (strOf [97, 46, 101, 120, 97, 109, 112, 108, 101]).data.toList (strOf []).data.toList (-2) (strOf [104, 116, 116, 112, 115]).data.toList (strOf [97, 46, 101, 120, 97, 109, 112, 108, 101]).data.toList (strOf [47]).data.toList (strOf selfU.sc).data.toList (8443) false) = true := by decide
set_option maxRecDepth 1000000 in
theorem let7 (w : World) (hG : GLS w) : Calls Tryz.prog 19 #[.string ⟨#[97, 46, 101, 120, 97, 109, 112, 108, 101, 58, 42]⟩, .string ⟨#[104, 116, 116, 112, 115, 58, 47, 47, 97, 46, 101, 120, 97, 109, 112, 108, 101, 58, 56, 52, 52, 51, 47]⟩] w fun e w' => e = .returned (.bool true) ∧ Below w.heap.size w w' :=
  lets_of ⟨#[97, 46, 101, 120, 97, 109, 112, 108, 101, 58, 42]⟩ ⟨#[104, 116, 116, 112, 115, 58, 47, 47, 97, 46, 101, 120, 97, 109, 112, 108, 101, 58, 56, 52, 52, 51, 47]⟩ ⟨3, [], [97, 46, 101, 120, 97, 109, 112, 108, 101], -2, [], []⟩ ⟨[104, 116, 116, 112, 115], [97, 46, 101, 120, 97, 109, 112, 108, 101], 8443, [47], [], []⟩ true w (by decide) (by decide) hG (by decide) (by decide) (by decide) (fun w' hG' => by
    have h := match_host (strOf [104, 116, 116, 112, 115]) (strOf [97, 46, 101, 120, 97, 109, 112, 108, 101]) (strOf [47]) (strOf []) (strOf []) (strOf selfU.sc) (strOf selfU.ho) (strOf selfU.pa) (strOf selfU.qu) (strOf selfU.fr) (strOf []) (strOf [97, 46, 101, 120, 97, 109, 112, 108, 101]) (strOf []) (strOf []) (8443) (-1) (-2) false w' (by decide) (by decide) (by decide) (by decide) hG'
    rw [let7_val] at h
    exact h)
set_option maxRecDepth 1000000 in
theorem parse_no (w : World) (hG : GLS w) : Calls Tryz.prog 12 #[.string ⟨#[97, 32, 98]⟩] w fun e w' => e = .returned (.tuple #[.agg #[.int .i64 0, .string ⟨#[]⟩, .string ⟨#[]⟩, .int .i64 0, .string ⟨#[]⟩, .string ⟨#[]⟩], .bool false]) ∧ Below w.heap.size w w' := by
  have h := sourceParse_any ⟨#[97, 32, 98]⟩ w (by decide) hG.toGL
  rw [show srcP (⟨#[97, 32, 98]⟩ : ByteArray).data.toList = none by decide] at h
  exact h
set_option maxRecDepth 1000000 in
set_option maxHeartbeats 4000000 in
theorem shown_any (w : World) (hG : GLS w) : Calls Tryz.prog 11 #[] w fun e w' => e = .returned (.bool true) ∧ Below w.heap.size w w' := by
  have HP := Lib.hid (parse_no w hG)
  have H0 := Lib.hid (fun w' (hG' : GLS w') => let0 w' hG')
  have H1 := Lib.hid (fun w' (hG' : GLS w') => let1 w' hG')
  have H2 := Lib.hid (fun w' (hG' : GLS w') => let2 w' hG')
  have H3 := Lib.hid (fun w' (hG' : GLS w') => let3 w' hG')
  have H4 := Lib.hid (fun w' (hG' : GLS w') => let4 w' hG')
  have H5 := Lib.hid (fun w' (hG' : GLS w') => let5 w' hG')
  have H6 := Lib.hid (fun w' (hG' : GLS w') => let6 w' hG')
  have H7 := Lib.hid (fun w' (hG' : GLS w') => let7 w' hG')
  have HG := Lib.hid hG
  clear hG
  go_enter Tryz.func11, Tryz.ntmps11
  go_wp2_with fail
  refine HP.out.mono ?_
  rintro e w0 ⟨rfl, hb0⟩
  have hG0 := (HG.out.below hb0).alloc (.cells #[.int .i64 0, .string ⟨#[]⟩, .string ⟨#[]⟩, .int .i64 0, .string ⟨#[]⟩, .string ⟨#[]⟩] 24)
  go_wp2_with fail
  refine (H0.out _ hG0).mono ?_
  rintro e w1 ⟨rfl, hb1⟩
  have hG1 := hG0.below hb1
  have hw1 := hb0.trans ((below_past1 hb1).mono hb0.size)
  go_wp2_with fail
  refine (H1.out _ hG1).mono ?_
  rintro e w2 ⟨rfl, hb2⟩
  have hG2 := hG1.below hb2
  have hw2 := hw1.trans (hb2.mono hw1.size)
  go_wp2_with fail
  refine (H2.out _ hG2).mono ?_
  rintro e w3 ⟨rfl, hb3⟩
  have hG3 := hG2.below hb3
  have hw3 := hw2.trans (hb3.mono hw2.size)
  go_wp2_with fail
  refine (H3.out _ hG3).mono ?_
  rintro e w4 ⟨rfl, hb4⟩
  have hG4 := hG3.below hb4
  have hw4 := hw3.trans (hb4.mono hw3.size)
  go_wp2_with fail
  refine (H4.out _ hG4).mono ?_
  rintro e w5 ⟨rfl, hb5⟩
  have hG5 := hG4.below hb5
  have hw5 := hw4.trans (hb5.mono hw4.size)
  go_wp2_with fail
  refine (H5.out _ hG5).mono ?_
  rintro e w6 ⟨rfl, hb6⟩
  have hG6 := hG5.below hb6
  have hw6 := hw5.trans (hb6.mono hw5.size)
  go_wp2_with fail
  refine (H6.out _ hG6).mono ?_
  rintro e w7 ⟨rfl, hb7⟩
  have hG7 := hG6.below hb7
  have hw7 := hw6.trans (hb7.mono hw6.size)
  go_wp2_with fail
  refine (H7.out _ hG7).mono ?_
  rintro e w8 ⟨rfl, hb8⟩
  have hG8 := hG7.below hb8
  have hw8 := hw7.trans (hb8.mono hw7.size)
  go_wp2
  go_ret
  exact ⟨rfl, hw8⟩
end Go.Proofs.YtmgkmpbblhkacaaGreatDoor
