/- The reference's Parse of a URL. -/
import Derived.Test.YtmgkmpbblhkacaaGreatDoorR10
import Derived.Test.YtmgkmpbblhkacaaGreatDoorBlk
import Derived.Deep.RegionHeld3
namespace Go.Proofs.YtmgkmpbblhkacaaGreatDoor
open Go.RowKit
set_option linter.unusedSimpArgs false
set_option linter.unusedVariables false

/-- The host that special asks for. -/
def specHost (t : Bs) : Bs := (spAt (t.map slashB)).take (atP (spAt (t.map slashB)))
/-- What is behind the scheme, without query and fragment. -/
def urlBody (s : Bs) : Bs := ((((cleanP s).drop (findP 58 (cleanP s) + 1)).take (findP 35 ((cleanP s).drop (findP 58 (cleanP s) + 1))))).take (findP 63 (((cleanP s).drop (findP 58 (cleanP s) + 1)).take (findP 35 ((cleanP s).drop (findP 58 (cleanP s) + 1)))))
structure UrlL where
  sc : Bs
  ho : Bs
  po : Int
  pa : Bs
  qu : Bs
  fr : Bs
instance : DecidableEq UrlL := fun a b =>
  if h : a.sc = b.sc ∧ a.ho = b.ho ∧ a.po = b.po ∧ a.pa = b.pa ∧ a.qu = b.qu ∧ a.fr = b.fr then isTrue (by cases a; cases b; simp_all) else isFalse (by rintro rfl; exact h ⟨rfl, rfl, rfl, rfl, rfl, rfl⟩)
def urlOf (sc qu fr : Bs) (r : Option (Bs × Int × Bs)) : Option UrlL := r.map fun x => ⟨sc, x.1, x.2.1, x.2.2, qu, fr⟩
/-- By kind: r is what is ahead of the fragment. -/
def urlKind (PR : Bs → Option Bs) (sc r fr : Bs) (k : Int) : Option UrlL :=
  if k < 0 then none
  else if k = 0 then some ⟨sc, [], -1, encP 1 (r.take (findP 63 r)), signedP 3 r (findP 63 r), fr⟩
  else urlOf sc (signedP 4 r (findP 63 r)) fr (specP PR sc (-1) (r.take (findP 63 r)))
def urlRest (PR : Bs → Option Bs) (sc r : Bs) : Option UrlL := urlKind PR sc (r.take (findP 35 r)) (signedP 2 r (findP 35 r)) (defP sc)
def urlClean (PR : Bs → Option Bs) (c : Bs) : Option UrlL := if findP 58 c = c.length then none else urlRest PR ((c.take (findP 58 c)).map lowB) (c.drop (findP 58 c + 1))
/-- transeptref08.Parse. -/
def urlP (PR : Bs → Option Bs) (s : Bs) : Option UrlL := urlClean PR (cleanP s)
def urlVal (u : UrlL) : Value := urlV (strOf u.sc) (strOf u.ho) u.po (strOf u.pa) (strOf u.qu) (strOf u.fr)
def urlNone : Value := urlV ⟨#[]⟩ ⟨#[]⟩ 0 ⟨#[]⟩ ⟨#[]⟩ ⟨#[]⟩
def UrlEnd (r : Option UrlL) (e : Ending) : Prop :=
  match r with
  | some u => e = .returned (.tuple #[urlVal u, .int .i64 0])
  | none => e = .returned (.tuple #[urlNone, .int .i64 7])
theorem cleanP_len (s : Bs) : (cleanP s).length ≤ s.length := by
  unfold cleanP rtrim
  refine Nat.le_trans (List.length_filter_le _ _) ?_
  rw [List.length_reverse]
  refine Nat.le_trans (List.dropWhile_sublist _).length_le ?_
  rw [List.length_reverse]
  exact (List.dropWhile_sublist _).length_le
set_option maxRecDepth 1000000 in
set_option maxHeartbeats 4000000 in
theorem refUrl_any (PR : Bs → Option Bs) (s : ByteArray) (w : World) (hs : s.size ≤ 100000)
    (HPR : ∀ (X : ByteArray) (w' : World), X.size ≤ 1000000 → X.data.toList = specHost (urlBody s.data.toList) → Calls Tryz.prog 83 #[.string X] w' fun e w'' => ParseREnd (PR X.data.toList) e ∧ Below w'.heap.size w' w'') :
    Calls Tryz.prog 25 #[.string s] w fun e w' => UrlEnd (urlP PR s.data.toList) e ∧ Below w.heap.size w w' := by
  obtain ⟨c, hc⟩ : ∃ c, cleanP s.data.toList = c := ⟨_, rfl⟩
  have hcz : c.length ≤ 100000 := by have := cleanP_len s.data.toList; rw [hc, ← Lib.size_eq] at this; omega
  obtain ⟨C, hC⟩ : ∃ C, strOf c = C := ⟨_, rfl⟩
  have hCl : C.data.toList = c := by rw [← hC, strOf_data]
  have hCz : C.size ≤ 100000 := by rw [← hC, strOf_size]; exact hcz
  have hU : urlP PR s.data.toList = urlClean PR c := by unfold urlP; rw [hc]
  have hBd : urlBody s.data.toList = ((c.drop (findP 58 c + 1)).take (findP 35 (c.drop (findP 58 c + 1)))).take (findP 63 ((c.drop (findP 58 c + 1)).take (findP 35 (c.drop (findP 58 c + 1))))) := by unfold urlBody; rw [hc]
  rw [hBd] at HPR
  have CC : ∀ w', Calls Tryz.prog 45 #[.string s] w' fun e w'' => e = .returned (.string C) ∧ Below w'.heap.size w' w'' := by
    intro w'; have := refClean_any s w' (by omega); rw [hc, hC] at this; exact this
  obtain ⟨n, hn⟩ : ∃ n, findP 58 c = n := ⟨_, rfl⟩
  have hnl : n ≤ C.size := by rw [← hn, Lib.size_eq, hCl]; exact findP_le _ _
  have CF1 : ∀ w', Calls Tryz.prog 46 #[.string C, .int .u8 58] w' fun e w'' => e = .returned (.int .i64 (n : Nat)) ∧ w' = w'' := by
    intro w'; have := refFind_any C 58 w' (by omega); rw [hCl, hn] at this; exact this
  have hclen : C.size = c.length := by rw [Lib.size_eq, hCl]
  rw [hU]
  rw [hn] at HPR
  have HPP := Lib.hid HPR
  have HCC := Lib.hid CC
  have HCF1 := Lib.hid CF1
  have HCl := Lib.hid hCl
  have HN := Lib.hid hn
  clear HPR CC CF1 hCl hn hBd hU hC hc
  by_cases hk : n = C.size
  · have hr : Hid (urlClean PR c = none) := by unfold urlClean; rw [HN.out, if_pos (by omega)]; exact Lib.hid rfl
    go_enter Tryz.func25, Tryz.ntmps25
    go_wp2_with fail
    refine (HCC.out _).mono ?_
    rintro e w1 ⟨rfl, hb1⟩
    obtain ⟨hA, hN, hs1, hbw1⟩ := two_blocks hb1
    obtain ⟨y0, y1, y2, y3, y4, y5⟩ := six_cells hN
    obtain ⟨x0, x1, x2, x3, x4, x5⟩ := six_cells hA
    obtain ⟨f0, f1, f2, f3, f4, f5⟩ := six_free hA
    have hn' : ((n : Int) == (C.size : Int)) = true := beq_iff_eq.2 (by omega)
    clear hk
    go_wp2_with (go_at_call 46; refine (HCF1.out _).mono ?_; rintro e w2 ⟨rfl, rfl⟩)
    exact bodyPost_ret (v := .tuple #[.agg #[.string ⟨#[]⟩, .string ⟨#[]⟩, .int .i64 0, .string ⟨#[]⟩, .string ⟨#[]⟩, .string ⟨#[]⟩], .int .i64 7]) (by simp [results, Tryz.results25, go_sem, x0, x1, x2, x3, x4, x5]) rfl ⟨by rw [hr.out]; exact rfl, (((((hbw1.setCell (Nat.le_refl _) _).setCell (Nat.le_refl _) _).setCell (Nat.le_refl _) _).setCell (Nat.le_refl _) _).setCell (Nat.le_refl _) _).setCell (Nat.le_refl _) _⟩
  · have hnlt : n < C.size := by omega
    obtain ⟨sc, hsc⟩ : ∃ sc, (c.take n).map lowB = sc := ⟨_, rfl⟩
    obtain ⟨r, hrr⟩ : ∃ r, c.drop (n + 1) = r := ⟨_, rfl⟩
    rw [hrr] at HPP
    have hUC : urlClean PR c = urlRest PR sc r := by unfold urlClean; rw [HN.out, if_neg (by omega), hsc, hrr]
    obtain ⟨L, hL⟩ : ∃ L, strOf sc = L := ⟨_, rfl⟩
    have hLl : L.data.toList = sc := by rw [← hL, strOf_data]
    have e1 : (C.extract 0 n).data.toList = c.take n := by rw [extract_strOf, strOf_data, HCl.out]; simp
    have z1 : (C.extract 0 n).size ≤ 100000 := by rw [ByteArray.size_extract]; omega
    have CL : ∀ w', Calls Tryz.prog 47 #[.string (C.extract 0 n)] w' fun e w'' => e = .returned (.string L) ∧ Below w'.heap.size w' w'' := by
      intro w'; have := refLower_any (C.extract 0 n) w' (by omega); rw [e1, hsc, hL] at this; exact this
    obtain ⟨kd, hkd⟩ : ∃ kd, defP sc = kd := ⟨_, rfl⟩
    have CD : ∀ w', Calls Tryz.prog 17 #[.string L] w' fun e w'' => e = .returned (.int .i64 kd) ∧ w' = w'' := by
      intro w'; have := refDefault_any L w'; rw [hLl, hkd] at this; exact this
    obtain ⟨R, hR⟩ : ∃ R, C.extract (n + 1) C.size = R := ⟨_, rfl⟩
    have hRl : R.data.toList = r := by rw [← hR, extract_from, strOf_data, HCl.out, hrr]
    have hRz : R.size ≤ 100000 := by rw [← hR, ByteArray.size_extract]; omega
    obtain ⟨m, hm⟩ : ∃ m, findP 35 r = m := ⟨_, rfl⟩
    have hml : m ≤ R.size := by rw [← hm, Lib.size_eq, hRl]; exact findP_le _ _
    have CF2 : ∀ w', Calls Tryz.prog 46 #[.string R, .int .u8 35] w' fun e w'' => e = .returned (.int .i64 (m : Nat)) ∧ w' = w'' := by
      intro w'; have := refFind_any R 35 w' (by omega); rw [hRl, hm] at this; exact this
    obtain ⟨F, hF⟩ : ∃ F, strOf (signedP 2 r m) = F := ⟨_, rfl⟩
    have CS2 : ∀ w', Calls Tryz.prog 48 #[.string R, .int .i64 m, .int .i64 2] w' fun e w'' => e = .returned (.string F) ∧ Below w'.heap.size w' w'' := by
      intro w'; have := refSigned_any R m 2 w' (by omega) hml (by omega) (by omega); rw [hRl, hF] at this; exact this
    obtain ⟨r2, hr2⟩ : ∃ r2, r.take m = r2 := ⟨_, rfl⟩
    rw [hm, hr2] at HPP
    obtain ⟨R2, hR2⟩ : ∃ R2, R.extract 0 m = R2 := ⟨_, rfl⟩
    have hR2l : R2.data.toList = r2 := by rw [← hR2, extract_strOf, strOf_data, hRl, ← hr2]; simp
    have hR2z : R2.size ≤ 100000 := by rw [← hR2, ByteArray.size_extract]; omega
    obtain ⟨k, hk3⟩ : ∃ k, findP 63 r2 = k := ⟨_, rfl⟩
    have hkl : k ≤ R2.size := by rw [← hk3, Lib.size_eq, hR2l]; exact findP_le _ _
    rw [hk3] at HPP
    have CF3 : ∀ w', Calls Tryz.prog 46 #[.string R2, .int .u8 63] w' fun e w'' => e = .returned (.int .i64 (k : Nat)) ∧ w' = w'' := by
      intro w'; have := refFind_any R2 63 w' (by omega); rw [hR2l, hk3] at this; exact this
    have hUK : urlClean PR c = urlKind PR sc r2 (signedP 2 r m) kd := by rw [hUC]; unfold urlRest; rw [hm, hr2, hkd]
    have HUK := Lib.hid hUK
    have HCL := Lib.hid CL
    have HCD := Lib.hid CD
    have HCF2 := Lib.hid CF2
    have HCS2 := Lib.hid CS2
    have HCF3 := Lib.hid CF3
    have HR2l := Lib.hid hR2l
    have HF := Lib.hid hF
    have HL := Lib.hid hL
    have HK3 := Lib.hid hk3
    have hnf : ((n : Int) == (C.size : Int)) = false := beq_eq_false_iff_ne.2 (by omega)
    have m1 : IntKind.i64.wrap ((n : Int) + 1) = (n : Int) + 1 := IntWalk.i64_in _ (by omega)
    have t1 : ((n : Int) + 1).toNat = n + 1 := by omega
    clear hUK hUC CL CD CF2 CS2 CF3 hR2l hRl hLl hF hL hm hr2 hkd hrr hsc e1 z1 hk3 hk HN hclen hcz
    by_cases hneg : kd < 0
    · have hr : Hid (urlClean PR c = none) := by rw [HUK.out]; unfold urlKind; rw [if_pos hneg]; exact Lib.hid rfl
      go_enter Tryz.func25, Tryz.ntmps25
      go_wp2_with fail
      refine (HCC.out _).mono ?_
      rintro e w1 ⟨rfl, hb1⟩
      obtain ⟨hA, hN, hs1, hbw1⟩ := two_blocks hb1
      go_wp2_with (first | (go_at_call 46; refine (HCF1.out _).mono ?_; rintro e w2 ⟨rfl, rfl⟩))
      refine (HCL.out _).mono ?_
      rintro e w2 ⟨rfl, hb2⟩
      have hA2 := block_past hA hb2
      have hN2 := block_past hN hb2
      have hbw2 := hbw1.trans (hb2.mono (by omega))
      have hs2 := hb2.size
      have hN3 : (w2.alloc (.cells #[.string L, .string ⟨#[]⟩, .int .i64 (-1), .string ⟨#[]⟩, .string ⟨#[]⟩, .string ⟨#[]⟩] 28)).heap[w.heap.size + 1]? = _ := (Below.heap_alloc _ _ _ (by omega)).trans hN2
      have hA3 : (w2.alloc (.cells #[.string L, .string ⟨#[]⟩, .int .i64 (-1), .string ⟨#[]⟩, .string ⟨#[]⟩, .string ⟨#[]⟩] 28)).heap[w.heap.size]? = _ := (Below.heap_alloc _ _ _ (by omega)).trans hA2
      obtain ⟨y0, y1, y2, y3, y4, y5⟩ := six_cells hN3
      obtain ⟨x0, x1, x2, x3, x4, x5⟩ := six_cells hA3
      obtain ⟨f0, f1, f2, f3, f4, f5⟩ := six_free hA3
      have hbw3 : Below w.heap.size w (w2.alloc (.cells #[.string L, .string ⟨#[]⟩, .int .i64 (-1), .string ⟨#[]⟩, .string ⟨#[]⟩, .string ⟨#[]⟩] 28)) := hbw2.alloc (by omega) _
      go_wp2_with fail
      refine (HCD.out _).mono ?_
      rintro e w3 ⟨rfl, rfl⟩
      go_wp2
      exact bodyPost_ret (v := .tuple #[.agg #[.string ⟨#[]⟩, .string ⟨#[]⟩, .int .i64 0, .string ⟨#[]⟩, .string ⟨#[]⟩, .string ⟨#[]⟩], .int .i64 7]) (by simp [results, Tryz.results25, go_sem, x0, x1, x2, x3, x4, x5]) rfl ⟨by rw [hr.out]; exact rfl, (((((hbw3.setCell (Nat.le_refl _) _).setCell (Nat.le_refl _) _).setCell (Nat.le_refl _) _).setCell (Nat.le_refl _) _).setCell (Nat.le_refl _) _).setCell (Nat.le_refl _) _⟩
    · have hnn : (0 : Int) ≤ kd := by omega
      go_enter Tryz.func25, Tryz.ntmps25
      go_wp2_with fail
      refine (HCC.out _).mono ?_
      rintro e w1 ⟨rfl, hb1⟩
      obtain ⟨hA, hN, hs1, hbw1⟩ := two_blocks hb1
      go_wp2_with (first | (go_at_call 46; refine (HCF1.out _).mono ?_; rintro e w2 ⟨rfl, rfl⟩))
      refine (HCL.out _).mono ?_
      rintro e w2 ⟨rfl, hb2⟩
      have hA2 := block_past hA hb2
      have hN2 := block_past hN hb2
      have hbw2 := hbw1.trans (hb2.mono (by omega))
      have hs2 := hb2.size
      clear hb1 hb2 hA hN
      go_wp2_with fail
      refine (HCD.out _).mono ?_
      rintro e w3 ⟨rfl, rfl⟩
      go_wp2_with (first | (go_at_call 46; with_reducible refine (HCF2.out _).mono ?_; rintro e w3 ⟨rfl, rfl⟩))
      refine (HCS2.out _).mono ?_
      rintro e w3 ⟨rfl, hb3⟩
      have hA3 := block_past_alloc hA2 hb3
      have hN3 := block_past_alloc hN2 hb3
      have hU3 := block_new_past hb3
      have hs3 := size_past_alloc hb3
      have hbw3 := hbw2.trans ((below_past_alloc hb3).mono (by omega))
      clear hb3 hA2 hN2 hbw2 hbw1
      have g5 := frozen_of_heap hU3 5
      have u5 := cell_of_heap hU3 5
      by_cases hz : kd = 0
      · subst hz
        obtain ⟨Q, hQ⟩ : ∃ Q, strOf (signedP 3 r2 k) = Q := ⟨_, rfl⟩
        have CS3 : ∀ w', Calls Tryz.prog 48 #[.string R2, .int .i64 k, .int .i64 3] w' fun e w'' => e = .returned (.string Q) ∧ Below w'.heap.size w' w'' := by
          intro w'; have := refSigned_any R2 k 3 w' (by omega) hkl (by omega) (by omega); rw [HR2l.out, hQ] at this; exact this
        obtain ⟨P, hP⟩ : ∃ P, strOf (encP 1 (r2.take k)) = P := ⟨_, rfl⟩
        have e2 : (R2.extract 0 k).data.toList = r2.take k := by rw [extract_strOf, strOf_data, HR2l.out]; simp
        have CE1 : ∀ w', Calls Tryz.prog 49 #[.int .i64 1, .string (R2.extract 0 k)] w' fun e w'' => e = .returned (.string P) ∧ Below w'.heap.size w' w'' := by
          intro w'; have := Encode_any 1 (R2.extract 0 k) w' (by rw [ByteArray.size_extract]; omega) (by omega) (by omega); rw [e2, hP] at this; exact this
        have hr : Hid (urlClean PR c = some ⟨sc, [], -1, encP 1 (r2.take k), signedP 3 r2 k, signedP 2 r m⟩) := by
          rw [HUK.out]; unfold urlKind; rw [if_neg (by omega), if_pos rfl, HK3.out]; exact Lib.hid rfl
        have hfin : Hid (∀ v : Value, v = .agg #[.string L, .string ⟨#[]⟩, .int .i64 (-1), .string P, .string Q, .string F] → UrlEnd (urlClean PR c) (.returned (.tuple #[v, .int .i64 0]))) := by
          refine Lib.hid fun v hv => ?_
          rw [hr.out, hv, ← HL.out, ← HF.out, ← hQ, ← hP]
          exact rfl
        have HS3 := Lib.hid CS3
        have HE1 := Lib.hid CE1
        clear CS3 CE1 hQ hP e2 hr
        go_wp2_with (first | (go_at_call 46; with_reducible refine (HCF3.out _).mono ?_; rintro e w4 ⟨rfl, rfl⟩))
        refine (HS3.out _).mono ?_
        rintro e w4 ⟨rfl, hb4⟩
        have hA4 := block_past_store hA3 (by omega) hb4
        have hU4 : w4.heap[w2.heap.size]? = some (.cells #[.string L, .string ⟨#[]⟩, .int .i64 (-1), .string ⟨#[]⟩, .string ⟨#[]⟩, .string F] 28 (0, 0)) := block_of_store hU3 hb4
        have hbw4 := hbw3.trans (below_past_store (B := w.heap.size) (by omega) (by omega) hb4)
        have hs4 := hb4.size
        rw [size_setCell] at hs4
        clear hb4 hA3 hU3 hbw3 g5 u5
        have g4 := frozen_of_heap hU4 4
        have u4 := cell_of_heap hU4 4
        go_wp2_with fail
        refine (HE1.out _).mono ?_
        rintro e w5 ⟨rfl, hb5⟩
        have hA5 := block_past_store hA4 (by omega) hb5
        have hU5 : w5.heap[w2.heap.size]? = some (.cells #[.string L, .string ⟨#[]⟩, .int .i64 (-1), .string ⟨#[]⟩, .string Q, .string F] 28 (0, 0)) := block_of_store hU4 hb5
        have hbw5 := hbw4.trans (below_past_store (B := w.heap.size) (by omega) (by omega) hb5)
        have hs5 := hb5.size
        rw [size_setCell] at hs5
        clear hb5 hA4 hU4 hbw4 g4 u4
        have hne : w.heap.size ≠ w2.heap.size := by omega
        have g3 := frozen_of_heap hU5 3
        obtain ⟨u0, u1, u2, u3, u4, u5⟩ := six_cells hU5
        obtain ⟨x0, x1, x2, x3, x4, x5⟩ := six_cells hA5
        obtain ⟨f0, f1, f2, f3, f4, f5⟩ := six_free hA5
        go_wp2
        exact bodyPost_ret (v := .tuple #[.agg #[.string L, .string ⟨#[]⟩, .int .i64 (-1), .string P, .string Q, .string F], .int .i64 0]) (by simp [results, Tryz.results25, go_sem, x0, x1, x2, x3, x4, x5]) rfl ⟨hfin.out _ rfl, ((((((hbw5.setCell (p := ⟨w2.heap.size, 3, none⟩) (by show w.heap.size ≤ w2.heap.size; omega) _).setCell (Nat.le_refl _) _).setCell (Nat.le_refl _) _).setCell (Nat.le_refl _) _).setCell (Nat.le_refl _) _).setCell (Nat.le_refl _) _).setCell (Nat.le_refl _) _⟩
      · obtain ⟨Q, hQ⟩ : ∃ Q, strOf (signedP 4 r2 k) = Q := ⟨_, rfl⟩
        have CS4 : ∀ w', Calls Tryz.prog 48 #[.string R2, .int .i64 k, .int .i64 4] w' fun e w'' => e = .returned (.string Q) ∧ Below w'.heap.size w' w'' := by
          intro w'; have := refSigned_any R2 k 4 w' (by omega) hkl (by omega) (by omega); rw [HR2l.out, hQ] at this; exact this
        have e2 : (R2.extract 0 k).data.toList = r2.take k := by rw [extract_strOf, strOf_data, HR2l.out]; simp
        obtain ⟨B, hB⟩ : ∃ B, R2.extract 0 k = B := ⟨_, rfl⟩
        have CSP : ∀ w', Calls Tryz.prog 50 #[.agg #[.string L, .string ⟨#[]⟩, .int .i64 (-1), .string ⟨#[]⟩, .string Q, .string F], .string B] w' fun e w'' => SpEnd L Q F (specP PR sc (-1) (r2.take k)) e ∧ Below w'.heap.size w' w'' := by
          intro w'
          have := refSpecial_any PR B L ⟨#[]⟩ ⟨#[]⟩ Q F (-1) w' (by rw [← hB, ByteArray.size_extract]; omega) (fun X w'' hX hXl => HPP.out X w'' hX (by rw [hXl, ← hB, e2]; rfl))
          rw [← hB, e2, ← HL.out, strOf_data, HL.out, hB] at this
          exact this
        have hr : Hid (urlClean PR c = urlOf sc (signedP 4 r2 k) (signedP 2 r m) (specP PR sc (-1) (r2.take k))) := by
          rw [HUK.out]; unfold urlKind; rw [if_neg (by omega), if_neg hz, HK3.out]; exact Lib.hid rfl
        obtain ⟨sp, hsp⟩ : ∃ sp, specP PR sc (-1) (r2.take k) = sp := ⟨_, rfl⟩
        rw [hsp] at hr CSP
        have HS4 := Lib.hid CS4
        have HQ := Lib.hid hQ
        have HSP := Lib.hid CSP
        have hzf : (kd == 0) = false := beq_eq_false_iff_ne.2 hz
        clear CS4 CSP hQ e2 hsp
        cases sp with
        | none =>
          have hnil : Hid (urlClean PR c = none) := by rw [hr.out]; exact Lib.hid rfl
          go_wp2_with (first | (go_at_call 46; with_reducible refine (HCF3.out _).mono ?_; rintro e w4 ⟨rfl, rfl⟩))
          refine (HS4.out _).mono ?_
          rintro e w4 ⟨rfl, hb4⟩
          have hA4 := block_past_store hA3 (by omega) hb4
          have hN4 := block_past_store hN3 (by omega) hb4
          have hU4 : w4.heap[w2.heap.size]? = some (.cells #[.string L, .string ⟨#[]⟩, .int .i64 (-1), .string ⟨#[]⟩, .string ⟨#[]⟩, .string F] 28 (0, 0)) := block_of_store hU3 hb4
          have hbw4 := hbw3.trans (below_past_store (B := w.heap.size) (by omega) (by omega) hb4)
          have hs4 := hb4.size
          rw [size_setCell] at hs4
          clear hb4 hA3 hN3 hU3 hbw3 g5 u5
          have g4 := frozen_of_heap hU4 4
          obtain ⟨u0, u1, u2, u3, u4, u5⟩ := six_cells hU4
          go_wp2_with fail
          obtain ⟨w5, hw5⟩ : ∃ w5, w4.setCell ⟨w2.heap.size, 4, none⟩ (.string Q) = w5 := ⟨_, rfl⟩
          have hU5 : w5.heap[w2.heap.size]? = some (.cells #[.string L, .string ⟨#[]⟩, .int .i64 (-1), .string ⟨#[]⟩, .string Q, .string F] 28 (0, 0)) := by rw [← hw5]; exact heap_setCell_at hU4 4 _
          have hA5 := block_past_set (c := w2.heap.size) (k := 4) (v := .string Q) hA4 (by omega)
          have hN5 := block_past_set (c := w2.heap.size) (k := 4) (v := .string Q) hN4 (by omega)
          rw [hw5] at hA5 hN5
          have hs5 : w4.heap.size ≤ w5.heap.size := by rw [← hw5, size_setCell]; exact Nat.le_refl _
          have hbw5 : Below w.heap.size w w5 := by rw [← hw5]; exact hbw4.setCell (by show w.heap.size ≤ w2.heap.size; omega) _
          rw [hw5]
          clear hw5 hA4 hN4 hU4 hbw4 u0 u1 u2 u3 u4 u5 g4
          obtain ⟨u0, u1, u2, u3, u4, u5⟩ := six_cells hU5
          have hlt5 : w2.heap.size < w5.heap.size := (Array.getElem?_eq_some_iff.1 hU5).1
          have hU5n : (w5.alloc (.cells #[.string ⟨#[]⟩, .string ⟨#[]⟩, .int .i64 0, .string ⟨#[]⟩, .string ⟨#[]⟩, .string ⟨#[]⟩] 28)).heap[w2.heap.size]? = some (.cells #[.string L, .string ⟨#[]⟩, .int .i64 (-1), .string ⟨#[]⟩, .string Q, .string F] 28 (0, 0)) := (Below.heap_alloc _ _ _ hlt5).trans hU5
          have hU5d : (w5.alloc (.cells #[.string ⟨#[]⟩, .string ⟨#[]⟩, .int .i64 0, .string ⟨#[]⟩, .string ⟨#[]⟩, .string ⟨#[]⟩] 28)).drew.heap[w2.heap.size]? = some (.cells #[.string L, .string ⟨#[]⟩, .int .i64 (-1), .string ⟨#[]⟩, .string Q, .string F] 28 (0, 0)) := hU5n
          obtain ⟨i0, i1, i2, i3, i4, i5⟩ := six_cells hU5n
          obtain ⟨j0, j1, j2, j3, j4, j5⟩ := six_cells hU5d
          have hrefl : Below w5.heap.size w5 w5 := Below.refl _ _
          go_region_with (first | (go_at_call 50; refine (HSP.out _).mono ?_; rintro e w6 ⟨⟨a0, a1, a2, a3, a4, a5, rfl⟩, hb6⟩; try (have hq := six_free (w := w6) (b := w5.heap.size) (block_new_drew hb6); have hv := six_cells (w := w6) (b := w5.heap.size) (block_new_drew hb6); obtain ⟨q0, q1, q2, q3, q4, q5⟩ := hq; obtain ⟨v0, v1, v2, v3, v4, v5⟩ := hv)))
          · have hW : Below w5.heap.size w5 (w6.alloc (.cells #[.string a0, .string a1, .int .i64 a2, .string a3, .string a4, .string a5] 28)) := held_lay hb6 _
            have hX : (w6.alloc (.cells #[.string a0, .string a1, .int .i64 a2, .string a3, .string a4, .string a5] 28)).heap[w6.heap.size]? = _ := heap_alloc_new _ _
            obtain ⟨b7, hb7⟩ : ∃ b7, w6.heap.size = b7 := ⟨_, rfl⟩
            rw [hb7] at hX
            try rw [hb7]
            generalize w6.alloc (.cells #[.string a0, .string a1, .int .i64 a2, .string a3, .string a4, .string a5] 28) = w7 at hW hX ⊢
            have hA7 := block_past hA5 hW
            have hN7 := block_past hN5 hW
            have hbw7 := hbw5.trans (hW.mono hbw5.size)
            obtain ⟨y0, y1, y2, y3, y4, y5⟩ := six_cells hN7
            obtain ⟨x0, x1, x2, x3, x4, x5⟩ := six_cells hA7
            obtain ⟨f0, f1, f2, f3, f4, f5⟩ := six_free hA7
            obtain ⟨o0, o1, o2, o3, o4, o5⟩ := six_cells hX
            clear hW hA5 hN5 hbw5 hb6 hU5 hU5n hU5d hA7 hN7 hX i0 i1 i2 i3 i4 i5 j0 j1 j2 j3 j4 j5 u0 u1 u2 u3 u4 u5
            go_wp2
            exact bodyPost_ret (v := .tuple #[.agg #[.string ⟨#[]⟩, .string ⟨#[]⟩, .int .i64 0, .string ⟨#[]⟩, .string ⟨#[]⟩, .string ⟨#[]⟩], .int .i64 7]) (by simp [results, Tryz.results25, go_sem, x0, x1, x2, x3, x4, x5]) rfl ⟨by rw [hnil.out]; exact rfl, (((((hbw7.setCell (Nat.le_refl _) _).setCell (Nat.le_refl _) _).setCell (Nat.le_refl _) _).setCell (Nat.le_refl _) _).setCell (Nat.le_refl _) _).setCell (Nat.le_refl _) _⟩
          · have hX0 : w6.heap[w5.heap.size]? = _ := block_new_drew hb6
            have hW : Below w5.heap.size w5 ((((((w6.setCell ⟨w5.heap.size, 0, none⟩ (.string a0)).setCell ⟨w5.heap.size, 1, none⟩ (.string a1)).setCell ⟨w5.heap.size, 2, none⟩ (.int .i64 a2)).setCell ⟨w5.heap.size, 3, none⟩ (.string a3)).setCell ⟨w5.heap.size, 4, none⟩ (.string a4)).setCell ⟨w5.heap.size, 5, none⟩ (.string a5)) := six_below (((Below.refl _ w5).alloc (Nat.le_refl _) _).drew.trans (hb6.mono (by show w5.heap.size ≤ (w5.heap.push _).size; rw [Array.size_push]; omega))) (Nat.le_refl _) _ _ _ _ _ _
            have hX := six_sets hX0 (.string a0) (.string a1) (.int .i64 a2) (.string a3) (.string a4) (.string a5)
            obtain ⟨b7, hb7⟩ : ∃ b7, w5.heap.size = b7 := ⟨_, rfl⟩
            generalize ((((((w6.setCell ⟨w5.heap.size, 0, none⟩ (.string a0)).setCell ⟨w5.heap.size, 1, none⟩ (.string a1)).setCell ⟨w5.heap.size, 2, none⟩ (.int .i64 a2)).setCell ⟨w5.heap.size, 3, none⟩ (.string a3)).setCell ⟨w5.heap.size, 4, none⟩ (.string a4)).setCell ⟨w5.heap.size, 5, none⟩ (.string a5)) = w7 at hW hX ⊢
            clear hX0 q0 q1 q2 q3 q4 q5 v0 v1 v2 v3 v4 v5 hb7
            have hA7 := block_past hA5 hW
            have hN7 := block_past hN5 hW
            have hbw7 := hbw5.trans (hW.mono hbw5.size)
            obtain ⟨y0, y1, y2, y3, y4, y5⟩ := six_cells hN7
            obtain ⟨x0, x1, x2, x3, x4, x5⟩ := six_cells hA7
            obtain ⟨f0, f1, f2, f3, f4, f5⟩ := six_free hA7
            obtain ⟨o0, o1, o2, o3, o4, o5⟩ := six_cells hX
            clear hW hA5 hN5 hbw5 hb6 hU5 hU5n hU5d hA7 hN7 hX i0 i1 i2 i3 i4 i5 j0 j1 j2 j3 j4 j5 u0 u1 u2 u3 u4 u5
            go_wp2
            exact bodyPost_ret (v := .tuple #[.agg #[.string ⟨#[]⟩, .string ⟨#[]⟩, .int .i64 0, .string ⟨#[]⟩, .string ⟨#[]⟩, .string ⟨#[]⟩], .int .i64 7]) (by simp [results, Tryz.results25, go_sem, x0, x1, x2, x3, x4, x5]) rfl ⟨by rw [hnil.out]; exact rfl, (((((hbw7.setCell (Nat.le_refl _) _).setCell (Nat.le_refl _) _).setCell (Nat.le_refl _) _).setCell (Nat.le_refl _) _).setCell (Nat.le_refl _) _).setCell (Nat.le_refl _) _⟩
          · have hX0 : w6.heap[w5.heap.size]? = _ := block_new_drew hb6
            have hW : Below w5.heap.size w5 ((((((w6.setCell ⟨w5.heap.size, 0, none⟩ (.string a0)).setCell ⟨w5.heap.size, 1, none⟩ (.string a1)).setCell ⟨w5.heap.size, 2, none⟩ (.int .i64 a2)).setCell ⟨w5.heap.size, 3, none⟩ (.string a3)).setCell ⟨w5.heap.size, 4, none⟩ (.string a4)).setCell ⟨w5.heap.size, 5, none⟩ (.string a5)) := six_below (((Below.refl _ w5).alloc (Nat.le_refl _) _).drew.trans (hb6.mono (by show w5.heap.size ≤ (w5.heap.push _).size; rw [Array.size_push]; omega))) (Nat.le_refl _) _ _ _ _ _ _
            have hX := six_sets hX0 (.string a0) (.string a1) (.int .i64 a2) (.string a3) (.string a4) (.string a5)
            obtain ⟨b7, hb7⟩ : ∃ b7, w5.heap.size = b7 := ⟨_, rfl⟩
            generalize ((((((w6.setCell ⟨w5.heap.size, 0, none⟩ (.string a0)).setCell ⟨w5.heap.size, 1, none⟩ (.string a1)).setCell ⟨w5.heap.size, 2, none⟩ (.int .i64 a2)).setCell ⟨w5.heap.size, 3, none⟩ (.string a3)).setCell ⟨w5.heap.size, 4, none⟩ (.string a4)).setCell ⟨w5.heap.size, 5, none⟩ (.string a5)) = w7 at hW hX ⊢
            clear hX0 q0 q1 q2 q3 q4 q5 v0 v1 v2 v3 v4 v5 hb7
            have hA7 := block_past hA5 hW
            have hN7 := block_past hN5 hW
            have hbw7 := hbw5.trans (hW.mono hbw5.size)
            obtain ⟨y0, y1, y2, y3, y4, y5⟩ := six_cells hN7
            obtain ⟨x0, x1, x2, x3, x4, x5⟩ := six_cells hA7
            obtain ⟨f0, f1, f2, f3, f4, f5⟩ := six_free hA7
            obtain ⟨o0, o1, o2, o3, o4, o5⟩ := six_cells hX
            clear hW hA5 hN5 hbw5 hb6 hU5 hU5n hU5d hA7 hN7 hX i0 i1 i2 i3 i4 i5 j0 j1 j2 j3 j4 j5 u0 u1 u2 u3 u4 u5
            go_wp2
            exact bodyPost_ret (v := .tuple #[.agg #[.string ⟨#[]⟩, .string ⟨#[]⟩, .int .i64 0, .string ⟨#[]⟩, .string ⟨#[]⟩, .string ⟨#[]⟩], .int .i64 7]) (by simp [results, Tryz.results25, go_sem, x0, x1, x2, x3, x4, x5]) rfl ⟨by rw [hnil.out]; exact rfl, (((((hbw7.setCell (Nat.le_refl _) _).setCell (Nat.le_refl _) _).setCell (Nat.le_refl _) _).setCell (Nat.le_refl _) _).setCell (Nat.le_refl _) _).setCell (Nat.le_refl _) _⟩
        | some x =>
          obtain ⟨hh, qp, pp⟩ := x
          obtain ⟨H, hH⟩ : ∃ H, strOf hh = H := ⟨_, rfl⟩
          obtain ⟨P, hP⟩ : ∃ P, strOf pp = P := ⟨_, rfl⟩
          have CSP : ∀ w', Calls Tryz.prog 50 #[.agg #[.string L, .string ⟨#[]⟩, .int .i64 (-1), .string ⟨#[]⟩, .string Q, .string F], .string B] w' fun e w'' => e = .returned (.tuple #[.agg #[.string L, .string H, .int .i64 qp, .string P, .string Q, .string F], .bool true]) ∧ Below w'.heap.size w' w'' := by
            rw [← hH, ← hP]; exact HSP.out
          have hfin : Hid (UrlEnd (urlClean PR c) (.returned (.tuple #[.agg #[.string L, .string H, .int .i64 qp, .string P, .string Q, .string F], .int .i64 0]))) := by
            refine Lib.hid ?_
            rw [hr.out, ← hH, ← hP, ← HL.out, ← HF.out, ← HQ.out]
            exact rfl
          clear HSP hH hP
          have HSP := Lib.hid CSP
          clear CSP
          go_wp2_with (first | (go_at_call 46; with_reducible refine (HCF3.out _).mono ?_; rintro e w4 ⟨rfl, rfl⟩))
          refine (HS4.out _).mono ?_
          rintro e w4 ⟨rfl, hb4⟩
          have hA4 := block_past_store hA3 (by omega) hb4
          have hN4 := block_past_store hN3 (by omega) hb4
          have hU4 : w4.heap[w2.heap.size]? = some (.cells #[.string L, .string ⟨#[]⟩, .int .i64 (-1), .string ⟨#[]⟩, .string ⟨#[]⟩, .string F] 28 (0, 0)) := block_of_store hU3 hb4
          have hbw4 := hbw3.trans (below_past_store (B := w.heap.size) (by omega) (by omega) hb4)
          have hs4 := hb4.size
          rw [size_setCell] at hs4
          clear hb4 hA3 hN3 hU3 hbw3 g5 u5
          have g4 := frozen_of_heap hU4 4
          obtain ⟨u0, u1, u2, u3, u4, u5⟩ := six_cells hU4
          go_wp2_with fail
          obtain ⟨w5, hw5⟩ : ∃ w5, w4.setCell ⟨w2.heap.size, 4, none⟩ (.string Q) = w5 := ⟨_, rfl⟩
          have hU5 : w5.heap[w2.heap.size]? = some (.cells #[.string L, .string ⟨#[]⟩, .int .i64 (-1), .string ⟨#[]⟩, .string Q, .string F] 28 (0, 0)) := by rw [← hw5]; exact heap_setCell_at hU4 4 _
          have hA5 := block_past_set (c := w2.heap.size) (k := 4) (v := .string Q) hA4 (by omega)
          have hN5 := block_past_set (c := w2.heap.size) (k := 4) (v := .string Q) hN4 (by omega)
          rw [hw5] at hA5 hN5
          have hs5 : w4.heap.size ≤ w5.heap.size := by rw [← hw5, size_setCell]; exact Nat.le_refl _
          have hbw5 : Below w.heap.size w w5 := by rw [← hw5]; exact hbw4.setCell (by show w.heap.size ≤ w2.heap.size; omega) _
          rw [hw5]
          clear hw5 hA4 hN4 hU4 hbw4 u0 u1 u2 u3 u4 u5 g4
          obtain ⟨u0, u1, u2, u3, u4, u5⟩ := six_cells hU5
          have hlt5 : w2.heap.size < w5.heap.size := (Array.getElem?_eq_some_iff.1 hU5).1
          have hU5n : (w5.alloc (.cells #[.string ⟨#[]⟩, .string ⟨#[]⟩, .int .i64 0, .string ⟨#[]⟩, .string ⟨#[]⟩, .string ⟨#[]⟩] 28)).heap[w2.heap.size]? = some (.cells #[.string L, .string ⟨#[]⟩, .int .i64 (-1), .string ⟨#[]⟩, .string Q, .string F] 28 (0, 0)) := (Below.heap_alloc _ _ _ hlt5).trans hU5
          have hU5d : (w5.alloc (.cells #[.string ⟨#[]⟩, .string ⟨#[]⟩, .int .i64 0, .string ⟨#[]⟩, .string ⟨#[]⟩, .string ⟨#[]⟩] 28)).drew.heap[w2.heap.size]? = some (.cells #[.string L, .string ⟨#[]⟩, .int .i64 (-1), .string ⟨#[]⟩, .string Q, .string F] 28 (0, 0)) := hU5n
          obtain ⟨i0, i1, i2, i3, i4, i5⟩ := six_cells hU5n
          obtain ⟨j0, j1, j2, j3, j4, j5⟩ := six_cells hU5d
          have hrefl : Below w5.heap.size w5 w5 := Below.refl _ _
          go_region_with (first | (go_at_call 50; refine (HSP.out _).mono ?_; rintro e w6 ⟨rfl, hb6⟩; try (have hq := six_free (w := w6) (b := w5.heap.size) (block_new_drew hb6); have hv := six_cells (w := w6) (b := w5.heap.size) (block_new_drew hb6); obtain ⟨q0, q1, q2, q3, q4, q5⟩ := hq; obtain ⟨v0, v1, v2, v3, v4, v5⟩ := hv)))
          · have hW : Below w5.heap.size w5 (w6.alloc (.cells #[.string L, .string H, .int .i64 qp, .string P, .string Q, .string F] 28)) := held_lay hb6 _
            have hX : (w6.alloc (.cells #[.string L, .string H, .int .i64 qp, .string P, .string Q, .string F] 28)).heap[w6.heap.size]? = _ := heap_alloc_new _ _
            obtain ⟨b7, hb7⟩ : ∃ b7, w6.heap.size = b7 := ⟨_, rfl⟩
            rw [hb7] at hX
            try rw [hb7]
            generalize w6.alloc (.cells #[.string L, .string H, .int .i64 qp, .string P, .string Q, .string F] 28) = w7 at hW hX ⊢
            have hA7 := block_past hA5 hW
            have hN7 := block_past hN5 hW
            have hbw7 := hbw5.trans (hW.mono hbw5.size)
            obtain ⟨y0, y1, y2, y3, y4, y5⟩ := six_cells hN7
            obtain ⟨x0, x1, x2, x3, x4, x5⟩ := six_cells hA7
            obtain ⟨f0, f1, f2, f3, f4, f5⟩ := six_free hA7
            obtain ⟨o0, o1, o2, o3, o4, o5⟩ := six_cells hX
            clear hW hA5 hN5 hbw5 hb6 hU5 hU5n hU5d hA7 hN7 hX i0 i1 i2 i3 i4 i5 j0 j1 j2 j3 j4 j5 u0 u1 u2 u3 u4 u5
            go_wp2
            exact bodyPost_ret (v := .tuple #[.agg #[.string L, .string H, .int .i64 qp, .string P, .string Q, .string F], .int .i64 0]) (by simp [results, Tryz.results25, go_sem, x0, x1, x2, x3, x4, x5]) rfl ⟨hfin.out, (((((hbw7.setCell (Nat.le_refl _) _).setCell (Nat.le_refl _) _).setCell (Nat.le_refl _) _).setCell (Nat.le_refl _) _).setCell (Nat.le_refl _) _).setCell (Nat.le_refl _) _⟩
          · have hX0 : w6.heap[w5.heap.size]? = _ := block_new_drew hb6
            have hW : Below w5.heap.size w5 ((((((w6.setCell ⟨w5.heap.size, 0, none⟩ (.string L)).setCell ⟨w5.heap.size, 1, none⟩ (.string H)).setCell ⟨w5.heap.size, 2, none⟩ (.int .i64 qp)).setCell ⟨w5.heap.size, 3, none⟩ (.string P)).setCell ⟨w5.heap.size, 4, none⟩ (.string Q)).setCell ⟨w5.heap.size, 5, none⟩ (.string F)) := six_below (((Below.refl _ w5).alloc (Nat.le_refl _) _).drew.trans (hb6.mono (by show w5.heap.size ≤ (w5.heap.push _).size; rw [Array.size_push]; omega))) (Nat.le_refl _) _ _ _ _ _ _
            have hX := six_sets hX0 (.string L) (.string H) (.int .i64 qp) (.string P) (.string Q) (.string F)
            obtain ⟨b7, hb7⟩ : ∃ b7, w5.heap.size = b7 := ⟨_, rfl⟩
            generalize ((((((w6.setCell ⟨w5.heap.size, 0, none⟩ (.string L)).setCell ⟨w5.heap.size, 1, none⟩ (.string H)).setCell ⟨w5.heap.size, 2, none⟩ (.int .i64 qp)).setCell ⟨w5.heap.size, 3, none⟩ (.string P)).setCell ⟨w5.heap.size, 4, none⟩ (.string Q)).setCell ⟨w5.heap.size, 5, none⟩ (.string F)) = w7 at hW hX ⊢
            clear hX0 q0 q1 q2 q3 q4 q5 v0 v1 v2 v3 v4 v5 hb7
            have hA7 := block_past hA5 hW
            have hN7 := block_past hN5 hW
            have hbw7 := hbw5.trans (hW.mono hbw5.size)
            obtain ⟨y0, y1, y2, y3, y4, y5⟩ := six_cells hN7
            obtain ⟨x0, x1, x2, x3, x4, x5⟩ := six_cells hA7
            obtain ⟨f0, f1, f2, f3, f4, f5⟩ := six_free hA7
            obtain ⟨o0, o1, o2, o3, o4, o5⟩ := six_cells hX
            clear hW hA5 hN5 hbw5 hb6 hU5 hU5n hU5d hA7 hN7 hX i0 i1 i2 i3 i4 i5 j0 j1 j2 j3 j4 j5 u0 u1 u2 u3 u4 u5
            go_wp2
            exact bodyPost_ret (v := .tuple #[.agg #[.string L, .string H, .int .i64 qp, .string P, .string Q, .string F], .int .i64 0]) (by simp [results, Tryz.results25, go_sem, x0, x1, x2, x3, x4, x5]) rfl ⟨hfin.out, (((((hbw7.setCell (Nat.le_refl _) _).setCell (Nat.le_refl _) _).setCell (Nat.le_refl _) _).setCell (Nat.le_refl _) _).setCell (Nat.le_refl _) _).setCell (Nat.le_refl _) _⟩
          · have hX0 : w6.heap[w5.heap.size]? = _ := block_new_drew hb6
            have hW : Below w5.heap.size w5 ((((((w6.setCell ⟨w5.heap.size, 0, none⟩ (.string L)).setCell ⟨w5.heap.size, 1, none⟩ (.string H)).setCell ⟨w5.heap.size, 2, none⟩ (.int .i64 qp)).setCell ⟨w5.heap.size, 3, none⟩ (.string P)).setCell ⟨w5.heap.size, 4, none⟩ (.string Q)).setCell ⟨w5.heap.size, 5, none⟩ (.string F)) := six_below (((Below.refl _ w5).alloc (Nat.le_refl _) _).drew.trans (hb6.mono (by show w5.heap.size ≤ (w5.heap.push _).size; rw [Array.size_push]; omega))) (Nat.le_refl _) _ _ _ _ _ _
            have hX := six_sets hX0 (.string L) (.string H) (.int .i64 qp) (.string P) (.string Q) (.string F)
            obtain ⟨b7, hb7⟩ : ∃ b7, w5.heap.size = b7 := ⟨_, rfl⟩
            generalize ((((((w6.setCell ⟨w5.heap.size, 0, none⟩ (.string L)).setCell ⟨w5.heap.size, 1, none⟩ (.string H)).setCell ⟨w5.heap.size, 2, none⟩ (.int .i64 qp)).setCell ⟨w5.heap.size, 3, none⟩ (.string P)).setCell ⟨w5.heap.size, 4, none⟩ (.string Q)).setCell ⟨w5.heap.size, 5, none⟩ (.string F)) = w7 at hW hX ⊢
            clear hX0 q0 q1 q2 q3 q4 q5 v0 v1 v2 v3 v4 v5 hb7
            have hA7 := block_past hA5 hW
            have hN7 := block_past hN5 hW
            have hbw7 := hbw5.trans (hW.mono hbw5.size)
            obtain ⟨y0, y1, y2, y3, y4, y5⟩ := six_cells hN7
            obtain ⟨x0, x1, x2, x3, x4, x5⟩ := six_cells hA7
            obtain ⟨f0, f1, f2, f3, f4, f5⟩ := six_free hA7
            obtain ⟨o0, o1, o2, o3, o4, o5⟩ := six_cells hX
            clear hW hA5 hN5 hbw5 hb6 hU5 hU5n hU5d hA7 hN7 hX i0 i1 i2 i3 i4 i5 j0 j1 j2 j3 j4 j5 u0 u1 u2 u3 u4 u5
            go_wp2
            exact bodyPost_ret (v := .tuple #[.agg #[.string L, .string H, .int .i64 qp, .string P, .string Q, .string F], .int .i64 0]) (by simp [results, Tryz.results25, go_sem, x0, x1, x2, x3, x4, x5]) rfl ⟨hfin.out, (((((hbw7.setCell (Nat.le_refl _) _).setCell (Nat.le_refl _) _).setCell (Nat.le_refl _) _).setCell (Nat.le_refl _) _).setCell (Nat.le_refl _) _).setCell (Nat.le_refl _) _⟩
end Go.Proofs.YtmgkmpbblhkacaaGreatDoor
