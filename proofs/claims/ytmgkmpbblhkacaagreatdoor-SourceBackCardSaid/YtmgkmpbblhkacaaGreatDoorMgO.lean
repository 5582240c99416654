/- The ways of source.Match: port, name. The ways of source.Match: path. The ways of source.Match: path, whole. -/
import Derived.Test.YtmgkmpbblhkacaaGreatDoorMgN
import Derived.Test.YtmgkmpbblhkacaaGreatDoorDom
import Derived.Test.YtmgkmpbblhkacaaGreatDoorBlk
import Derived.BigQuiet
import Derived.Test.YtmgkmpbblhkacaaGreatDoorDec
namespace Go.Proofs.YtmgkmpbblhkacaaGreatDoor
open Go.RowKit Go.MapKept
set_option linter.unusedSimpArgs false
set_option linter.unusedVariables false

/-- Does a port fit? -/
def portM (want na : Int) (sa : Bs) : Bool := decide (want = -2) || decide (want = na) || (decide (na = -1) && decide (want = stdP sa))
set_option maxRecDepth 1000000 in
set_option maxHeartbeats 4000000 in
theorem portM_any (sa ha pa qa fa sb hb pb qb fb : ByteArray) (na nb want : Int) (red : Bool) (w : World) :
    Calls Tryz.prog 53 #[askV sa ha na pa qa fa sb hb nb pb qb fb red, .int .i64 want] w fun e w' => e = .returned (.bool (portM want na sa.data.toList)) ∧ Below w.heap.size w w' := by
  have CS := fun w' => standard_any sa w'
  obtain ⟨st, hst⟩ : ∃ st, stdP sa.data.toList = st := ⟨_, rfl⟩
  have hm : portM want na sa.data.toList = (decide (want = -2) || decide (want = na) || (decide (na = -1) && decide (want = st))) := by unfold portM; rw [hst]
  rw [hst] at CS
  rw [hm]
  have HS := Lib.hid CS
  clear CS hst hm
  unfold askV
  go_enter Tryz.func53, Tryz.ntmps53
  by_cases c1 : want = -2
  · have b1 : (want == -2) = true := beq_iff_eq.2 c1
    have D := Lib.hid (decide_eq_true c1)
    clear c1
    go_wp2
    go_ret
    exact ⟨by rw [D.out]; rfl, (Below.refl _ w).alloc (Nat.le_refl _) _⟩
  · have b1 : (want == -2) = false := beq_eq_false_iff_ne.2 c1
    have D1 := Lib.hid (decide_eq_false c1)
    by_cases c2 : want = na
    · have b2 : (want == na) = true := beq_iff_eq.2 c2
      have D2 := Lib.hid (decide_eq_true c2)
      clear c1 c2
      go_wp2
      go_ret
      exact ⟨by rw [D1.out, D2.out]; rfl, (Below.refl _ w).alloc (Nat.le_refl _) _⟩
    · have b2 : (want == na) = false := beq_eq_false_iff_ne.2 c2
      have D2 := Lib.hid (decide_eq_false c2)
      by_cases c3 : na = -1
      · have b3 : (na == -1) = true := beq_iff_eq.2 c3
        have D3 := Lib.hid (decide_eq_true c3)
        clear c1 c2 c3
        by_cases c4 : want = st
        · have b4 : (want == st) = true := beq_iff_eq.2 c4
          have D4 := Lib.hid (decide_eq_true c4)
          clear c4
          go_wp2_with fail
          refine (HS.out _).mono ?_
          rintro e w1 ⟨rfl, hb1⟩
          have hbw1 := below_past_alloc hb1
          go_wp2
          go_ret
          exact ⟨by rw [D1.out, D2.out, D3.out, D4.out]; rfl, hbw1⟩
        · have b4 : (want == st) = false := beq_eq_false_iff_ne.2 c4
          have D4 := Lib.hid (decide_eq_false c4)
          clear c4
          go_wp2_with fail
          refine (HS.out _).mono ?_
          rintro e w1 ⟨rfl, hb1⟩
          have hbw1 := below_past_alloc hb1
          go_wp2
          go_ret
          exact ⟨by rw [D1.out, D2.out, D3.out, D4.out]; rfl, hbw1⟩
      · have b3 : (na == -1) = false := beq_eq_false_iff_ne.2 c3
        have D3 := Lib.hid (decide_eq_false c3)
        clear c1 c2 c3
        go_wp2
        go_ret
        exact ⟨by rw [D1.out, D2.out, D3.out]; rfl, (Below.refl _ w).alloc (Nat.le_refl _) _⟩
/-- Does a host fit? -/
def nameM (want ha : Bs) : Bool := domP ha && (if ([42, 46] : Bs).isPrefixOf want = true then Lib.hasSuffix ha (want.drop 1) && decide (want.length - 1 < ha.length) else (want == [42]) || (want == ha))
theorem suffix_same (s p : ByteArray) (w : World) (hs : s.size ≤ 1000000) :
    Calls Tryz.prog 21 #[.string s, .string p] w fun e w' => e = .returned (.bool (Lib.hasSuffix s.data.toList p.data.toList)) ∧ w' = w :=
  Tryz.strings_HasSuffix s p w (by omega)
set_option maxRecDepth 1000000 in
set_option maxHeartbeats 4000000 in
theorem nameM_any (sa ha pa qa fa sb hb pb qb fb want : ByteArray) (na nb : Int) (red : Bool) (w : World) (hh : ha.size ≤ 1000000) (hw : want.size ≤ 1000000) (hG : GL w) :
    Calls Tryz.prog 52 #[askV sa ha na pa qa fa sb hb nb pb qb fb red, .string want] w fun e w' => e = .returned (.bool (nameM want.data.toList ha.data.toList)) ∧ Below w.heap.size w w' := by
  have CD := fun w' hG' => Domain_any ha w' hh hG'
  have CP := fun w' => lib_HasPrefix want ⟨#[42, 46]⟩ w'
  rw [show (⟨#[42, 46]⟩ : ByteArray).data.toList = [42, 46] from rfl] at CP
  obtain ⟨dm, hdm⟩ : ∃ dm, domP ha.data.toList = dm := ⟨_, rfl⟩
  obtain ⟨pr, hpr⟩ : ∃ pr, ([42, 46] : Bs).isPrefixOf want.data.toList = pr := ⟨_, rfl⟩
  have hm : nameM want.data.toList ha.data.toList = (dm && (if pr = true then Lib.hasSuffix ha.data.toList (want.data.toList.drop 1) && decide (want.data.toList.length - 1 < ha.data.toList.length) else (want.data.toList == [42]) || (want.data.toList == ha.data.toList))) := by unfold nameM; rw [hdm, hpr]
  rw [hdm] at CD
  rw [hpr] at CP
  have HM := Lib.hid hm
  have HD := Lib.hid CD
  have HP := Lib.hid CP
  have HG := Lib.hid hG
  clear hm hdm CD CP hG
  cases dm with
  | false =>
    have hr : Hid (nameM want.data.toList ha.data.toList = false) := by rw [HM.out]; exact Lib.hid rfl
    clear HM hpr
    unfold askV
    go_enter Tryz.func52, Tryz.ntmps52
    go_wp2_with fail
    refine (HD.out _ (HG.out.alloc _)).mono ?_
    rintro e w1 ⟨rfl, hb1⟩
    have hbw1 := below_past_alloc hb1
    go_wp2
    go_ret
    exact ⟨by rw [hr.out]; rfl, hbw1⟩
  | true =>
    cases pr with
    | true =>
      have hlen : 2 ≤ want.size := by
        rw [Lib.size_eq]
        have := List.isPrefixOf_iff_prefix.1 hpr
        have := this.length_le
        simpa using this
      obtain ⟨T, hT⟩ : ∃ T, want.extract 1 want.size = T := ⟨_, rfl⟩
      have hTl : T.data.toList = want.data.toList.drop 1 := by rw [← hT, extract_from, strOf_data]
      obtain ⟨sf, hsf⟩ : ∃ sf, Lib.hasSuffix ha.data.toList (want.data.toList.drop 1) = sf := ⟨_, rfl⟩
      have CS : Hid (∀ w', Calls Tryz.prog 21 #[.string ha, .string T] w' fun e w'' => e = .returned (.bool sf) ∧ w'' = w') := by
        refine Lib.hid fun w' => ?_
        have := suffix_same ha T w' hh
        rw [hTl, hsf] at this
        exact this
      have hr : Hid (nameM want.data.toList ha.data.toList = (sf && decide (want.size - 1 < ha.size))) := by rw [HM.out, if_pos rfl, hsf, Lib.size_eq, Lib.size_eq]; exact Lib.hid rfl
      have m1 : IntKind.i64.wrap ((want.size : Int) - 1) = (want.size : Int) - 1 := IntWalk.i64_in _ (by omega)
      have l1 : (1 : Int) ≤ (want.size : Int) := by omega
      clear HM hpr hsf hTl
      cases sf with
      | false =>
        unfold askV
        go_enter Tryz.func52, Tryz.ntmps52
        go_wp2_with fail
        refine (HD.out _ (HG.out.alloc _)).mono ?_
        rintro e w1 ⟨rfl, hb1⟩
        have hbw1 := below_past_alloc hb1
        have hA := block_new_past hb1
        have a1 := cell_of_heap hA 1
        clear hb1 hA
        go_wp2_with (go_at_call 88; refine (HP.out _).mono ?_; rintro e w2 ⟨rfl, rfl⟩)
        go_quiet ((go_at_call 21; exact Calls.quiet_of_same (CS.out _)))
        go_wp2
        go_ret
        exact ⟨by rw [hr.out]; rfl, by first | exact hbw1 | exact below_drewN2 hbw1 _⟩
      | true =>
        by_cases c : want.size - 1 < ha.size
        · have c' : (want.size : Int) - 1 < (ha.size : Int) := by omega
          have D := Lib.hid (decide_eq_true c)
          clear c
          unfold askV
          go_enter Tryz.func52, Tryz.ntmps52
          go_wp2_with fail
          refine (HD.out _ (HG.out.alloc _)).mono ?_
          rintro e w1 ⟨rfl, hb1⟩
          have hbw1 := below_past_alloc hb1
          have hA := block_new_past hb1
          have a1 := cell_of_heap hA 1
          clear hb1 hA
          go_wp2_with (go_at_call 88; refine (HP.out _).mono ?_; rintro e w2 ⟨rfl, rfl⟩)
          go_quiet ((go_at_call 21; exact Calls.quiet_of_same (CS.out _)))
          go_wp2
          go_ret
          exact ⟨by rw [hr.out, D.out]; rfl, by first | exact hbw1 | exact below_drewN2 hbw1 _⟩
        · have c' : ¬ (want.size : Int) - 1 < (ha.size : Int) := by omega
          have c'' : decide ((want.size : Int) - 1 < (ha.size : Int)) = false := decide_eq_false c'
          have D := Lib.hid (decide_eq_false c)
          clear c
          unfold askV
          go_enter Tryz.func52, Tryz.ntmps52
          go_wp2_with fail
          refine (HD.out _ (HG.out.alloc _)).mono ?_
          rintro e w1 ⟨rfl, hb1⟩
          have hbw1 := below_past_alloc hb1
          have hA := block_new_past hb1
          have a1 := cell_of_heap hA 1
          clear hb1 hA
          go_wp2_with (go_at_call 88; refine (HP.out _).mono ?_; rintro e w2 ⟨rfl, rfl⟩)
          go_quiet ((go_at_call 21; exact Calls.quiet_of_same (CS.out _)))
          go_wp2
          go_ret
          exact ⟨by rw [hr.out, D.out]; rfl, by first | exact hbw1 | exact below_drewN2 hbw1 _⟩
    | false =>
      have hr : Hid (nameM want.data.toList ha.data.toList = ((want.toList == [42]) || (want.toList == ha.toList))) := by rw [HM.out, if_neg (by simp), ByteArray.toList_eq, ByteArray.toList_eq]; exact Lib.hid rfl
      clear HM hpr
      unfold askV
      go_enter Tryz.func52, Tryz.ntmps52
      go_wp2_with fail
      refine (HD.out _ (HG.out.alloc _)).mono ?_
      rintro e w1 ⟨rfl, hb1⟩
      have hbw1 := below_past_alloc hb1
      have hA := block_new_past hb1
      have a1 := cell_of_heap hA 1
      clear hb1 hA
      go_wp2_with (go_at_call 88; refine (HP.out _).mono ?_; rintro e w2 ⟨rfl, rfl⟩)
      all_goals
        go_ret
        refine ⟨?_, hbw1⟩
        rw [hr.out]
        simp [*]
end Go.Proofs.YtmgkmpbblhkacaaGreatDoor
namespace Go.Proofs.YtmgkmpbblhkacaaGreatDoor
open Go.RowKit Go.MapKept
set_option linter.unusedSimpArgs false
set_option linter.unusedVariables false

set_option maxRecDepth 1000000 in
theorem path1_any (s t : ByteArray) (w : World) (hs : s.size ≤ 1000000) (ht : t.size ≤ 1000000) :
    Calls Tryz.prog 91 #[.string s, .string t] w fun e w' => e = .returned (.bool (pdec s.data.toList == pdec t.data.toList)) ∧ Below w.heap.size w w' := by
  have C1 := Lib.hid (fun w' => Decode_any s w' hs)
  have C2 := Lib.hid (fun w' => Decode_any t w' ht)
  obtain ⟨a, ha⟩ : ∃ a, pdec s.data.toList = a := ⟨_, rfl⟩
  obtain ⟨b, hb⟩ : ∃ b, pdec t.data.toList = b := ⟨_, rfl⟩
  rw [ha] at C1
  rw [hb] at C2
  rw [ha, hb]
  clear ha hb
  obtain ⟨A, hA⟩ : ∃ A, strOf a = A := ⟨_, rfl⟩
  obtain ⟨B, hB⟩ : ∃ B, strOf b = B := ⟨_, rfl⟩
  have hr : (a == b) = (A.toList == B.toList) := by rw [← hA, ← hB, ByteArray.toList_eq, ByteArray.toList_eq, strOf_data, strOf_data]
  rw [hA] at C1
  rw [hB] at C2
  have HR := Lib.hid hr
  clear hr hA hB
  go_enter Tryz.func91, Tryz.ntmps91
  go_wp2_with fail
  refine (C1.out _).mono ?_
  rintro e w1 ⟨rfl, hb1⟩
  go_wp2_with fail
  refine (C2.out _).mono ?_
  rintro e w2 ⟨rfl, hb2⟩
  have hbw := hb1.trans (hb2.mono hb1.size)
  go_wp2
  all_goals
    go_ret
    refine ⟨?_, hbw⟩
    rw [HR.out]
    simp [*]
/-- Equal, piece by piece, decoded. -/
def eqP : List Bs → List Bs → Bool
  | [], [] => true
  | a :: x, b :: y => (pdec a == pdec b) && eqP x y
  | _, _ => false
theorem eqP_len : ∀ (x y : List Bs), x.length ≠ y.length → eqP x y = false
  | [], [], h => absurd rfl h
  | [], _ :: _, _ => rfl
  | _ :: _, [], _ => rfl
  | a :: x, b :: y, h => by
    rw [eqP, eqP_len x y (by simpa using h), Bool.and_false]
theorem eqP_all (x y : List Bs) (h : x.length = y.length) (hall : ∀ i (hx : i < x.length) (hy : i < y.length), pdec x[i] = pdec y[i]) : eqP x y = true := by
  induction x generalizing y with
  | nil =>
    cases y with
    | nil => rfl
    | cons b y => simp at h
  | cons a x ih =>
    cases y with
    | nil => simp at h
    | cons b y =>
      have h0 := hall 0 (by simp) (by simp)
      simp at h0
      rw [eqP, h0, ih y (by simpa using h) (fun i hx hy => by have := hall (i + 1) (by simp; omega) (by simp; omega); simpa using this)]
      simp
theorem eqP_not (x y : List Bs) (i : Nat) (hx : i < x.length) (hy : i < y.length) (h : pdec x[i] ≠ pdec y[i]) : eqP x y = false := by
  induction x generalizing y i with
  | nil => simp at hx
  | cons a x ih =>
    cases y with
    | nil => rfl
    | cons b y =>
      cases i with
      | zero =>
        simp at h
        rw [eqP, beq_eq_false_iff_ne.2 h]; rfl
      | succ i =>
        rw [eqP, ih y i (by simpa using hx) (by simpa using hy) (by simpa using h), Bool.and_false]
set_option maxRecDepth 1000000 in
set_option maxHeartbeats 4000000 in
theorem equalFunc_any (x y : List Bs) (bx by_ n m cx cy : Nat) (w : World) (hX : Strs w bx x) (hY : Strs w by_ y) (hn : n ≤ x.length) (hm : m ≤ y.length) (hxz : ∀ p ∈ x, p.length ≤ 1000000) (hyz : ∀ p ∈ y, p.length ≤ 1000000) (hl : x.length ≤ 1000001) (hl2 : y.length ≤ 1000001) :
    Calls Tryz.prog 90 #[.slice (some ⟨bx, 0, none⟩) n cx, .slice (some ⟨by_, 0, none⟩) m cy, .func (.func 91) #[] #[]] w fun e w' => e = .returned (.bool (eqP (x.take n) (y.take m))) ∧ Below w.heap.size w w' := by
  by_cases hnm : n = m
  · subst hnm
    have HX := Lib.hid hX
    have HY := Lib.hid hY
    have HXZ := Lib.hid hxz
    have HYZ := Lib.hid hyz
    clear hX hY hxz hyz
    go_enter Tryz.func90, Tryz.ntmps90
    go_wp2
    go_loopw [17] (fun v wr => ∃ i : Nat, v = .int .i64 i ∧ i ≤ n ∧ Below w.heap.size w wr ∧ Hid (∀ j (hx : j < x.length) (hy : j < y.length), j < i → pdec x[j] = pdec y[j])) (fun v _ => n - (intOf v).toNat)
    case atStart => exact ⟨0, rfl, by omega, Below.refl _ _, Lib.hid (fun j _ _ hj => by omega)⟩
    case round =>
      obtain ⟨i, rfl, hi, hbw, hall⟩ := hrel
      obtain ⟨wo, rfl⟩ : ∃ wo : World, wo = wr := ⟨_, rfl⟩
      by_cases hlt : i < n
      · have hlx : i < x.length := by omega
        have hly : i < y.length := by omega
        have hc1 := ((HX.out.below hbw).cell i x[i] (List.getElem?_eq_getElem hlx))
        have hc2 := ((HY.out.below hbw).cell i y[i] (List.getElem?_eq_getElem hly))
        have hz1 := HXZ.out x[i] (List.getElem_mem hlx)
        have hz2 := HYZ.out y[i] (List.getElem_mem hly)
        have C := fun w' => path1_any (strOf x[i]) (strOf y[i]) w' (by rw [strOf_size]; exact hz1) (by rw [strOf_size]; exact hz2)
        rw [strOf_data, strOf_data] at C
        have m1 : IntKind.i64.wrap ((i : Int) + 1) = (i : Int) + 1 := IntWalk.i64_in _ (by omega)
        by_cases hb : pdec x[i] = pdec y[i]
        · rw [beq_iff_eq.2 hb] at C
          have HC := Lib.hid C
          have hall2 : Hid (∀ j (hx : j < x.length) (hy : j < y.length), j < i + 1 → pdec x[j] = pdec y[j]) := Lib.hid (fun j hx hy h => by
            by_cases e : j = i
            · subst e; exact hb
            · exact hall.out j hx hy (by omega))
          clear hb C hall hz1 hz2
          go_wp2_with (go_at_call 91; refine (HC.out _).mono ?_; rintro e w1 ⟨rfl, hb1⟩)
          exact ⟨⟨i + 1, rfl, by omega, hbw.trans (hb1.mono hbw.size), hall2⟩, by simp [intOf]; omega⟩
        · have hr : Hid (eqP (x.take n) (y.take n) = false) := Lib.hid (eqP_not _ _ i (by simp; omega) (by simp; omega) (by simpa using hb))
          rw [beq_eq_false_iff_ne.2 hb] at C
          have HC := Lib.hid C
          clear hb C hall hz1 hz2
          go_wp2_with (go_at_call 91; refine (HC.out _).mono ?_; rintro e w1 ⟨rfl, hb1⟩)
          go_ret
          exact ⟨by rw [hr.out]; rfl, hbw.trans (hb1.mono hbw.size)⟩
      · have hr : Hid (eqP (x.take n) (y.take n) = true) := Lib.hid (eqP_all _ _ (by simp; omega) (fun j hx hy => by
          simp at hx hy
          have := hall.out j (by omega) (by omega) (by omega)
          simpa using this))
        have hge : (n : Int) ≤ (i : Int) := by omega
        clear hall
        go_wp2
        go_ret
        exact ⟨by rw [hr.out]; rfl, hbw⟩
  · have hr : Hid (eqP (x.take n) (y.take m) = false) := Lib.hid (eqP_len _ _ (by simp; omega))
    have hne : ((n : Int) != (m : Int)) = true := by simp; omega
    clear hX hY hxz hyz hnm
    go_enter Tryz.func90, Tryz.ntmps90
    go_wp2
    go_ret
    exact ⟨by rw [hr.out]; rfl, Below.refl _ _⟩
end Go.Proofs.YtmgkmpbblhkacaaGreatDoor
namespace Go.Proofs.YtmgkmpbblhkacaaGreatDoor
open Go.RowKit Go.MapKept
set_option linter.unusedSimpArgs false
set_option linter.unusedVariables false

theorem strs_alloc_drew {w w1 : World} {o : Obj} {ls : List Bs} (h : Strs w1 (w.alloc o).drew.heap.size ls) : Strs w1 (w.heap.size + 1) ls := by
  have hs : (w.alloc o).drew.heap.size = w.heap.size + 1 := by show (w.heap.push _).size = _; rw [Array.size_push]
  rw [hs] at h; exact h
theorem below_alloc_drew {w w1 : World} {o : Obj} (hb : Below (w.alloc o).drew.heap.size (w.alloc o).drew w1) : Below w.heap.size w w1 := by
  have hs : (w.alloc o).drew.heap.size = w.heap.size + 1 := by show (w.heap.push _).size = _; rw [Array.size_push]
  exact (Below.drew ((Below.refl _ w).alloc (Nat.le_refl _) _)).trans (hb.mono (by omega))
/-- Does a path fit? -/
def pathM (want is_ : Bs) (red : Bool) : Bool :=
  if want = [] ∨ red = true then true
  else if (split1 47 want).getLastD [] = [] then (if (split1 47 is_).length < (split1 47 want).length then false else eqP ((split1 47 want).take ((split1 47 want).length - 1)) ((split1 47 is_).take ((split1 47 want).length - 1)))
  else eqP (split1 47 want) (split1 47 is_)
set_option maxRecDepth 1000000 in
set_option maxHeartbeats 8000000 in
theorem pathM_any (sa ha pa qa fa sb hb pb qb fb want : ByteArray) (na nb : Int) (red : Bool) (w : World) (hp : pa.size ≤ 1000000) (hw : want.size ≤ 1000000) (hG : GL w) :
    Calls Tryz.prog 54 #[askV sa ha na pa qa fa sb hb nb pb qb fb red, .string want] w fun e w' => e = .returned (.bool (pathM want.data.toList pa.data.toList red)) ∧ Below w.heap.size w w' := by
  unfold askV
  by_cases h0 : want.data.toList = []
  · have hr : Hid (pathM want.data.toList pa.data.toList red = true) := Lib.hid (by unfold pathM; rw [if_pos (Or.inl h0)])
    have he : want.toList.isEmpty = true := by rw [isEmpty_data, h0]; rfl
    clear h0
    go_enter Tryz.func54, Tryz.ntmps54
    go_wp2
    go_ret
    exact ⟨by rw [hr.out]; rfl, (Below.refl _ w).alloc (Nat.le_refl _) _⟩
  · have he : want.toList.isEmpty = false := by rw [isEmpty_data]; exact beq_eq_false_iff_ne.2 h0
    cases red with
    | true =>
      have hr : Hid (pathM want.data.toList pa.data.toList true = true) := Lib.hid (by unfold pathM; rw [if_pos (Or.inr rfl)])
      clear h0
      go_enter Tryz.func54, Tryz.ntmps54
      go_wp2
      go_ret
      exact ⟨by rw [hr.out]; rfl, (Below.refl _ w).alloc (Nat.le_refl _) _⟩
    | false =>
      obtain ⟨x, hx⟩ : ∃ x, split1 47 want.data.toList = x := ⟨_, rfl⟩
      obtain ⟨y, hy⟩ : ∃ y, split1 47 pa.data.toList = y := ⟨_, rfl⟩
      have hm : pathM want.data.toList pa.data.toList false = if x.getLastD [] = [] then (if y.length < x.length then false else eqP (x.take (x.length - 1)) (y.take (x.length - 1))) else eqP x y := by
        unfold pathM; rw [if_neg (by rintro (h | h); exact h0 h; cases h), hx, hy]
      have hxl := split1_len_le 47 want.data.toList
      have hyl := split1_len_le 47 pa.data.toList
      have hxm := split1_mem_le 47 want.data.toList
      have hym := split1_mem_le 47 pa.data.toList
      have hx1 := split1_pos 47 want.data.toList
      rw [hx] at hxl hxm hx1
      rw [hy] at hyl hym
      rw [← Lib.size_eq] at hxl hyl
      have hxz : ∀ p ∈ x, p.length ≤ 1000000 := fun p hp' => by have := hxm p hp'; rw [← Lib.size_eq] at this; omega
      have hyz : ∀ p ∈ y, p.length ≤ 1000000 := fun p hp' => by have := hym p hp'; rw [← Lib.size_eq] at this; omega
      have C1 : ∀ w', GL w' → Calls Tryz.prog 77 #[.string want, .string ⟨#[47]⟩] w' fun e w'' => e = .returned (.slice (some ⟨w'.heap.size, 0, none⟩) x.length x.length) ∧ Strs w'' w'.heap.size x ∧ Below w'.heap.size w' w'' := by
        intro w' hG'; have := lib_Split1 want 47 w' hw hG'; rw [hx] at this; exact this
      have C2 : ∀ w', GL w' → Calls Tryz.prog 77 #[.string pa, .string ⟨#[47]⟩] w' fun e w'' => e = .returned (.slice (some ⟨w'.heap.size, 0, none⟩) y.length y.length) ∧ Strs w'' w'.heap.size y ∧ Below w'.heap.size w' w'' := by
        intro w' hG'; have := lib_Split1 pa 47 w' hp hG'; rw [hy] at this; exact this
      have HM := Lib.hid hm
      have HC1 := Lib.hid C1
      have HC2 := Lib.hid C2
      have HXZ := Lib.hid hxz
      have HYZ := Lib.hid hyz
      have HG := Lib.hid hG
      have hlx : x.length ≤ 1000001 := by omega
      have hly : y.length ≤ 1000001 := by omega
      clear hm C1 C2 hxz hyz hG hx hy hxm hym hxl hyl h0
      go_enter Tryz.func54, Tryz.ntmps54
      go_wp2_with fail
      have hG0 := HG.out.alloc (.cells #[.string sa, .string ha, .int .i64 na, .string pa, .string qa, .string fa, .string sb, .string hb, .int .i64 nb, .string pb, .string qb, .string fb, .bool false] 50)
      go_upto_region 3 with fail
      go_cut [5, 6] (fun v5 v6 wc => ∃ b1 b2 : Nat, v5 = .slice (some ⟨b1, 0, none⟩) x.length x.length ∧ v6 = .slice (some ⟨b2, 0, none⟩) y.length y.length ∧ Strs wc b1 x ∧ Strs wc b2 y ∧ Below w.heap.size w wc)
      case first =>
        first | go_region_with (first | (go_at_call 77; first | (with_reducible refine (HC1.out _ ?_).mono ?_; (first | exact hG0.drew | assumption); rintro e w1 ⟨rfl, hS1, hb1⟩; try (have a3 := cell_of_heap (block_new_drew hb1) 3; have hG1 := hG0.drew.below hb1)) | (with_reducible refine (HC2.out _ ?_).mono ?_; (first | exact hG0.drew | assumption); rintro e w2 ⟨rfl, hS2, hb2⟩; try (have hG2 := hG0.drew.below hb2)))) | fail "region"
        all_goals
          go_wp2_with fail
          go_meet
          exact ⟨_, _, rfl, rfl, strs_alloc_drew (hS1.below hb2), hS2, (below_alloc_drew hb1).trans (hb2.mono (below_alloc_drew hb1).size)⟩
      case rest =>
      obtain ⟨b1, b2, rfl, rfl, hS1, hS2, hbw⟩ := hcut
      obtain ⟨w3, rfl⟩ : ∃ w3 : World, w3 = wc := ⟨_, rfl⟩
      obtain ⟨L, hL⟩ : ∃ L, x.length = L := ⟨_, rfl⟩
      obtain ⟨M, hM⟩ : ∃ M, y.length = M := ⟨_, rfl⟩
      have hlast := getLastD_at x (by intro h; rw [h] at hx1; simp at hx1)
      obtain ⟨la, hla⟩ : ∃ la, x.getLastD [] = la := ⟨_, rfl⟩
      rw [hla, hL] at hlast
      have hc : w3.cell? ⟨b1, L - 1, none⟩ = some (.string (strOf la)) := hS1.cell _ _ hlast
      rw [hla, hL, hM] at HM
      have CE : ∀ (w' : World) (n m : Nat), Below w3.heap.size w3 w' → n ≤ L → m ≤ M → Calls Tryz.prog 90 #[.slice (some ⟨b1, 0, none⟩) n L, .slice (some ⟨b2, 0, none⟩) m M, .func (.func 91) #[] #[]] w' fun e w'' => e = .returned (.bool (eqP (x.take n) (y.take m))) ∧ Below w'.heap.size w' w'' := fun w' n m hb' hn hm' => equalFunc_any x y b1 b2 n m L M w' (hS1.below hb') (hS2.below hb') (by omega) (by omega) HXZ.out HYZ.out hlx hly
      have HCE := Lib.hid CE
      have hL1 : 1 ≤ L := by omega
      have hLb : L ≤ 1000001 := by omega
      have HL := Lib.hid hL
      have HMl := Lib.hid hM
      rw [hL, hM]
      clear CE hla hlast hL hM hlx hly hx1
      have m1 : IntKind.i64.wrap ((L : Int) - 1) = (L : Int) - 1 := IntWalk.i64_in _ (by omega)
      have t1 : ((L : Int) - 1).toNat = L - 1 := by omega
      have i1 : (0 : Int) ≤ (L : Int) - 1 := by omega
      have i2 : (L : Int) - 1 < (L : Int) := by omega
      by_cases hle : la = []
      · have hem : (strOf la).toList.isEmpty = true := by rw [strOf_isEmpty, hle]; rfl
        by_cases hlt : M < L
        · have hr : Hid (pathM want.data.toList pa.data.toList false = false) := by rw [HM.out, if_pos hle, if_pos hlt]; exact Lib.hid rfl
          clear hle
          go_wp2
          go_ret
          exact ⟨by rw [hr.out]; rfl, hbw⟩
        · have hr : Hid (pathM want.data.toList pa.data.toList false = eqP (x.take (L - 1)) (y.take (L - 1))) := by rw [HM.out, if_pos hle, if_neg hlt]; exact Lib.hid rfl
          have hge : (L : Int) ≤ (M : Int) := by omega
          have i3 : (L : Int) - 1 ≤ (M : Int) := by omega
          clear hle
          go_wp2_with fail
          first | go_region_with (fail) | fail "region"
          all_goals
            go_wp2_with fail
            refine (HCE.out _ (L - 1) (L - 1) (Below.drew (Below.refl _ _)) (by omega) (by omega)).mono ?_
            rintro e w4 ⟨rfl, hb4⟩
            go_wp2
            go_ret
            exact ⟨by rw [hr.out]; rfl, hbw.trans (((Below.drew (Below.refl w3.heap.size w3)).trans hb4).mono hbw.size)⟩
      · have hem : (strOf la).toList.isEmpty = false := by rw [strOf_isEmpty]; exact beq_eq_false_iff_ne.2 hle
        have hr : Hid (pathM want.data.toList pa.data.toList false = eqP (x.take L) (y.take M)) := by rw [HM.out, if_neg hle, ← HL.out, ← HMl.out, List.take_length, List.take_length]; exact Lib.hid rfl
        clear hle
        go_wp2_with fail
        refine (HCE.out _ L M (Below.refl _ _) (Nat.le_refl _) (Nat.le_refl _)).mono ?_
        rintro e w4 ⟨rfl, hb4⟩
        go_wp2
        go_ret
        exact ⟨by rw [hr.out]; rfl, hbw.trans (hb4.mono hbw.size)⟩
end Go.Proofs.YtmgkmpbblhkacaaGreatDoor
