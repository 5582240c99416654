/- weburl.Same, and the ways of source.Match. The ways of source.Match: any, scheme, itself. -/
import Derived.Test.YtmgkmpbblhkacaaGreatDoorMgM
import Derived.Test.YtmgkmpbblhkacaaGreatDoorR10
namespace Go.Proofs.YtmgkmpbblhkacaaGreatDoor
open Go.RowKit Go.MapKept
set_option linter.unusedSimpArgs false
set_option linter.unusedVariables false

set_option maxRecDepth 1000000 in
set_option maxHeartbeats 4000000 in
theorem same_any (sa ha pa qa fa sb hb pb qb fb : ByteArray) (na nb : Int) (w : World) :
    Calls Tryz.prog 55 #[urlV sa ha na pa qa fa, urlV sb hb nb pb qb fb] w fun e w' => e = .returned (.bool (specialP sa.data.toList && (sa.toList == sb.toList) && (ha.toList == hb.toList) && (na == nb))) ∧ Below w.heap.size w w' := by
  have CS := Lib.hid (fun w' => special_any sa w')
  unfold urlV
  obtain ⟨sp, hsp⟩ : ∃ sp, specialP sa.data.toList = sp := ⟨_, rfl⟩
  rw [hsp] at CS ⊢
  clear hsp
  go_enter Tryz.func55, Tryz.ntmps55
  cases sp with
  | false =>
    go_wp2_with fail
    refine (CS.out _).mono ?_
    rintro e w1 ⟨rfl, hb1⟩
    obtain ⟨hA, hB, hs1, hbw1⟩ := two_blocks hb1
    go_wp2
    go_ret
    exact ⟨rfl, hbw1⟩
  | true =>
    go_wp2_with fail
    refine (CS.out _).mono ?_
    rintro e w1 ⟨rfl, hb1⟩
    obtain ⟨hA, hB, hs1, hbw1⟩ := two_blocks hb1
    have a0 := cell_of_heap hA 0
    have a1 := cell_of_heap hA 1
    have a2 := cell_of_heap hA 2
    have b0 := cell_of_heap hB 0
    have b1 := cell_of_heap hB 1
    have b2 := cell_of_heap hB 2
    clear hA hB CS hb1
    go_wp2
    all_goals
      go_ret
      refine ⟨?_, hbw1⟩
      simp [*]
end Go.Proofs.YtmgkmpbblhkacaaGreatDoor
namespace Go.Proofs.YtmgkmpbblhkacaaGreatDoor
open Go.RowKit Go.MapKept
set_option linter.unusedSimpArgs false
set_option linter.unusedVariables false

/-- What is asked. -/
def askV (sa ha : ByteArray) (na : Int) (pa qa fa sb hb : ByteArray) (nb : Int) (pb qb fb : ByteArray) (red : Bool) : Value :=
  .agg #[.string sa, .string ha, .int .i64 na, .string pa, .string qa, .string fa, .string sb, .string hb, .int .i64 nb, .string pb, .string qb, .string fb, .bool red]
def soV (k : Int) (xs xh : ByteArray) (xn : Int) (xp xt : ByteArray) : Value := .agg #[.int .i64 k, .string xs, .string xh, .int .i64 xn, .string xp, .string xt]
/-- Of *. -/
def anyM (sa sb : Bs) : Bool := (sa == sHttp) || (sa == sHttps) || (sa == sb)
set_option maxRecDepth 1000000 in
set_option maxHeartbeats 4000000 in
theorem anyM_any (sa ha pa qa fa sb hb pb qb fb xs xh xp xt : ByteArray) (na nb k xn : Int) (red : Bool) (w : World) :
    Calls Tryz.prog 26 #[askV sa ha na pa qa fa sb hb nb pb qb fb red, soV k xs xh xn xp xt] w fun e w' => e = .returned (.bool (anyM sa.data.toList sb.data.toList)) ∧ Below w.heap.size w w' := by
  have hr : anyM sa.data.toList sb.data.toList = ((sa.toList == [104, 116, 116, 112]) || (sa.toList == [104, 116, 116, 112, 115]) || (sa.toList == sb.toList)) := by unfold anyM sHttp sHttps; rw [ByteArray.toList_eq, ByteArray.toList_eq]
  rw [hr]
  clear hr
  unfold askV soV
  go_enter Tryz.func26, Tryz.ntmps26
  go_wp2
  all_goals
    go_ret
    refine ⟨?_, ((Below.refl _ w).alloc (Nat.le_refl _) _).alloc (by show w.heap.size ≤ (w.heap.push _).size; rw [Array.size_push]; omega) _⟩
    simp [*]
set_option maxRecDepth 1000000 in
set_option maxHeartbeats 4000000 in
theorem schemeM_any (sa ha pa qa fa sb hb pb qb fb xs xh xp xt : ByteArray) (na nb k xn : Int) (red : Bool) (w : World) (hG : GLS w) :
    Calls Tryz.prog 27 #[askV sa ha na pa qa fa sb hb nb pb qb fb red, soV k xs xh xn xp xt] w fun e w' => e = .returned (.bool (togetherP xs.data.toList sa.data.toList)) ∧ Below w.heap.size w w' := by
  have CT := Lib.hid (fun w' hG' => together_any xs sa w' hG')
  have HG := Lib.hid hG
  clear hG
  unfold askV soV
  go_enter Tryz.func27, Tryz.ntmps27
  go_wp2_with fail
  refine (CT.out _ ((HG.out.alloc _).alloc _)).mono ?_
  rintro e w1 ⟨rfl, hb1⟩
  have hbw1 := (two_past hb1).1
  go_wp2
  go_ret
  exact ⟨rfl, hbw1⟩
/-- Of 'self'. -/
def selfM (sa ha sb hb : Bs) (na nb : Int) : Bool :=
  (specialP sa && (sa == sb) && (ha == hb) && (na == nb)) || ((!(ha == [])) && (ha == hb) && (na == nb) && ((sa == sHttps) || (sa == sWss) || ((sb == sHttp) && (sa == sWs))))
set_option maxRecDepth 1000000 in
set_option maxHeartbeats 8000000 in
theorem selfM_any (sa ha pa qa fa sb hb pb qb fb xs xh xp xt : ByteArray) (na nb k xn : Int) (red : Bool) (w : World) :
    Calls Tryz.prog 29 #[askV sa ha na pa qa fa sb hb nb pb qb fb red, soV k xs xh xn xp xt] w fun e w' => e = .returned (.bool (selfM sa.data.toList ha.data.toList sb.data.toList hb.data.toList na nb)) ∧ Below w.heap.size w w' := by
  have CS := fun w' => same_any sa ha pa qa fa sb hb pb qb fb na nb w'
  obtain ⟨sm, hsm⟩ : ∃ sm, (specialP sa.data.toList && (sa.toList == sb.toList) && (ha.toList == hb.toList) && (na == nb)) = sm := ⟨_, rfl⟩
  rw [hsm] at CS
  unfold urlV at CS
  have hr : selfM sa.data.toList ha.data.toList sb.data.toList hb.data.toList na nb = (sm || ((!(ha.toList == [])) && (ha.toList == hb.toList) && (na == nb) && ((sa.toList == [104, 116, 116, 112, 115]) || (sa.toList == [119, 115, 115]) || ((sb.toList == [104, 116, 116, 112]) && (sa.toList == [119, 115]))))) := by
    rw [← hsm]; unfold selfM sHttp sHttps sWs sWss
    simp only [ByteArray.toList_eq]
  rw [hr]
  have HS := Lib.hid CS
  clear hr CS hsm
  unfold askV soV
  go_enter Tryz.func29, Tryz.ntmps29
  go_wp2_with fail
  refine (HS.out _).mono ?_
  rintro e w1 ⟨rfl, hb1⟩
  obtain ⟨hbw1, hA, hB⟩ := two_past hb1
  clear hb1
  have a0 := cell_of_heap hA 0
  have a1 := cell_of_heap hA 1
  have a2 := cell_of_heap hA 2
  have a6 := cell_of_heap hA 6
  have a7 := cell_of_heap hA 7
  have a8 := cell_of_heap hA 8
  clear hA hB
  cases sm with
  | true =>
    go_wp2
    go_ret
    exact ⟨by simp, hbw1⟩
  | false =>
    by_cases e0 : ha.toList = []
    · have b0 : (ha.toList == []) = true := beq_iff_eq.2 e0
      go_wp2
      all_goals
        go_ret
        refine ⟨?_, hbw1⟩
        simp [e0]
    · have b0 : (ha.toList == []) = false := beq_eq_false_iff_ne.2 e0
      have b3 : ha.toList.isEmpty = false := by rw [isEmpty_data, ← ByteArray.toList_eq]; exact b0
      by_cases n0 : na = nb
      · have n1 : (na != nb) = false := by simp [n0]
        have n2 : (na == nb) = true := by simp [n0]
        by_cases e1 : ha.toList = hb.toList
        · have e2 : ¬ hb.toList = [] := fun h => e0 (e1.trans h)
          have b1 : (ha.toList == hb.toList) = true := beq_iff_eq.2 e1
          have b4 : hb.toList.isEmpty = false := by rw [isEmpty_data, ← ByteArray.toList_eq]; exact beq_eq_false_iff_ne.2 e2
          have B0 := Lib.hid b0
          have B1 := Lib.hid b1
          have N2 := Lib.hid n2
          go_wp2
          all_goals
            go_ret
            refine ⟨?_, hbw1⟩
            rw [B0.out, B1.out, N2.out]
            simp [*]
        · have b1 : (ha.toList == hb.toList) = false := beq_eq_false_iff_ne.2 e1
          have B1 := Lib.hid b1
          go_wp2
          all_goals
            go_ret
            refine ⟨?_, hbw1⟩
            rw [B1.out]
            simp
      · have n1 : (na != nb) = true := by simp [n0]
        have n2 : (na == nb) = false := beq_eq_false_iff_ne.2 n0
        have N2 := Lib.hid n2
        go_wp2
        all_goals
          go_ret
          refine ⟨?_, hbw1⟩
          rw [N2.out]
          simp
end Go.Proofs.YtmgkmpbblhkacaaGreatDoor
