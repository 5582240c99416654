/- source.Text. -/
import Derived.Test.YtmgkmpbblhkacaaGreatDoorS17
import Derived.Lib.ItoaLen
namespace Go.Proofs.YtmgkmpbblhkacaaGreatDoor
open Go.RowKit
set_option linter.unusedSimpArgs false
set_option linter.unusedVariables false

/-- What is behind a host: its port. -/
def portT (n : Int) : Bs := if n = -2 then [58, 42] else if 0 ≤ n then 58 :: Lib.itoa n else []
/-- source.Text. -/
def textP (x : SrcL) : Bs :=
  if x.kind = 0 then 39 :: (sNone ++ [39])
  else if x.kind = 1 then [42]
  else if x.kind = 2 then x.sc ++ [58]
  else if x.kind = 3 then (if x.sc = [] then x.ho else x.sc ++ [58, 47, 47] ++ x.ho) ++ portT x.po ++ x.pa
  else if x.kind = 4 then 39 :: (sSelf ++ [39])
  else if x.kind = 5 then 39 :: (sNonce ++ [45]) ++ x.tx ++ [39]
  else if x.kind = 6 ∨ x.kind = 7 then 39 :: x.tx ++ [39]
  else []
set_option maxRecDepth 1000000 in
set_option maxHeartbeats 8000000 in
theorem sourceText_any (k xn : Int) (xs xh xp xt : ByteArray) (w : World) (h1 : xs.size ≤ 1000000) (h2 : xh.size ≤ 1000000) (h3 : xp.size ≤ 1000000) (h4 : xt.size ≤ 1000000) (hn : xn ≤ 65535) (hG : GL w) :
    Calls Tryz.prog 18 #[.agg #[.int .i64 k, .string xs, .string xh, .int .i64 xn, .string xp, .string xt]] w fun e w' => e = .returned (.string (strOf (textP ⟨k, xs.data.toList, xh.data.toList, xn, xp.data.toList, xt.data.toList⟩))) ∧ Below w.heap.size w w' := by
  obtain ⟨T, hT⟩ : ∃ T, textP ⟨k, xs.data.toList, xh.data.toList, xn, xp.data.toList, xt.data.toList⟩ = T := ⟨_, rfl⟩
  have HT := Lib.hid hT
  rw [hT]
  have HG := Lib.hid hG
  clear hT hG
  have hb0 : ∀ o : Obj, Below w.heap.size w (w.alloc o) := fun o => (Below.refl _ w).alloc (Nat.le_refl _) o
  have HB := Lib.hid hb0
  clear hb0
  by_cases k0 : k = 0
  · subst k0
    have e : Hid (T = 39 :: (sNone ++ [39])) := by rw [← HT.out]; exact Lib.hid rfl
    go_enter Tryz.func18, Tryz.ntmps18
    go_wp2
    go_ret
    exact ⟨by rw [e.out]; rfl, HB.out _⟩
  have b0 : (k == 0) = false := beq_eq_false_iff_ne.2 k0
  by_cases k1 : k = 1
  · subst k1
    have e : Hid (T = [42]) := by rw [← HT.out]; exact Lib.hid rfl
    clear k0 b0
    go_enter Tryz.func18, Tryz.ntmps18
    go_wp2
    go_ret
    exact ⟨by rw [e.out]; rfl, HB.out _⟩
  have b1 : (k == 1) = false := beq_eq_false_iff_ne.2 k1
  by_cases k2 : k = 2
  · subst k2
    have e : Hid (T = xs.data.toList ++ [58]) := by rw [← HT.out]; exact Lib.hid rfl
    have o1 : ¬ 9223372036854775807 < xs.size + 1 := by omega
    clear k0 b0 k1 b1
    go_enter Tryz.func18, Tryz.ntmps18
    go_wp2
    go_ret
    exact ⟨by rw [e.out, strOf_append, ← str_of xs _ rfl]; rfl, HB.out _⟩
  have b2 : (k == 2) = false := beq_eq_false_iff_ne.2 k2
  by_cases k3 : k = 3
  · subst k3
    have e : Hid (T = (if xs.data.toList = [] then xh.data.toList else xs.data.toList ++ [58, 47, 47] ++ xh.data.toList) ++ portT xn ++ xp.data.toList) := by rw [← HT.out]; exact Lib.hid rfl
    clear k0 b0 k1 b1 k2 b2
    have hways : (xs.toList.isEmpty = true ∧ Hid (T = xh.data.toList ++ portT xn ++ xp.data.toList)) ∨ (xs.toList.isEmpty = false ∧ Hid (T = (xs.data.toList ++ [58, 47, 47] ++ xh.data.toList) ++ portT xn ++ xp.data.toList)) := by
      by_cases h : xs.data.toList = []
      · exact Or.inl ⟨by rw [isEmpty_data, h]; rfl, Lib.hid (by rw [e.out, if_pos h])⟩
      · exact Or.inr ⟨by rw [isEmpty_data]; exact beq_eq_false_iff_ne.2 h, Lib.hid (by rw [e.out, if_neg h])⟩
    clear e
    have o1 : ¬ 9223372036854775807 < xs.size + 3 := by omega
    have o2 : ¬ 9223372036854775807 < xs.size + 3 + xh.size := by omega
    rcases hways with ⟨hs, e⟩ | ⟨hs, e⟩
    · by_cases n2 : xn = -2
      · subst n2
        have o3 : ¬ 9223372036854775807 < xh.size + 2 := by omega
        have o4 : ¬ 9223372036854775807 < xh.size + 2 + xp.size := by omega
        go_enter Tryz.func18, Tryz.ntmps18
        go_wp2
        go_ret
        refine ⟨?_, HB.out _⟩
        rw [e.out, strOf_append, strOf_append, ← str_of xh _ rfl, ← str_of xp _ rfl]; rfl
      · have bn : (xn == -2) = false := beq_eq_false_iff_ne.2 n2
        by_cases n0 : 0 ≤ xn
        · have CI := Lib.hid (fun w' hG' => lib_Itoa xn (by omega) (by omega) w' hG')
          have hp : Hid (portT xn = 58 :: Lib.itoa xn) := by unfold portT; rw [if_neg n2, if_pos n0]; exact Lib.hid rfl
          have hil : (Lib.itoa xn).length ≤ 21 := Lib.itoa_length_le xn (by omega) (by omega)
          obtain ⟨I, hI⟩ : ∃ I, strOf (Lib.itoa xn) = I := ⟨_, rfl⟩
          have hIz : I.size ≤ 21 := by rw [← hI, strOf_size]; exact hil
          rw [hI] at CI
          have HI := Lib.hid hI
          have o3 : ¬ 9223372036854775807 < 1 + I.size := by omega
          have o4 : ¬ 9223372036854775807 < xh.size + (1 + I.size) := by omega
          have o5 : ¬ 9223372036854775807 < xh.size + (1 + I.size) + xp.size := by omega
          clear hI hil n2
          go_enter Tryz.func18, Tryz.ntmps18
          go_wp2_with fail
          refine (CI.out _ (HG.out.alloc _)).mono ?_
          rintro e w1 ⟨rfl, hb1⟩
          have hX1 := block_new_past hb1
          have hbw1 := below_past_alloc hb1
          clear hb1
          obtain ⟨x0, x1, x2, x3, x4, x5⟩ := six_cells hX1
          go_wp2
          go_ret
          refine ⟨?_, hbw1⟩
          rw [e.out, hp.out, strOf_append, strOf_append, ← str_of xh _ rfl, ← str_of xp _ rfl, show (58 :: Lib.itoa xn : Bs) = [58] ++ Lib.itoa xn from rfl, strOf_append, HI.out]; rfl
        · have hp : Hid (portT xn = []) := by unfold portT; rw [if_neg n2, if_neg n0]; exact Lib.hid rfl
          have o4 : ¬ 9223372036854775807 < xh.size + xp.size := by omega
          clear n2
          go_enter Tryz.func18, Tryz.ntmps18
          go_wp2
          go_ret
          refine ⟨?_, HB.out _⟩
          rw [e.out, hp.out, List.append_nil, strOf_append, ← str_of xh _ rfl, ← str_of xp _ rfl]; rfl
    · by_cases n2 : xn = -2
      · subst n2
        have o3 : ¬ 9223372036854775807 < xs.size + 3 + xh.size + 2 := by omega
        have o4 : ¬ 9223372036854775807 < xs.size + 3 + xh.size + 2 + xp.size := by omega
        go_enter Tryz.func18, Tryz.ntmps18
        go_wp2
        go_ret
        refine ⟨?_, HB.out _⟩
        rw [e.out, strOf_append, strOf_append, strOf_append, strOf_append, ← str_of xs _ rfl, ← str_of xh _ rfl, ← str_of xp _ rfl]; rfl
      · have bn : (xn == -2) = false := beq_eq_false_iff_ne.2 n2
        by_cases n0 : 0 ≤ xn
        · have CI := Lib.hid (fun w' hG' => lib_Itoa xn (by omega) (by omega) w' hG')
          have hp : Hid (portT xn = 58 :: Lib.itoa xn) := by unfold portT; rw [if_neg n2, if_pos n0]; exact Lib.hid rfl
          have hil : (Lib.itoa xn).length ≤ 21 := Lib.itoa_length_le xn (by omega) (by omega)
          obtain ⟨I, hI⟩ : ∃ I, strOf (Lib.itoa xn) = I := ⟨_, rfl⟩
          have hIz : I.size ≤ 21 := by rw [← hI, strOf_size]; exact hil
          rw [hI] at CI
          have HI := Lib.hid hI
          have o3 : ¬ 9223372036854775807 < 1 + I.size := by omega
          have o4 : ¬ 9223372036854775807 < xs.size + 3 + xh.size + (1 + I.size) := by omega
          have o5 : ¬ 9223372036854775807 < xs.size + 3 + xh.size + (1 + I.size) + xp.size := by omega
          clear hI hil n2
          go_enter Tryz.func18, Tryz.ntmps18
          go_wp2_with fail
          refine (CI.out _ (HG.out.alloc _)).mono ?_
          rintro e w1 ⟨rfl, hb1⟩
          have hX1 := block_new_past hb1
          have hbw1 := below_past_alloc hb1
          clear hb1
          obtain ⟨x0, x1, x2, x3, x4, x5⟩ := six_cells hX1
          go_wp2
          go_ret
          refine ⟨?_, hbw1⟩
          rw [e.out, hp.out, strOf_append, strOf_append, strOf_append, strOf_append, ← str_of xs _ rfl, ← str_of xh _ rfl, ← str_of xp _ rfl, show (58 :: Lib.itoa xn : Bs) = [58] ++ Lib.itoa xn from rfl, strOf_append, HI.out]; rfl
        · have hp : Hid (portT xn = []) := by unfold portT; rw [if_neg n2, if_neg n0]; exact Lib.hid rfl
          have o4 : ¬ 9223372036854775807 < xs.size + 3 + xh.size + xp.size := by omega
          clear n2
          go_enter Tryz.func18, Tryz.ntmps18
          go_wp2
          go_ret
          refine ⟨?_, HB.out _⟩
          rw [e.out, hp.out, List.append_nil, strOf_append, strOf_append, strOf_append, ← str_of xs _ rfl, ← str_of xh _ rfl, ← str_of xp _ rfl]; rfl
  have b3 : (k == 3) = false := beq_eq_false_iff_ne.2 k3
  by_cases k4 : k = 4
  · subst k4
    have e : Hid (T = 39 :: (sSelf ++ [39])) := by rw [← HT.out]; exact Lib.hid rfl
    clear k0 b0 k1 b1 k2 b2 k3 b3
    go_enter Tryz.func18, Tryz.ntmps18
    go_wp2
    go_ret
    exact ⟨by rw [e.out]; rfl, HB.out _⟩
  have b4 : (k == 4) = false := beq_eq_false_iff_ne.2 k4
  by_cases k5 : k = 5
  · subst k5
    have e : Hid (T = 39 :: (sNonce ++ [45]) ++ xt.data.toList ++ [39]) := by rw [← HT.out]; exact Lib.hid rfl
    have o1 : ¬ 9223372036854775807 < 7 + xt.size := by omega
    have o2 : ¬ 9223372036854775807 < 7 + xt.size + 1 := by omega
    clear k0 b0 k1 b1 k2 b2 k3 b3 k4 b4
    go_enter Tryz.func18, Tryz.ntmps18
    go_wp2
    go_ret
    exact ⟨by rw [e.out, strOf_append, strOf_append, ← str_of xt _ rfl]; rfl, HB.out _⟩
  have b5 : (k == 5) = false := beq_eq_false_iff_ne.2 k5
  have o1 : ¬ 9223372036854775807 < 1 + xt.size := by omega
  have o2 : ¬ 9223372036854775807 < 1 + xt.size + 1 := by omega
  by_cases k67 : k = 6 ∨ k = 7
  · have e : Hid (T = 39 :: xt.data.toList ++ [39]) := by
      rw [← HT.out]
      unfold textP
      rw [if_neg k0, if_neg k1, if_neg k2, if_neg k3, if_neg k4, if_neg k5, if_pos k67]
      exact Lib.hid rfl
    have hw : (k == 6) = true ∨ ((k == 6) = false ∧ (k == 7) = true) := by
      rcases k67 with rfl | rfl
      · exact Or.inl rfl
      · exact Or.inr ⟨rfl, rfl⟩
    clear k0 k1 k2 k3 k4 k5 k67
    rcases hw with b6 | ⟨b6, b7⟩
    all_goals
      go_enter Tryz.func18, Tryz.ntmps18
      go_wp2
      go_ret
      refine ⟨?_, HB.out _⟩
      rw [e.out, strOf_append, show (39 :: xt.data.toList : Bs) = [39] ++ xt.data.toList from rfl, strOf_append, ← str_of xt _ rfl]; rfl
  · have b6 : (k == 6) = false := beq_eq_false_iff_ne.2 (fun h => k67 (Or.inl h))
    have b7 : (k == 7) = false := beq_eq_false_iff_ne.2 (fun h => k67 (Or.inr h))
    have e : Hid (T = []) := by
      rw [← HT.out]
      unfold textP
      rw [if_neg k0, if_neg k1, if_neg k2, if_neg k3, if_neg k4, if_neg k5, if_neg k67]
      exact Lib.hid rfl
    clear k0 k1 k2 k3 k4 k5 k67
    go_enter Tryz.func18, Tryz.ntmps18
    go_wp2
    go_ret
    exact ⟨by rw [e.out]; rfl, HB.out _⟩
end Go.Proofs.YtmgkmpbblhkacaaGreatDoor
