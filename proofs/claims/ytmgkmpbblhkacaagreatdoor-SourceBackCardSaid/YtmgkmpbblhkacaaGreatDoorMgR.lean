/- The ways of source.Match: host; and Match. source.Match. -/
import Derived.Test.YtmgkmpbblhkacaaGreatDoorMgO
namespace Go.Proofs.YtmgkmpbblhkacaaGreatDoor
open Go.RowKit Go.MapKept
set_option linter.unusedSimpArgs false
set_option linter.unusedVariables false

theorem thirteen_cells {w : World} {b : Nat} {a0 a1 a2 a3 a4 a5 a6 a7 a8 a9 a10 a11 a12 : Value} {T : TypeId} (h : w.heap[b]? = some (.cells #[a0, a1, a2, a3, a4, a5, a6, a7, a8, a9, a10, a11, a12] T (0, 0))) :
    w.cell? ⟨b, 0, none⟩ = some a0 ∧ w.cell? ⟨b, 1, none⟩ = some a1 ∧ w.cell? ⟨b, 2, none⟩ = some a2 ∧ w.cell? ⟨b, 3, none⟩ = some a3 ∧ w.cell? ⟨b, 4, none⟩ = some a4 ∧ w.cell? ⟨b, 5, none⟩ = some a5 ∧ w.cell? ⟨b, 6, none⟩ = some a6 ∧ w.cell? ⟨b, 7, none⟩ = some a7 ∧ w.cell? ⟨b, 8, none⟩ = some a8 ∧ w.cell? ⟨b, 9, none⟩ = some a9 ∧ w.cell? ⟨b, 10, none⟩ = some a10 ∧ w.cell? ⟨b, 11, none⟩ = some a11 ∧ w.cell? ⟨b, 12, none⟩ = some a12 :=
  ⟨cell_of_heap h 0, cell_of_heap h 1, cell_of_heap h 2, cell_of_heap h 3, cell_of_heap h 4, cell_of_heap h 5, cell_of_heap h 6, cell_of_heap h 7, cell_of_heap h 8, cell_of_heap h 9, cell_of_heap h 10, cell_of_heap h 11, cell_of_heap h 12⟩
/-- Of a source of a host. -/
def hostM (xs xh xp : Bs) (xn : Int) (sa ha pa sb : Bs) (na : Int) (red : Bool) : Bool :=
  (!(ha == [])) && togetherP (if xs = [] then sb else xs) sa && nameM xh ha && portM xn na sa && pathM xp pa red
set_option maxRecDepth 1000000 in
set_option maxHeartbeats 16000000 in
theorem hostM_any (sa ha pa qa fa sb hb pb qb fb xs xh xp xt : ByteArray) (na nb k xn : Int) (red : Bool) (w : World) (hh : ha.size ≤ 1000000) (hp : pa.size ≤ 1000000) (hxh : xh.size ≤ 1000000) (hxp : xp.size ≤ 1000000) (hG : GLS w) :
    Calls Tryz.prog 28 #[askV sa ha na pa qa fa sb hb nb pb qb fb red, soV k xs xh xn xp xt] w fun e w' => e = .returned (.bool (hostM xs.data.toList xh.data.toList xp.data.toList xn sa.data.toList ha.data.toList pa.data.toList sb.data.toList na red)) ∧ Below w.heap.size w w' := by
  obtain ⟨SC, hSC⟩ : ∃ SC : ByteArray, SC = if xs.data.toList = [] then sb else xs := ⟨_, rfl⟩
  have hSCl : SC.data.toList = if xs.data.toList = [] then sb.data.toList else xs.data.toList := by rw [hSC]; split <;> rfl
  have CT := fun w' (hG' : GLS w') => together_any SC sa w' hG'
  have CN := fun w' (hG' : GL w') => nameM_any sa ha pa qa fa sb hb pb qb fb xh na nb red w' hh hxh hG'
  have CP := fun w' => portM_any sa ha pa qa fa sb hb pb qb fb na nb xn red w'
  have CQ := fun w' (hG' : GL w') => pathM_any sa ha pa qa fa sb hb pb qb fb xp na nb red w' hp hxp hG'
  obtain ⟨tg, htg⟩ : ∃ tg, togetherP SC.data.toList sa.data.toList = tg := ⟨_, rfl⟩
  obtain ⟨nm, hnm⟩ : ∃ nm, nameM xh.data.toList ha.data.toList = nm := ⟨_, rfl⟩
  obtain ⟨pt, hpt⟩ : ∃ pt, portM xn na sa.data.toList = pt := ⟨_, rfl⟩
  obtain ⟨pm, hpm⟩ : ∃ pm, pathM xp.data.toList pa.data.toList red = pm := ⟨_, rfl⟩
  have hm : hostM xs.data.toList xh.data.toList xp.data.toList xn sa.data.toList ha.data.toList pa.data.toList sb.data.toList na red = ((!(ha.data.toList == [])) && tg && nm && pt && pm) := by
    unfold hostM; rw [← hSCl, htg, hnm, hpt, hpm]
  rw [htg] at CT
  rw [hnm] at CN
  rw [hpt] at CP
  rw [hpm] at CQ
  rw [hm]
  have HT := Lib.hid CT
  have HN := Lib.hid CN
  have HP := Lib.hid CP
  have HQ := Lib.hid CQ
  have HG := Lib.hid hG
  clear CT CN CP CQ hG htg hnm hpt hpm hm hSCl
  unfold askV at HN HP HQ ⊢
  unfold soV
  by_cases h0 : ha.data.toList = []
  · have he : ha.toList.isEmpty = true := by rw [isEmpty_data, h0]; rfl
    have hr : Hid (((!(ha.data.toList == [])) && tg && nm && pt && pm) = false) := Lib.hid (by rw [h0]; rfl)
    clear h0
    by_cases h1 : xs.data.toList = []
    · have he1 : xs.toList.isEmpty = true := by rw [isEmpty_data, h1]; rfl
      clear h1 hSC
      go_enter Tryz.func28, Tryz.ntmps28
      go_wp2
      go_ret
      exact ⟨by rw [hr.out]; rfl, ((Below.refl _ w).alloc (Nat.le_refl _) _).alloc (by show w.heap.size ≤ (w.heap.push _).size; rw [Array.size_push]; omega) _⟩
    · have he1 : xs.toList.isEmpty = false := by rw [isEmpty_data]; exact beq_eq_false_iff_ne.2 h1
      clear h1 hSC
      go_enter Tryz.func28, Tryz.ntmps28
      go_wp2
      go_ret
      exact ⟨by rw [hr.out]; rfl, ((Below.refl _ w).alloc (Nat.le_refl _) _).alloc (by show w.heap.size ≤ (w.heap.push _).size; rw [Array.size_push]; omega) _⟩
  · have he : ha.toList.isEmpty = false := by rw [isEmpty_data]; exact beq_eq_false_iff_ne.2 h0
    have hr : Hid (((!(ha.data.toList == [])) && tg && nm && pt && pm) = (tg && nm && pt && pm)) := Lib.hid (by rw [beq_eq_false_iff_ne.2 h0]; rfl)
    clear h0
    by_cases h1 : xs.data.toList = []
    · have he1 : xs.toList.isEmpty = true := by rw [isEmpty_data, h1]; rfl
      rw [if_pos h1] at hSC
      subst hSC
      clear h1
      go_enter Tryz.func28, Tryz.ntmps28
      go_wp2_with fail
      refine (HT.out _ ((HG.out.alloc _).alloc _)).mono ?_
      rintro e w1 ⟨rfl, hb1⟩
      obtain ⟨hbw1, hA1, hB1⟩ := two_past hb1
      have hG1 := (HG.out.below hbw1).toGL
      clear hb1
      cases tg with
      | false =>
        go_wp2
        go_ret
        exact ⟨by rw [hr.out]; rfl, hbw1⟩
      | true =>
        obtain ⟨a0, a1, a2, a3, a4, a5, a6, a7, a8, a9, a10, a11, a12⟩ := thirteen_cells hA1
        obtain ⟨c0, c1, c2, c3, c4, c5⟩ := six_cells hB1
        go_wp2_with fail
        refine (HN.out _ hG1).mono ?_
        rintro e w2 ⟨rfl, hb2⟩
        have hbw2 := hbw1.trans (hb2.mono hbw1.size)
        have hA2 := block_past hA1 hb2
        have hB2 := block_past hB1 hb2
        have hG2 := (HG.out.below hbw2).toGL
        clear hb2 hA1 hB1 a0 a1 a2 a3 a4 a5 a6 a7 a8 a9 a10 a11 a12 c0 c1 c2 c3 c4 c5
        cases nm with
        | false =>
          go_wp2
          go_ret
          exact ⟨by rw [hr.out]; rfl, hbw2⟩
        | true =>
          obtain ⟨a0, a1, a2, a3, a4, a5, a6, a7, a8, a9, a10, a11, a12⟩ := thirteen_cells hA2
          obtain ⟨c0, c1, c2, c3, c4, c5⟩ := six_cells hB2
          go_wp2_with fail
          refine (HP.out _).mono ?_
          rintro e w3 ⟨rfl, hb3⟩
          have hbw3 := hbw2.trans (hb3.mono hbw2.size)
          have hA3 := block_past hA2 hb3
          have hB3 := block_past hB2 hb3
          have hG3 := (HG.out.below hbw3).toGL
          clear hb3 hA2 hB2 a0 a1 a2 a3 a4 a5 a6 a7 a8 a9 a10 a11 a12 c0 c1 c2 c3 c4 c5
          cases pt with
          | false =>
            go_wp2
            go_ret
            exact ⟨by rw [hr.out]; rfl, hbw3⟩
          | true =>
            obtain ⟨a0, a1, a2, a3, a4, a5, a6, a7, a8, a9, a10, a11, a12⟩ := thirteen_cells hA3
            obtain ⟨c0, c1, c2, c3, c4, c5⟩ := six_cells hB3
            go_wp2_with fail
            refine (HQ.out _ hG3).mono ?_
            rintro e w4 ⟨rfl, hb4⟩
            have hbw4 := hbw3.trans (hb4.mono hbw3.size)
            go_wp2
            go_ret
            exact ⟨by rw [hr.out]; rfl, hbw4⟩
    · have he1 : xs.toList.isEmpty = false := by rw [isEmpty_data]; exact beq_eq_false_iff_ne.2 h1
      rw [if_neg h1] at hSC
      subst hSC
      clear h1
      go_enter Tryz.func28, Tryz.ntmps28
      go_wp2_with fail
      refine (HT.out _ ((HG.out.alloc _).alloc _)).mono ?_
      rintro e w1 ⟨rfl, hb1⟩
      obtain ⟨hbw1, hA1, hB1⟩ := two_past hb1
      have hG1 := (HG.out.below hbw1).toGL
      clear hb1
      cases tg with
      | false =>
        go_wp2
        go_ret
        exact ⟨by rw [hr.out]; rfl, hbw1⟩
      | true =>
        obtain ⟨a0, a1, a2, a3, a4, a5, a6, a7, a8, a9, a10, a11, a12⟩ := thirteen_cells hA1
        obtain ⟨c0, c1, c2, c3, c4, c5⟩ := six_cells hB1
        go_wp2_with fail
        refine (HN.out _ hG1).mono ?_
        rintro e w2 ⟨rfl, hb2⟩
        have hbw2 := hbw1.trans (hb2.mono hbw1.size)
        have hA2 := block_past hA1 hb2
        have hB2 := block_past hB1 hb2
        have hG2 := (HG.out.below hbw2).toGL
        clear hb2 hA1 hB1 a0 a1 a2 a3 a4 a5 a6 a7 a8 a9 a10 a11 a12 c0 c1 c2 c3 c4 c5
        cases nm with
        | false =>
          go_wp2
          go_ret
          exact ⟨by rw [hr.out]; rfl, hbw2⟩
        | true =>
          obtain ⟨a0, a1, a2, a3, a4, a5, a6, a7, a8, a9, a10, a11, a12⟩ := thirteen_cells hA2
          obtain ⟨c0, c1, c2, c3, c4, c5⟩ := six_cells hB2
          go_wp2_with fail
          refine (HP.out _).mono ?_
          rintro e w3 ⟨rfl, hb3⟩
          have hbw3 := hbw2.trans (hb3.mono hbw2.size)
          have hA3 := block_past hA2 hb3
          have hB3 := block_past hB2 hb3
          have hG3 := (HG.out.below hbw3).toGL
          clear hb3 hA2 hB2 a0 a1 a2 a3 a4 a5 a6 a7 a8 a9 a10 a11 a12 c0 c1 c2 c3 c4 c5
          cases pt with
          | false =>
            go_wp2
            go_ret
            exact ⟨by rw [hr.out]; rfl, hbw3⟩
          | true =>
            obtain ⟨a0, a1, a2, a3, a4, a5, a6, a7, a8, a9, a10, a11, a12⟩ := thirteen_cells hA3
            obtain ⟨c0, c1, c2, c3, c4, c5⟩ := six_cells hB3
            go_wp2_with fail
            refine (HQ.out _ hG3).mono ?_
            rintro e w4 ⟨rfl, hb4⟩
            have hbw4 := hbw3.trans (hb4.mono hbw3.size)
            go_wp2
            go_ret
            exact ⟨by rw [hr.out]; rfl, hbw4⟩
end Go.Proofs.YtmgkmpbblhkacaaGreatDoor
namespace Go.Proofs.YtmgkmpbblhkacaaGreatDoor
open Go.RowKit Go.MapKept
set_option linter.unusedSimpArgs false
set_option linter.unusedVariables false

theorem four_past {w w1 : World} {A B C D : Obj} (hb : Below ((((w.alloc A).alloc B).alloc C).alloc D).heap.size ((((w.alloc A).alloc B).alloc C).alloc D) w1) : Below w.heap.size w w1 := by
  have s : ((((w.alloc A).alloc B).alloc C).alloc D).heap.size = w.heap.size + 1 + 1 + 1 + 1 := by
    show ((((w.heap.push A).push B).push C).push D).size = _
    rw [Array.size_push, Array.size_push, Array.size_push, Array.size_push]
  have s3 := three_size w A B C
  have s1 : (w.alloc A).heap.size = w.heap.size + 1 := by show (w.heap.push _).size = _; rw [Array.size_push]
  have s2 : ((w.alloc A).alloc B).heap.size = w.heap.size + 1 + 1 := by show ((w.heap.push A).push B).size = _; rw [Array.size_push, Array.size_push]
  rw [s] at hb
  exact (((((Below.refl _ w).alloc (Nat.le_refl _) A).alloc (by omega) B).alloc (by omega) C).alloc (by omega) D).trans (hb.mono (by omega))
set_option maxRecDepth 1000000 in
set_option maxHeartbeats 4000000 in
theorem match_any (sa ha pa qa fa sb hb pb qb fb xs xh xp xt : ByteArray) (na nb xn : Int) (red : Bool) (w : World) :
    Calls Tryz.prog 14 #[soV 1 xs xh xn xp xt, urlV sa ha na pa qa fa, urlV sb hb nb pb qb fb, .bool red] w fun e w' => e = .returned (.bool (anyM sa.data.toList sb.data.toList)) ∧ Below w.heap.size w w' := by
  have hmm := @run_makeMap Tryz.prog
  have ins0 : ∀ A B C : Obj, (Instr.mapUpdate 51 (.map (some (w.heap.size + 1 + 1 + 1))) (.int .i64 1) (.func (.func 26) #[] #[])).run Tryz.prog ((((w.alloc A).alloc B).alloc C).alloc (.map #[] 0)) = .ok () ((((w.alloc A).alloc B).alloc C).alloc (.map #[{ key := .int .i64 1, val := .func (.func 26) #[] #[], born := 0 }] 1)) := fun A B C => run_insert_three A B C (d := .int .i64) Tryz.underlying51 Tryz.underlying3 rfl (by rfl)
  have ins1 : ∀ A B C : Obj, (Instr.mapUpdate 51 (.map (some (w.heap.size + 1 + 1 + 1))) (.int .i64 2) (.func (.func 27) #[] #[])).run Tryz.prog ((((w.alloc A).alloc B).alloc C).alloc (.map #[{ key := .int .i64 1, val := .func (.func 26) #[] #[], born := 0 }] 1)) = .ok () ((((w.alloc A).alloc B).alloc C).alloc (.map #[{ key := .int .i64 1, val := .func (.func 26) #[] #[], born := 0 }, { key := .int .i64 2, val := .func (.func 27) #[] #[], born := 1 }] 2)) := fun A B C => run_insert_three A B C (d := .int .i64) Tryz.underlying51 Tryz.underlying3 rfl (by rfl)
  have ins2 : ∀ A B C : Obj, (Instr.mapUpdate 51 (.map (some (w.heap.size + 1 + 1 + 1))) (.int .i64 3) (.func (.func 28) #[] #[])).run Tryz.prog ((((w.alloc A).alloc B).alloc C).alloc (.map #[{ key := .int .i64 1, val := .func (.func 26) #[] #[], born := 0 }, { key := .int .i64 2, val := .func (.func 27) #[] #[], born := 1 }] 2)) = .ok () ((((w.alloc A).alloc B).alloc C).alloc (.map #[{ key := .int .i64 1, val := .func (.func 26) #[] #[], born := 0 }, { key := .int .i64 2, val := .func (.func 27) #[] #[], born := 1 }, { key := .int .i64 3, val := .func (.func 28) #[] #[], born := 2 }] 3)) := fun A B C => run_insert_three A B C (d := .int .i64) Tryz.underlying51 Tryz.underlying3 rfl (by rfl)
  have ins3 : ∀ A B C : Obj, (Instr.mapUpdate 51 (.map (some (w.heap.size + 1 + 1 + 1))) (.int .i64 4) (.func (.func 29) #[] #[])).run Tryz.prog ((((w.alloc A).alloc B).alloc C).alloc (.map #[{ key := .int .i64 1, val := .func (.func 26) #[] #[], born := 0 }, { key := .int .i64 2, val := .func (.func 27) #[] #[], born := 1 }, { key := .int .i64 3, val := .func (.func 28) #[] #[], born := 2 }] 3)) = .ok () ((((w.alloc A).alloc B).alloc C).alloc (.map #[{ key := .int .i64 1, val := .func (.func 26) #[] #[], born := 0 }, { key := .int .i64 2, val := .func (.func 27) #[] #[], born := 1 }, { key := .int .i64 3, val := .func (.func 28) #[] #[], born := 2 }, { key := .int .i64 4, val := .func (.func 29) #[] #[], born := 3 }] 4)) := fun A B C => run_insert_three A B C (d := .int .i64) Tryz.underlying51 Tryz.underlying3 rfl (by rfl)
  have hlk : ∀ A B C : Obj, (Instr.lookup 51 (.map (some (w.heap.size + 1 + 1 + 1))) (.int .i64 1) false).run Tryz.prog ((((w.alloc A).alloc B).alloc C).alloc (.map #[{ key := .int .i64 1, val := .func (.func 26) #[] #[], born := 0 }, { key := .int .i64 2, val := .func (.func 27) #[] #[], born := 1 }, { key := .int .i64 3, val := .func (.func 28) #[] #[], born := 2 }, { key := .int .i64 4, val := .func (.func 29) #[] #[], born := 3 }] 4)) = .ok (.func (.func 26) #[] #[]) ((((w.alloc A).alloc B).alloc C).alloc (.map #[{ key := .int .i64 1, val := .func (.func 26) #[] #[], born := 0 }, { key := .int .i64 2, val := .func (.func 27) #[] #[], born := 1 }, { key := .int .i64 3, val := .func (.func 28) #[] #[], born := 2 }, { key := .int .i64 4, val := .func (.func 29) #[] #[], born := 3 }] 4)) := fun A B C => run_look_three A B C (d := .int .i64) (i := 0) false Tryz.underlying51 Tryz.underlying3 rfl (by rfl)
  have hnf : ∀ (f : Nat) (w' : World), (binOp .neq 47 (.func (.func f) #[] #[]) .nilFunc).run Tryz.prog w' = .ok (.bool true) w' := fun f w' => rfl
  have HC := Lib.hid (fun w'  => anyM_any sa ha pa qa fa sb hb pb qb fb xs xh xp xt na nb 1 xn red w')
  obtain ⟨rb, hrb⟩ : ∃ rb, (anyM sa.data.toList sb.data.toList) = rb := ⟨_, rfl⟩
  rw [hrb] at HC ⊢
  clear hrb
  unfold askV soV at HC
  unfold soV urlV
  go_enter Tryz.func14, Tryz.ntmps14
  go_wp2_with fail
  refine (HC.out _).mono ?_
  rintro e w1 ⟨rfl, hb1⟩
  have hbw1 := four_past hb1
  go_wp2
  go_ret
  exact ⟨rfl, hbw1⟩
set_option maxRecDepth 1000000 in
set_option maxHeartbeats 4000000 in
theorem match_scheme (sa ha pa qa fa sb hb pb qb fb xs xh xp xt : ByteArray) (na nb xn : Int) (red : Bool) (w : World) (hG : GLS w) :
    Calls Tryz.prog 14 #[soV 2 xs xh xn xp xt, urlV sa ha na pa qa fa, urlV sb hb nb pb qb fb, .bool red] w fun e w' => e = .returned (.bool (togetherP xs.data.toList sa.data.toList)) ∧ Below w.heap.size w w' := by
  have hmm := @run_makeMap Tryz.prog
  have ins0 : ∀ A B C : Obj, (Instr.mapUpdate 51 (.map (some (w.heap.size + 1 + 1 + 1))) (.int .i64 1) (.func (.func 26) #[] #[])).run Tryz.prog ((((w.alloc A).alloc B).alloc C).alloc (.map #[] 0)) = .ok () ((((w.alloc A).alloc B).alloc C).alloc (.map #[{ key := .int .i64 1, val := .func (.func 26) #[] #[], born := 0 }] 1)) := fun A B C => run_insert_three A B C (d := .int .i64) Tryz.underlying51 Tryz.underlying3 rfl (by rfl)
  have ins1 : ∀ A B C : Obj, (Instr.mapUpdate 51 (.map (some (w.heap.size + 1 + 1 + 1))) (.int .i64 2) (.func (.func 27) #[] #[])).run Tryz.prog ((((w.alloc A).alloc B).alloc C).alloc (.map #[{ key := .int .i64 1, val := .func (.func 26) #[] #[], born := 0 }] 1)) = .ok () ((((w.alloc A).alloc B).alloc C).alloc (.map #[{ key := .int .i64 1, val := .func (.func 26) #[] #[], born := 0 }, { key := .int .i64 2, val := .func (.func 27) #[] #[], born := 1 }] 2)) := fun A B C => run_insert_three A B C (d := .int .i64) Tryz.underlying51 Tryz.underlying3 rfl (by rfl)
  have ins2 : ∀ A B C : Obj, (Instr.mapUpdate 51 (.map (some (w.heap.size + 1 + 1 + 1))) (.int .i64 3) (.func (.func 28) #[] #[])).run Tryz.prog ((((w.alloc A).alloc B).alloc C).alloc (.map #[{ key := .int .i64 1, val := .func (.func 26) #[] #[], born := 0 }, { key := .int .i64 2, val := .func (.func 27) #[] #[], born := 1 }] 2)) = .ok () ((((w.alloc A).alloc B).alloc C).alloc (.map #[{ key := .int .i64 1, val := .func (.func 26) #[] #[], born := 0 }, { key := .int .i64 2, val := .func (.func 27) #[] #[], born := 1 }, { key := .int .i64 3, val := .func (.func 28) #[] #[], born := 2 }] 3)) := fun A B C => run_insert_three A B C (d := .int .i64) Tryz.underlying51 Tryz.underlying3 rfl (by rfl)
  have ins3 : ∀ A B C : Obj, (Instr.mapUpdate 51 (.map (some (w.heap.size + 1 + 1 + 1))) (.int .i64 4) (.func (.func 29) #[] #[])).run Tryz.prog ((((w.alloc A).alloc B).alloc C).alloc (.map #[{ key := .int .i64 1, val := .func (.func 26) #[] #[], born := 0 }, { key := .int .i64 2, val := .func (.func 27) #[] #[], born := 1 }, { key := .int .i64 3, val := .func (.func 28) #[] #[], born := 2 }] 3)) = .ok () ((((w.alloc A).alloc B).alloc C).alloc (.map #[{ key := .int .i64 1, val := .func (.func 26) #[] #[], born := 0 }, { key := .int .i64 2, val := .func (.func 27) #[] #[], born := 1 }, { key := .int .i64 3, val := .func (.func 28) #[] #[], born := 2 }, { key := .int .i64 4, val := .func (.func 29) #[] #[], born := 3 }] 4)) := fun A B C => run_insert_three A B C (d := .int .i64) Tryz.underlying51 Tryz.underlying3 rfl (by rfl)
  have hlk : ∀ A B C : Obj, (Instr.lookup 51 (.map (some (w.heap.size + 1 + 1 + 1))) (.int .i64 2) false).run Tryz.prog ((((w.alloc A).alloc B).alloc C).alloc (.map #[{ key := .int .i64 1, val := .func (.func 26) #[] #[], born := 0 }, { key := .int .i64 2, val := .func (.func 27) #[] #[], born := 1 }, { key := .int .i64 3, val := .func (.func 28) #[] #[], born := 2 }, { key := .int .i64 4, val := .func (.func 29) #[] #[], born := 3 }] 4)) = .ok (.func (.func 27) #[] #[]) ((((w.alloc A).alloc B).alloc C).alloc (.map #[{ key := .int .i64 1, val := .func (.func 26) #[] #[], born := 0 }, { key := .int .i64 2, val := .func (.func 27) #[] #[], born := 1 }, { key := .int .i64 3, val := .func (.func 28) #[] #[], born := 2 }, { key := .int .i64 4, val := .func (.func 29) #[] #[], born := 3 }] 4)) := fun A B C => run_look_three A B C (d := .int .i64) (i := 1) false Tryz.underlying51 Tryz.underlying3 rfl (by rfl)
  have hnf : ∀ (f : Nat) (w' : World), (binOp .neq 47 (.func (.func f) #[] #[]) .nilFunc).run Tryz.prog w' = .ok (.bool true) w' := fun f w' => rfl
  have HC := Lib.hid (fun w' (hG' : GLS w') => schemeM_any sa ha pa qa fa sb hb pb qb fb xs xh xp xt na nb 2 xn red w' hG')
  have HG := Lib.hid hG
  clear hG
  obtain ⟨rb, hrb⟩ : ∃ rb, (togetherP xs.data.toList sa.data.toList) = rb := ⟨_, rfl⟩
  rw [hrb] at HC ⊢
  clear hrb
  unfold askV soV at HC
  unfold soV urlV
  go_enter Tryz.func14, Tryz.ntmps14
  go_wp2_with fail
  refine (HC.out _ ((((HG.out.alloc _).alloc _).alloc _).alloc _)).mono ?_
  rintro e w1 ⟨rfl, hb1⟩
  have hbw1 := four_past hb1
  go_wp2
  go_ret
  exact ⟨rfl, hbw1⟩
set_option maxRecDepth 1000000 in
set_option maxHeartbeats 4000000 in
theorem match_host (sa ha pa qa fa sb hb pb qb fb xs xh xp xt : ByteArray) (na nb xn : Int) (red : Bool) (w : World) (hh : ha.size ≤ 1000000) (hp : pa.size ≤ 1000000) (hxh : xh.size ≤ 1000000) (hxp : xp.size ≤ 1000000) (hG : GLS w) :
    Calls Tryz.prog 14 #[soV 3 xs xh xn xp xt, urlV sa ha na pa qa fa, urlV sb hb nb pb qb fb, .bool red] w fun e w' => e = .returned (.bool (hostM xs.data.toList xh.data.toList xp.data.toList xn sa.data.toList ha.data.toList pa.data.toList sb.data.toList na red)) ∧ Below w.heap.size w w' := by
  have hmm := @run_makeMap Tryz.prog
  have ins0 : ∀ A B C : Obj, (Instr.mapUpdate 51 (.map (some (w.heap.size + 1 + 1 + 1))) (.int .i64 1) (.func (.func 26) #[] #[])).run Tryz.prog ((((w.alloc A).alloc B).alloc C).alloc (.map #[] 0)) = .ok () ((((w.alloc A).alloc B).alloc C).alloc (.map #[{ key := .int .i64 1, val := .func (.func 26) #[] #[], born := 0 }] 1)) := fun A B C => run_insert_three A B C (d := .int .i64) Tryz.underlying51 Tryz.underlying3 rfl (by rfl)
  have ins1 : ∀ A B C : Obj, (Instr.mapUpdate 51 (.map (some (w.heap.size + 1 + 1 + 1))) (.int .i64 2) (.func (.func 27) #[] #[])).run Tryz.prog ((((w.alloc A).alloc B).alloc C).alloc (.map #[{ key := .int .i64 1, val := .func (.func 26) #[] #[], born := 0 }] 1)) = .ok () ((((w.alloc A).alloc B).alloc C).alloc (.map #[{ key := .int .i64 1, val := .func (.func 26) #[] #[], born := 0 }, { key := .int .i64 2, val := .func (.func 27) #[] #[], born := 1 }] 2)) := fun A B C => run_insert_three A B C (d := .int .i64) Tryz.underlying51 Tryz.underlying3 rfl (by rfl)
  have ins2 : ∀ A B C : Obj, (Instr.mapUpdate 51 (.map (some (w.heap.size + 1 + 1 + 1))) (.int .i64 3) (.func (.func 28) #[] #[])).run Tryz.prog ((((w.alloc A).alloc B).alloc C).alloc (.map #[{ key := .int .i64 1, val := .func (.func 26) #[] #[], born := 0 }, { key := .int .i64 2, val := .func (.func 27) #[] #[], born := 1 }] 2)) = .ok () ((((w.alloc A).alloc B).alloc C).alloc (.map #[{ key := .int .i64 1, val := .func (.func 26) #[] #[], born := 0 }, { key := .int .i64 2, val := .func (.func 27) #[] #[], born := 1 }, { key := .int .i64 3, val := .func (.func 28) #[] #[], born := 2 }] 3)) := fun A B C => run_insert_three A B C (d := .int .i64) Tryz.underlying51 Tryz.underlying3 rfl (by rfl)
  have ins3 : ∀ A B C : Obj, (Instr.mapUpdate 51 (.map (some (w.heap.size + 1 + 1 + 1))) (.int .i64 4) (.func (.func 29) #[] #[])).run Tryz.prog ((((w.alloc A).alloc B).alloc C).alloc (.map #[{ key := .int .i64 1, val := .func (.func 26) #[] #[], born := 0 }, { key := .int .i64 2, val := .func (.func 27) #[] #[], born := 1 }, { key := .int .i64 3, val := .func (.func 28) #[] #[], born := 2 }] 3)) = .ok () ((((w.alloc A).alloc B).alloc C).alloc (.map #[{ key := .int .i64 1, val := .func (.func 26) #[] #[], born := 0 }, { key := .int .i64 2, val := .func (.func 27) #[] #[], born := 1 }, { key := .int .i64 3, val := .func (.func 28) #[] #[], born := 2 }, { key := .int .i64 4, val := .func (.func 29) #[] #[], born := 3 }] 4)) := fun A B C => run_insert_three A B C (d := .int .i64) Tryz.underlying51 Tryz.underlying3 rfl (by rfl)
  have hlk : ∀ A B C : Obj, (Instr.lookup 51 (.map (some (w.heap.size + 1 + 1 + 1))) (.int .i64 3) false).run Tryz.prog ((((w.alloc A).alloc B).alloc C).alloc (.map #[{ key := .int .i64 1, val := .func (.func 26) #[] #[], born := 0 }, { key := .int .i64 2, val := .func (.func 27) #[] #[], born := 1 }, { key := .int .i64 3, val := .func (.func 28) #[] #[], born := 2 }, { key := .int .i64 4, val := .func (.func 29) #[] #[], born := 3 }] 4)) = .ok (.func (.func 28) #[] #[]) ((((w.alloc A).alloc B).alloc C).alloc (.map #[{ key := .int .i64 1, val := .func (.func 26) #[] #[], born := 0 }, { key := .int .i64 2, val := .func (.func 27) #[] #[], born := 1 }, { key := .int .i64 3, val := .func (.func 28) #[] #[], born := 2 }, { key := .int .i64 4, val := .func (.func 29) #[] #[], born := 3 }] 4)) := fun A B C => run_look_three A B C (d := .int .i64) (i := 2) false Tryz.underlying51 Tryz.underlying3 rfl (by rfl)
  have hnf : ∀ (f : Nat) (w' : World), (binOp .neq 47 (.func (.func f) #[] #[]) .nilFunc).run Tryz.prog w' = .ok (.bool true) w' := fun f w' => rfl
  have HC := Lib.hid (fun w' (hG' : GLS w') => hostM_any sa ha pa qa fa sb hb pb qb fb xs xh xp xt na nb 3 xn red w' hh hp hxh hxp hG')
  have HG := Lib.hid hG
  clear hG
  obtain ⟨rb, hrb⟩ : ∃ rb, (hostM xs.data.toList xh.data.toList xp.data.toList xn sa.data.toList ha.data.toList pa.data.toList sb.data.toList na red) = rb := ⟨_, rfl⟩
  rw [hrb] at HC ⊢
  clear hrb
  unfold askV soV at HC
  unfold soV urlV
  go_enter Tryz.func14, Tryz.ntmps14
  go_wp2_with fail
  refine (HC.out _ ((((HG.out.alloc _).alloc _).alloc _).alloc _)).mono ?_
  rintro e w1 ⟨rfl, hb1⟩
  have hbw1 := four_past hb1
  go_wp2
  go_ret
  exact ⟨rfl, hbw1⟩
set_option maxRecDepth 1000000 in
set_option maxHeartbeats 4000000 in
theorem match_self (sa ha pa qa fa sb hb pb qb fb xs xh xp xt : ByteArray) (na nb xn : Int) (red : Bool) (w : World) :
    Calls Tryz.prog 14 #[soV 4 xs xh xn xp xt, urlV sa ha na pa qa fa, urlV sb hb nb pb qb fb, .bool red] w fun e w' => e = .returned (.bool (selfM sa.data.toList ha.data.toList sb.data.toList hb.data.toList na nb)) ∧ Below w.heap.size w w' := by
  have hmm := @run_makeMap Tryz.prog
  have ins0 : ∀ A B C : Obj, (Instr.mapUpdate 51 (.map (some (w.heap.size + 1 + 1 + 1))) (.int .i64 1) (.func (.func 26) #[] #[])).run Tryz.prog ((((w.alloc A).alloc B).alloc C).alloc (.map #[] 0)) = .ok () ((((w.alloc A).alloc B).alloc C).alloc (.map #[{ key := .int .i64 1, val := .func (.func 26) #[] #[], born := 0 }] 1)) := fun A B C => run_insert_three A B C (d := .int .i64) Tryz.underlying51 Tryz.underlying3 rfl (by rfl)
  have ins1 : ∀ A B C : Obj, (Instr.mapUpdate 51 (.map (some (w.heap.size + 1 + 1 + 1))) (.int .i64 2) (.func (.func 27) #[] #[])).run Tryz.prog ((((w.alloc A).alloc B).alloc C).alloc (.map #[{ key := .int .i64 1, val := .func (.func 26) #[] #[], born := 0 }] 1)) = .ok () ((((w.alloc A).alloc B).alloc C).alloc (.map #[{ key := .int .i64 1, val := .func (.func 26) #[] #[], born := 0 }, { key := .int .i64 2, val := .func (.func 27) #[] #[], born := 1 }] 2)) := fun A B C => run_insert_three A B C (d := .int .i64) Tryz.underlying51 Tryz.underlying3 rfl (by rfl)
  have ins2 : ∀ A B C : Obj, (Instr.mapUpdate 51 (.map (some (w.heap.size + 1 + 1 + 1))) (.int .i64 3) (.func (.func 28) #[] #[])).run Tryz.prog ((((w.alloc A).alloc B).alloc C).alloc (.map #[{ key := .int .i64 1, val := .func (.func 26) #[] #[], born := 0 }, { key := .int .i64 2, val := .func (.func 27) #[] #[], born := 1 }] 2)) = .ok () ((((w.alloc A).alloc B).alloc C).alloc (.map #[{ key := .int .i64 1, val := .func (.func 26) #[] #[], born := 0 }, { key := .int .i64 2, val := .func (.func 27) #[] #[], born := 1 }, { key := .int .i64 3, val := .func (.func 28) #[] #[], born := 2 }] 3)) := fun A B C => run_insert_three A B C (d := .int .i64) Tryz.underlying51 Tryz.underlying3 rfl (by rfl)
  have ins3 : ∀ A B C : Obj, (Instr.mapUpdate 51 (.map (some (w.heap.size + 1 + 1 + 1))) (.int .i64 4) (.func (.func 29) #[] #[])).run Tryz.prog ((((w.alloc A).alloc B).alloc C).alloc (.map #[{ key := .int .i64 1, val := .func (.func 26) #[] #[], born := 0 }, { key := .int .i64 2, val := .func (.func 27) #[] #[], born := 1 }, { key := .int .i64 3, val := .func (.func 28) #[] #[], born := 2 }] 3)) = .ok () ((((w.alloc A).alloc B).alloc C).alloc (.map #[{ key := .int .i64 1, val := .func (.func 26) #[] #[], born := 0 }, { key := .int .i64 2, val := .func (.func 27) #[] #[], born := 1 }, { key := .int .i64 3, val := .func (.func 28) #[] #[], born := 2 }, { key := .int .i64 4, val := .func (.func 29) #[] #[], born := 3 }] 4)) := fun A B C => run_insert_three A B C (d := .int .i64) Tryz.underlying51 Tryz.underlying3 rfl (by rfl)
  have hlk : ∀ A B C : Obj, (Instr.lookup 51 (.map (some (w.heap.size + 1 + 1 + 1))) (.int .i64 4) false).run Tryz.prog ((((w.alloc A).alloc B).alloc C).alloc (.map #[{ key := .int .i64 1, val := .func (.func 26) #[] #[], born := 0 }, { key := .int .i64 2, val := .func (.func 27) #[] #[], born := 1 }, { key := .int .i64 3, val := .func (.func 28) #[] #[], born := 2 }, { key := .int .i64 4, val := .func (.func 29) #[] #[], born := 3 }] 4)) = .ok (.func (.func 29) #[] #[]) ((((w.alloc A).alloc B).alloc C).alloc (.map #[{ key := .int .i64 1, val := .func (.func 26) #[] #[], born := 0 }, { key := .int .i64 2, val := .func (.func 27) #[] #[], born := 1 }, { key := .int .i64 3, val := .func (.func 28) #[] #[], born := 2 }, { key := .int .i64 4, val := .func (.func 29) #[] #[], born := 3 }] 4)) := fun A B C => run_look_three A B C (d := .int .i64) (i := 3) false Tryz.underlying51 Tryz.underlying3 rfl (by rfl)
  have hnf : ∀ (f : Nat) (w' : World), (binOp .neq 47 (.func (.func f) #[] #[]) .nilFunc).run Tryz.prog w' = .ok (.bool true) w' := fun f w' => rfl
  have HC := Lib.hid (fun w'  => selfM_any sa ha pa qa fa sb hb pb qb fb xs xh xp xt na nb 4 xn red w')
  obtain ⟨rb, hrb⟩ : ∃ rb, (selfM sa.data.toList ha.data.toList sb.data.toList hb.data.toList na nb) = rb := ⟨_, rfl⟩
  rw [hrb] at HC ⊢
  clear hrb
  unfold askV soV at HC
  unfold soV urlV
  go_enter Tryz.func14, Tryz.ntmps14
  go_wp2_with fail
  refine (HC.out _).mono ?_
  rintro e w1 ⟨rfl, hb1⟩
  have hbw1 := four_past hb1
  go_wp2
  go_ret
  exact ⟨rfl, hbw1⟩
theorem zero_fn (w : World) : (zeroValue 47).run Tryz.prog w = .ok .nilFunc w := by kernel_rfl
set_option maxRecDepth 1000000 in
set_option maxHeartbeats 4000000 in
theorem match_other (sa ha pa qa fa sb hb pb qb fb xs xh xp xt : ByteArray) (k na nb xn : Int) (red : Bool) (w : World) (h1 : k ≠ 1) (h2 : k ≠ 2) (h3 : k ≠ 3) (h4 : k ≠ 4) :
    Calls Tryz.prog 14 #[soV k xs xh xn xp xt, urlV sa ha na pa qa fa, urlV sb hb nb pb qb fb, .bool red] w fun e w' => e = .returned (.bool false) ∧ Below w.heap.size w w' := by
  have hmm := @run_makeMap Tryz.prog
  have ins0 : ∀ A B C : Obj, (Instr.mapUpdate 51 (.map (some (w.heap.size + 1 + 1 + 1))) (.int .i64 1) (.func (.func 26) #[] #[])).run Tryz.prog ((((w.alloc A).alloc B).alloc C).alloc (.map #[] 0)) = .ok () ((((w.alloc A).alloc B).alloc C).alloc (.map #[{ key := .int .i64 1, val := .func (.func 26) #[] #[], born := 0 }] 1)) := fun A B C => run_insert_three A B C (d := .int .i64) Tryz.underlying51 Tryz.underlying3 rfl (by rfl)
  have ins1 : ∀ A B C : Obj, (Instr.mapUpdate 51 (.map (some (w.heap.size + 1 + 1 + 1))) (.int .i64 2) (.func (.func 27) #[] #[])).run Tryz.prog ((((w.alloc A).alloc B).alloc C).alloc (.map #[{ key := .int .i64 1, val := .func (.func 26) #[] #[], born := 0 }] 1)) = .ok () ((((w.alloc A).alloc B).alloc C).alloc (.map #[{ key := .int .i64 1, val := .func (.func 26) #[] #[], born := 0 }, { key := .int .i64 2, val := .func (.func 27) #[] #[], born := 1 }] 2)) := fun A B C => run_insert_three A B C (d := .int .i64) Tryz.underlying51 Tryz.underlying3 rfl (by rfl)
  have ins2 : ∀ A B C : Obj, (Instr.mapUpdate 51 (.map (some (w.heap.size + 1 + 1 + 1))) (.int .i64 3) (.func (.func 28) #[] #[])).run Tryz.prog ((((w.alloc A).alloc B).alloc C).alloc (.map #[{ key := .int .i64 1, val := .func (.func 26) #[] #[], born := 0 }, { key := .int .i64 2, val := .func (.func 27) #[] #[], born := 1 }] 2)) = .ok () ((((w.alloc A).alloc B).alloc C).alloc (.map #[{ key := .int .i64 1, val := .func (.func 26) #[] #[], born := 0 }, { key := .int .i64 2, val := .func (.func 27) #[] #[], born := 1 }, { key := .int .i64 3, val := .func (.func 28) #[] #[], born := 2 }] 3)) := fun A B C => run_insert_three A B C (d := .int .i64) Tryz.underlying51 Tryz.underlying3 rfl (by rfl)
  have ins3 : ∀ A B C : Obj, (Instr.mapUpdate 51 (.map (some (w.heap.size + 1 + 1 + 1))) (.int .i64 4) (.func (.func 29) #[] #[])).run Tryz.prog ((((w.alloc A).alloc B).alloc C).alloc (.map #[{ key := .int .i64 1, val := .func (.func 26) #[] #[], born := 0 }, { key := .int .i64 2, val := .func (.func 27) #[] #[], born := 1 }, { key := .int .i64 3, val := .func (.func 28) #[] #[], born := 2 }] 3)) = .ok () ((((w.alloc A).alloc B).alloc C).alloc (.map #[{ key := .int .i64 1, val := .func (.func 26) #[] #[], born := 0 }, { key := .int .i64 2, val := .func (.func 27) #[] #[], born := 1 }, { key := .int .i64 3, val := .func (.func 28) #[] #[], born := 2 }, { key := .int .i64 4, val := .func (.func 29) #[] #[], born := 3 }] 4)) := fun A B C => run_insert_three A B C (d := .int .i64) Tryz.underlying51 Tryz.underlying3 rfl (by rfl)
  have hlk : ∀ A B C : Obj, (Instr.lookup 51 (.map (some (w.heap.size + 1 + 1 + 1))) (.int .i64 k) false).run Tryz.prog ((((w.alloc A).alloc B).alloc C).alloc (.map #[{ key := .int .i64 1, val := .func (.func 26) #[] #[], born := 0 }, { key := .int .i64 2, val := .func (.func 27) #[] #[], born := 1 }, { key := .int .i64 3, val := .func (.func 28) #[] #[], born := 2 }, { key := .int .i64 4, val := .func (.func 29) #[] #[], born := 3 }] 4)) = .ok .nilFunc ((((w.alloc A).alloc B).alloc C).alloc (.map #[{ key := .int .i64 1, val := .func (.func 26) #[] #[], born := 0 }, { key := .int .i64 2, val := .func (.func 27) #[] #[], born := 1 }, { key := .int .i64 3, val := .func (.func 28) #[] #[], born := 2 }, { key := .int .i64 4, val := .func (.func 29) #[] #[], born := 3 }] 4)) := fun A B C => run_none_three A B C (d := .int .i64) false Tryz.underlying51 Tryz.underlying3 rfl (by
    have e1 : (k == 1) = false := beq_eq_false_iff_ne.2 h1
    have e2 : (k == 2) = false := beq_eq_false_iff_ne.2 h2
    have e3 : (k == 3) = false := beq_eq_false_iff_ne.2 h3
    have e4 : (k == 4) = false := beq_eq_false_iff_ne.2 h4
    simp only [Instr.findNow, Instr.sameNow, e1, e2, e3, e4, if_true]) zero_fn
  have hnf : ∀ (w' : World), (binOp .neq 47 .nilFunc .nilFunc).run Tryz.prog w' = .ok (.bool false) w' := fun w' => rfl
  clear h1 h2 h3 h4
  unfold soV urlV
  go_enter Tryz.func14, Tryz.ntmps14
  go_wp2
  go_ret
  exact ⟨rfl, four_past (Below.refl _ _)⟩
end Go.Proofs.YtmgkmpbblhkacaaGreatDoor
