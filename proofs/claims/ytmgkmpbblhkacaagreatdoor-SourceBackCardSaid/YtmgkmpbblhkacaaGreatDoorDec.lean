/- percent.value, percent.Decode, host.forbidden. -/
import Derived.Test.YtmgkmpbblhkacaaGreatDoorLib
import Derived.Test.YtmgkmpbblhkacaaGreatDoorMgQ
import Derived.Lib.IndexAny
import Derived.Laws.BitsAllLaws
namespace Go.Proofs.YtmgkmpbblhkacaaGreatDoor
open Go.RowKit
set_option linter.unusedSimpArgs false
set_option linter.unusedVariables false

set_option maxRecDepth 1000000 in
theorem value_any (c : UInt8) (w : World) :
    Calls Tryz.prog 123 #[.int .u8 c.toNat] w fun e w' => e = .returned (.int .i64 (valB c)) ∧ w = w' := by
  have hc := c.toNat_lt
  have CI := fun (x : Int) => lib_IndexByte ⟨#[48, 49, 50, 51, 52, 53, 54, 55, 56, 57, 65, 66, 67, 68, 69, 70]⟩ x w
  have CI' := Lib.hid CI
  clear CI
  by_cases h : 97 ≤ c.toNat ∧ c.toNat ≤ 102
  · have hr : Hid (valB c = Lib.indexByte upperHex ((c.toNat : Int) - 32).toNat.toUInt8) := by
      unfold valB
      rw [if_pos h]
      have e : c - 32 = ((c.toNat : Int) - 32).toNat.toUInt8 := by
        apply UInt8.toNat_inj.1
        rw [UInt8.toNat_sub]
        simp
        omega
      rw [e]
      exact Lib.hid rfl
    obtain ⟨h1, h2⟩ := h
    go_enter Tryz.func123, Tryz.ntmps123
    go_wp2_with (go_at_call 39; refine (CI'.out _).mono ?_; rintro e w2 ⟨rfl, rfl⟩)
    go_ret
    exact ⟨by rw [hr.out]; rfl, rfl⟩
  · have hr : Hid (valB c = Lib.indexByte [48, 49, 50, 51, 52, 53, 54, 55, 56, 57, 65, 66, 67, 68, 69, 70] c) := by
      unfold valB
      rw [if_neg h]
      exact Lib.hid rfl
    have hcc : (c.toNat : Int).toNat.toUInt8 = c := by simp
    go_enter Tryz.func123, Tryz.ntmps123
    by_cases h1 : 97 ≤ c.toNat
    · have h2 : ¬ c.toNat ≤ 102 := fun e => h ⟨h1, e⟩
      clear h
      go_wp2_with (go_at_call 39; refine (CI'.out _).mono ?_; rintro e w2 ⟨rfl, rfl⟩; try rw [hcc])
      go_ret
      exact ⟨by rw [hr.out]; rfl, rfl⟩
    · clear h
      go_wp2_with (go_at_call 39; refine (CI'.out _).mono ?_; rintro e w2 ⟨rfl, rfl⟩; try rw [hcc])
      go_ret
      exact ⟨by rw [hr.out]; rfl, rfl⟩

theorem value_same (c : UInt8) (w : World) :
    Calls Tryz.prog 123 #[.int .u8 c.toNat] w fun e w' => e = .returned (.int .i64 (valB c)) ∧ w' = w :=
  (value_any c w).mono fun _ _ ⟨h, h2⟩ => ⟨h, h2.symm⟩

theorem indexByte_lt (l : Bs) (c : UInt8) : Lib.indexByte l c < l.length := by
  induction l with
  | nil => simp [Lib.indexByte]
  | cons b l ih =>
    unfold Lib.indexByte
    simp only [List.length_cons]
    split
    · omega
    · split
      · omega
      · omega
theorem valB_lt (c : UInt8) : valB c < 16 := indexByte_lt _ _
theorem valB_ge (c : UInt8) : -1 ≤ valB c := Lib.indexByte_ge _ _

theorem pdec_short (l : Bs) (h : l.length ≤ 2) : pdec l = l := by
  match l, h with
  | [], _ => rfl
  | [a], _ => rfl
  | [a, b], _ => rfl
theorem pdec_step (c : UInt8) (r : Bs) (h : ¬ (c = 37 ∧ 2 ≤ r.length ∧ 0 ≤ valB (r.getD 0 0) ∧ 0 ≤ valB (r.getD 1 0))) : pdec (c :: r) = c :: pdec r := by
  match r with
  | [] => rfl
  | [a] => rfl
  | a :: b :: r' =>
    rw [pdec, if_neg]
    simpa using h
theorem pdec_hit (a b : UInt8) (r : Bs) (h1 : 0 ≤ valB a) (h2 : 0 ≤ valB b) : pdec (37 :: a :: b :: r) = UInt8.ofNat ((valB a).toNat * 16 + (valB b).toNat) :: pdec r := by
  rw [pdec, if_pos ⟨rfl, h1, h2⟩]

theorem or_16_all : ∀ a b : Fin 16, bits .or .i64 (((a.val : Nat) : Int) * 16) ((b.val : Nat) : Int) % 256 = ((a.val : Nat) : Int) * 16 + ((b.val : Nat) : Int) := by decide
theorem or_16 (a b : Int) (h1 : 0 ≤ a) (h2 : a < 16) (h3 : 0 ≤ b) (h4 : b < 16) : bits .or .i64 (a * 16) b % 256 = a * 16 + b := by
  have := or_16_all ⟨a.toNat, by omega⟩ ⟨b.toNat, by omega⟩
  simp only [Int.toNat_of_nonneg h1, Int.toNat_of_nonneg h3] at this
  exact this
theorem drewN_heap (w : World) (n : Nat) : (w.drewN n).heap = w.heap := by
  induction n with
  | zero => rfl
  | succ n ih => first | exact ih | (rw [← ih]; rfl)
theorem drewN_size (w : World) (n : Nat) : (w.drewN n).heap.size = w.heap.size := by rw [drewN_heap]
theorem below_drewN2 {B : Nat} {a w : World} (h : Below B a w) (n : Nat) : Below B a (w.drewN n) := by
  induction n with
  | zero => exact h
  | succ n ih => first | exact Below.drew ih | exact Below.drewN ih
theorem isb_drewN {T e : TypeId} {B b : Nat} {bs : List Value} {w : World} (h : Lib.IsBuilder T e B b bs w) (n : Nat) : Lib.IsBuilder T e B b bs (w.drewN n) := by
  have hh := drewN_heap w n
  unfold Lib.IsBuilder Lib.BuilderAt World.ownsRow at h ⊢
  rw [hh]
  exact h
theorem Tryz.wbyte (B b : Nat) (bs : List Value) (c : Int) (w : World) (h : Lib.IsBuilder 78 5 B b bs w) (hlen : bs.length + 1 ≤ 140737488355328) (hBw : B ≤ w.heap.size) :
    Calls Tryz.prog 70 #[.pointer (some ⟨b, 0, none⟩), .int .u8 c] w fun e w' => e = .returned .nilIface ∧ (Lib.BuilderAt 78 5 B b (.pointer (some ⟨b, 0, none⟩)) (bs ++ [.int .u8 c]) w' ∧ Below B w w') :=
  Any.Builder_WriteByte Tryz.bld167 Tryz.bldX B b bs c w h hlen hBw

set_option maxRecDepth 1000000 in
set_option maxHeartbeats 8000000 in
theorem Decode_any (s : ByteArray) (w : World) (hs : s.size ≤ 1000000) :
    Calls Tryz.prog 92 #[.string s] w fun e w' => e = .returned (.string (strOf (pdec s.data.toList))) ∧ Below w.heap.size w w' := by
  have hdl : s.data.toList.length = s.size := (Lib.size_eq s).symm
  have HDL := Lib.hid hdl
  clear hdl
  go_enter Tryz.func92, Tryz.ntmps92
  go_wp2
  go_loopw [4] (fun vi wr => ∃ (i : Nat) (acc : Bs), vi = .int .i64 i ∧ i ≤ s.size ∧ Lib.IsBuilder 78 5 w.heap.size w.heap.size (Lib.byteCells acc) wr ∧ Below w.heap.size w wr ∧ w.heap.size < wr.heap.size ∧ acc.length ≤ i ∧ Hid (pdec s.data.toList = acc ++ pdec (s.data.toList.drop i))) (fun vi _ => s.size - (intOf vi).toNat)
  case atStart => exact ⟨0, [], rfl, Nat.zero_le _, Lib.fresh_isBuilder _ _ w, (Below.refl _ w).alloc (Nat.le_refl _) _, by simp, by simp, Lib.hid rfl⟩
  case round =>
    obtain ⟨i, acc, rfl, hi, hB, hbw, hsz, hal, hinv⟩ := hrel
    obtain ⟨wo, rfl⟩ : ∃ wo : World, wo = wr := ⟨_, rfl⟩
    by_cases hlt : i < s.size
    · have hil : i < s.data.toList.length := by rw [HDL.out]; exact hlt
      have hdrop : s.data.toList.drop i = s[i] :: s.data.toList.drop (i + 1) := by rw [← data_get s i hlt]; exact List.drop_eq_getElem_cons hil
      have hinv2 := hinv.out
      rw [hdrop] at hinv2
      by_cases hA : s[i] = 37 ∧ i + 2 < s.size
      · obtain ⟨hA1, hA2⟩ := hA
        have d1 : s.data.toList.drop (i + 1) = s[i + 1] :: s.data.toList.drop (i + 2) := by rw [← data_get s (i + 1) (by omega)]; exact List.drop_eq_getElem_cons (by rw [HDL.out]; omega)
        have d2 : s.data.toList.drop (i + 2) = s[i + 2] :: s.data.toList.drop (i + 3) := by rw [← data_get s (i + 2) (by omega)]; exact List.drop_eq_getElem_cons (by rw [HDL.out]; omega)
        have hA3 : ((s[i].toNat : Int) == 37) = true := by rw [hA1]; rfl
        have hA4 : (i : Int) + 2 < (s.size : Int) := by omega
        have hg0 : ((⟨s.data.toList.drop (i + 1) |>.toArray⟩ : ByteArray).size) = ((⟨s.data.toList.drop (i + 1) |>.toArray⟩ : ByteArray).size) := rfl
        clear hg0
        have l1 := valB_lt s[i + 1]
        have l2 := valB_lt s[i + 2]
        have g1 := valB_ge s[i + 1]
        have g2 := valB_ge s[i + 2]
        have hit : Hid (0 ≤ valB s[i + 1] ∧ 0 ≤ valB s[i + 2] → pdec s.data.toList = (acc ++ [UInt8.ofNat ((valB s[i + 1]).toNat * 16 + (valB s[i + 2]).toNat)]) ++ pdec (s.data.toList.drop (i + 3))) := by
          refine Lib.hid (fun h => ?_)
          rw [hinv2, hA1, d1, d2, pdec_hit _ _ _ h.1 h.2]
          simp
        have hmiss : Hid (¬ (0 ≤ valB s[i + 1] ∧ 0 ≤ valB s[i + 2]) → pdec s.data.toList = (acc ++ [s[i]]) ++ pdec (s.data.toList.drop (i + 1))) := by
          refine Lib.hid (fun h => ?_)
          rw [hinv2, pdec_step _ _ (by rw [d1, d2]; simp only [List.length_cons, List.getD_cons_zero, List.getD_cons_succ]; exact fun hh => h ⟨hh.2.2.1, hh.2.2.2⟩)]
          simp
        go_wp2_with fail
        clear hinv2 hdrop d1 d2 hinv
        have q1 : IntKind.i64.wrap ((i : Int) + 1) = (i : Int) + 1 := by rw [IntKind.wrap_i64]; omega
        have q2 : IntKind.i64.wrap ((i : Int) + 2) = (i : Int) + 2 := by rw [IntKind.wrap_i64]; omega
        have q3 : (0 : Int) ≤ (i : Int) + 1 := by omega
        have q4 : (i : Int) + 1 < (s.size : Int) := by omega
        have q5 : ((i : Int) + 1).toNat = i + 1 := by omega
        have q6 : ((i : Int) + 2).toNat = i + 2 := by omega
        have q7 : (0 : Int) ≤ (i : Int) + 2 := by omega
        go_quiet ((go_at_call 123; exact Calls.quiet_of_same (value_same _ _)))
        generalize valB s[i + 1] = v1 at *
        generalize valB s[i + 2] = v2 at *
        try clear q1
        try clear q2
        try clear q5
        try clear q6
        by_cases hv : 0 ≤ v1 ∧ 0 ≤ v2
        · have hit2 := Lib.hid (hit.out hv)
          obtain ⟨hv1, hv2⟩ := hv
          clear hit hmiss
          have hor := or_16 v1 v2 hv1 l1 hv2 l2
          have hB2 := (isb_drewN hB nq)
          have hbw2 := below_drewN2 hbw nq
          have CW := Tryz.wbyte w.heap.size w.heap.size (Lib.byteCells acc) ((v1 * 16 + v2)) (wo.drewN nq) hB2 (by rw [Lib.byteCells_length]; omega) (by rw [drewN_size]; omega)
          rw [← hor] at CW
          have CW' := Lib.hid CW
          clear CW hB hB2 hbw
          have HOR := Lib.hid hor
          clear hor
          go_wp2_with (go_at_call 70; refine CW'.out.mono ?_; rintro e w2 ⟨rfl, hB3, hb3⟩)
          refine ⟨⟨i + 3, acc ++ [UInt8.ofNat (v1.toNat * 16 + v2.toNat)], ?_, by omega, ?_, hbw2.trans hb3, ?_, by simp; omega, hit2⟩, ?_⟩
          · first | rfl | (congr 1; omega)
          · rw [Lib.byteCells_append]
            have e : (Lib.byteCells [UInt8.ofNat (v1.toNat * 16 + v2.toNat)]) = [.int .u8 (bits .or .i64 (v1 * 16) v2 % 256)] := by
              rw [HOR.out]
              simp [Lib.byteCells]
              omega
            rw [e]
            exact Or.inr hB3
          · have := hb3.size; rw [drewN_size] at this; omega
          · simp [intOf]; omega
        · have hmiss2 : Hid (pdec s.data.toList = (acc ++ [37]) ++ pdec (s.data.toList.drop (i + 1))) := by
            have := hmiss.out hv
            rw [hA1] at this
            exact Lib.hid this
          have hB2 := (isb_drewN hB nq)
          have hbw2 := below_drewN2 hbw nq
          have CW := Tryz.wbyte w.heap.size w.heap.size (Lib.byteCells acc) 37 (wo.drewN nq) hB2 (by rw [Lib.byteCells_length]; omega) (by rw [drewN_size]; omega)
          have CW' := Lib.hid CW
          clear CW hB hB2 hbw hit hmiss
          have hv3 : ¬ (0 ≤ v1) ∨ ¬ (0 ≤ v2) := by omega
          clear hv
          rcases Classical.em (0 ≤ v1) with hv1 | hv1
          · have hv2 : ¬ (0 ≤ v2) := by omega
            clear hv3
            go_wp2_with (go_at_call 70; refine CW'.out.mono ?_; rintro e w2 ⟨rfl, hB3, hb3⟩)
            refine ⟨⟨i + 1, acc ++ [37], ?_, by omega, ?_, hbw2.trans hb3, ?_, by simp; omega, hmiss2⟩, ?_⟩
            · first | rfl | (congr 1; omega)
            · rw [Lib.byteCells_append]
              exact Or.inr hB3
            · have := hb3.size; rw [drewN_size] at this; omega
            · simp [intOf]; omega
          · clear hv3
            go_wp2_with (go_at_call 70; refine CW'.out.mono ?_; rintro e w2 ⟨rfl, hB3, hb3⟩)
            refine ⟨⟨i + 1, acc ++ [37], ?_, by omega, ?_, hbw2.trans hb3, ?_, by simp; omega, hmiss2⟩, ?_⟩
            · first | rfl | (congr 1; omega)
            · rw [Lib.byteCells_append]
              exact Or.inr hB3
            · have := hb3.size; rw [drewN_size] at this; omega
            · simp [intOf]; omega
      · have hmiss2 : Hid (pdec s.data.toList = (acc ++ [s[i]]) ++ pdec (s.data.toList.drop (i + 1))) := by
          refine Lib.hid ?_
          rw [hinv2, pdec_step _ _ (by intro hh; exact hA ⟨hh.1, by have := hh.2.1; simp at this; omega⟩)]
          simp
        have CW := Tryz.wbyte w.heap.size w.heap.size (Lib.byteCells acc) (s[i].toNat) wo hB (by rw [Lib.byteCells_length]; omega) (by omega)
        have CW' := Lib.hid CW
        clear CW hB hinv hinv2 hdrop
        by_cases h37 : s[i] = 37
        · have hA4 : ¬ ((i : Int) + 2 < (s.size : Int)) := by
            have : ¬ i + 2 < s.size := fun h => hA ⟨h37, h⟩
            omega
          have hA3 : ((s[i].toNat : Int) == 37) = true := by rw [h37]; rfl
          have hA5 : decide ((i : Int) + 2 < (s.size : Int)) = false := decide_eq_false hA4
          clear hA h37
          go_wp2_with (go_at_call 70; refine CW'.out.mono ?_; rintro e w2 ⟨rfl, hB3, hb3⟩)
          refine ⟨⟨i + 1, acc ++ [s[i]], ?_, by omega, ?_, hbw.trans hb3, ?_, by simp; omega, hmiss2⟩, ?_⟩
          · first | rfl | (congr 1; omega)
          · rw [Lib.byteCells_append]
            exact Or.inr hB3
          · have := hb3.size; omega
          · simp [intOf]; omega
        · have hA3 : ((s[i].toNat : Int) == 37) = false := beq_eq_false_iff_ne.2 (fun e => h37 (UInt8.toNat_inj.1 (by simpa using (by omega : s[i].toNat = 37))))
          clear hA h37
          go_wp2_with (go_at_call 70; refine CW'.out.mono ?_; rintro e w2 ⟨rfl, hB3, hb3⟩)
          refine ⟨⟨i + 1, acc ++ [s[i]], ?_, by omega, ?_, hbw.trans hb3, ?_, by simp; omega, hmiss2⟩, ?_⟩
          · first | rfl | (congr 1; omega)
          · rw [Lib.byteCells_append]
            exact Or.inr hB3
          · have := hb3.size; omega
          · simp [intOf]; omega
    · obtain rfl : i = s.size := by omega
      have hr : Hid (pdec s.data.toList = acc) := by rw [hinv.out, List.drop_of_length_le (by rw [HDL.out]; omega)]; exact Lib.hid (by simp [pdec])
      have CS := Lib.hid (Tryz.Builder_String_any w.heap.size w.heap.size acc wo hB (by omega))
      clear hinv hB
      go_wp2_with (go_at_call 71; refine CS.out.mono ?_; rintro e w2 ⟨rfl, hb2⟩)
      go_ret
      exact ⟨by rw [hr.out]; rfl, hbw.trans hb2⟩
end Go.Proofs.YtmgkmpbblhkacaaGreatDoor
