/- The reference's Digit and Decode. -/
import Derived.Test.YtmgkmpbblhkacaaGreatDoorDec
import Derived.Test.YtmgkmpbblhkacaaGreatDoorStrs
import Derived.Test.YtmgkmpbblhkacaaGreatDoorMgP
import Derived.Deep.RegionLaw
import Derived.Deep.AppendLies
import Derived.IntWalk
namespace Go.Proofs.YtmgkmpbblhkacaaGreatDoor
open Go.RowKit
set_option linter.unusedSimpArgs false
set_option linter.unusedVariables false

theorem digit_val (c : UInt8) : valB c = if 48 ≤ c.toNat ∧ c.toNat ≤ 57 then (c.toNat : Int) - 48 else if 65 ≤ c.toNat ∧ c.toNat ≤ 70 then (c.toNat : Int) - 65 + 10 else if 97 ≤ c.toNat ∧ c.toNat ≤ 102 then (c.toNat : Int) - 97 + 10 else -1 := by
  have : ∀ k : Fin 256, valB (UInt8.ofNat k.val) = if 48 ≤ (UInt8.ofNat k.val).toNat ∧ (UInt8.ofNat k.val).toNat ≤ 57 then ((UInt8.ofNat k.val).toNat : Int) - 48 else if 65 ≤ (UInt8.ofNat k.val).toNat ∧ (UInt8.ofNat k.val).toNat ≤ 70 then ((UInt8.ofNat k.val).toNat : Int) - 65 + 10 else if 97 ≤ (UInt8.ofNat k.val).toNat ∧ (UInt8.ofNat k.val).toNat ≤ 102 then ((UInt8.ofNat k.val).toNat : Int) - 97 + 10 else -1 := by decide +kernel
  have h := this ⟨c.toNat, c.toNat_lt⟩
  simpa using h
theorem ret_i64 {a b : Int} (h : a = b) : Ending.returned (.int .i64 a) = Ending.returned (.int .i64 b) := by rw [h]
theorem Digit_any (c : UInt8) (w : World) :
    Calls Tryz.prog 95 #[.int .u8 c.toNat] w fun e w' => e = .returned (.int .i64 (valB c)) ∧ w = w' := by
  have hv := digit_val c
  have HV := Lib.hid hv
  have hc := c.toNat_lt
  have hways : ((c.toNat : Int) < 48) ∨ ((48 : Int) ≤ c.toNat ∧ (c.toNat : Int) ≤ 57) ∨ ((57 : Int) < c.toNat ∧ (c.toNat : Int) < 65) ∨ ((65 : Int) ≤ c.toNat ∧ (c.toNat : Int) ≤ 70) ∨ ((70 : Int) < c.toNat ∧ (c.toNat : Int) < 97) ∨ ((97 : Int) ≤ c.toNat ∧ (c.toNat : Int) ≤ 102) ∨ ((102 : Int) < c.toNat) := by omega
  clear hv
  rcases hways with h | ⟨h, h'⟩ | ⟨h, h'⟩ | ⟨h, h'⟩ | ⟨h, h'⟩ | ⟨h, h'⟩ | h
  all_goals
    go_enter Tryz.func95, Tryz.ntmps95
    go_wp2
    go_ret
    refine ⟨ret_i64 ?_, rfl⟩
    rw [HV.out]
    split <;> first | omega | (split <;> first | omega | (split <;> omega))
theorem Digit_same (c : UInt8) (w : World) :
    Calls Tryz.prog 95 #[.int .u8 c.toNat] w fun e w' => e = .returned (.int .i64 (valB c)) ∧ w' = w :=
  (Digit_any c w).mono fun _ _ ⟨h1, h2⟩ => ⟨h1, h2.symm⟩

theorem u8_37 (c : UInt8) (h : c ≠ 37) : ((c.toNat : Int) == 37) = false := by
  refine beq_eq_false_iff_ne.2 (fun hh => h (UInt8.toNat_inj.1 ?_))
  show c.toNat = 37
  omega
theorem infoY : (Tryz.prog.info? 5).map (fun i => (i.zero, i.size, i.bytes)) = some (some (.int .u8 0), 1, 1) := by kernel_rfl
/-- A slice of bytes in memory made since block B. -/
def OwnY (w : World) (B : Nat) (v : Value) (xs : Bs) : Prop := w.ownsRow B 5 1 v xs.length (xs.map fun (x : UInt8) => Value.int .u8 (x.toNat : Int))
theorem OwnY.nil (w : World) (B : Nat) : OwnY w B (.slice none 0 0) [] := World.ownsRow_nil _ _ _ _
theorem OwnY.below {w w' : World} {B : Nat} {v : Value} {xs : Bs} (h : OwnY w B v xs) (hb : Below w.heap.size w w') : OwnY w' B v xs := ownsRow_below h hb
theorem OwnY.form {w : World} {B : Nat} {v : Value} {xs : Bs} (h : OwnY w B v xs) : (v = .slice none 0 0 ∧ xs = []) ∨ ∃ g cap, v = .slice (some ⟨g, 0, none⟩) xs.length cap ∧ B ≤ g ∧ xs.length ≤ cap ∧ g < w.heap.size ∧ ∀ (j : Nat) (p : UInt8), xs[j]? = some p → w.cell? ⟨g, j, none⟩ = some (.int .u8 (p.toNat : Int)) := by
  rcases h.2 with ⟨h1, h2⟩ | ⟨g, cap, cur, hv, hg, hc, hn, hm, hs, ht⟩
  · exact Or.inl ⟨h1, List.eq_nil_of_length_eq_zero h2⟩
  · refine Or.inr ⟨g, cap, hv, hg, hn, (Array.getElem?_eq_some_iff.1 hc).1, fun j p hp => ?_⟩
    unfold World.cell?
    rw [show w.heap[(⟨g, j, none⟩ : Addr).block]? = some (.cells cur 5 (0, 0)) from hc]
    show cur[j]? = _
    have hj : j < xs.length := (List.getElem?_eq_some_iff.1 hp).1
    have h2 : (cur.toList.take (xs.length * 1))[j]? = some (Value.int .u8 (p.toNat : Int)) := by
      rw [ht, List.getElem?_map, hp]; rfl
    rw [List.getElem?_take_of_lt (by omega)] at h2
    simpa using h2
theorem OwnY.base {w : World} {B : Nat} {v : Value} {xs : Bs} (h : OwnY w B v xs) : ∀ k, v.ownBlock = some k → B ≤ k := by
  rcases OwnY.form h with ⟨rfl, _⟩ | ⟨g, cap, rfl, hg, _⟩
  · intro k hk; cases hk
  · intro k hk
    have : g = k := by simpa [Value.ownBlock] using hk
    omega
/-- A new slice without elements. -/
theorem OwnY.new (w : World) (B : Nat) (hB : B ≤ w.heap.size) : OwnY (w.alloc (.cells #[] 5)) B (.slice (some ⟨w.heap.size, 0, none⟩) 0 0) [] := by
  refine ⟨rfl, Or.inr ⟨w.heap.size, 0, #[], rfl, hB, heap_alloc_new w _, ?_⟩⟩
  simp
/-- 's = append(s, x ..)', bytes. -/
theorem app_u8 {w : World} {ops : Array Oper} {rest : List Oper} {o : Oper} {a : Act} {Q : Exit → Act → World → Prop} (hgd : o.guard = none) (s x : Operand)
    (ho : o.op = .call { callee := .builtin .append, args := #[s, x], argTypes := #[43, 43] }) (B : Nat) (v : Value) (ps qs : Bs) (hs : a.eval s = v) (hown : OwnY w B v ps)
    (ad : Addr) (c : Nat) (hx : a.eval x = .slice (some ad) qs.length c) (hc : ∀ (j : Nat) (p : UInt8), qs[j]? = some p → w.cell? (ad.add j) = some (.int .u8 (p.toNat : Int))) (hn : ps.length ≤ 1000000000) (hq : qs.length ≤ 1000000) (hB : B ≤ w.heap.size)
    (h : ∀ v' w', OwnY w' B v' (ps ++ qs) → w.grownBy w' v.ownBlock → wpList Tryz.prog ops Q rest (a.put o.dst v') w') : wpList Tryz.prog ops Q (o :: rest) a w := by
  obtain ⟨i0, hi, hz0, hz1, hz2⟩ := info_parts infoY
  refine wpList_append_own w hgd s x 43 ho B 5 i0 (.int .u8 0) 1 1 Tryz.underlying43 hi hz0 hz1 hz2 rfl (by decide) v ps.length _ hs hown ad qs.length c (qs.map fun (x : UInt8) => Value.int .u8 (x.toNat : Int)) hx (by simp) ?_ ?_ ?_ ?_ hB ?_
  · intro j u hu
    rw [List.getElem?_map] at hu
    cases hq : qs[j]? with
    | none => rw [hq] at hu; simp at hu
    | some q => rw [hq] at hu; simp at hu; subst hu; exact hc j q hq
  · intro u hu; simp at hu; obtain ⟨q, _, rfl⟩ := hu; rfl
  · unfold maxLen; omega
  · omega
  · intro v' w' h1 h2 _
    refine h v' w' ?_ h2
    unfold OwnY
    simpa using h1
/-- The same, as one step of a region that draws. -/
theorem step_u8 {w : World} {ops : Array Oper} {o : Oper} {a : Act} {K : Act → World → Prop} {Q : Exit → Act → World → Prop} {E : Prop} (hgd : o.guard = none) (s x : Operand)
    (ho : o.op = .call { callee := .builtin .append, args := #[s, x], argTypes := #[43, 43] }) (B : Nat) (v : Value) (ps : Bs) (q : UInt8) (hs : a.eval s = v) (hown : OwnY w B v ps)
    (ad : Addr) (c : Nat) (hx : a.eval x = .slice (some ad) 1 c) (hc : ∀ (j : Nat) (p : UInt8), [q][j]? = some p → w.cell? (ad.add j) = some (.int .u8 (p.toNat : Int))) (hn : ps.length ≤ 1000000000) (hB : B ≤ w.heap.size)
    (h : ∀ v' w', OwnY w' B v' (ps ++ [q]) → w.grownBy w' v.ownBlock → K (a.put o.dst v') w') :
    if Region.wanted o (yielded ops a.tmps) = true then Oper.wp Tryz.prog o a w K Q else E := by
  obtain ⟨i0, hi, hz0, hz1, hz2⟩ := info_parts infoY
  refine step_append_lies w hgd s x 43 ho B 5 i0 (.int .u8 0) 1 1 Tryz.underlying43 hi hz0 hz1 hz2 rfl (by decide) v ps.length _ hs hown ad 1 c [.int .u8 (q.toNat : Int)] hx (by simp) ?_ ?_ (by decide) ?_ ?_ hB _ rfl ?_
  · intro j u hu
    match j, hu with
    | 0, hu => simp at hu; subst hu; exact hc 0 q rfl
    | j + 1, hu => simp at hu
  · intro u hu; simp at hu; subst hu; rfl
  · unfold maxLen; omega
  · omega
  · intro g cap w' h1 h2 _ _
    refine h _ w' ?_ h2
    unfold OwnY
    simpa using h1
/-- A row of bytes as a string. -/
theorem own_str {w : World} {B : Nat} {v : Value} {xs : Bs} (h : OwnY w B v xs) (hv : v ≠ .slice none 0 0) : (convert 43 9 v).run Tryz.prog w = .ok (.string (strOf xs)) w := by
  rcases OwnY.form h with ⟨h1, _⟩ | ⟨g, cap, rfl, hg, hn, hlt, hc⟩
  · exact absurd h1 hv
  · refine run_convert_bytes_back _ _ _ 5 _ _ xs Tryz.underlying43 Tryz.underlying5 Tryz.underlying9 ?_
    intro j hj
    rw [add_zero_off, hc j _ (List.getElem?_eq_getElem hj)]

theorem one_newY (c : UInt8) (x : Int) (hx : x = (c.toNat : Int)) (w : World) : ∀ (j : Nat) (q : UInt8), [c][j]? = some q → (w.alloc (.cells #[.int .u8 x] 5)).cell? ((⟨w.heap.size, 0, none⟩ : Addr).add j) = some (.int .u8 (q.toNat : Int)) := by
  intro j q h
  subst hx
  rw [add_zero_off, cells_alloc_new]
  match j, h with
  | 0, h => simp at h; subst h; rfl
  | j + 1, h => simp at h
set_option maxRecDepth 1000000 in
set_option maxHeartbeats 3000000 in
theorem refDecode_any (s : ByteArray) (w : World) (hs : s.size ≤ 1000000) :
    Calls Tryz.prog 114 #[.string s] w fun e w' => e = .returned (.string (strOf (pdec s.data.toList))) ∧ Below w.heap.size w w' := by
  go_enter Tryz.func114, Tryz.ntmps114
  go_wp2
  have hown0 := Lib.hid (OwnY.new w w.heap.size (Nat.le_refl _))
  have hb0 : Below w.heap.size w (w.alloc (.cells #[] 5)) := (Below.refl _ w).alloc (Nat.le_refl _) _
  have HS := Lib.hid hs
  go_loopw [3, 4] (fun v vi wr => ∃ (i : Nat) (xs : Bs) (g c : Nat), v = .slice (some ⟨g, 0, none⟩) xs.length c ∧ vi = .int .i64 i ∧ i ≤ s.size ∧ xs.length ≤ i ∧ Below w.heap.size w wr ∧ Hid (OwnY wr w.heap.size (.slice (some ⟨g, 0, none⟩) xs.length c) xs ∧ pdec s.data.toList = xs ++ pdec (s.data.toList.drop i))) (fun _ vi _ => s.size - (intOf vi).toNat)
  case atStart => exact ⟨0, [], w.heap.size, 0, rfl, rfl, by omega, by simp, hb0, Lib.hid ⟨hown0.out, by simp⟩⟩
  case round =>
    obtain ⟨i, xs, g, cp, rfl, rfl, hi, hxl, hbw, HI⟩ := hrel
    obtain ⟨wo, rfl⟩ : ∃ wo : World, wo = wr := ⟨_, rfl⟩
    have hB := hbw.size
    by_cases hlt : i < s.size
    · have hd1 : s.data.toList.drop i = s[i] :: s.data.toList.drop (i + 1) := by
        rw [← data_get s i hlt]
        exact List.drop_eq_getElem_cons (by simpa using hlt)
      have HO := Lib.hid HI.out.1
      have miss : (¬ (s[i] = 37 ∧ 2 ≤ (s.data.toList.drop (i + 1)).length ∧ 0 ≤ valB ((s.data.toList.drop (i + 1)).getD 0 0) ∧ 0 ≤ valB ((s.data.toList.drop (i + 1)).getD 1 0))) → pdec s.data.toList = (xs ++ [s[i]]) ++ pdec (s.data.toList.drop (i + 1)) := by
        intro h
        rw [HI.out.2, hd1, pdec_step _ _ h]
        simp
      have hdl : (s.data.toList.drop (i + 1)).length = s.size - (i + 1) := by rw [List.length_drop, ← Lib.size_eq]
      by_cases hhit : s[i] = 37 ∧ i + 2 < s.size
      · obtain ⟨h37, h2⟩ := hhit
        have hd2 : s.data.toList.drop (i + 1) = s[i + 1] :: s.data.toList.drop (i + 2) := by
          rw [← data_get s (i + 1) (by omega)]
          exact List.drop_eq_getElem_cons (by simp [← Lib.size_eq]; omega)
        have hd3 : s.data.toList.drop (i + 2) = s[i + 2] :: s.data.toList.drop (i + 3) := by
          rw [← data_get s (i + 2) h2]
          exact List.drop_eq_getElem_cons (by simpa using h2)
        have b37 : ((s[i].toNat : Int) == 37) = true := by rw [h37]; rfl
        have h2' : (2 : Int) < (s.size : Int) - (i : Int) := by omega
        by_cases ha : 0 ≤ valB s[i + 1]
        · by_cases hb : 0 ≤ valB s[i + 2]
          · have hit : Hid (pdec s.data.toList = (xs ++ [UInt8.ofNat ((valB s[i + 1]).toNat * 16 + (valB s[i + 2]).toNat)]) ++ pdec (s.data.toList.drop (i + 3))) := by
              rw [HI.out.2, hd1, h37, hd2, hd3, pdec_hit _ _ _ ha hb]
              exact Lib.hid (by simp)
            clear miss hd1 hd2 hd3 hdl h37 HI
            have hx16 : valB s[i + 1] < 16 := valB_lt _
            have hy16 : valB s[i + 2] < 16 := valB_lt _
            have hq : (valB s[i + 1] * 16 + valB s[i + 2]) = ((UInt8.ofNat ((valB s[i + 1]).toNat * 16 + (valB s[i + 2]).toNat)).toNat : Int) := by
              rw [UInt8.toNat_ofNat']; omega
            have HQ := Lib.hid hq
            clear hq
            go_wp2_with (first | (go_at_call 95; refine (Digit_any _ _).mono ?_; rintro e w9 ⟨rfl, rfl⟩))
            have hwr : IntKind.u8.wrap (valB s[i + 1] * 16 + valB s[i + 2]) = valB s[i + 1] * 16 + valB s[i + 2] := u8_wrap_low _ (by omega) (by omega)
            have hm1 : IntKind.i64.wrap (valB s[i + 1] * 16) = valB s[i + 1] * 16 := IntWalk.i64_in _ (by omega)
            have hm2 : IntKind.i64.wrap (valB s[i + 1] * 16 + valB s[i + 2]) = valB s[i + 1] * 16 + valB s[i + 2] := IntWalk.i64_in _ (by omega)
            have l1 : i + 1 < s.size := by omega
            have n1 : (0 : Int) ≤ (i : Int) + 1 := by omega
            have n2 : (0 : Int) ≤ (i : Int) + 2 := by omega
            have e1 : IntKind.i64.wrap ((i : Int) + 1) = (i : Int) + 1 := IntWalk.i64_in _ (by omega)
            have e2 : IntKind.i64.wrap ((i : Int) + 2) = (i : Int) + 2 := IntWalk.i64_in _ (by omega)
            have t1 : ((i : Int) + 1).toNat = i + 1 := by omega
            have t2 : ((i : Int) + 2).toNat = i + 2 := by omega
            go_region_law (first | (refine step_u8 rfl _ _ rfl w.heap.size _ xs (UInt8.ofNat ((valB s[i + 1]).toNat * 16 + (valB s[i + 2]).toNat)) rfl (HO.out.below (by first | exact (Below.refl _ _).alloc (Nat.le_refl _) _ | exact Below.drew ((Below.refl _ _).alloc (Nat.le_refl _) _))) ⟨wo.heap.size, 0, none⟩ 1 rfl (by first | exact one_newY _ _ HQ.out wo) (by omega) (by simp; omega) ?_; intro v2 w2 hown2 hg2) | (go_simp; go_at_call 95; refine (Digit_any _ _).mono ?_; rintro e w9 ⟨rfl, rfl⟩))
            all_goals
              rcases OwnY.form hown2 with ⟨_, h⟩ | ⟨g2, cp2, rfl, _⟩
              · simp at h
              · have hb2 : Below w.heap.size w w2 := by
                  first
                  | exact (hbw.alloc hB _).grown hg2 (by simp; omega) HO.out.base
                  | exact (Below.drew (hbw.alloc hB _)).grown hg2 (by simp; omega) HO.out.base
                clear hg2
                go_wp2
                exact ⟨⟨i + 3, xs ++ [_], g2, cp2, by simp, by go_num, by omega, by simp; omega, hb2, Lib.hid ⟨hown2, hit.out⟩⟩, by simp [intOf]; omega⟩
          · have HN := Lib.hid (miss (by rw [hd2, hd3]; intro h; exact hb h.2.2.2))
            have hb' : valB s[i + 2] < 0 := by omega
            clear miss hd1 hd2 hd3 hdl h37 HI hb
            go_wp2_with (first | (go_at_call 95; refine (Digit_any _ _).mono ?_; rintro e w9 ⟨rfl, rfl⟩) | (at_builtin; refine app_u8 (qs := [s[i]]) rfl _ _ rfl w.heap.size _ xs rfl (HO.out.below ((Below.refl _ _).alloc (Nat.le_refl _) _)) ⟨wo.heap.size, 0, none⟩ 1 rfl (one_newY _ _ rfl wo) (by omega) (by simp) (by simp; omega) ?_; intro v2 w2 hown2 hg2))
            rcases OwnY.form hown2 with ⟨_, h⟩ | ⟨g2, cp2, rfl, _⟩
            · simp at h
            · have hb2 : Below w.heap.size w w2 := (hbw.alloc hB _).grown hg2 (by simp; omega) HO.out.base
              exact ⟨⟨i + 1, xs ++ [s[i]], g2, cp2, by simp, rfl, by omega, by simp; omega, hb2, Lib.hid ⟨hown2, HN.out⟩⟩, by simp [intOf]; omega⟩

        · have HN := Lib.hid (miss (by rw [hd2, hd3]; intro h; exact ha h.2.2.1))
          have ha' : valB s[i + 1] < 0 := by omega
          clear miss hd1 hd2 hd3 hdl h37 HI ha
          go_wp2_with (first | (go_at_call 95; refine (Digit_any _ _).mono ?_; rintro e w9 ⟨rfl, rfl⟩) | (at_builtin; refine app_u8 (qs := [s[i]]) rfl _ _ rfl w.heap.size _ xs rfl (HO.out.below ((Below.refl _ _).alloc (Nat.le_refl _) _)) ⟨wo.heap.size, 0, none⟩ 1 rfl (one_newY _ _ rfl wo) (by omega) (by simp) (by simp; omega) ?_; intro v2 w2 hown2 hg2))
          rcases OwnY.form hown2 with ⟨_, h⟩ | ⟨g2, cp2, rfl, _⟩
          · simp at h
          · have hb2 : Below w.heap.size w w2 := (hbw.alloc hB _).grown hg2 (by simp; omega) HO.out.base
            exact ⟨⟨i + 1, xs ++ [s[i]], g2, cp2, by simp, rfl, by omega, by simp; omega, hb2, Lib.hid ⟨hown2, HN.out⟩⟩, by simp [intOf]; omega⟩

      · have HN := Lib.hid (miss (by rw [hdl]; intro h; exact hhit ⟨h.1, by omega⟩))
        by_cases h37 : s[i] = 37
        · have b37 : ((s[i].toNat : Int) == 37) = true := by rw [h37]; rfl
          have h2' : (s.size : Int) - (i : Int) ≤ 2 := by have : ¬ (i + 2 < s.size) := fun h => hhit ⟨h37, h⟩; omega
          clear miss hd1 hdl h37 HI hhit
          go_wp2_with (first | (go_at_call 95; refine (Digit_any _ _).mono ?_; rintro e w9 ⟨rfl, rfl⟩) | (at_builtin; refine app_u8 (qs := [s[i]]) rfl _ _ rfl w.heap.size _ xs rfl (HO.out.below ((Below.refl _ _).alloc (Nat.le_refl _) _)) ⟨wo.heap.size, 0, none⟩ 1 rfl (one_newY _ _ rfl wo) (by omega) (by simp) (by simp; omega) ?_; intro v2 w2 hown2 hg2))
          rcases OwnY.form hown2 with ⟨_, h⟩ | ⟨g2, cp2, rfl, _⟩
          · simp at h
          · have hb2 : Below w.heap.size w w2 := (hbw.alloc hB _).grown hg2 (by simp; omega) HO.out.base
            exact ⟨⟨i + 1, xs ++ [s[i]], g2, cp2, by simp, rfl, by omega, by simp; omega, hb2, Lib.hid ⟨hown2, HN.out⟩⟩, by simp [intOf]; omega⟩

        · have b37 : ((s[i].toNat : Int) == 37) = false := u8_37 _ h37
          clear miss hd1 hdl h37 HI hhit
          go_wp2_with (first | (go_at_call 95; refine (Digit_any _ _).mono ?_; rintro e w9 ⟨rfl, rfl⟩) | (at_builtin; refine app_u8 (qs := [s[i]]) rfl _ _ rfl w.heap.size _ xs rfl (HO.out.below ((Below.refl _ _).alloc (Nat.le_refl _) _)) ⟨wo.heap.size, 0, none⟩ 1 rfl (one_newY _ _ rfl wo) (by omega) (by simp) (by simp; omega) ?_; intro v2 w2 hown2 hg2))
          rcases OwnY.form hown2 with ⟨_, h⟩ | ⟨g2, cp2, rfl, _⟩
          · simp at h
          · have hb2 : Below w.heap.size w w2 := (hbw.alloc hB _).grown hg2 (by simp; omega) HO.out.base
            exact ⟨⟨i + 1, xs ++ [s[i]], g2, cp2, by simp, rfl, by omega, by simp; omega, hb2, Lib.hid ⟨hown2, HN.out⟩⟩, by simp [intOf]; omega⟩

    · obtain rfl : i = s.size := by omega
      have hv : (Value.slice (some ⟨g, 0, none⟩) xs.length cp) ≠ .slice none 0 0 := by intro h; cases h
      have hend : Hid (xs = pdec s.data.toList) := by
        rw [HI.out.2, List.drop_of_length_le (by rw [← Lib.size_eq]; exact Nat.le_refl _)]
        exact Lib.hid (by simp [pdec])
      have hst := own_str HI.out.1 hv
      clear HI hv
      go_wp2
      go_ret
      exact ⟨by rw [← hend.out]; exact rfl, hbw⟩
end Go.Proofs.YtmgkmpbblhkacaaGreatDoor
