/- The reference's Split, based, number, parts, Ends. -/
import Derived.Test.YtmgkmpbblhkacaaGreatDoorR6
import Derived.Test.YtmgkmpbblhkacaaGreatDoorMgP
import Derived.Test.YtmgkmpbblhkacaaGreatDoorMgQ
namespace Go.Proofs.YtmgkmpbblhkacaaGreatDoor
open Go.RowKit
set_option linter.unusedSimpArgs false
set_option linter.unusedVariables false

theorem OwnS.new (w : World) (B : Nat) (hB : B ≤ w.heap.size) : OwnS (w.alloc (.cells #[] 9)) B (.slice (some ⟨w.heap.size, 0, none⟩) 0 0) [] := by
  refine ⟨rfl, Or.inr ⟨w.heap.size, 0, #[], rfl, hB, heap_alloc_new w _, ?_⟩⟩
  simp
theorem split1_cut (c : UInt8) (l : Bs) (f i : Nat) (hf : f ≤ i) (hi : i < l.length) (hc : l[i]? = some c) (hno : c ∉ (l.drop f).take (i - f)) :
    split1 c (l.drop f) = (l.drop f).take (i - f) :: split1 c (l.drop (i + 1)) := by
  have e : l.drop f = (l.drop f).take (i - f) ++ c :: l.drop (i + 1) := by
    have e1 : (l.drop f).drop (i - f) = l.drop i := by rw [List.drop_drop]; congr 1; omega
    have e2 : l.drop i = c :: l.drop (i + 1) := by
      have h := (List.getElem?_eq_some_iff.1 hc).2
      rw [List.drop_eq_getElem_cons hi, h]
    rw [← e2, ← e1, List.take_append_drop]
  conv => lhs; rw [e]
  exact split1_pref c _ _ hno
theorem take_more (l : Bs) (f i : Nat) (x : UInt8) (hf : f ≤ i) (hx : l[i]? = some x) : (l.drop f).take (i + 1 - f) = (l.drop f).take (i - f) ++ [x] := by
  rw [show i + 1 - f = (i - f) + 1 by omega, List.take_add_one, List.getElem?_drop, show f + (i - f) = i by omega, hx]
  rfl
theorem getI (s : ByteArray) (i : Nat) (h : i < s.size) : s.data.toList[i]? = some s[i] := by
  rw [← data_get s i h]
  exact List.getElem?_eq_getElem (by simpa using h)
set_option maxRecDepth 1000000 in
set_option maxHeartbeats 3000000 in
theorem refSplit_any (s : ByteArray) (c : UInt8) (w : World) (hs : s.size ≤ 1000000) :
    Calls Tryz.prog 94 #[.string s, .int .u8 c.toNat] w fun e w' => ∃ (g cp : Nat), e = .returned (.slice (some ⟨g, 0, none⟩) (split1 c s.data.toList).length cp) ∧ OwnS w' w.heap.size (.slice (some ⟨g, 0, none⟩) (split1 c s.data.toList).length cp) (split1 c s.data.toList) ∧ Below w.heap.size w w' := by
  go_enter Tryz.func94, Tryz.ntmps94
  go_wp2
  have hown0 := Lib.hid (OwnS.new w w.heap.size (Nat.le_refl _))
  have hb0 : Below w.heap.size w (w.alloc (.cells #[] 9)) := (Below.refl _ w).alloc (Nat.le_refl _) _
  have HS := Lib.hid hs
  go_loopw [5, 6, 7] (fun v vf vi wr => ∃ (i f : Nat) (ps : List Bs) (g cp : Nat), v = .slice (some ⟨g, 0, none⟩) ps.length cp ∧ vf = .int .i64 f ∧ vi = .int .i64 i ∧ i ≤ s.size + 1 ∧ ps.length ≤ i ∧ (i ≤ s.size → f ≤ i) ∧ f ≤ s.size + 1 ∧ Below w.heap.size w wr ∧ Hid (OwnS wr w.heap.size (.slice (some ⟨g, 0, none⟩) ps.length cp) ps ∧ ((i ≤ s.size ∧ split1 c s.data.toList = ps ++ split1 c (s.data.toList.drop f) ∧ c ∉ (s.data.toList.drop f).take (i - f)) ∨ (i = s.size + 1 ∧ ps = split1 c s.data.toList)))) (fun _ _ vi _ => s.size + 1 - (intOf vi).toNat)
  case atStart => exact ⟨0, 0, [], w.heap.size, 0, rfl, rfl, rfl, by omega, by simp, by omega, by omega, hb0, Lib.hid ⟨hown0.out, Or.inl ⟨by omega, by simp, by simp⟩⟩⟩
  case round =>
    obtain ⟨i, f, ps, g, cp, rfl, rfl, rfl, hi, hpl, hfi, hfs, hbw, HI⟩ := hrel
    obtain ⟨wo, rfl⟩ : ∃ wo : World, wo = wr := ⟨_, rfl⟩
    have hB := hbw.size
    by_cases hlt : i ≤ s.size
    · have hf := hfi hlt
      obtain ⟨hown, hor⟩ := HI.out
      have hin : split1 c s.data.toList = ps ++ split1 c (s.data.toList.drop f) ∧ c ∉ (s.data.toList.drop f).take (i - f) := by
        rcases hor with ⟨_, h⟩ | ⟨h, _⟩
        · exact h
        · omega
      obtain ⟨hsp, hno⟩ := hin
      have HO := Lib.hid hown
      have hx : s.extract f i = strOf ((s.data.toList.drop f).take (i - f)) := by
        rw [extract_strOf, List.drop_take]
      have hcell : ∀ W : World, (W.alloc (.cells #[.string (s.extract f i)] 9)).cell? ⟨W.heap.size, 0, none⟩ = some (.string (strOf ((s.data.toList.drop f).take (i - f)))) := by
        intro W; rw [cells_alloc_new, hx]; rfl
      have HCELL := Lib.hid hcell
      have hpl2 : (ps ++ [(s.data.toList.drop f).take (i - f)]).length ≤ i + 1 := by simp; omega
      by_cases hend : i = s.size
      · have HN : Hid (ps ++ [(s.data.toList.drop f).take (i - f)] = split1 c s.data.toList) := by
          have e : (s.data.toList.drop f).take (i - f) = s.data.toList.drop f := List.take_of_length_le (by rw [List.length_drop, ← Lib.size_eq]; omega)
          rw [e] at hno ⊢
          rw [hsp, split1_only _ _ hno]; exact Lib.hid rfl
        clear hown hor hsp hno hx hcell HI hfi
        subst hend
        go_wp2_with (first | (at_builtin; refine app_str rfl _ _ rfl w.heap.size _ ps ((s.data.toList.drop f).take (s.size - f)) rfl (HO.out.below ((Below.refl _ _).alloc (Nat.le_refl _) _)) ⟨wo.heap.size, 0, none⟩ 1 rfl (HCELL.out _) (by omega) (by simp; omega) ?_; intro v2 w2 hown2 hg2))
        rcases OwnS.form hown2 with ⟨_, h⟩ | ⟨g2, cp2, rfl, _⟩
        · simp at h
        · have hb2 : Below w.heap.size w w2 := (hbw.alloc hB _).grown hg2 (by simp; omega) HO.out.base
          exact ⟨⟨s.size + 1, s.size + 1, _, g2, cp2, rfl, rfl, rfl, by omega, hpl2, fun _ => by omega, by omega, hb2, Lib.hid ⟨hown2, Or.inr ⟨by omega, HN.out⟩⟩⟩, by simp [intOf]⟩
      · have hlt2 : i < s.size := by omega
        have hbe : ((i : Int) == (s.size : Int)) = false := beq_eq_false_iff_ne.2 (by omega)
        have hget := getI s i hlt2
        by_cases hc : s[i] = c
        · have HN : Hid (split1 c s.data.toList = (ps ++ [(s.data.toList.drop f).take (i - f)]) ++ split1 c (s.data.toList.drop (i + 1))) := by
            rw [hsp, split1_cut c s.data.toList f i hf (by rw [← Lib.size_eq]; exact hlt2) (by rw [hget, hc]) hno]
            exact Lib.hid (by simp)
          have hbc := u8_eq _ _ hc
          clear hown hor hsp hno hx hcell HI hfi hget hc hend
          go_wp2_with (first | (at_builtin; refine app_str rfl _ _ rfl w.heap.size _ ps ((s.data.toList.drop f).take (i - f)) rfl (HO.out.below ((Below.refl _ _).alloc (Nat.le_refl _) _)) ⟨wo.heap.size, 0, none⟩ 1 rfl (HCELL.out _) (by omega) (by simp; omega) ?_; intro v2 w2 hown2 hg2))
          rcases OwnS.form hown2 with ⟨_, h⟩ | ⟨g2, cp2, rfl, _⟩
          · simp at h
          · have hb2 : Below w.heap.size w w2 := (hbw.alloc hB _).grown hg2 (by simp; omega) HO.out.base
            exact ⟨⟨i + 1, i + 1, _, g2, cp2, rfl, rfl, rfl, by omega, hpl2, fun _ => by omega, by omega, hb2, Lib.hid ⟨hown2, Or.inl ⟨by omega, HN.out, by simp⟩⟩⟩, by simp [intOf]; omega⟩
        · have HN : Hid (split1 c s.data.toList = ps ++ split1 c (s.data.toList.drop f) ∧ c ∉ (s.data.toList.drop f).take (i + 1 - f)) := by
            refine Lib.hid ⟨hsp, ?_⟩
            rw [take_more _ _ _ _ hf hget]
            intro hm
            rcases List.mem_append.1 hm with hm | hm
            · exact hno hm
            · simp at hm; exact hc hm.symm
          have hbc := u8_ne _ _ hc
          clear hown hor hsp hno hx hcell HI hfi hget hc hend HCELL
          go_wp2
          exact ⟨⟨i + 1, f, ps, g, cp, rfl, rfl, rfl, by omega, by omega, fun _ => by omega, by omega, hbw, Lib.hid ⟨HO.out, Or.inl ⟨by omega, HN.out⟩⟩⟩, by simp [intOf]; omega⟩
    · obtain ⟨hown, hor⟩ := HI.out
      have hps : ps = split1 c s.data.toList := by
        rcases hor with ⟨h, _⟩ | ⟨_, h⟩
        · omega
        · exact h
      have HPS := Lib.hid hps
      have HO := Lib.hid hown
      have hi2 : i = s.size + 1 := by omega
      have hgt : (s.size : Int) < (i : Int) := by omega
      clear hown hor hps HI hfi hi2
      go_wp2
      go_ret
      exact ⟨g, cp, by rw [← HPS.out]; exact rfl, by rw [← HPS.out]; exact HO.out, hbw⟩
/-- A number to a base, at most 2^40; none: there are other bytes. -/
def basedL (b : Nat) : Nat → Bs → Option Nat
  | n, [] => some n
  | n, c :: r => if 0 ≤ valB c ∧ valB c < (b : Int) then basedL b (min (n * b + (valB c).toNat) 1099511627776) r else none
theorem basedL_le (b : Nat) (l : Bs) : ∀ n m, n ≤ 1099511627776 → basedL b n l = some m → m ≤ 1099511627776 := by
  induction l with
  | nil => intro n m hn h; simp [basedL] at h; omega
  | cons c r ih =>
    intro n m hn h
    unfold basedL at h
    split at h
    · exact ih _ m (by omega) h
    · cases h
/-- What a number is handed back as. -/
def numRes2 (r : Option Nat) : Value := .tuple #[.int .u64 (r.getD 0), .bool r.isSome]
set_option maxRecDepth 1000000 in
set_option maxHeartbeats 1000000 in
theorem refBased_any (s : ByteArray) (b : Nat) (w : World) (hs : s.size ≤ 1000000) (h1 : 2 ≤ b) (h16 : b ≤ 16) :
    Calls Tryz.prog 57 #[.string s, .int .u64 b] w fun e w' => e = .returned (numRes2 (basedL b 0 s.data.toList)) ∧ w = w' := by
  go_enter Tryz.func57, Tryz.ntmps57
  go_wp2
  have HS := Lib.hid hs
  go_loop [6, 7] (fun vn vi => ∃ i n : Nat, vn = .int .u64 n ∧ vi = .int .i64 i ∧ i ≤ s.size ∧ n ≤ 1099511627776 ∧ Hid (basedL b 0 s.data.toList = basedL b n (s.data.toList.drop i))) (fun _ vi => s.size - (intOf vi).toNat)
  case atStart => exact ⟨0, 0, rfl, rfl, by omega, by omega, Lib.hid (by simp)⟩
  case round =>
    obtain ⟨i, n, rfl, rfl, hi, hn, HI⟩ := hrel
    by_cases hlt : i < s.size
    · have hd := drop_at s i hlt
      have hge := valB_ge s[i]
      have hl16 := valB_lt s[i]
      have CD := Lib.hid (fun w' : World => Digit_any s[i] w')
      obtain ⟨d, hdv⟩ : ∃ d : Int, valB s[i] = d := ⟨_, rfl⟩
      rw [hdv] at hge hl16 CD
      by_cases hok : 0 ≤ d ∧ d < (b : Int)
      · obtain ⟨h0, hb⟩ := hok
        have HN : Hid (basedL b 0 s.data.toList = basedL b (min (n * b + d.toNat) 1099511627776) (s.data.toList.drop (i + 1))) := by
          rw [HI.out, hd, basedL, hdv, if_pos ⟨h0, hb⟩]; exact Lib.hid rfl
        obtain ⟨k, rfl⟩ : ∃ k : Nat, d = k := ⟨d.toNat, by omega⟩
        have hm1 : n * b ≤ 1099511627776 * 16 := Nat.mul_le_mul hn h16
        obtain ⟨q, hq⟩ : ∃ q, n * b = q := ⟨_, rfl⟩
        have hqI : (n : Int) * (b : Int) = (q : Int) := by rw [← hq]; simp
        have hw1 : (q : Int) ≤ 18446744073709551615 := by omega
        have hk0 : ¬ ((k : Int) < 0) := by omega
        have hkb : k < b := by omega
        clear hd hdv HI
        go_wp2_with (first | (go_at_call 95; refine (CD.out _).mono ?_; rintro e w9 ⟨rfl, rfl⟩))
        refine ⟨⟨i + 1, min (q + k) 1099511627776, ?_, rfl, by omega, by omega, ?_⟩, by simp [intOf]; omega⟩
        · congr 1; omega
        · rw [← hq]; exact HN
      · have HN : Hid (basedL b 0 s.data.toList = none) := by
          rw [HI.out, hd, basedL, hdv, if_neg hok]; exact Lib.hid rfl
        have hways : d < 0 ∨ (0 ≤ d ∧ (b : Int) ≤ d) := by omega
        clear hd hdv HI hok
        rcases hways with h0 | ⟨h0, hb⟩
        · go_wp2_with (first | (go_at_call 95; refine (CD.out _).mono ?_; rintro e w9 ⟨rfl, rfl⟩))
          go_ret2
          exact ⟨by rw [HN.out]; exact rfl, rfl⟩
        · obtain ⟨k, rfl⟩ : ∃ k : Nat, d = k := ⟨d.toNat, by omega⟩
          have hkb : b ≤ k := by omega
          go_wp2_with (first | (go_at_call 95; refine (CD.out _).mono ?_; rintro e w9 ⟨rfl, rfl⟩))
          go_ret2
          exact ⟨by rw [HN.out]; exact rfl, rfl⟩
    · obtain rfl : i = s.size := by omega
      have HN : Hid (basedL b 0 s.data.toList = some n) := by rw [HI.out, drop_end]; exact Lib.hid rfl
      clear HI
      go_wp2
      go_ret2
      exact ⟨by rw [HN.out]; exact rfl, rfl⟩
end Go.Proofs.YtmgkmpbblhkacaaGreatDoor
