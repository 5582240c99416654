/- source.quoted. -/
import Derived.Test.YtmgkmpbblhkacaaGreatDoorMgS
import Derived.Test.YtmgkmpbblhkacaaGreatDoorR10
import Derived.Test.YtmgkmpbblhkacaaGreatDoorBlk
import Derived.Deep.RegionHeld3
namespace Go.Proofs.YtmgkmpbblhkacaaGreatDoor
open Go.RowKit
set_option linter.unusedSimpArgs false
set_option linter.unusedVariables false

/-- A source. -/
structure SrcL where
  kind : Int
  sc : Bs
  ho : Bs
  po : Int
  pa : Bs
  tx : Bs
instance : DecidableEq SrcL := fun a b =>
  if h : a.kind = b.kind ∧ a.sc = b.sc ∧ a.ho = b.ho ∧ a.po = b.po ∧ a.pa = b.pa ∧ a.tx = b.tx then isTrue (by cases a; cases b; simp_all) else isFalse (by rintro rfl; exact h ⟨rfl, rfl, rfl, rfl, rfl, rfl⟩)
def srcVal (x : SrcL) : Value := .agg #[.int .i64 x.kind, .string (strOf x.sc), .string (strOf x.ho), .int .i64 x.po, .string (strOf x.pa), .string (strOf x.tx)]
def sNonce : Bs := [110, 111, 110, 99, 101]
def sSha2 : Bs := [115, 104, 97, 50, 53, 54]
def sSha3 : Bs := [115, 104, 97, 51, 56, 52]
def sSha5 : Bs := [115, 104, 97, 53, 49, 50]
def sNone : Bs := [110, 111, 110, 101]
def sSelf : Bs := [115, 101, 108, 102]
/-- By the word alone. -/
def quotedW (l : Bs) : SrcL × Bool :=
  if l = sNone then (⟨0, [], [], -1, [], []⟩, ofP l wordS)
  else if l = sSelf then (⟨4, [], [], -1, [], []⟩, ofP l wordS)
  else (⟨7, [], [], -1, [], l⟩, ofP l wordS)
/-- source.quoted. -/
def quotedS (s : Bs) : SrcL × Bool :=
  if (Lib.cut s [45]).2.2 = true then
    if lowS (Lib.cut s [45]).1 = sNonce then (⟨5, [], [], -1, [], (Lib.cut s [45]).2.1⟩, valueP (Lib.cut s [45]).2.1)
    else if lowS (Lib.cut s [45]).1 = sSha2 ∨ lowS (Lib.cut s [45]).1 = sSha3 ∨ lowS (Lib.cut s [45]).1 = sSha5 then (⟨6, [], [], -1, [], lowS (Lib.cut s [45]).1 ++ [45] ++ (Lib.cut s [45]).2.1⟩, valueP (Lib.cut s [45]).2.1)
    else quotedW (lowS s)
  else quotedW (lowS s)
theorem cut_len1 (l p : Bs) : (Lib.cut l p).1.length ≤ l.length := by
  unfold Lib.cut
  split <;> simp
  omega
theorem cut_len2 (l p : Bs) : (Lib.cut l p).2.1.length ≤ l.length := by
  unfold Lib.cut
  split <;> simp
set_option maxRecDepth 1000000 in
set_option maxHeartbeats 4000000 in
theorem quoted_any (s : ByteArray) (w : World) (hs : s.size ≤ 100000) (hG : GL w) :
    Calls Tryz.prog 20 #[.string s] w fun e w' => e = .returned (.tuple #[srcVal (quotedS s.data.toList).1, .bool (quotedS s.data.toList).2]) ∧ Below w.heap.size w w' := by
  obtain ⟨q, hq⟩ : ∃ q, quotedS s.data.toList = q := ⟨_, rfl⟩
  obtain ⟨ct, hct⟩ : ∃ ct, Lib.cut s.data.toList [45] = ct := ⟨_, rfl⟩
  have hQ : quotedS s.data.toList = if ct.2.2 = true then (if lowS ct.1 = sNonce then (⟨5, [], [], -1, [], ct.2.1⟩, valueP ct.2.1) else if lowS ct.1 = sSha2 ∨ lowS ct.1 = sSha3 ∨ lowS ct.1 = sSha5 then (⟨6, [], [], -1, [], lowS ct.1 ++ [45] ++ ct.2.1⟩, valueP ct.2.1) else quotedW (lowS s.data.toList)) else quotedW (lowS s.data.toList) := by unfold quotedS; rw [hct]
  have CC : ∀ w', GL w' → Calls Tryz.prog 32 #[.string s, .string ⟨#[45]⟩] w' fun e w'' => e = .returned (.tuple #[.string (strOf ct.1), .string (strOf ct.2.1), .bool ct.2.2]) ∧ Below w'.heap.size w' w'' := by
    intro w' hG'; have := lib_Cut s ⟨#[45]⟩ w' hG' (by omega); rw [show (⟨#[45]⟩ : ByteArray).data.toList = [45] from rfl, hct] at this; exact this
  have HQ := Lib.hid hQ
  have HCC := Lib.hid CC
  have HGL := Lib.hid hG
  have HZ1 : (strOf ct.1).size ≤ 1000000 := by rw [strOf_size]; have := cut_len1 s.data.toList [45]; rw [hct, ← Lib.size_eq] at this; omega
  have HZ2 : (strOf ct.2.1).size ≤ 100000 := by rw [strOf_size]; have := cut_len2 s.data.toList [45]; rw [hct, ← Lib.size_eq] at this; omega
  clear hQ CC hct hG
  obtain ⟨a, v, is⟩ := ct
  simp only at HQ HCC HZ1 HZ2
  obtain ⟨A, hA⟩ : ∃ A, strOf a = A := ⟨_, rfl⟩
  obtain ⟨V, hV⟩ : ∃ V, strOf v = V := ⟨_, rfl⟩
  have hVl : V.data.toList = v := by rw [← hV, strOf_data]
  have hAl : A.data.toList = a := by rw [← hA, strOf_data]
  have hAz : A.size ≤ 1000000 := by rw [← hA]; exact HZ1
  have hVz : V.size ≤ 100000 := by rw [← hV]; exact HZ2
  rw [hA, hV] at HCC
  have HV := Lib.hid hV
  have CV : Hid (∀ w', Calls Tryz.prog 33 #[.string V] w' fun e w'' => e = .returned (.bool (valueP v)) ∧ Below w'.heap.size w' w'') := by
    refine Lib.hid fun w' => ?_
    have := sourceValue_any V w' (by omega)
    rw [hVl] at this
    exact this
  have CL : Hid (∀ w', GL w' → Calls Tryz.prog 23 #[.string A] w' fun e w'' => e = .returned (.string (strOf (lowS a))) ∧ Below w'.heap.size w' w'') := by
    refine Lib.hid fun w' hG' => ?_
    have := lower_any A w' (by omega) hG'
    rw [hAl] at this
    exact this
  clear hA hV hVl hAl
  have hlz := lowS_len _ s.data.toList (Nat.le_refl _)
  rw [← Lib.size_eq] at hlz
  have CLS : Hid (∀ w', GL w' → Calls Tryz.prog 23 #[.string s] w' fun e w'' => e = .returned (.string (strOf (lowS s.data.toList))) ∧ Below w'.heap.size w' w'') := Lib.hid fun w' hG' => lower_any s w' (by omega) hG'
  have COS : Hid (∀ w', Calls Tryz.prog 34 #[.string (strOf (lowS s.data.toList)), .string ⟨wordS.toArray⟩] w' fun e w'' => e = .returned (.bool (ofP (lowS s.data.toList) wordS)) ∧ Below w'.heap.size w' w'') := by
    refine Lib.hid fun w' => ?_
    have := of_word (strOf (lowS s.data.toList)) w' (by rw [strOf_size]; omega)
    rw [strOf_data] at this
    exact this
  have hlz2 := lowS_len _ a (Nat.le_refl _)
  have hLaz : (strOf (lowS a)).size ≤ 4000000 := by rw [strOf_size]; rw [strOf_size] at HZ1; omega
  clear hlz hlz2
  cases is with
  | true =>
    by_cases k1 : lowS a = sNonce
    · have hr : Hid (quotedS s.data.toList = (⟨5, [], [], -1, [], v⟩, valueP v)) := by rw [HQ.out, if_pos rfl, if_pos k1]; exact Lib.hid rfl
      rw [k1] at CL
      obtain ⟨vb, hvb⟩ : ∃ vb, valueP v = vb := ⟨_, rfl⟩
      rw [hvb] at CV hr
      unfold sNonce strOf at CL
      clear k1 hvb hLaz
      go_enter Tryz.func20, Tryz.ntmps20
      go_wp2_with fail
      refine (HCC.out _ ?_).mono ?_
      · exact (HGL.out.alloc _).alloc _
      rintro e w1 ⟨rfl, hb1⟩
      obtain ⟨hA1, hX1, hs1, hbw1⟩ := two_blocks hb1
      have hG1 := HGL.out.below hbw1
      clear hb1
      go_wp2_with fail
      refine (CL.out _ hG1).mono ?_
      rintro e w2 ⟨rfl, hb2⟩
      have hA2 := block_past hA1 hb2
      have hX2 := block_past hX1 hb2
      have hbw2 := hbw1.trans (hb2.mono (by omega))
      have hG2 := HGL.out.below hbw2
      have hs2 := hb2.size
      clear hb2 hA1 hX1
      obtain ⟨g0, g1, g2, g3, g4, g5⟩ := six_free hX2
      obtain ⟨u0, u1, u2, u3, u4, u5⟩ := six_cells hX2
      go_wp2_with fail
      obtain ⟨w5, hw5⟩ : ∃ w5, ((w2.setCell ⟨w.heap.size + 1, 0, none⟩ (.int .i64 5)).setCell ⟨w.heap.size + 1, 5, none⟩ (.string V)) = w5 := ⟨_, rfl⟩
      have hX5 : w5.heap[w.heap.size + 1]? = some (.cells #[.int .i64 5, .string ⟨#[]⟩, .string ⟨#[]⟩, .int .i64 (-1), .string ⟨#[]⟩, .string V] 24 (0, 0)) := by rw [← hw5]; exact heap_setCell_at (heap_setCell_at hX2 0 _) 5 _
      have hA5 := block_past_set (c := w.heap.size + 1) (k := 5) (v := .string V) (block_past_set (c := w.heap.size + 1) (k := 0) (v := .int .i64 5) hA2 (by omega)) (by omega)
      have hbw5 : Below w.heap.size w w5 := by rw [← hw5]; exact (hbw2.setCell (p := ⟨w.heap.size + 1, 0, none⟩) (Nat.le_succ _) _).setCell (p := ⟨w.heap.size + 1, 5, none⟩) (Nat.le_succ _) _
      rw [hw5] at hA5 ⊢
      obtain ⟨u0, u1, u2, u3, u4, u5⟩ := six_cells hX5
      obtain ⟨f0, f1, f2, f3, f4, f5⟩ := six_free hA5
      obtain ⟨x0, x1, x2, x3, x4, x5⟩ := six_cells hA5
      clear hw5
      go_region_with (go_at_call 33; refine (CV.out _).mono ?_; rintro e w6 ⟨rfl, hb6⟩; have hX6 := block_past_drew hX5 hb6; have hA6 := block_past_drew hA5 hb6; have hu := six_cells hX6; have hf := six_free hA6; have hx := six_cells hA6; obtain ⟨i0, i1, i2, i3, i4, i5⟩ := hu; obtain ⟨j0, j1, j2, j3, j4, j5⟩ := hf; obtain ⟨l0, l1, l2, l3, l4, l5⟩ := hx)
      all_goals
        have hbw7 := hbw5.trans ((below_past_drew hb6).mono hbw5.size)
        clear hb6 hX6 hA6 hX5 hA5 hbw5
        go_wp2
        exact bodyPost_ret (v := .tuple #[.agg #[.int .i64 5, .string ⟨#[]⟩, .string ⟨#[]⟩, .int .i64 (-1), .string ⟨#[]⟩, .string V], .bool vb]) (by simp [results, Tryz.results20, go_sem, l0, l1, l2, l3, l4, l5]) rfl ⟨by rw [hr.out, ← HV.out]; exact rfl, (((((hbw7.setCell (Nat.le_refl _) _).setCell (Nat.le_refl _) _).setCell (Nat.le_refl _) _).setCell (Nat.le_refl _) _).setCell (Nat.le_refl _) _).setCell (Nat.le_refl _) _⟩
    · by_cases k2 : lowS a = sSha2
      · have hr : Hid (quotedS s.data.toList = (⟨6, [], [], -1, [], sSha2 ++ [45] ++ v⟩, valueP v)) := by rw [HQ.out, if_pos rfl, if_neg k1, if_pos (Or.inl k2), k2]; exact Lib.hid rfl
        rw [k2] at CL
        obtain ⟨vb, hvb⟩ : ∃ vb, valueP v = vb := ⟨_, rfl⟩
        rw [hvb] at CV hr
        unfold sSha2 strOf at CL
        clear k1 k2 hvb hLaz
        have hov : ¬ 9223372036854775807 < 7 + V.size := by omega
        have HXX : Hid ((⟨#[115, 104, 97, 50, 53, 54]⟩ : ByteArray) ++ ⟨#[45]⟩ ++ V = strOf (sSha2 ++ [45] ++ v)) := by rw [← HV.out, strOf_append, strOf_append]; exact Lib.hid rfl
        go_enter Tryz.func20, Tryz.ntmps20
        go_wp2_with fail
        refine (HCC.out _ ?_).mono ?_
        · exact (HGL.out.alloc _).alloc _
        rintro e w1 ⟨rfl, hb1⟩
        obtain ⟨hA1, hX1, hs1, hbw1⟩ := two_blocks hb1
        have hG1 := HGL.out.below hbw1
        clear hb1
        go_wp2_with fail
        refine (CL.out _ hG1).mono ?_
        rintro e w2 ⟨rfl, hb2⟩
        have hA2 := block_past hA1 hb2
        have hX2 := block_past hX1 hb2
        have hbw2 := hbw1.trans (hb2.mono (by omega))
        have hG2 := HGL.out.below hbw2
        have hs2 := hb2.size
        clear hb2 hA1 hX1
        obtain ⟨g0, g1, g2, g3, g4, g5⟩ := six_free hX2
        obtain ⟨u0, u1, u2, u3, u4, u5⟩ := six_cells hX2
        go_wp2_with fail
        obtain ⟨w5, hw5⟩ : ∃ w5, ((w2.setCell ⟨w.heap.size + 1, 0, none⟩ (.int .i64 6)).setCell ⟨w.heap.size + 1, 5, none⟩ (.string ((⟨#[115, 104, 97, 50, 53, 54]⟩ : ByteArray) ++ ⟨#[45]⟩ ++ V))) = w5 := ⟨_, rfl⟩
        have hX5 : w5.heap[w.heap.size + 1]? = some (.cells #[.int .i64 6, .string ⟨#[]⟩, .string ⟨#[]⟩, .int .i64 (-1), .string ⟨#[]⟩, .string ((⟨#[115, 104, 97, 50, 53, 54]⟩ : ByteArray) ++ ⟨#[45]⟩ ++ V)] 24 (0, 0)) := by rw [← hw5]; exact heap_setCell_at (heap_setCell_at hX2 0 _) 5 _
        have hA5 := block_past_set (c := w.heap.size + 1) (k := 5) (v := .string ((⟨#[115, 104, 97, 50, 53, 54]⟩ : ByteArray) ++ ⟨#[45]⟩ ++ V)) (block_past_set (c := w.heap.size + 1) (k := 0) (v := .int .i64 6) hA2 (by omega)) (by omega)
        have hbw5 : Below w.heap.size w w5 := by rw [← hw5]; exact (hbw2.setCell (p := ⟨w.heap.size + 1, 0, none⟩) (Nat.le_succ _) _).setCell (p := ⟨w.heap.size + 1, 5, none⟩) (Nat.le_succ _) _
        rw [hw5] at hA5 ⊢
        obtain ⟨u0, u1, u2, u3, u4, u5⟩ := six_cells hX5
        obtain ⟨f0, f1, f2, f3, f4, f5⟩ := six_free hA5
        obtain ⟨x0, x1, x2, x3, x4, x5⟩ := six_cells hA5
        clear hw5
        go_region_with (go_at_call 33; refine (CV.out _).mono ?_; rintro e w6 ⟨rfl, hb6⟩; have hX6 := block_past_drew hX5 hb6; have hA6 := block_past_drew hA5 hb6; have hu := six_cells hX6; have hf := six_free hA6; have hx := six_cells hA6; obtain ⟨i0, i1, i2, i3, i4, i5⟩ := hu; obtain ⟨j0, j1, j2, j3, j4, j5⟩ := hf; obtain ⟨l0, l1, l2, l3, l4, l5⟩ := hx)
        all_goals
          have hbw7 := hbw5.trans ((below_past_drew hb6).mono hbw5.size)
          clear hb6 hX6 hA6 hX5 hA5 hbw5
          go_wp2
          exact bodyPost_ret (v := .tuple #[.agg #[.int .i64 6, .string ⟨#[]⟩, .string ⟨#[]⟩, .int .i64 (-1), .string ⟨#[]⟩, .string ((⟨#[115, 104, 97, 50, 53, 54]⟩ : ByteArray) ++ ⟨#[45]⟩ ++ V)], .bool vb]) (by simp [results, Tryz.results20, go_sem, l0, l1, l2, l3, l4, l5]) rfl ⟨by rw [hr.out, HXX.out]; exact rfl, (((((hbw7.setCell (Nat.le_refl _) _).setCell (Nat.le_refl _) _).setCell (Nat.le_refl _) _).setCell (Nat.le_refl _) _).setCell (Nat.le_refl _) _).setCell (Nat.le_refl _) _⟩
      · by_cases k3 : lowS a = sSha3
        · have hr : Hid (quotedS s.data.toList = (⟨6, [], [], -1, [], sSha3 ++ [45] ++ v⟩, valueP v)) := by rw [HQ.out, if_pos rfl, if_neg k1, if_pos (Or.inr (Or.inl k3)), k3]; exact Lib.hid rfl
          rw [k3] at CL
          obtain ⟨vb, hvb⟩ : ∃ vb, valueP v = vb := ⟨_, rfl⟩
          rw [hvb] at CV hr
          unfold sSha3 strOf at CL
          clear k1 k2 k3 hvb hLaz
          have hov : ¬ 9223372036854775807 < 7 + V.size := by omega
          have HXX : Hid ((⟨#[115, 104, 97, 51, 56, 52]⟩ : ByteArray) ++ ⟨#[45]⟩ ++ V = strOf (sSha3 ++ [45] ++ v)) := by rw [← HV.out, strOf_append, strOf_append]; exact Lib.hid rfl
          go_enter Tryz.func20, Tryz.ntmps20
          go_wp2_with fail
          refine (HCC.out _ ?_).mono ?_
          · exact (HGL.out.alloc _).alloc _
          rintro e w1 ⟨rfl, hb1⟩
          obtain ⟨hA1, hX1, hs1, hbw1⟩ := two_blocks hb1
          have hG1 := HGL.out.below hbw1
          clear hb1
          go_wp2_with fail
          refine (CL.out _ hG1).mono ?_
          rintro e w2 ⟨rfl, hb2⟩
          have hA2 := block_past hA1 hb2
          have hX2 := block_past hX1 hb2
          have hbw2 := hbw1.trans (hb2.mono (by omega))
          have hG2 := HGL.out.below hbw2
          have hs2 := hb2.size
          clear hb2 hA1 hX1
          obtain ⟨g0, g1, g2, g3, g4, g5⟩ := six_free hX2
          obtain ⟨u0, u1, u2, u3, u4, u5⟩ := six_cells hX2
          go_wp2_with fail
          obtain ⟨w5, hw5⟩ : ∃ w5, ((w2.setCell ⟨w.heap.size + 1, 0, none⟩ (.int .i64 6)).setCell ⟨w.heap.size + 1, 5, none⟩ (.string ((⟨#[115, 104, 97, 51, 56, 52]⟩ : ByteArray) ++ ⟨#[45]⟩ ++ V))) = w5 := ⟨_, rfl⟩
          have hX5 : w5.heap[w.heap.size + 1]? = some (.cells #[.int .i64 6, .string ⟨#[]⟩, .string ⟨#[]⟩, .int .i64 (-1), .string ⟨#[]⟩, .string ((⟨#[115, 104, 97, 51, 56, 52]⟩ : ByteArray) ++ ⟨#[45]⟩ ++ V)] 24 (0, 0)) := by rw [← hw5]; exact heap_setCell_at (heap_setCell_at hX2 0 _) 5 _
          have hA5 := block_past_set (c := w.heap.size + 1) (k := 5) (v := .string ((⟨#[115, 104, 97, 51, 56, 52]⟩ : ByteArray) ++ ⟨#[45]⟩ ++ V)) (block_past_set (c := w.heap.size + 1) (k := 0) (v := .int .i64 6) hA2 (by omega)) (by omega)
          have hbw5 : Below w.heap.size w w5 := by rw [← hw5]; exact (hbw2.setCell (p := ⟨w.heap.size + 1, 0, none⟩) (Nat.le_succ _) _).setCell (p := ⟨w.heap.size + 1, 5, none⟩) (Nat.le_succ _) _
          rw [hw5] at hA5 ⊢
          obtain ⟨u0, u1, u2, u3, u4, u5⟩ := six_cells hX5
          obtain ⟨f0, f1, f2, f3, f4, f5⟩ := six_free hA5
          obtain ⟨x0, x1, x2, x3, x4, x5⟩ := six_cells hA5
          clear hw5
          go_region_with (go_at_call 33; refine (CV.out _).mono ?_; rintro e w6 ⟨rfl, hb6⟩; have hX6 := block_past_drew hX5 hb6; have hA6 := block_past_drew hA5 hb6; have hu := six_cells hX6; have hf := six_free hA6; have hx := six_cells hA6; obtain ⟨i0, i1, i2, i3, i4, i5⟩ := hu; obtain ⟨j0, j1, j2, j3, j4, j5⟩ := hf; obtain ⟨l0, l1, l2, l3, l4, l5⟩ := hx)
          all_goals
            have hbw7 := hbw5.trans ((below_past_drew hb6).mono hbw5.size)
            clear hb6 hX6 hA6 hX5 hA5 hbw5
            go_wp2
            exact bodyPost_ret (v := .tuple #[.agg #[.int .i64 6, .string ⟨#[]⟩, .string ⟨#[]⟩, .int .i64 (-1), .string ⟨#[]⟩, .string ((⟨#[115, 104, 97, 51, 56, 52]⟩ : ByteArray) ++ ⟨#[45]⟩ ++ V)], .bool vb]) (by simp [results, Tryz.results20, go_sem, l0, l1, l2, l3, l4, l5]) rfl ⟨by rw [hr.out, HXX.out]; exact rfl, (((((hbw7.setCell (Nat.le_refl _) _).setCell (Nat.le_refl _) _).setCell (Nat.le_refl _) _).setCell (Nat.le_refl _) _).setCell (Nat.le_refl _) _).setCell (Nat.le_refl _) _⟩
        · by_cases k4 : lowS a = sSha5
          · have hr : Hid (quotedS s.data.toList = (⟨6, [], [], -1, [], sSha5 ++ [45] ++ v⟩, valueP v)) := by rw [HQ.out, if_pos rfl, if_neg k1, if_pos (Or.inr (Or.inr k4)), k4]; exact Lib.hid rfl
            rw [k4] at CL
            obtain ⟨vb, hvb⟩ : ∃ vb, valueP v = vb := ⟨_, rfl⟩
            rw [hvb] at CV hr
            unfold sSha5 strOf at CL
            clear k1 k2 k3 k4 hvb hLaz
            have hov : ¬ 9223372036854775807 < 7 + V.size := by omega
            have HXX : Hid ((⟨#[115, 104, 97, 53, 49, 50]⟩ : ByteArray) ++ ⟨#[45]⟩ ++ V = strOf (sSha5 ++ [45] ++ v)) := by rw [← HV.out, strOf_append, strOf_append]; exact Lib.hid rfl
            go_enter Tryz.func20, Tryz.ntmps20
            go_wp2_with fail
            refine (HCC.out _ ?_).mono ?_
            · exact (HGL.out.alloc _).alloc _
            rintro e w1 ⟨rfl, hb1⟩
            obtain ⟨hA1, hX1, hs1, hbw1⟩ := two_blocks hb1
            have hG1 := HGL.out.below hbw1
            clear hb1
            go_wp2_with fail
            refine (CL.out _ hG1).mono ?_
            rintro e w2 ⟨rfl, hb2⟩
            have hA2 := block_past hA1 hb2
            have hX2 := block_past hX1 hb2
            have hbw2 := hbw1.trans (hb2.mono (by omega))
            have hG2 := HGL.out.below hbw2
            have hs2 := hb2.size
            clear hb2 hA1 hX1
            obtain ⟨g0, g1, g2, g3, g4, g5⟩ := six_free hX2
            obtain ⟨u0, u1, u2, u3, u4, u5⟩ := six_cells hX2
            go_wp2_with fail
            obtain ⟨w5, hw5⟩ : ∃ w5, ((w2.setCell ⟨w.heap.size + 1, 0, none⟩ (.int .i64 6)).setCell ⟨w.heap.size + 1, 5, none⟩ (.string ((⟨#[115, 104, 97, 53, 49, 50]⟩ : ByteArray) ++ ⟨#[45]⟩ ++ V))) = w5 := ⟨_, rfl⟩
            have hX5 : w5.heap[w.heap.size + 1]? = some (.cells #[.int .i64 6, .string ⟨#[]⟩, .string ⟨#[]⟩, .int .i64 (-1), .string ⟨#[]⟩, .string ((⟨#[115, 104, 97, 53, 49, 50]⟩ : ByteArray) ++ ⟨#[45]⟩ ++ V)] 24 (0, 0)) := by rw [← hw5]; exact heap_setCell_at (heap_setCell_at hX2 0 _) 5 _
            have hA5 := block_past_set (c := w.heap.size + 1) (k := 5) (v := .string ((⟨#[115, 104, 97, 53, 49, 50]⟩ : ByteArray) ++ ⟨#[45]⟩ ++ V)) (block_past_set (c := w.heap.size + 1) (k := 0) (v := .int .i64 6) hA2 (by omega)) (by omega)
            have hbw5 : Below w.heap.size w w5 := by rw [← hw5]; exact (hbw2.setCell (p := ⟨w.heap.size + 1, 0, none⟩) (Nat.le_succ _) _).setCell (p := ⟨w.heap.size + 1, 5, none⟩) (Nat.le_succ _) _
            rw [hw5] at hA5 ⊢
            obtain ⟨u0, u1, u2, u3, u4, u5⟩ := six_cells hX5
            obtain ⟨f0, f1, f2, f3, f4, f5⟩ := six_free hA5
            obtain ⟨x0, x1, x2, x3, x4, x5⟩ := six_cells hA5
            clear hw5
            go_region_with (go_at_call 33; refine (CV.out _).mono ?_; rintro e w6 ⟨rfl, hb6⟩; have hX6 := block_past_drew hX5 hb6; have hA6 := block_past_drew hA5 hb6; have hu := six_cells hX6; have hf := six_free hA6; have hx := six_cells hA6; obtain ⟨i0, i1, i2, i3, i4, i5⟩ := hu; obtain ⟨j0, j1, j2, j3, j4, j5⟩ := hf; obtain ⟨l0, l1, l2, l3, l4, l5⟩ := hx)
            all_goals
              have hbw7 := hbw5.trans ((below_past_drew hb6).mono hbw5.size)
              clear hb6 hX6 hA6 hX5 hA5 hbw5
              go_wp2
              exact bodyPost_ret (v := .tuple #[.agg #[.int .i64 6, .string ⟨#[]⟩, .string ⟨#[]⟩, .int .i64 (-1), .string ⟨#[]⟩, .string ((⟨#[115, 104, 97, 53, 49, 50]⟩ : ByteArray) ++ ⟨#[45]⟩ ++ V)], .bool vb]) (by simp [results, Tryz.results20, go_sem, l0, l1, l2, l3, l4, l5]) rfl ⟨by rw [hr.out, HXX.out]; exact rfl, (((((hbw7.setCell (Nat.le_refl _) _).setCell (Nat.le_refl _) _).setCell (Nat.le_refl _) _).setCell (Nat.le_refl _) _).setCell (Nat.le_refl _) _).setCell (Nat.le_refl _) _⟩
          · have HQ2 : Hid (quotedS s.data.toList = quotedW (lowS s.data.toList)) := by rw [HQ.out, if_pos rfl, if_neg k1, if_neg (by rintro (h | h | h); exact k2 h; exact k3 h; exact k4 h)]; exact Lib.hid rfl
            obtain ⟨LA, hLA⟩ : ∃ LA, strOf (lowS a) = LA := ⟨_, rfl⟩
            have hLAl : LA.data.toList = lowS a := by rw [← hLA, strOf_data]
            rw [hLA] at CL
            have d1 := str_ne LA sNonce (by rw [hLAl]; exact k1)
            have d2 := str_ne LA sSha2 (by rw [hLAl]; exact k2)
            have d3 := str_ne LA sSha3 (by rw [hLAl]; exact k3)
            have d4 := str_ne LA sSha5 (by rw [hLAl]; exact k4)
            unfold sNonce at d1
            unfold sSha2 at d2
            unfold sSha3 at d3
            unfold sSha5 at d4
            clear k1 k2 k3 k4 hLAl hLA hLaz
            obtain ⟨vb, hvb⟩ : ∃ vb, ofP (lowS s.data.toList) wordS = vb := ⟨_, rfl⟩
            rw [hvb] at COS
            by_cases m1 : lowS s.data.toList = sNone
            · have hr : Hid (quotedS s.data.toList = (⟨0, [], [], -1, [], []⟩, vb)) := by rw [HQ2.out]; unfold quotedW; rw [if_pos m1, hvb]; exact Lib.hid rfl
              rw [m1] at CLS COS
              unfold sNone strOf at CLS COS
              clear hvb m1
              go_enter Tryz.func20, Tryz.ntmps20
              go_wp2_with fail
              refine (HCC.out _ ?_).mono ?_
              · exact (HGL.out.alloc _).alloc _
              rintro e w1 ⟨rfl, hb1⟩
              obtain ⟨hA1, hX1, hs1, hbw1⟩ := two_blocks hb1
              have hG1 := HGL.out.below hbw1
              clear hb1
              go_wp2_with fail
              refine (CL.out _ hG1).mono ?_
              rintro e w2 ⟨rfl, hb2⟩
              have hA2 := block_past hA1 hb2
              have hX2 := block_past hX1 hb2
              have hbw2 := hbw1.trans (hb2.mono (by omega))
              have hG2 := HGL.out.below hbw2
              have hs2 := hb2.size
              clear hb2 hA1 hX1
              go_wp2_with fail
              refine (CLS.out _ hG2).mono ?_
              rintro e w3 ⟨rfl, hb3⟩
              have hA3 := block_past hA2 hb3
              have hX3 := block_past hX2 hb3
              have hbw3 := hbw2.trans (hb3.mono (by omega))
              clear hb3 hA2 hX2
              obtain ⟨g0, g1, g2, g3, g4, g5⟩ := six_free hX3
              obtain ⟨u0, u1, u2, u3, u4, u5⟩ := six_cells hX3
              go_wp2_with fail
              obtain ⟨w5, hw5⟩ : ∃ w5, (w3.setCell ⟨w.heap.size + 1, 0, none⟩ (.int .i64 0)) = w5 := ⟨_, rfl⟩
              have hX5 : w5.heap[w.heap.size + 1]? = some (.cells #[.int .i64 0, .string ⟨#[]⟩, .string ⟨#[]⟩, .int .i64 (-1), .string ⟨#[]⟩, .string ⟨#[]⟩] 24 (0, 0)) := by rw [← hw5]; exact heap_setCell_at hX3 0 _
              have hA5 := block_past_set (c := w.heap.size + 1) (k := 0) (v := .int .i64 0) hA3 (by omega)
              have hbw5 : Below w.heap.size w w5 := by rw [← hw5]; exact hbw3.setCell (p := ⟨w.heap.size + 1, 0, none⟩) (Nat.le_succ _) _
              rw [hw5] at hA5 ⊢
              obtain ⟨u0, u1, u2, u3, u4, u5⟩ := six_cells hX5
              obtain ⟨f0, f1, f2, f3, f4, f5⟩ := six_free hA5
              obtain ⟨x0, x1, x2, x3, x4, x5⟩ := six_cells hA5
              clear hw5
              go_region_with (go_at_call 34; refine (COS.out _).mono ?_; rintro e w6 ⟨rfl, hb6⟩; have hX6 := block_past_drew hX5 hb6; have hA6 := block_past_drew hA5 hb6; have hu := six_cells hX6; have hf := six_free hA6; have hx := six_cells hA6; obtain ⟨i0, i1, i2, i3, i4, i5⟩ := hu; obtain ⟨j0, j1, j2, j3, j4, j5⟩ := hf; obtain ⟨l0, l1, l2, l3, l4, l5⟩ := hx)
              all_goals
                have hbw7 := hbw5.trans ((below_past_drew hb6).mono hbw5.size)
                clear hb6 hX6 hA6 hX5 hA5 hbw5
                go_wp2
                exact bodyPost_ret (v := .tuple #[.agg #[.int .i64 0, .string ⟨#[]⟩, .string ⟨#[]⟩, .int .i64 (-1), .string ⟨#[]⟩, .string ⟨#[]⟩], .bool vb]) (by simp [results, Tryz.results20, go_sem, l0, l1, l2, l3, l4, l5]) rfl ⟨by rw [hr.out]; exact rfl, (((((hbw7.setCell (Nat.le_refl _) _).setCell (Nat.le_refl _) _).setCell (Nat.le_refl _) _).setCell (Nat.le_refl _) _).setCell (Nat.le_refl _) _).setCell (Nat.le_refl _) _⟩
            · by_cases m2 : lowS s.data.toList = sSelf
              · have hr : Hid (quotedS s.data.toList = (⟨4, [], [], -1, [], []⟩, vb)) := by rw [HQ2.out]; unfold quotedW; rw [if_neg m1, if_pos m2, hvb]; exact Lib.hid rfl
                rw [m2] at CLS COS
                unfold sSelf strOf at CLS COS
                clear hvb m1 m2
                go_enter Tryz.func20, Tryz.ntmps20
                go_wp2_with fail
                refine (HCC.out _ ?_).mono ?_
                · exact (HGL.out.alloc _).alloc _
                rintro e w1 ⟨rfl, hb1⟩
                obtain ⟨hA1, hX1, hs1, hbw1⟩ := two_blocks hb1
                have hG1 := HGL.out.below hbw1
                clear hb1
                go_wp2_with fail
                refine (CL.out _ hG1).mono ?_
                rintro e w2 ⟨rfl, hb2⟩
                have hA2 := block_past hA1 hb2
                have hX2 := block_past hX1 hb2
                have hbw2 := hbw1.trans (hb2.mono (by omega))
                have hG2 := HGL.out.below hbw2
                have hs2 := hb2.size
                clear hb2 hA1 hX1
                go_wp2_with fail
                refine (CLS.out _ hG2).mono ?_
                rintro e w3 ⟨rfl, hb3⟩
                have hA3 := block_past hA2 hb3
                have hX3 := block_past hX2 hb3
                have hbw3 := hbw2.trans (hb3.mono (by omega))
                clear hb3 hA2 hX2
                obtain ⟨g0, g1, g2, g3, g4, g5⟩ := six_free hX3
                obtain ⟨u0, u1, u2, u3, u4, u5⟩ := six_cells hX3
                go_wp2_with fail
                obtain ⟨w5, hw5⟩ : ∃ w5, (w3.setCell ⟨w.heap.size + 1, 0, none⟩ (.int .i64 4)) = w5 := ⟨_, rfl⟩
                have hX5 : w5.heap[w.heap.size + 1]? = some (.cells #[.int .i64 4, .string ⟨#[]⟩, .string ⟨#[]⟩, .int .i64 (-1), .string ⟨#[]⟩, .string ⟨#[]⟩] 24 (0, 0)) := by rw [← hw5]; exact heap_setCell_at hX3 0 _
                have hA5 := block_past_set (c := w.heap.size + 1) (k := 0) (v := .int .i64 4) hA3 (by omega)
                have hbw5 : Below w.heap.size w w5 := by rw [← hw5]; exact hbw3.setCell (p := ⟨w.heap.size + 1, 0, none⟩) (Nat.le_succ _) _
                rw [hw5] at hA5 ⊢
                obtain ⟨u0, u1, u2, u3, u4, u5⟩ := six_cells hX5
                obtain ⟨f0, f1, f2, f3, f4, f5⟩ := six_free hA5
                obtain ⟨x0, x1, x2, x3, x4, x5⟩ := six_cells hA5
                clear hw5
                go_region_with (go_at_call 34; refine (COS.out _).mono ?_; rintro e w6 ⟨rfl, hb6⟩; have hX6 := block_past_drew hX5 hb6; have hA6 := block_past_drew hA5 hb6; have hu := six_cells hX6; have hf := six_free hA6; have hx := six_cells hA6; obtain ⟨i0, i1, i2, i3, i4, i5⟩ := hu; obtain ⟨j0, j1, j2, j3, j4, j5⟩ := hf; obtain ⟨l0, l1, l2, l3, l4, l5⟩ := hx)
                all_goals
                  have hbw7 := hbw5.trans ((below_past_drew hb6).mono hbw5.size)
                  clear hb6 hX6 hA6 hX5 hA5 hbw5
                  go_wp2
                  exact bodyPost_ret (v := .tuple #[.agg #[.int .i64 4, .string ⟨#[]⟩, .string ⟨#[]⟩, .int .i64 (-1), .string ⟨#[]⟩, .string ⟨#[]⟩], .bool vb]) (by simp [results, Tryz.results20, go_sem, l0, l1, l2, l3, l4, l5]) rfl ⟨by rw [hr.out]; exact rfl, (((((hbw7.setCell (Nat.le_refl _) _).setCell (Nat.le_refl _) _).setCell (Nat.le_refl _) _).setCell (Nat.le_refl _) _).setCell (Nat.le_refl _) _).setCell (Nat.le_refl _) _⟩
              · have hr : Hid (quotedS s.data.toList = (⟨7, [], [], -1, [], lowS s.data.toList⟩, vb)) := by rw [HQ2.out]; unfold quotedW; rw [if_neg m1, if_neg m2, hvb]; exact Lib.hid rfl
                obtain ⟨LS, hLS⟩ : ∃ LS, strOf (lowS s.data.toList) = LS := ⟨_, rfl⟩
                have hLl : LS.data.toList = lowS s.data.toList := by rw [← hLS, strOf_data]
                rw [hLS] at CLS COS
                have c1 := str_ne LS sNone (by rw [hLl]; exact m1)
                have c2 := str_ne LS sSelf (by rw [hLl]; exact m2)
                unfold sNone at c1
                unfold sSelf at c2
                have HLS := Lib.hid hLS
                clear hvb m1 m2 hLl hLS
                go_enter Tryz.func20, Tryz.ntmps20
                go_wp2_with fail
                refine (HCC.out _ ?_).mono ?_
                · exact (HGL.out.alloc _).alloc _
                rintro e w1 ⟨rfl, hb1⟩
                obtain ⟨hA1, hX1, hs1, hbw1⟩ := two_blocks hb1
                have hG1 := HGL.out.below hbw1
                clear hb1
                go_wp2_with fail
                refine (CL.out _ hG1).mono ?_
                rintro e w2 ⟨rfl, hb2⟩
                have hA2 := block_past hA1 hb2
                have hX2 := block_past hX1 hb2
                have hbw2 := hbw1.trans (hb2.mono (by omega))
                have hG2 := HGL.out.below hbw2
                have hs2 := hb2.size
                clear hb2 hA1 hX1
                go_wp2_with fail
                refine (CLS.out _ hG2).mono ?_
                rintro e w3 ⟨rfl, hb3⟩
                have hA3 := block_past hA2 hb3
                have hX3 := block_past hX2 hb3
                have hbw3 := hbw2.trans (hb3.mono (by omega))
                clear hb3 hA2 hX2
                obtain ⟨g0, g1, g2, g3, g4, g5⟩ := six_free hX3
                obtain ⟨u0, u1, u2, u3, u4, u5⟩ := six_cells hX3
                go_wp2_with fail
                obtain ⟨w5, hw5⟩ : ∃ w5, ((w3.setCell ⟨w.heap.size + 1, 0, none⟩ (.int .i64 7)).setCell ⟨w.heap.size + 1, 5, none⟩ (.string LS)) = w5 := ⟨_, rfl⟩
                have hX5 : w5.heap[w.heap.size + 1]? = some (.cells #[.int .i64 7, .string ⟨#[]⟩, .string ⟨#[]⟩, .int .i64 (-1), .string ⟨#[]⟩, .string LS] 24 (0, 0)) := by rw [← hw5]; exact heap_setCell_at (heap_setCell_at hX3 0 _) 5 _
                have hA5 := block_past_set (c := w.heap.size + 1) (k := 5) (v := .string LS) (block_past_set (c := w.heap.size + 1) (k := 0) (v := .int .i64 7) hA3 (by omega)) (by omega)
                have hbw5 : Below w.heap.size w w5 := by rw [← hw5]; exact (hbw3.setCell (p := ⟨w.heap.size + 1, 0, none⟩) (Nat.le_succ _) _).setCell (p := ⟨w.heap.size + 1, 5, none⟩) (Nat.le_succ _) _
                rw [hw5] at hA5 ⊢
                obtain ⟨u0, u1, u2, u3, u4, u5⟩ := six_cells hX5
                obtain ⟨f0, f1, f2, f3, f4, f5⟩ := six_free hA5
                obtain ⟨x0, x1, x2, x3, x4, x5⟩ := six_cells hA5
                clear hw5
                go_region_with (go_at_call 34; refine (COS.out _).mono ?_; rintro e w6 ⟨rfl, hb6⟩; have hX6 := block_past_drew hX5 hb6; have hA6 := block_past_drew hA5 hb6; have hu := six_cells hX6; have hf := six_free hA6; have hx := six_cells hA6; obtain ⟨i0, i1, i2, i3, i4, i5⟩ := hu; obtain ⟨j0, j1, j2, j3, j4, j5⟩ := hf; obtain ⟨l0, l1, l2, l3, l4, l5⟩ := hx)
                all_goals
                  have hbw7 := hbw5.trans ((below_past_drew hb6).mono hbw5.size)
                  clear hb6 hX6 hA6 hX5 hA5 hbw5
                  go_wp2
                  exact bodyPost_ret (v := .tuple #[.agg #[.int .i64 7, .string ⟨#[]⟩, .string ⟨#[]⟩, .int .i64 (-1), .string ⟨#[]⟩, .string LS], .bool vb]) (by simp [results, Tryz.results20, go_sem, l0, l1, l2, l3, l4, l5]) rfl ⟨by rw [hr.out, ← HLS.out]; exact rfl, (((((hbw7.setCell (Nat.le_refl _) _).setCell (Nat.le_refl _) _).setCell (Nat.le_refl _) _).setCell (Nat.le_refl _) _).setCell (Nat.le_refl _) _).setCell (Nat.le_refl _) _⟩
  | false =>
    have HQ2 : Hid (quotedS s.data.toList = quotedW (lowS s.data.toList)) := by rw [HQ.out, if_neg (by simp)]; exact Lib.hid rfl
    clear hLaz
    obtain ⟨vb, hvb⟩ : ∃ vb, ofP (lowS s.data.toList) wordS = vb := ⟨_, rfl⟩
    rw [hvb] at COS
    by_cases m1 : lowS s.data.toList = sNone
    · have hr : Hid (quotedS s.data.toList = (⟨0, [], [], -1, [], []⟩, vb)) := by rw [HQ2.out]; unfold quotedW; rw [if_pos m1, hvb]; exact Lib.hid rfl
      rw [m1] at CLS COS
      unfold sNone strOf at CLS COS
      clear hvb m1
      go_enter Tryz.func20, Tryz.ntmps20
      go_wp2_with fail
      refine (HCC.out _ ?_).mono ?_
      · exact (HGL.out.alloc _).alloc _
      rintro e w1 ⟨rfl, hb1⟩
      obtain ⟨hA1, hX1, hs1, hbw1⟩ := two_blocks hb1
      have hG1 := HGL.out.below hbw1
      clear hb1
      go_wp2_with fail
      refine (CLS.out _ hG1).mono ?_
      rintro e w3 ⟨rfl, hb3⟩
      have hA3 := block_past hA1 hb3
      have hX3 := block_past hX1 hb3
      have hbw3 := hbw1.trans (hb3.mono (by omega))
      clear hb3 hA1 hX1
      obtain ⟨g0, g1, g2, g3, g4, g5⟩ := six_free hX3
      obtain ⟨u0, u1, u2, u3, u4, u5⟩ := six_cells hX3
      go_wp2_with fail
      obtain ⟨w5, hw5⟩ : ∃ w5, (w3.setCell ⟨w.heap.size + 1, 0, none⟩ (.int .i64 0)) = w5 := ⟨_, rfl⟩
      have hX5 : w5.heap[w.heap.size + 1]? = some (.cells #[.int .i64 0, .string ⟨#[]⟩, .string ⟨#[]⟩, .int .i64 (-1), .string ⟨#[]⟩, .string ⟨#[]⟩] 24 (0, 0)) := by rw [← hw5]; exact heap_setCell_at hX3 0 _
      have hA5 := block_past_set (c := w.heap.size + 1) (k := 0) (v := .int .i64 0) hA3 (by omega)
      have hbw5 : Below w.heap.size w w5 := by rw [← hw5]; exact hbw3.setCell (p := ⟨w.heap.size + 1, 0, none⟩) (Nat.le_succ _) _
      rw [hw5] at hA5 ⊢
      obtain ⟨u0, u1, u2, u3, u4, u5⟩ := six_cells hX5
      obtain ⟨f0, f1, f2, f3, f4, f5⟩ := six_free hA5
      obtain ⟨x0, x1, x2, x3, x4, x5⟩ := six_cells hA5
      clear hw5
      go_region_with (go_at_call 34; refine (COS.out _).mono ?_; rintro e w6 ⟨rfl, hb6⟩; have hX6 := block_past_drew hX5 hb6; have hA6 := block_past_drew hA5 hb6; have hu := six_cells hX6; have hf := six_free hA6; have hx := six_cells hA6; obtain ⟨i0, i1, i2, i3, i4, i5⟩ := hu; obtain ⟨j0, j1, j2, j3, j4, j5⟩ := hf; obtain ⟨l0, l1, l2, l3, l4, l5⟩ := hx)
      all_goals
        have hbw7 := hbw5.trans ((below_past_drew hb6).mono hbw5.size)
        clear hb6 hX6 hA6 hX5 hA5 hbw5
        go_wp2
        exact bodyPost_ret (v := .tuple #[.agg #[.int .i64 0, .string ⟨#[]⟩, .string ⟨#[]⟩, .int .i64 (-1), .string ⟨#[]⟩, .string ⟨#[]⟩], .bool vb]) (by simp [results, Tryz.results20, go_sem, l0, l1, l2, l3, l4, l5]) rfl ⟨by rw [hr.out]; exact rfl, (((((hbw7.setCell (Nat.le_refl _) _).setCell (Nat.le_refl _) _).setCell (Nat.le_refl _) _).setCell (Nat.le_refl _) _).setCell (Nat.le_refl _) _).setCell (Nat.le_refl _) _⟩
    · by_cases m2 : lowS s.data.toList = sSelf
      · have hr : Hid (quotedS s.data.toList = (⟨4, [], [], -1, [], []⟩, vb)) := by rw [HQ2.out]; unfold quotedW; rw [if_neg m1, if_pos m2, hvb]; exact Lib.hid rfl
        rw [m2] at CLS COS
        unfold sSelf strOf at CLS COS
        clear hvb m1 m2
        go_enter Tryz.func20, Tryz.ntmps20
        go_wp2_with fail
        refine (HCC.out _ ?_).mono ?_
        · exact (HGL.out.alloc _).alloc _
        rintro e w1 ⟨rfl, hb1⟩
        obtain ⟨hA1, hX1, hs1, hbw1⟩ := two_blocks hb1
        have hG1 := HGL.out.below hbw1
        clear hb1
        go_wp2_with fail
        refine (CLS.out _ hG1).mono ?_
        rintro e w3 ⟨rfl, hb3⟩
        have hA3 := block_past hA1 hb3
        have hX3 := block_past hX1 hb3
        have hbw3 := hbw1.trans (hb3.mono (by omega))
        clear hb3 hA1 hX1
        obtain ⟨g0, g1, g2, g3, g4, g5⟩ := six_free hX3
        obtain ⟨u0, u1, u2, u3, u4, u5⟩ := six_cells hX3
        go_wp2_with fail
        obtain ⟨w5, hw5⟩ : ∃ w5, (w3.setCell ⟨w.heap.size + 1, 0, none⟩ (.int .i64 4)) = w5 := ⟨_, rfl⟩
        have hX5 : w5.heap[w.heap.size + 1]? = some (.cells #[.int .i64 4, .string ⟨#[]⟩, .string ⟨#[]⟩, .int .i64 (-1), .string ⟨#[]⟩, .string ⟨#[]⟩] 24 (0, 0)) := by rw [← hw5]; exact heap_setCell_at hX3 0 _
        have hA5 := block_past_set (c := w.heap.size + 1) (k := 0) (v := .int .i64 4) hA3 (by omega)
        have hbw5 : Below w.heap.size w w5 := by rw [← hw5]; exact hbw3.setCell (p := ⟨w.heap.size + 1, 0, none⟩) (Nat.le_succ _) _
        rw [hw5] at hA5 ⊢
        obtain ⟨u0, u1, u2, u3, u4, u5⟩ := six_cells hX5
        obtain ⟨f0, f1, f2, f3, f4, f5⟩ := six_free hA5
        obtain ⟨x0, x1, x2, x3, x4, x5⟩ := six_cells hA5
        clear hw5
        go_region_with (go_at_call 34; refine (COS.out _).mono ?_; rintro e w6 ⟨rfl, hb6⟩; have hX6 := block_past_drew hX5 hb6; have hA6 := block_past_drew hA5 hb6; have hu := six_cells hX6; have hf := six_free hA6; have hx := six_cells hA6; obtain ⟨i0, i1, i2, i3, i4, i5⟩ := hu; obtain ⟨j0, j1, j2, j3, j4, j5⟩ := hf; obtain ⟨l0, l1, l2, l3, l4, l5⟩ := hx)
        all_goals
          have hbw7 := hbw5.trans ((below_past_drew hb6).mono hbw5.size)
          clear hb6 hX6 hA6 hX5 hA5 hbw5
          go_wp2
          exact bodyPost_ret (v := .tuple #[.agg #[.int .i64 4, .string ⟨#[]⟩, .string ⟨#[]⟩, .int .i64 (-1), .string ⟨#[]⟩, .string ⟨#[]⟩], .bool vb]) (by simp [results, Tryz.results20, go_sem, l0, l1, l2, l3, l4, l5]) rfl ⟨by rw [hr.out]; exact rfl, (((((hbw7.setCell (Nat.le_refl _) _).setCell (Nat.le_refl _) _).setCell (Nat.le_refl _) _).setCell (Nat.le_refl _) _).setCell (Nat.le_refl _) _).setCell (Nat.le_refl _) _⟩
      · have hr : Hid (quotedS s.data.toList = (⟨7, [], [], -1, [], lowS s.data.toList⟩, vb)) := by rw [HQ2.out]; unfold quotedW; rw [if_neg m1, if_neg m2, hvb]; exact Lib.hid rfl
        obtain ⟨LS, hLS⟩ : ∃ LS, strOf (lowS s.data.toList) = LS := ⟨_, rfl⟩
        have hLl : LS.data.toList = lowS s.data.toList := by rw [← hLS, strOf_data]
        rw [hLS] at CLS COS
        have c1 := str_ne LS sNone (by rw [hLl]; exact m1)
        have c2 := str_ne LS sSelf (by rw [hLl]; exact m2)
        unfold sNone at c1
        unfold sSelf at c2
        have HLS := Lib.hid hLS
        clear hvb m1 m2 hLl hLS
        go_enter Tryz.func20, Tryz.ntmps20
        go_wp2_with fail
        refine (HCC.out _ ?_).mono ?_
        · exact (HGL.out.alloc _).alloc _
        rintro e w1 ⟨rfl, hb1⟩
        obtain ⟨hA1, hX1, hs1, hbw1⟩ := two_blocks hb1
        have hG1 := HGL.out.below hbw1
        clear hb1
        go_wp2_with fail
        refine (CLS.out _ hG1).mono ?_
        rintro e w3 ⟨rfl, hb3⟩
        have hA3 := block_past hA1 hb3
        have hX3 := block_past hX1 hb3
        have hbw3 := hbw1.trans (hb3.mono (by omega))
        clear hb3 hA1 hX1
        obtain ⟨g0, g1, g2, g3, g4, g5⟩ := six_free hX3
        obtain ⟨u0, u1, u2, u3, u4, u5⟩ := six_cells hX3
        go_wp2_with fail
        obtain ⟨w5, hw5⟩ : ∃ w5, ((w3.setCell ⟨w.heap.size + 1, 0, none⟩ (.int .i64 7)).setCell ⟨w.heap.size + 1, 5, none⟩ (.string LS)) = w5 := ⟨_, rfl⟩
        have hX5 : w5.heap[w.heap.size + 1]? = some (.cells #[.int .i64 7, .string ⟨#[]⟩, .string ⟨#[]⟩, .int .i64 (-1), .string ⟨#[]⟩, .string LS] 24 (0, 0)) := by rw [← hw5]; exact heap_setCell_at (heap_setCell_at hX3 0 _) 5 _
        have hA5 := block_past_set (c := w.heap.size + 1) (k := 5) (v := .string LS) (block_past_set (c := w.heap.size + 1) (k := 0) (v := .int .i64 7) hA3 (by omega)) (by omega)
        have hbw5 : Below w.heap.size w w5 := by rw [← hw5]; exact (hbw3.setCell (p := ⟨w.heap.size + 1, 0, none⟩) (Nat.le_succ _) _).setCell (p := ⟨w.heap.size + 1, 5, none⟩) (Nat.le_succ _) _
        rw [hw5] at hA5 ⊢
        obtain ⟨u0, u1, u2, u3, u4, u5⟩ := six_cells hX5
        obtain ⟨f0, f1, f2, f3, f4, f5⟩ := six_free hA5
        obtain ⟨x0, x1, x2, x3, x4, x5⟩ := six_cells hA5
        clear hw5
        go_region_with (go_at_call 34; refine (COS.out _).mono ?_; rintro e w6 ⟨rfl, hb6⟩; have hX6 := block_past_drew hX5 hb6; have hA6 := block_past_drew hA5 hb6; have hu := six_cells hX6; have hf := six_free hA6; have hx := six_cells hA6; obtain ⟨i0, i1, i2, i3, i4, i5⟩ := hu; obtain ⟨j0, j1, j2, j3, j4, j5⟩ := hf; obtain ⟨l0, l1, l2, l3, l4, l5⟩ := hx)
        all_goals
          have hbw7 := hbw5.trans ((below_past_drew hb6).mono hbw5.size)
          clear hb6 hX6 hA6 hX5 hA5 hbw5
          go_wp2
          exact bodyPost_ret (v := .tuple #[.agg #[.int .i64 7, .string ⟨#[]⟩, .string ⟨#[]⟩, .int .i64 (-1), .string ⟨#[]⟩, .string LS], .bool vb]) (by simp [results, Tryz.results20, go_sem, l0, l1, l2, l3, l4, l5]) rfl ⟨by rw [hr.out, ← HLS.out]; exact rfl, (((((hbw7.setCell (Nat.le_refl _) _).setCell (Nat.le_refl _) _).setCell (Nat.le_refl _) _).setCell (Nat.le_refl _) _).setCell (Nat.le_refl _) _).setCell (Nat.le_refl _) _⟩
end Go.Proofs.YtmgkmpbblhkacaaGreatDoor
