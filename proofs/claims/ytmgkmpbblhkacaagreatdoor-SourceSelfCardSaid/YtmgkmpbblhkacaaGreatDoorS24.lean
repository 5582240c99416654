/- SourceSelf: the walk. -/
import Derived.Test.YtmgkmpbblhkacaaGreatDoorS22
import Derived.Test.YtmgkmpbblhkacaaGreatDoorFive
namespace Go.Proofs.YtmgkmpbblhkacaaGreatDoor
open Go.RowKit Go.MapKept
set_option linter.unusedSimpArgs false
set_option linter.unusedVariables false

/-- The name of a text: an a, and its small letters. -/
def selfN (s : Bs) : Bs := 97 :: (s.take 30).filter isLow
theorem selfN_len (s : Bs) : (selfN s).length ≤ 31 := by
  have h1 := List.length_filter_le isLow (s.take 30)
  unfold selfN
  simp at h1 ⊢
  omega
/-- The first two, and all four, schemes. -/
def fourL : List Bs := [sHttp, sHttps, sWs, sWss]
def wantS (f t : Bs) : Bool := (f == t) || (t == sHttps) || (t == sWss) || ((f == sHttp) && (t == sWs))
theorem self_same (f t n : Bs) (hf : f = sHttp ∨ f = sHttps) (ht : t ∈ fourL) (hn : n ≠ []) : selfM t n f n (-1) (-1) = wantS f t := by
  unfold selfM
  rw [beq_eq_false_iff_ne.2 hn, show (n == n) = true from beq_iff_eq.2 rfl]
  unfold fourL at ht
  simp only [List.mem_cons, List.not_mem_nil, or_false] at ht
  rcases hf with rfl | rfl <;> rcases ht with rfl | rfl | rfl | rfl <;> decide
theorem self_host (f t n m : Bs) (a b : Int) (h : n ≠ m) : selfM t n f m a b = false := by
  unfold selfM
  rw [beq_eq_false_iff_ne.2 h]
  simp
theorem self_port (f t n : Bs) (a b : Int) (h : a ≠ b) : selfM t n f n a b = false := by
  unfold selfM
  rw [beq_eq_false_iff_ne.2 h]
  simp
set_option maxRecDepth 1000000 in
set_option maxHeartbeats 40000000 in
theorem sourceSelf_any (h : ByteArray) (port which : Int) (pth : ByteArray) (w : World) (hh : h.size ≤ 9223372036854775807) (hp : pth.size ≤ 9223372036854775807) (hG : GLS w) :
    Calls Tryz.prog 4 #[.string h, .int .i64 port, .int .i64 which, .string pth] w fun e w' => e = .returned (.bool true) ∧ Below w.heap.size w w' := by
  have HS := Lib.hid (shown_any w hG)
  have HG := Lib.hid hG
  obtain ⟨l, hl⟩ : ∃ l, h.data.toList = l := ⟨_, rfl⟩
  have HL := Lib.hid hl
  clear hl hG
  go_enter Tryz.func4, Tryz.ntmps4
  go_wp2_with fail
  refine HS.out.mono ?_
  rintro e w1 ⟨rfl, hb1⟩
  have hG1 := HG.out.below hb1
  clear HS
  go_wp2_with fail
  go_loop [10, 11] (fun vq vi => ∃ (i : Nat) (q : ByteArray), vq = .string q ∧ vi = .int .i64 i ∧ i ≤ h.size ∧ i ≤ 30 ∧ q.size ≤ 1 + i ∧ Hid (selfN l = q.data.toList ++ ((l.take 30).drop i).filter isLow)) (fun _ vi => 30 - (intOf vi).toNat)
  case atStart => exact ⟨0, ⟨#[97]⟩, rfl, rfl, by omega, by omega, by decide, Lib.hid rfl⟩
  case round =>
    obtain ⟨i, q, rfl, rfl, hi, hi30, hq, HI⟩ := hrel
    by_cases hgo : i < h.size ∧ i < 30
    · obtain ⟨hlt, h30⟩ := hgo
      have hget := getI h i hlt
      rw [HL.out] at hget
      have hd : (l.take 30).drop i = h[i] :: (l.take 30).drop (i + 1) := by
        have h1 : (l.take 30)[i]? = some h[i] := by rw [List.getElem?_take, if_pos h30]; exact hget
        obtain ⟨h2, h3⟩ := List.getElem?_eq_some_iff.1 h1
        rw [List.drop_eq_getElem_cons h2, h3]
      have m1 : IntKind.i64.wrap ((i : Int) + 1) = (i : Int) + 1 := IntWalk.i64_in _ (by omega)
      have t1 : ((i : Int) + 1).toNat = i + 1 := by omega
      have l30 : (i : Int) < 30 := by omega
      by_cases hlow : isLow h[i] = true
      · have hc := of_decide_eq_true hlow
        have b1 : (97 : Int) ≤ (h[i].toNat : Int) := by omega
        have b2 : (h[i].toNat : Int) ≤ 122 := by omega
        have hx : h.extract i (i + 1) = strOf [h[i]] := by
          rw [extract_strOf, List.drop_take, show i + 1 - i = 1 by omega, drop_at h i hlt]; rfl
        have hxz : (h.extract i (i + 1)).size = 1 := by rw [hx]; rfl
        have hN : Hid (selfN l = (q ++ h.extract i (i + 1)).data.toList ++ ((l.take 30).drop (i + 1)).filter isLow) := by
          rw [HI.out, hd, List.filter_cons, if_pos hlow, hx]
          refine Lib.hid ?_
          simp [ByteArray.data_append, strOf]
        have hqz : (q ++ h.extract i (i + 1)).size ≤ 1 + (i + 1) := by rw [ByteArray.size_append, hxz]; omega
        obtain ⟨X, hX⟩ : ∃ X, h.extract i (i + 1) = X := ⟨_, rfl⟩
        rw [hX] at hN hqz hxz
        have hs1 : ¬ 9223372036854775807 < q.size + X.size := by omega
        have HQ := Lib.hid hqz
        clear hget hd HI hlow hc hx hxz hqz
        go_wp2
        exact ⟨⟨i + 1, _, rfl, rfl, by omega, by omega, HQ.out, hN⟩, by simp [intOf]; omega⟩
      · have hc : ¬ (97 ≤ h[i].toNat ∧ h[i].toNat ≤ 122) := fun e => hlow (decide_eq_true e)
        have hN : Hid (selfN l = q.data.toList ++ ((l.take 30).drop (i + 1)).filter isLow) := by
          rw [HI.out, hd, List.filter_cons, if_neg hlow]; exact Lib.hid rfl
        by_cases h97 : 97 ≤ h[i].toNat
        · have b1 : (97 : Int) ≤ (h[i].toNat : Int) := by omega
          have b2 : ¬ (h[i].toNat : Int) ≤ 122 := by omega
          clear hget hd HI hlow hc
          go_wp2
          exact ⟨⟨i + 1, _, rfl, rfl, by omega, by omega, by omega, hN⟩, by simp [intOf]; omega⟩
        · have b1 : ¬ (97 : Int) ≤ (h[i].toNat : Int) := by omega
          clear hget hd HI hlow hc
          go_wp2
          exact ⟨⟨i + 1, _, rfl, rfl, by omega, by omega, by omega, hN⟩, by simp [intOf]; omega⟩
    · have hqN : q.data.toList = selfN l := by
        rw [HI.out, List.drop_of_length_le, List.filter_nil, List.append_nil]
        rw [List.length_take, ← HL.out, ← Lib.size_eq]
        omega
      have hqz : q.size ≤ 31 := by omega
      have HQ := Lib.hid hqN
      have hends : (¬ (i : Int) < (h.size : Int)) ∨ ((i : Int) < (h.size : Int) ∧ ¬ (i : Int) < 30) := by omega
      clear HI hgo hqN
      obtain ⟨p, hp2, hpe⟩ := i64_and1 which
      obtain ⟨t, ht4, hte⟩ := i64_and3 (which / 2)
      obtain ⟨pt, hpt, hpte⟩ := i64_and_pow port 15 (by decide)
      have hpte' : bits .and .i64 port 32767 = (pt : Int) := hpte
      obtain ⟨F, hF⟩ : ∃ F : ByteArray, F = strOf (fourL.getD p []) := ⟨_, rfl⟩
      obtain ⟨T, hT⟩ : ∃ T : ByteArray, T = strOf (fourL.getD t []) := ⟨_, rfl⟩
      have hFl : F.data.toList = fourL.getD p [] := by rw [hF, strOf_data]
      have hTl : T.data.toList = fourL.getD t [] := by rw [hT, strOf_data]
      have hF2 : F.data.toList = sHttp ∨ F.data.toList = sHttps := by
        rw [hFl]
        rcases p with _ | _ | p
        · exact Or.inl rfl
        · exact Or.inr rfl
        · exfalso; omega
      have hT2 : T.data.toList ∈ fourL := by
        rw [hTl]
        rcases t with _ | _ | _ | _ | t
        all_goals first | decide | (exfalso; omega)
      have hcF : (#[.string ⟨#[104, 116, 116, 112]⟩, .string ⟨#[104, 116, 116, 112, 115]⟩, .string ⟨#[119, 115]⟩, .string ⟨#[119, 115, 115]⟩] : Array Value)[p]? = some (.string F) := by
        rw [hF]
        rcases p with _ | _ | p
        all_goals first | rfl | (exfalso; omega)
      have hcT : (#[.string ⟨#[104, 116, 116, 112]⟩, .string ⟨#[104, 116, 116, 112, 115]⟩, .string ⟨#[119, 115]⟩, .string ⟨#[119, 115, 115]⟩] : Array Value)[t]? = some (.string T) := by
        rw [hT]
        rcases t with _ | _ | _ | _ | t
        all_goals first | rfl | (exfalso; omega)
      have hqne : q.data.toList ≠ [] := by rw [HQ.out]; exact List.cons_ne_nil _ _
      have hqb : (q ++ (⟨#[98]⟩ : ByteArray)).data.toList ≠ q.data.toList := by
        intro e
        have := congrArg List.length e
        simp [ByteArray.data_append] at this
      obtain ⟨tg, htg⟩ : ∃ tg, wantS F.data.toList T.data.toList = tg := ⟨_, rfl⟩
      obtain ⟨km, hkm⟩ : ∃ km : Nat, min (pth.size : Int) 50 = (km : Int) := ⟨min pth.size 50, by omega⟩
      have hkl : km ≤ pth.size := by omega
      have hk50 : km ≤ 50 := by omega
      obtain ⟨X0, hX0⟩ : ∃ X0, pth.extract 0 km = X0 := ⟨_, rfl⟩
      have hX0z : X0.size ≤ 50 := by rw [← hX0, ByteArray.size_extract]; omega
      obtain ⟨P, hP⟩ : ∃ P, (⟨#[47]⟩ : ByteArray) ++ X0 = P := ⟨_, rfl⟩
      have C1 := Lib.hid (fun w' (hG' : GLS w') => by
        have h := match_self T q P ⟨#[]⟩ ⟨#[]⟩ F q ⟨#[47]⟩ ⟨#[]⟩ ⟨#[]⟩ ⟨#[]⟩ ⟨#[]⟩ ⟨#[]⟩ ⟨#[]⟩ (-1) (-1) (-1) false w'
        rw [(self_same _ _ _ hF2 hT2 hqne).trans htg] at h
        exact h)
      have C2 := Lib.hid (fun w' (hG' : GLS w') => by
        have h := match_self T (q ++ (⟨#[98]⟩ : ByteArray)) P ⟨#[]⟩ ⟨#[]⟩ F q ⟨#[47]⟩ ⟨#[]⟩ ⟨#[]⟩ ⟨#[]⟩ ⟨#[]⟩ ⟨#[]⟩ ⟨#[]⟩ (-1) (-1) (-1) false w'
        rw [self_host _ _ _ _ _ _ hqb] at h
        exact h)
      have C3 := Lib.hid (fun w' (hG' : GLS w') => by
        have h := match_self T q P ⟨#[]⟩ ⟨#[]⟩ F q ⟨#[47]⟩ ⟨#[]⟩ ⟨#[]⟩ ⟨#[]⟩ ⟨#[]⟩ ⟨#[]⟩ ⟨#[]⟩ (1 + (pt : Int)) (-1) (-1) false w'
        rw [self_port _ _ _ _ _ (by omega)] at h
        exact h)
      have HTG := Lib.hid htg
      have HFl := Lib.hid hFl
      have HTl := Lib.hid hTl
      have o1 : ¬ 9223372036854775807 < q.size + 1 := by omega
      have o2 : ¬ 9223372036854775807 < 1 + X0.size := by omega
      have m3 : IntKind.i64.wrap (1 + (pt : Int)) = 1 + (pt : Int) := IntWalk.i64_in _ (by omega)
      have hs2 : (w1.alloc (.cells #[.int .i64 4, .string ⟨#[]⟩, .string ⟨#[]⟩, .int .i64 (-1), .string ⟨#[]⟩, .string ⟨#[]⟩] 24)).heap.size = w1.heap.size + 1 := by show (w1.heap.push _).size = _; rw [Array.size_push]
      have hA : ((w1.alloc (.cells #[.int .i64 4, .string ⟨#[]⟩, .string ⟨#[]⟩, .int .i64 (-1), .string ⟨#[]⟩, .string ⟨#[]⟩] 24)).alloc (.cells #[.string ⟨#[104, 116, 116, 112]⟩, .string ⟨#[104, 116, 116, 112, 115]⟩, .string ⟨#[119, 115]⟩, .string ⟨#[119, 115, 115]⟩] 9)).heap[w1.heap.size + 1]? = some (.cells #[.string ⟨#[104, 116, 116, 112]⟩, .string ⟨#[104, 116, 116, 112, 115]⟩, .string ⟨#[119, 115]⟩, .string ⟨#[119, 115, 115]⟩] 9 (0, 0)) := by rw [← hs2]; exact heap_alloc_new _ _
      have hcf := (cell_of_heap hA p).trans hcF
      have hct := (cell_of_heap hA t).trans hcT
      clear hA hs2 hcF hcT hF hT hF2 hT2 hqne hqb htg hFl hTl hpte
      rcases hends with l1 | ⟨l1, l2⟩
      · go_upto_region 14 with fail
        go_cut [18] (fun v wc => v = .bool tg ∧ wc = ((((w1.alloc (.cells #[.int .i64 4, .string ⟨#[]⟩, .string ⟨#[]⟩, .int .i64 (-1), .string ⟨#[]⟩, .string ⟨#[]⟩] 24)).alloc (.cells #[.string ⟨#[104, 116, 116, 112]⟩, .string ⟨#[104, 116, 116, 112, 115]⟩, .string ⟨#[119, 115]⟩, .string ⟨#[119, 115, 115]⟩] 9)).alloc (.cells #[.string F, .string q, .int .i64 (-1), .string ⟨#[47]⟩, .string ⟨#[]⟩, .string ⟨#[]⟩] 28)).alloc (.cells #[.string T, .string q, .int .i64 (-1), .string P, .string ⟨#[]⟩, .string ⟨#[]⟩] 28)))
        case first =>
          clear C1 C2 C3 hcf hct
          rcases p with _ | _ | p
          all_goals try (exfalso; omega)
          all_goals
            rcases t with _ | _ | _ | _ | t
          all_goals try (exfalso; omega)
          all_goals
            have eF := HFl.out
            have eT := HTl.out
            obtain rfl := str_of F _ eF
            obtain rfl := str_of T _ eT
            clear eF eT HFl HTl
            simp only [fourL, strOf, sHttp, sHttps, sWs, sWss, List.getD_cons_zero, List.getD_cons_succ] at HTG ⊢
            go_wp2_with fail
            go_meet
            refine ⟨?_, rfl⟩
            rw [← HTG.out]
            rfl
        case rest =>
        obtain ⟨rfl, rfl⟩ := hcut
        obtain ⟨hX, hSl, hSe, hU, hbn⟩ := four_blocks w1 (.cells #[.int .i64 4, .string ⟨#[]⟩, .string ⟨#[]⟩, .int .i64 (-1), .string ⟨#[]⟩, .string ⟨#[]⟩] 24) (.cells #[.string ⟨#[104, 116, 116, 112]⟩, .string ⟨#[104, 116, 116, 112, 115]⟩, .string ⟨#[119, 115]⟩, .string ⟨#[119, 115, 115]⟩] 9) (.cells #[.string F, .string q, .int .i64 (-1), .string ⟨#[47]⟩, .string ⟨#[]⟩, .string ⟨#[]⟩] 28) (.cells #[.string T, .string q, .int .i64 (-1), .string P, .string ⟨#[]⟩, .string ⟨#[]⟩] 28)
        have hb4 := hb1.trans (hbn.mono hb1.size)
        have hG4 := HG.out.below hb4
        obtain ⟨w4, hw4⟩ : ∃ w4, ((((w1.alloc (.cells #[.int .i64 4, .string ⟨#[]⟩, .string ⟨#[]⟩, .int .i64 (-1), .string ⟨#[]⟩, .string ⟨#[]⟩] 24)).alloc (.cells #[.string ⟨#[104, 116, 116, 112]⟩, .string ⟨#[104, 116, 116, 112, 115]⟩, .string ⟨#[119, 115]⟩, .string ⟨#[119, 115, 115]⟩] 9)).alloc (.cells #[.string F, .string q, .int .i64 (-1), .string ⟨#[47]⟩, .string ⟨#[]⟩, .string ⟨#[]⟩] 28)).alloc (.cells #[.string T, .string q, .int .i64 (-1), .string P, .string ⟨#[]⟩, .string ⟨#[]⟩] 28)) = w4 := ⟨_, rfl⟩
        rw [hw4] at hX hSe hU hb4 hG4 ⊢
        clear hSl hbn hw4 hcf hct hb1 hG1
        obtain ⟨x0, x1, x2, x3, x4, x5⟩ := six_cells hX
        obtain ⟨y0, y1, y2, y3, y4, y5⟩ := six_cells hSe
        obtain ⟨z0, z1, z2, z3, z4, z5⟩ := six_cells hU
        cases tg
        all_goals
          go_wp2_with fail
          refine (C1.out _ hG4).mono ?_
          rintro e w5 ⟨rfl, hb5⟩
          have hX5 := block_past hX hb5
          have hSe5 := block_past hSe hb5
          have hU5 := block_past hU hb5
          have hb5' := hb4.trans (hb5.mono hb4.size)
          have hl1 : w1.heap.size + 1 + 1 + 1 < w5.heap.size := (Array.getElem?_eq_some_iff.1 hU5).1
          have hs6 : (w5.alloc (.cells #[.string T, .string (q ++ (⟨#[98]⟩ : ByteArray)), .int .i64 (-1), .string P, .string ⟨#[]⟩, .string ⟨#[]⟩] 28)).heap.size = w5.heap.size + 1 := by show (w5.heap.push _).size = _; rw [Array.size_push]
          have hU6 : (w5.alloc (.cells #[.string T, .string (q ++ (⟨#[98]⟩ : ByteArray)), .int .i64 (-1), .string P, .string ⟨#[]⟩, .string ⟨#[]⟩] 28)).heap[w1.heap.size + 1 + 1 + 1]? = some (.cells #[.string T, .string q, .int .i64 (-1), .string P, .string ⟨#[]⟩, .string ⟨#[]⟩] 28 (0, 0)) := (Below.heap_alloc _ _ _ (by omega)).trans hU5
          have hX7 : ((w5.alloc (.cells #[.string T, .string (q ++ (⟨#[98]⟩ : ByteArray)), .int .i64 (-1), .string P, .string ⟨#[]⟩, .string ⟨#[]⟩] 28)).alloc (.cells #[.string T, .string q, .int .i64 (1 + (pt : Int)), .string P, .string ⟨#[]⟩, .string ⟨#[]⟩] 28)).heap[w1.heap.size]? = some (.cells #[.int .i64 4, .string ⟨#[]⟩, .string ⟨#[]⟩, .int .i64 (-1), .string ⟨#[]⟩, .string ⟨#[]⟩] 24 (0, 0)) := (Below.heap_alloc _ _ _ (by omega)).trans ((Below.heap_alloc _ _ _ (by omega)).trans hX5)
          have hSe7 : ((w5.alloc (.cells #[.string T, .string (q ++ (⟨#[98]⟩ : ByteArray)), .int .i64 (-1), .string P, .string ⟨#[]⟩, .string ⟨#[]⟩] 28)).alloc (.cells #[.string T, .string q, .int .i64 (1 + (pt : Int)), .string P, .string ⟨#[]⟩, .string ⟨#[]⟩] 28)).heap[w1.heap.size + 1 + 1]? = some (.cells #[.string F, .string q, .int .i64 (-1), .string ⟨#[47]⟩, .string ⟨#[]⟩, .string ⟨#[]⟩] 28 (0, 0)) := (Below.heap_alloc _ _ _ (by omega)).trans ((Below.heap_alloc _ _ _ (by omega)).trans hSe5)
          have hW7 : ((w5.alloc (.cells #[.string T, .string (q ++ (⟨#[98]⟩ : ByteArray)), .int .i64 (-1), .string P, .string ⟨#[]⟩, .string ⟨#[]⟩] 28)).alloc (.cells #[.string T, .string q, .int .i64 (1 + (pt : Int)), .string P, .string ⟨#[]⟩, .string ⟨#[]⟩] 28)).heap[w5.heap.size + 1]? = some (.cells #[.string T, .string q, .int .i64 (1 + (pt : Int)), .string P, .string ⟨#[]⟩, .string ⟨#[]⟩] 28 (0, 0)) := by rw [← hs6]; exact heap_alloc_new _ _
          have hb7 : Below w.heap.size w ((w5.alloc (.cells #[.string T, .string (q ++ (⟨#[98]⟩ : ByteArray)), .int .i64 (-1), .string P, .string ⟨#[]⟩, .string ⟨#[]⟩] 28)).alloc (.cells #[.string T, .string q, .int .i64 (1 + (pt : Int)), .string P, .string ⟨#[]⟩, .string ⟨#[]⟩] 28)) := (hb5'.alloc hb5'.size _).alloc (Nat.le_trans hb5'.size (by omega)) _
          have hG7 := HG.out.below hb7
          clear hb5 x0 x1 x2 x3 x4 x5 y0 y1 y2 y3 y4 y5 z0 z1 z2 z3 z4 z5 hs6
          obtain ⟨z0, z1, z2, z3, z4, z5⟩ := six_cells hU5
          obtain ⟨v0, v1, v2, v3, v4, v5⟩ := six_cells hU6
          obtain ⟨x0, x1, x2, x3, x4, x5⟩ := six_cells hX7
          obtain ⟨y0, y1, y2, y3, y4, y5⟩ := six_cells hSe7
          go_wp2_with fail
          refine (C2.out _ hG7).mono ?_
          rintro e w8 ⟨rfl, hb8⟩
          have hX8 := block_past hX7 hb8
          have hSe8 := block_past hSe7 hb8
          have hW8 := block_past hW7 hb8
          have hb8' := hb7.trans (hb8.mono hb7.size)
          have hG8 := HG.out.below hb8'
          clear hb8 x0 x1 x2 x3 x4 x5 y0 y1 y2 y3 y4 y5 z0 z1 z2 z3 z4 z5 v0 v1 v2 v3 v4 v5 hU5 hU6 hX7 hSe7 hW7 hX5 hSe5
          obtain ⟨x0, x1, x2, x3, x4, x5⟩ := six_cells hX8
          obtain ⟨y0, y1, y2, y3, y4, y5⟩ := six_cells hSe8
          obtain ⟨z0, z1, z2, z3, z4, z5⟩ := six_cells hW8
          go_wp2_with fail
          refine (C3.out _ hG8).mono ?_
          rintro e w9 ⟨rfl, hb9⟩
          have hb9' := hb8'.trans (hb9.mono hb8'.size)
          go_wp2
          go_ret
          exact ⟨rfl, hb9'⟩
      · go_upto_region 14 with fail
        go_cut [18] (fun v wc => v = .bool tg ∧ wc = ((((w1.alloc (.cells #[.int .i64 4, .string ⟨#[]⟩, .string ⟨#[]⟩, .int .i64 (-1), .string ⟨#[]⟩, .string ⟨#[]⟩] 24)).alloc (.cells #[.string ⟨#[104, 116, 116, 112]⟩, .string ⟨#[104, 116, 116, 112, 115]⟩, .string ⟨#[119, 115]⟩, .string ⟨#[119, 115, 115]⟩] 9)).alloc (.cells #[.string F, .string q, .int .i64 (-1), .string ⟨#[47]⟩, .string ⟨#[]⟩, .string ⟨#[]⟩] 28)).alloc (.cells #[.string T, .string q, .int .i64 (-1), .string P, .string ⟨#[]⟩, .string ⟨#[]⟩] 28)))
        case first =>
          clear C1 C2 C3 hcf hct
          rcases p with _ | _ | p
          all_goals try (exfalso; omega)
          all_goals
            rcases t with _ | _ | _ | _ | t
          all_goals try (exfalso; omega)
          all_goals
            have eF := HFl.out
            have eT := HTl.out
            obtain rfl := str_of F _ eF
            obtain rfl := str_of T _ eT
            clear eF eT HFl HTl
            simp only [fourL, strOf, sHttp, sHttps, sWs, sWss, List.getD_cons_zero, List.getD_cons_succ] at HTG ⊢
            go_wp2_with fail
            go_meet
            refine ⟨?_, rfl⟩
            rw [← HTG.out]
            rfl
        case rest =>
        obtain ⟨rfl, rfl⟩ := hcut
        obtain ⟨hX, hSl, hSe, hU, hbn⟩ := four_blocks w1 (.cells #[.int .i64 4, .string ⟨#[]⟩, .string ⟨#[]⟩, .int .i64 (-1), .string ⟨#[]⟩, .string ⟨#[]⟩] 24) (.cells #[.string ⟨#[104, 116, 116, 112]⟩, .string ⟨#[104, 116, 116, 112, 115]⟩, .string ⟨#[119, 115]⟩, .string ⟨#[119, 115, 115]⟩] 9) (.cells #[.string F, .string q, .int .i64 (-1), .string ⟨#[47]⟩, .string ⟨#[]⟩, .string ⟨#[]⟩] 28) (.cells #[.string T, .string q, .int .i64 (-1), .string P, .string ⟨#[]⟩, .string ⟨#[]⟩] 28)
        have hb4 := hb1.trans (hbn.mono hb1.size)
        have hG4 := HG.out.below hb4
        obtain ⟨w4, hw4⟩ : ∃ w4, ((((w1.alloc (.cells #[.int .i64 4, .string ⟨#[]⟩, .string ⟨#[]⟩, .int .i64 (-1), .string ⟨#[]⟩, .string ⟨#[]⟩] 24)).alloc (.cells #[.string ⟨#[104, 116, 116, 112]⟩, .string ⟨#[104, 116, 116, 112, 115]⟩, .string ⟨#[119, 115]⟩, .string ⟨#[119, 115, 115]⟩] 9)).alloc (.cells #[.string F, .string q, .int .i64 (-1), .string ⟨#[47]⟩, .string ⟨#[]⟩, .string ⟨#[]⟩] 28)).alloc (.cells #[.string T, .string q, .int .i64 (-1), .string P, .string ⟨#[]⟩, .string ⟨#[]⟩] 28)) = w4 := ⟨_, rfl⟩
        rw [hw4] at hX hSe hU hb4 hG4 ⊢
        clear hSl hbn hw4 hcf hct hb1 hG1
        obtain ⟨x0, x1, x2, x3, x4, x5⟩ := six_cells hX
        obtain ⟨y0, y1, y2, y3, y4, y5⟩ := six_cells hSe
        obtain ⟨z0, z1, z2, z3, z4, z5⟩ := six_cells hU
        cases tg
        all_goals
          go_wp2_with fail
          refine (C1.out _ hG4).mono ?_
          rintro e w5 ⟨rfl, hb5⟩
          have hX5 := block_past hX hb5
          have hSe5 := block_past hSe hb5
          have hU5 := block_past hU hb5
          have hb5' := hb4.trans (hb5.mono hb4.size)
          have hl1 : w1.heap.size + 1 + 1 + 1 < w5.heap.size := (Array.getElem?_eq_some_iff.1 hU5).1
          have hs6 : (w5.alloc (.cells #[.string T, .string (q ++ (⟨#[98]⟩ : ByteArray)), .int .i64 (-1), .string P, .string ⟨#[]⟩, .string ⟨#[]⟩] 28)).heap.size = w5.heap.size + 1 := by show (w5.heap.push _).size = _; rw [Array.size_push]
          have hU6 : (w5.alloc (.cells #[.string T, .string (q ++ (⟨#[98]⟩ : ByteArray)), .int .i64 (-1), .string P, .string ⟨#[]⟩, .string ⟨#[]⟩] 28)).heap[w1.heap.size + 1 + 1 + 1]? = some (.cells #[.string T, .string q, .int .i64 (-1), .string P, .string ⟨#[]⟩, .string ⟨#[]⟩] 28 (0, 0)) := (Below.heap_alloc _ _ _ (by omega)).trans hU5
          have hX7 : ((w5.alloc (.cells #[.string T, .string (q ++ (⟨#[98]⟩ : ByteArray)), .int .i64 (-1), .string P, .string ⟨#[]⟩, .string ⟨#[]⟩] 28)).alloc (.cells #[.string T, .string q, .int .i64 (1 + (pt : Int)), .string P, .string ⟨#[]⟩, .string ⟨#[]⟩] 28)).heap[w1.heap.size]? = some (.cells #[.int .i64 4, .string ⟨#[]⟩, .string ⟨#[]⟩, .int .i64 (-1), .string ⟨#[]⟩, .string ⟨#[]⟩] 24 (0, 0)) := (Below.heap_alloc _ _ _ (by omega)).trans ((Below.heap_alloc _ _ _ (by omega)).trans hX5)
          have hSe7 : ((w5.alloc (.cells #[.string T, .string (q ++ (⟨#[98]⟩ : ByteArray)), .int .i64 (-1), .string P, .string ⟨#[]⟩, .string ⟨#[]⟩] 28)).alloc (.cells #[.string T, .string q, .int .i64 (1 + (pt : Int)), .string P, .string ⟨#[]⟩, .string ⟨#[]⟩] 28)).heap[w1.heap.size + 1 + 1]? = some (.cells #[.string F, .string q, .int .i64 (-1), .string ⟨#[47]⟩, .string ⟨#[]⟩, .string ⟨#[]⟩] 28 (0, 0)) := (Below.heap_alloc _ _ _ (by omega)).trans ((Below.heap_alloc _ _ _ (by omega)).trans hSe5)
          have hW7 : ((w5.alloc (.cells #[.string T, .string (q ++ (⟨#[98]⟩ : ByteArray)), .int .i64 (-1), .string P, .string ⟨#[]⟩, .string ⟨#[]⟩] 28)).alloc (.cells #[.string T, .string q, .int .i64 (1 + (pt : Int)), .string P, .string ⟨#[]⟩, .string ⟨#[]⟩] 28)).heap[w5.heap.size + 1]? = some (.cells #[.string T, .string q, .int .i64 (1 + (pt : Int)), .string P, .string ⟨#[]⟩, .string ⟨#[]⟩] 28 (0, 0)) := by rw [← hs6]; exact heap_alloc_new _ _
          have hb7 : Below w.heap.size w ((w5.alloc (.cells #[.string T, .string (q ++ (⟨#[98]⟩ : ByteArray)), .int .i64 (-1), .string P, .string ⟨#[]⟩, .string ⟨#[]⟩] 28)).alloc (.cells #[.string T, .string q, .int .i64 (1 + (pt : Int)), .string P, .string ⟨#[]⟩, .string ⟨#[]⟩] 28)) := (hb5'.alloc hb5'.size _).alloc (Nat.le_trans hb5'.size (by omega)) _
          have hG7 := HG.out.below hb7
          clear hb5 x0 x1 x2 x3 x4 x5 y0 y1 y2 y3 y4 y5 z0 z1 z2 z3 z4 z5 hs6
          obtain ⟨z0, z1, z2, z3, z4, z5⟩ := six_cells hU5
          obtain ⟨v0, v1, v2, v3, v4, v5⟩ := six_cells hU6
          obtain ⟨x0, x1, x2, x3, x4, x5⟩ := six_cells hX7
          obtain ⟨y0, y1, y2, y3, y4, y5⟩ := six_cells hSe7
          go_wp2_with fail
          refine (C2.out _ hG7).mono ?_
          rintro e w8 ⟨rfl, hb8⟩
          have hX8 := block_past hX7 hb8
          have hSe8 := block_past hSe7 hb8
          have hW8 := block_past hW7 hb8
          have hb8' := hb7.trans (hb8.mono hb7.size)
          have hG8 := HG.out.below hb8'
          clear hb8 x0 x1 x2 x3 x4 x5 y0 y1 y2 y3 y4 y5 z0 z1 z2 z3 z4 z5 v0 v1 v2 v3 v4 v5 hU5 hU6 hX7 hSe7 hW7 hX5 hSe5
          obtain ⟨x0, x1, x2, x3, x4, x5⟩ := six_cells hX8
          obtain ⟨y0, y1, y2, y3, y4, y5⟩ := six_cells hSe8
          obtain ⟨z0, z1, z2, z3, z4, z5⟩ := six_cells hW8
          go_wp2_with fail
          refine (C3.out _ hG8).mono ?_
          rintro e w9 ⟨rfl, hb9⟩
          have hb9' := hb8'.trans (hb9.mono hb8'.size)
          go_wp2
          go_ret
          exact ⟨rfl, hb9'⟩
end Go.Proofs.YtmgkmpbblhkacaaGreatDoor
