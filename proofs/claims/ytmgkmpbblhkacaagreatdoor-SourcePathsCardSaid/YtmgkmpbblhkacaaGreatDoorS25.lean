/- SourcePaths: the walk. -/
import Derived.Test.YtmgkmpbblhkacaaGreatDoorPthP
import Derived.Test.YtmgkmpbblhkacaaGreatDoorS22
import Derived.Test.YtmgkmpbblhkacaaGreatDoorFive
namespace Go.Proofs.YtmgkmpbblhkacaaGreatDoor
open Go.RowKit Go.MapKept
set_option linter.unusedSimpArgs false
set_option linter.unusedVariables false

def pthP (l : Bs) : Bs := 47 :: (l.take 100).filter isPth
def pthQ (l : Bs) : Bs := (l.take 100).filter isPth
theorem pth_ne (c : UInt8) (h : isPth c = true) : c ≠ 37 := by
  rintro rfl
  exact absurd h (by decide)
theorem pthQ_ok (l : Bs) : ∀ c ∈ pthQ l, c ≠ 37 := fun c hc => pth_ne c (List.mem_filter.1 hc).2
theorem pthP_ok (l : Bs) : ∀ c ∈ pthP l, c ≠ 37 := fun c hc => by
  rcases List.mem_cons.1 hc with rfl | h
  · decide
  · exact pthQ_ok l c h
theorem pth_ways (c : UInt8) : (isPth c = true ∧ ((c.toNat : Int) == 47) = true) ∨ (isPth c = true ∧ ((c.toNat : Int) == 47) = false ∧ (97 : Int) ≤ (c.toNat : Int) ∧ (c.toNat : Int) ≤ 122) ∨ (isPth c = false ∧ ((c.toNat : Int) == 47) = false ∧ (97 : Int) ≤ (c.toNat : Int) ∧ ¬ (c.toNat : Int) ≤ 122) ∨ (isPth c = false ∧ ((c.toNat : Int) == 47) = false ∧ ¬ (97 : Int) ≤ (c.toNat : Int)) := by
  unfold isPth isLow
  by_cases h : c = 47
  · exact Or.inl ⟨by rw [beq_iff_eq.2 h]; rfl, u8_eqL c 47 47 rfl h⟩
  · have b := u8_neL c 47 47 rfl h
    rw [beq_eq_false_iff_ne.2 h]
    by_cases h1 : 97 ≤ c.toNat
    · by_cases h2 : c.toNat ≤ 122
      · exact Or.inr (Or.inl ⟨by rw [decide_eq_true ⟨h1, h2⟩]; rfl, b, by omega, by omega⟩)
      · exact Or.inr (Or.inr (Or.inl ⟨by rw [decide_eq_false (fun e => h2 e.2)]; rfl, b, by omega, by omega⟩))
    · exact Or.inr (Or.inr (Or.inr ⟨by rw [decide_eq_false (fun e => h1 e.1)]; rfl, b, by omega⟩))
theorem host_path (p f : Bs) (red : Bool) : hostM sHttps [97, 46, 101, 120, 97, 109, 112, 108, 101] p (-1) sHttps [97, 46, 101, 120, 97, 109, 112, 108, 101] f sHttps (-1) red = pathM p f red := by
  unfold hostM
  rw [show ((!(([97, 46, 101, 120, 97, 109, 112, 108, 101] : Bs) == [])) && togetherP (if sHttps = [] then sHttps else sHttps) sHttps && nameM [97, 46, 101, 120, 97, 109, 112, 108, 101] [97, 46, 101, 120, 97, 109, 112, 108, 101] && portM (-1) (-1) sHttps) = true by decide]
  simp
set_option maxRecDepth 1000000 in
set_option maxHeartbeats 40000000 in
theorem sourcePaths_any (a b : ByteArray) (w : World) (ha : a.size ≤ 9223372036854775807) (hb : b.size ≤ 9223372036854775807) (hG : GLS w) :
    Calls Tryz.prog 5 #[.string a, .string b] w fun e w' => e = .returned (.bool true) ∧ Below w.heap.size w w' := by
  have HS := Lib.hid (shown_any w hG)
  have HG := Lib.hid hG
  obtain ⟨la, hla⟩ : ∃ l, a.data.toList = l := ⟨_, rfl⟩
  obtain ⟨lb, hlb⟩ : ∃ l, b.data.toList = l := ⟨_, rfl⟩
  have HLa := Lib.hid hla
  have HLb := Lib.hid hlb
  clear hla hlb hG
  go_enter Tryz.func5, Tryz.ntmps5
  go_wp2_with fail
  refine HS.out.mono ?_
  rintro e w1 ⟨rfl, hb1⟩
  have hG1 := HG.out.below hb1
  clear HS
  go_wp2_with fail
  go_loop [6, 7] (fun vq vi => ∃ (i : Nat) (q : ByteArray), vq = .string q ∧ vi = .int .i64 i ∧ i ≤ a.size ∧ i ≤ 100 ∧ q.size ≤ 1 + i ∧ Hid (pthP la = q.data.toList ++ ((la.take 100).drop i).filter isPth)) (fun _ vi => 100 - (intOf vi).toNat)
  case atStart => exact ⟨0, ⟨#[47]⟩, rfl, rfl, by omega, by omega, by decide, Lib.hid rfl⟩
  case round =>
    obtain ⟨i, q, rfl, rfl, hi, hi30, hq, HI⟩ := hrel
    by_cases hgo : i < a.size ∧ i < 100
    · obtain ⟨hlt, h30⟩ := hgo
      have hget := getI a i hlt
      rw [HLa.out] at hget
      have hd : (la.take 100).drop i = a[i] :: (la.take 100).drop (i + 1) := by
        have h1 : (la.take 100)[i]? = some a[i] := by rw [List.getElem?_take, if_pos h30]; exact hget
        obtain ⟨h2, h3⟩ := List.getElem?_eq_some_iff.1 h1
        rw [List.drop_eq_getElem_cons h2, h3]
      have m1 : IntKind.i64.wrap ((i : Int) + 1) = (i : Int) + 1 := IntWalk.i64_in _ (by omega)
      have t1 : ((i : Int) + 1).toNat = i + 1 := by omega
      have l30 : (i : Int) < 100 := by omega
      have hways : (isPth a[i] = true ∧ ((a[i].toNat : Int) == 47) = true) ∨ (isPth a[i] = true ∧ ((a[i].toNat : Int) == 47) = false ∧ (97 : Int) ≤ (a[i].toNat : Int) ∧ (a[i].toNat : Int) ≤ 122) ∨ (isPth a[i] = false ∧ ((a[i].toNat : Int) == 47) = false ∧ (97 : Int) ≤ (a[i].toNat : Int) ∧ ¬ (a[i].toNat : Int) ≤ 122) ∨ (isPth a[i] = false ∧ ((a[i].toNat : Int) == 47) = false ∧ ¬ (97 : Int) ≤ (a[i].toNat : Int)) := pth_ways a[i]
      rcases hways with ⟨hk, b0⟩ | ⟨hk, b0, b1, b2⟩ | ⟨hk, b0, b1, b2⟩ | ⟨hk, b0, b1⟩
      · have hx : a.extract i (i + 1) = strOf [a[i]] := by
          rw [extract_strOf, List.drop_take, show i + 1 - i = 1 by omega, drop_at a i hlt]; rfl
        have hxz : (a.extract i (i + 1)).size = 1 := by rw [hx]; rfl
        have hN : Hid (pthP la = (q ++ a.extract i (i + 1)).data.toList ++ ((la.take 100).drop (i + 1)).filter isPth) := by
          rw [HI.out, hd, List.filter_cons, if_pos hk, hx]
          refine Lib.hid ?_
          simp [ByteArray.data_append, strOf]
        have hqz : (q ++ a.extract i (i + 1)).size ≤ 1 + (i + 1) := by rw [ByteArray.size_append, hxz]; omega
        obtain ⟨X, hX⟩ : ∃ X, a.extract i (i + 1) = X := ⟨_, rfl⟩
        rw [hX] at hN hqz hxz
        have hs1 : ¬ 9223372036854775807 < q.size + X.size := by omega
        have HQ := Lib.hid hqz
        clear hget hd HI hk hx hxz hqz
        go_wp2
        exact ⟨⟨i + 1, _, rfl, rfl, by omega, by omega, HQ.out, hN⟩, by simp [intOf]; omega⟩
      · have hx : a.extract i (i + 1) = strOf [a[i]] := by
          rw [extract_strOf, List.drop_take, show i + 1 - i = 1 by omega, drop_at a i hlt]; rfl
        have hxz : (a.extract i (i + 1)).size = 1 := by rw [hx]; rfl
        have hN : Hid (pthP la = (q ++ a.extract i (i + 1)).data.toList ++ ((la.take 100).drop (i + 1)).filter isPth) := by
          rw [HI.out, hd, List.filter_cons, if_pos hk, hx]
          refine Lib.hid ?_
          simp [ByteArray.data_append, strOf]
        have hqz : (q ++ a.extract i (i + 1)).size ≤ 1 + (i + 1) := by rw [ByteArray.size_append, hxz]; omega
        obtain ⟨X, hX⟩ : ∃ X, a.extract i (i + 1) = X := ⟨_, rfl⟩
        rw [hX] at hN hqz hxz
        have hs1 : ¬ 9223372036854775807 < q.size + X.size := by omega
        have HQ := Lib.hid hqz
        clear hget hd HI hk hx hxz hqz
        go_wp2
        exact ⟨⟨i + 1, _, rfl, rfl, by omega, by omega, HQ.out, hN⟩, by simp [intOf]; omega⟩
      · have hN : Hid (pthP la = q.data.toList ++ ((la.take 100).drop (i + 1)).filter isPth) := by
          rw [HI.out, hd, List.filter_cons, if_neg (by rw [hk]; simp)]; exact Lib.hid rfl
        clear hget hd HI hk
        go_wp2
        exact ⟨⟨i + 1, _, rfl, rfl, by omega, by omega, by omega, hN⟩, by simp [intOf]; omega⟩
      · have hN : Hid (pthP la = q.data.toList ++ ((la.take 100).drop (i + 1)).filter isPth) := by
          rw [HI.out, hd, List.filter_cons, if_neg (by rw [hk]; simp)]; exact Lib.hid rfl
        clear hget hd HI hk
        go_wp2
        exact ⟨⟨i + 1, _, rfl, rfl, by omega, by omega, by omega, hN⟩, by simp [intOf]; omega⟩
    · have hqN : q.data.toList = pthP la := by
        rw [HI.out, List.drop_of_length_le, List.filter_nil, List.append_nil]
        rw [List.length_take, ← HLa.out, ← Lib.size_eq]
        omega
      have hqz : q.size ≤ 101 := by omega
      have HQa := Lib.hid hqN
      have hends : (¬ (i : Int) < (a.size : Int)) ∨ ((i : Int) < (a.size : Int) ∧ ¬ (i : Int) < 100) := by omega
      clear HI hgo hqN
      obtain ⟨P, rfl⟩ : ∃ x, x = q := ⟨_, rfl⟩
      rcases hends with l1 | ⟨l1, l2⟩
      all_goals
        go_wp2_with fail
        go_loop [8, 9] (fun vq vi => ∃ (i : Nat) (q : ByteArray), vq = .string q ∧ vi = .int .i64 i ∧ i ≤ b.size ∧ i ≤ 100 ∧ q.size ≤ 0 + i ∧ Hid (pthQ lb = q.data.toList ++ ((lb.take 100).drop i).filter isPth)) (fun _ vi => 100 - (intOf vi).toNat)
        case atStart => exact ⟨0, ⟨#[]⟩, rfl, rfl, by omega, by omega, by decide, Lib.hid rfl⟩
        case round =>
          obtain ⟨i, q, rfl, rfl, hi, hi30, hq, HI⟩ := hrel
          by_cases hgo : i < b.size ∧ i < 100
          · obtain ⟨hlt, h30⟩ := hgo
            have hget := getI b i hlt
            rw [HLb.out] at hget
            have hd : (lb.take 100).drop i = b[i] :: (lb.take 100).drop (i + 1) := by
              have h1 : (lb.take 100)[i]? = some b[i] := by rw [List.getElem?_take, if_pos h30]; exact hget
              obtain ⟨h2, h3⟩ := List.getElem?_eq_some_iff.1 h1
              rw [List.drop_eq_getElem_cons h2, h3]
            have m1 : IntKind.i64.wrap ((i : Int) + 1) = (i : Int) + 1 := IntWalk.i64_in _ (by omega)
            have t1 : ((i : Int) + 1).toNat = i + 1 := by omega
            have l30 : (i : Int) < 100 := by omega
            have hways : (isPth b[i] = true ∧ ((b[i].toNat : Int) == 47) = true) ∨ (isPth b[i] = true ∧ ((b[i].toNat : Int) == 47) = false ∧ (97 : Int) ≤ (b[i].toNat : Int) ∧ (b[i].toNat : Int) ≤ 122) ∨ (isPth b[i] = false ∧ ((b[i].toNat : Int) == 47) = false ∧ (97 : Int) ≤ (b[i].toNat : Int) ∧ ¬ (b[i].toNat : Int) ≤ 122) ∨ (isPth b[i] = false ∧ ((b[i].toNat : Int) == 47) = false ∧ ¬ (97 : Int) ≤ (b[i].toNat : Int)) := pth_ways b[i]
            rcases hways with ⟨hk, b0⟩ | ⟨hk, b0, b1, b2⟩ | ⟨hk, b0, b1, b2⟩ | ⟨hk, b0, b1⟩
            · have hx : b.extract i (i + 1) = strOf [b[i]] := by
                rw [extract_strOf, List.drop_take, show i + 1 - i = 1 by omega, drop_at b i hlt]; rfl
              have hxz : (b.extract i (i + 1)).size = 1 := by rw [hx]; rfl
              have hN : Hid (pthQ lb = (q ++ b.extract i (i + 1)).data.toList ++ ((lb.take 100).drop (i + 1)).filter isPth) := by
                rw [HI.out, hd, List.filter_cons, if_pos hk, hx]
                refine Lib.hid ?_
                simp [ByteArray.data_append, strOf]
              have hqz : (q ++ b.extract i (i + 1)).size ≤ 0 + (i + 1) := by rw [ByteArray.size_append, hxz]; omega
              obtain ⟨X, hX⟩ : ∃ X, b.extract i (i + 1) = X := ⟨_, rfl⟩
              rw [hX] at hN hqz hxz
              have hs1 : ¬ 9223372036854775807 < q.size + X.size := by omega
              have HQ := Lib.hid hqz
              clear hget hd HI hk hx hxz hqz
              go_wp2
              exact ⟨⟨i + 1, _, rfl, rfl, by omega, by omega, HQ.out, hN⟩, by simp [intOf]; omega⟩
            · have hx : b.extract i (i + 1) = strOf [b[i]] := by
                rw [extract_strOf, List.drop_take, show i + 1 - i = 1 by omega, drop_at b i hlt]; rfl
              have hxz : (b.extract i (i + 1)).size = 1 := by rw [hx]; rfl
              have hN : Hid (pthQ lb = (q ++ b.extract i (i + 1)).data.toList ++ ((lb.take 100).drop (i + 1)).filter isPth) := by
                rw [HI.out, hd, List.filter_cons, if_pos hk, hx]
                refine Lib.hid ?_
                simp [ByteArray.data_append, strOf]
              have hqz : (q ++ b.extract i (i + 1)).size ≤ 0 + (i + 1) := by rw [ByteArray.size_append, hxz]; omega
              obtain ⟨X, hX⟩ : ∃ X, b.extract i (i + 1) = X := ⟨_, rfl⟩
              rw [hX] at hN hqz hxz
              have hs1 : ¬ 9223372036854775807 < q.size + X.size := by omega
              have HQ := Lib.hid hqz
              clear hget hd HI hk hx hxz hqz
              go_wp2
              exact ⟨⟨i + 1, _, rfl, rfl, by omega, by omega, HQ.out, hN⟩, by simp [intOf]; omega⟩
            · have hN : Hid (pthQ lb = q.data.toList ++ ((lb.take 100).drop (i + 1)).filter isPth) := by
                rw [HI.out, hd, List.filter_cons, if_neg (by rw [hk]; simp)]; exact Lib.hid rfl
              clear hget hd HI hk
              go_wp2
              exact ⟨⟨i + 1, _, rfl, rfl, by omega, by omega, by omega, hN⟩, by simp [intOf]; omega⟩
            · have hN : Hid (pthQ lb = q.data.toList ++ ((lb.take 100).drop (i + 1)).filter isPth) := by
                rw [HI.out, hd, List.filter_cons, if_neg (by rw [hk]; simp)]; exact Lib.hid rfl
              clear hget hd HI hk
              go_wp2
              exact ⟨⟨i + 1, _, rfl, rfl, by omega, by omega, by omega, hN⟩, by simp [intOf]; omega⟩
          · have hqN : q.data.toList = pthQ lb := by
              rw [HI.out, List.drop_of_length_le, List.filter_nil, List.append_nil]
              rw [List.length_take, ← HLb.out, ← Lib.size_eq]
              omega
            have hqz : q.size ≤ 100 := by omega
            have HQb := Lib.hid hqN
            have hends : (¬ (i : Int) < (b.size : Int)) ∨ ((i : Int) < (b.size : Int) ∧ ¬ (i : Int) < 100) := by omega
            clear HI hgo hqN
            obtain ⟨Q, rfl⟩ : ∃ x, x = q := ⟨_, rfl⟩
            rcases hends with l1 | ⟨l1, l2⟩
            all_goals
              have hPl : P.data.toList = pthP la := HQa.out
              have hQl : Q.data.toList = pthQ lb := HQb.out
              have hgood1 : ∀ c ∈ P.data.toList, c ≠ 37 := by rw [hPl]; exact pthP_ok la
              have hgood2 : ∀ c ∈ Q.data.toList, c ≠ 37 := by rw [hQl]; exact pthQ_ok lb
              have hPne : P.data.toList ≠ [] := by rw [hPl]; exact List.cons_ne_nil _ _
              have hP1 : 1 ≤ P.size := by rw [Lib.size_eq]; exact List.length_pos_iff.2 hPne
              have hm1 : IntKind.i64.wrap ((P.size : Int) - 1) = (P.size : Int) - 1 := IntWalk.i64_in _ (by omega)
              have ht1 : ((P.size : Int) - 1).toNat = P.size - 1 := by omega
              have hi1 : (0 : Int) ≤ (P.size : Int) - 1 := by omega
              have hi2 : (P.size : Int) - 1 < (P.size : Int) := by omega
              have ho1 : ¬ 9223372036854775807 < P.size + Q.size := by omega
              have hPQ : (P ++ Q).data.toList = P.data.toList ++ Q.data.toList := by simp [ByteArray.data_append]
              have hlaw := path_law P.data.toList Q.data.toList hPne hgood1 hgood2
              rw [← hPQ] at hlaw
              have hz : (P ++ Q).size ≤ 1000000 := by rw [ByteArray.size_append]; omega
              have CM : ∀ (red : Bool) (w' : World), GLS w' → Calls Tryz.prog 14 #[.agg #[.int .i64 3, .string ⟨#[104, 116, 116, 112, 115]⟩, .string ⟨#[97, 46, 101, 120, 97, 109, 112, 108, 101]⟩, .int .i64 (-1), .string P, .string ⟨#[]⟩], .agg #[.string ⟨#[104, 116, 116, 112, 115]⟩, .string ⟨#[97, 46, 101, 120, 97, 109, 112, 108, 101]⟩, .int .i64 (-1), .string (P ++ Q), .string ⟨#[]⟩, .string ⟨#[]⟩], .agg #[.string ⟨#[104, 116, 116, 112, 115]⟩, .string ⟨#[97, 46, 101, 120, 97, 109, 112, 108, 101]⟩, .int .i64 (-1), .string (P ++ Q), .string ⟨#[]⟩, .string ⟨#[]⟩], .bool red] w' fun e w'' => e = .returned (.bool (pathM P.data.toList (P ++ Q).data.toList red)) ∧ Below w'.heap.size w' w'' := by
                intro red w' hG'
                have h := match_host ⟨#[104, 116, 116, 112, 115]⟩ ⟨#[97, 46, 101, 120, 97, 109, 112, 108, 101]⟩ (P ++ Q) ⟨#[]⟩ ⟨#[]⟩ ⟨#[104, 116, 116, 112, 115]⟩ ⟨#[97, 46, 101, 120, 97, 109, 112, 108, 101]⟩ (P ++ Q) ⟨#[]⟩ ⟨#[]⟩ ⟨#[104, 116, 116, 112, 115]⟩ ⟨#[97, 46, 101, 120, 97, 109, 112, 108, 101]⟩ P ⟨#[]⟩ (-1) (-1) (-1) red w' (by decide) hz (by decide) (by omega) hG'
                rw [show hostM (⟨#[104, 116, 116, 112, 115]⟩ : ByteArray).data.toList (⟨#[97, 46, 101, 120, 97, 109, 112, 108, 101]⟩ : ByteArray).data.toList P.data.toList (-1) (⟨#[104, 116, 116, 112, 115]⟩ : ByteArray).data.toList (⟨#[97, 46, 101, 120, 97, 109, 112, 108, 101]⟩ : ByteArray).data.toList (P ++ Q).data.toList (⟨#[104, 116, 116, 112, 115]⟩ : ByteArray).data.toList (-1) red = pathM P.data.toList (P ++ Q).data.toList red from host_path _ _ red] at h
                exact h
              have C2 := Lib.hid (fun w' hG' => (show Calls Tryz.prog 14 #[.agg #[.int .i64 3, .string ⟨#[104, 116, 116, 112, 115]⟩, .string ⟨#[97, 46, 101, 120, 97, 109, 112, 108, 101]⟩, .int .i64 (-1), .string P, .string ⟨#[]⟩], .agg #[.string ⟨#[104, 116, 116, 112, 115]⟩, .string ⟨#[97, 46, 101, 120, 97, 109, 112, 108, 101]⟩, .int .i64 (-1), .string (P ++ Q), .string ⟨#[]⟩, .string ⟨#[]⟩], .agg #[.string ⟨#[104, 116, 116, 112, 115]⟩, .string ⟨#[97, 46, 101, 120, 97, 109, 112, 108, 101]⟩, .int .i64 (-1), .string (P ++ Q), .string ⟨#[]⟩, .string ⟨#[]⟩], .bool true] w' fun e w'' => e = .returned (.bool true) ∧ Below w'.heap.size w' w'' from by
                have h := CM true w' hG'
                rw [show pathM P.data.toList (P ++ Q).data.toList true = true by unfold pathM; rw [if_pos (Or.inr rfl)]] at h
                exact h))
              obtain ⟨hb2, hX, hU⟩ := two_past (w := w1) (A := .cells #[.int .i64 3, .string ⟨#[104, 116, 116, 112, 115]⟩, .string ⟨#[97, 46, 101, 120, 97, 109, 112, 108, 101]⟩, .int .i64 (-1), .string P, .string ⟨#[]⟩] 24) (B := .cells #[.string ⟨#[104, 116, 116, 112, 115]⟩, .string ⟨#[97, 46, 101, 120, 97, 109, 112, 108, 101]⟩, .int .i64 (-1), .string (P ++ Q), .string ⟨#[]⟩, .string ⟨#[]⟩] 28) (Below.refl _ _)
              have hb2 := hb1.trans (hb2.mono hb1.size)
              have hG2 := HG.out.below hb2
              have CF := CM false
              rw [hlaw] at CF
              have gl := getI P (P.size - 1) (by omega)
              have hlast : P.data.toList.getLast? = some (P[P.size - 1]'(by omega)) := by
                rw [List.getLast?_eq_getElem?, ← Lib.size_eq]; exact gl
              rw [hlast] at CF
              by_cases hq0 : Q.data.toList = []
              · have hem : Q.toList.isEmpty = true := by rw [isEmpty_data, hq0]; rfl
                rw [decide_eq_true hq0, Bool.true_or] at CF
                have C1 := Lib.hid CF
                clear CF CM hlaw hPQ hgood1 hgood2 hPne hPl hQl hq0 gl hlast hb1 hG1
                go_wp2_with fail
                refine (C1.out _ hG2).mono ?_
                rintro e w3 ⟨rfl, hb3⟩
                have hX3 := block_past hX hb3
                have hU3 := block_past hU hb3
                have hb3' := hb2.trans (hb3.mono hb2.size)
                have hG3 := HG.out.below hb3'
                clear hb3 hX hU
                obtain ⟨x0, x1, x2, x3, x4, x5⟩ := six_cells hX3
                obtain ⟨y0, y1, y2, y3, y4, y5⟩ := six_cells hU3
                go_wp2_with fail
                refine (C2.out _ hG3).mono ?_
                rintro e w4 ⟨rfl, hb4⟩
                have hb4' := hb3'.trans (hb4.mono hb3'.size)
                go_wp2
                go_ret
                exact ⟨rfl, hb4'⟩
              · have hem : Q.toList.isEmpty = false := by rw [isEmpty_data]; exact beq_eq_false_iff_ne.2 hq0
                rw [decide_eq_false hq0, Bool.false_or] at CF
                by_cases h47 : (P[P.size - 1]'(by omega)) = 47
                · have hbb := u8_eqL (P[P.size - 1]'(by omega)) 47 47 rfl h47
                  rw [decide_eq_true (congrArg some h47)] at CF
                  have C1 := Lib.hid CF
                  clear CF CM hlaw hPQ hgood1 hgood2 hPne hPl hQl hq0 gl hlast h47 hb1 hG1
                  go_wp2_with fail
                  refine (C1.out _ hG2).mono ?_
                  rintro e w3 ⟨rfl, hb3⟩
                  have hX3 := block_past hX hb3
                  have hU3 := block_past hU hb3
                  have hb3' := hb2.trans (hb3.mono hb2.size)
                  have hG3 := HG.out.below hb3'
                  clear hb3 hX hU
                  obtain ⟨x0, x1, x2, x3, x4, x5⟩ := six_cells hX3
                  obtain ⟨y0, y1, y2, y3, y4, y5⟩ := six_cells hU3
                  go_wp2_with fail
                  refine (C2.out _ hG3).mono ?_
                  rintro e w4 ⟨rfl, hb4⟩
                  have hb4' := hb3'.trans (hb4.mono hb3'.size)
                  go_wp2
                  go_ret
                  exact ⟨rfl, hb4'⟩
                · have hbb := u8_neL (P[P.size - 1]'(by omega)) 47 47 rfl h47
                  rw [decide_eq_false (fun e => h47 (Option.some.inj e))] at CF
                  have C1 := Lib.hid CF
                  clear CF CM hlaw hPQ hgood1 hgood2 hPne hPl hQl hq0 gl hlast h47 hb1 hG1
                  go_wp2_with fail
                  refine (C1.out _ hG2).mono ?_
                  rintro e w3 ⟨rfl, hb3⟩
                  have hX3 := block_past hX hb3
                  have hU3 := block_past hU hb3
                  have hb3' := hb2.trans (hb3.mono hb2.size)
                  have hG3 := HG.out.below hb3'
                  clear hb3 hX hU
                  obtain ⟨x0, x1, x2, x3, x4, x5⟩ := six_cells hX3
                  obtain ⟨y0, y1, y2, y3, y4, y5⟩ := six_cells hU3
                  go_wp2_with fail
                  refine (C2.out _ hG3).mono ?_
                  rintro e w4 ⟨rfl, hb4⟩
                  have hb4' := hb3'.trans (hb4.mono hb3'.size)
                  go_wp2
                  go_ret
                  exact ⟨rfl, hb4'⟩
end Go.Proofs.YtmgkmpbblhkacaaGreatDoor
