/- The reference's Find, lower, port, Default. The reference's Default, clean, signed. The reference's signed, dot, dots. The reference's dot, dots. The reference's dots. -/
import Derived.Test.YtmgkmpbblhkacaaGreatDoorR6
import Derived.Test.YtmgkmpbblhkacaaGreatDoorMgQ
import Derived.Test.YtmgkmpbblhkacaaGreatDoorMgF
import Derived.Deep.RegionHeld3
namespace Go.Proofs.YtmgkmpbblhkacaaGreatDoor
open Go.RowKit
set_option linter.unusedSimpArgs false
set_option linter.unusedVariables false

/-- The first place of a byte. -/
def findP (c : UInt8) : Bs → Nat
  | [] => 0
  | x :: r => if x = c then 0 else findP c r + 1
theorem findP_le (c : UInt8) (l : Bs) : findP c l ≤ l.length := by
  induction l with
  | nil => simp [findP]
  | cons x r ih => unfold findP; split <;> simp <;> omega
set_option maxRecDepth 1000000 in
theorem refFind_any (s : ByteArray) (c : UInt8) (w : World) (hs : s.size ≤ 1000000) :
    Calls Tryz.prog 46 #[.string s, .int .u8 c.toNat] w fun e w' => e = .returned (.int .i64 (findP c s.data.toList : Nat)) ∧ w = w' := by
  go_enter Tryz.func46, Tryz.ntmps46
  go_wp2
  go_loop [5] (fun vi => ∃ i : Nat, vi = .int .i64 i ∧ i ≤ s.size ∧ Hid (findP c s.data.toList = i + findP c (s.data.toList.drop i))) (fun vi => s.size - (intOf vi).toNat)
  case atStart => exact ⟨0, rfl, by omega, Lib.hid (by simp)⟩
  case round =>
    obtain ⟨i, rfl, hi, HI⟩ := hrel
    by_cases hlt : i < s.size
    · have hd := drop_at s i hlt
      by_cases hc : s[i] = c
      · have hr : Hid (findP c s.data.toList = i) := by rw [HI.out, hd, findP, if_pos hc]; exact Lib.hid rfl
        have hb := u8_eq _ _ hc
        clear hd hc HI
        go_wp2
        go_ret
        exact ⟨by rw [hr.out]; exact rfl, rfl⟩
      · have hr : Hid (findP c s.data.toList = (i + 1) + findP c (s.data.toList.drop (i + 1))) := by
          rw [HI.out, hd, findP, if_neg hc]
          exact Lib.hid (by omega)
        have hb := u8_ne _ _ hc
        clear hd hc HI
        go_wp2
        go_round
        case rel => exact ⟨i + 1, by go_num, by omega, hr⟩
        case measure => simp [intOf]; omega
    · obtain rfl : i = s.size := by omega
      have hr : Hid (findP c s.data.toList = s.size) := by rw [HI.out, drop_end]; exact Lib.hid rfl
      clear HI
      go_wp2
      go_ret
      exact ⟨by rw [hr.out]; exact rfl, rfl⟩
set_option maxRecDepth 1000000 in
set_option maxHeartbeats 2000000 in
theorem refLower_any (s : ByteArray) (w : World) (hs : s.size ≤ 1000000) :
    Calls Tryz.prog 47 #[.string s] w fun e w' => e = .returned (.string (strOf (s.data.toList.map lowB))) ∧ Below w.heap.size w w' := by
  go_enter Tryz.func47, Tryz.ntmps47
  go_wp2
  have hown0 := Lib.hid (OwnY.new w w.heap.size (Nat.le_refl _))
  have hb0 : Below w.heap.size w (w.alloc (.cells #[] 5)) := (Below.refl _ w).alloc (Nat.le_refl _) _
  have HS := Lib.hid hs
  go_loopw [3, 4] (fun v vi wr => ∃ (i : Nat) (xs : Bs) (g c : Nat), v = .slice (some ⟨g, 0, none⟩) xs.length c ∧ vi = .int .i64 i ∧ i ≤ s.size ∧ xs.length ≤ i ∧ Below w.heap.size w wr ∧ Hid (OwnY wr w.heap.size (.slice (some ⟨g, 0, none⟩) xs.length c) xs ∧ xs = (s.data.toList.take i).map lowB)) (fun _ vi _ => s.size - (intOf vi).toNat)
  case atStart => exact ⟨0, [], w.heap.size, 0, rfl, rfl, by omega, by simp, hb0, Lib.hid ⟨hown0.out, by simp⟩⟩
  case round =>
    obtain ⟨i, xs, g, cp, rfl, rfl, hi, hxl, hbw, HI⟩ := hrel
    obtain ⟨wo, rfl⟩ : ∃ wo : World, wo = wr := ⟨_, rfl⟩
    have hB := hbw.size
    by_cases hlt : i < s.size
    · have HO := Lib.hid HI.out.1
      have hget := getI s i hlt
      obtain ⟨c, hc⟩ : ∃ c, s[i] = c := ⟨_, rfl⟩
      rw [hc] at hget
      have hc256 := c.toNat_lt
      have HN : Hid (xs ++ [lowB c] = (s.data.toList.take (i + 1)).map lowB) := by
        rw [List.take_add_one, hget, List.map_append, ← HI.out.2]; exact Lib.hid rfl
      have hlv := low_val c
      clear HI hget
      have hways : (65 ≤ c.toNat ∧ c.toNat ≤ 90) ∨ (c.toNat < 65) ∨ (65 ≤ c.toNat ∧ 90 < c.toNat) := by omega
      rcases hways with hup | hup | hup
      · rw [if_pos hup] at hlv
        have h1 : (65 : Int) ≤ c.toNat := by omega
        have h2 : (c.toNat : Int) ≤ 90 := by omega
        have HC := Lib.hid (one_newY (lowB c) ((c.toNat : Int) + 32) hlv.symm wo)
        clear hlv hup
        go_wp2_with (first | (at_builtin; refine app_u8 (qs := [lowB c]) rfl _ _ rfl w.heap.size _ xs rfl (HO.out.below ((Below.refl _ _).alloc (Nat.le_refl _) _)) ⟨wo.heap.size, 0, none⟩ 1 rfl HC.out (by omega) (by simp) (by simp; omega) ?_; intro v2 w2 hown2 hg2))
        rcases OwnY.form hown2 with ⟨_, h⟩ | ⟨g2, cp2, rfl, _⟩
        · simp at h
        · have hb2 : Below w.heap.size w w2 := (hbw.alloc hB _).grown hg2 (by simp; omega) HO.out.base
          exact ⟨⟨i + 1, _, g2, cp2, rfl, rfl, by omega, by simp; omega, hb2, Lib.hid ⟨hown2, HN.out⟩⟩, by simp [intOf]; omega⟩
      all_goals
        rw [if_neg (by omega)] at hlv
        have h1 : (c.toNat : Int) < 65 ∨ ((65 : Int) ≤ c.toNat ∧ (90 : Int) < c.toNat) := by omega
        have HC := Lib.hid (one_newY (lowB c) (c.toNat : Int) hlv.symm wo)
        clear hlv hup
        rcases h1 with h1 | ⟨h1, h2⟩
        all_goals
          go_wp2_with (first | (at_builtin; refine app_u8 (qs := [lowB c]) rfl _ _ rfl w.heap.size _ xs rfl (HO.out.below ((Below.refl _ _).alloc (Nat.le_refl _) _)) ⟨wo.heap.size, 0, none⟩ 1 rfl HC.out (by omega) (by simp) (by simp; omega) ?_; intro v2 w2 hown2 hg2))
          rcases OwnY.form hown2 with ⟨_, h⟩ | ⟨g2, cp2, rfl, _⟩
          · simp at h
          · have hb2 : Below w.heap.size w w2 := (hbw.alloc hB _).grown hg2 (by simp; omega) HO.out.base
            exact ⟨⟨i + 1, _, g2, cp2, rfl, rfl, by omega, by simp; omega, hb2, Lib.hid ⟨hown2, HN.out⟩⟩, by simp [intOf]; omega⟩
    · obtain rfl : i = s.size := by omega
      have hv : (Value.slice (some ⟨g, 0, none⟩) xs.length cp) ≠ .slice none 0 0 := by intro h; cases h
      have hend : Hid (xs = s.data.toList.map lowB) := by
        rw [HI.out.2, List.take_of_length_le (by rw [← Lib.size_eq]; exact Nat.le_refl _)]
        exact Lib.hid rfl
      have hst := own_str HI.out.1 hv
      clear HI hv
      go_wp2
      go_ret
      exact ⟨by rw [← hend.out]; exact rfl, hbw⟩
/-- The number of a port's digits, at most 70000; none: there are other bytes. -/
def portL : Nat → Bs → Option Nat
  | n, [] => some n
  | n, c :: r => if 48 ≤ c.toNat ∧ c.toNat ≤ 57 then portL (min (n * 10 + (c.toNat - 48)) 70000) r else none
/-- transeptref08.port. -/
def portP (s : Bs) : Nat × Bool := match portL 0 s with | none => (0, false) | some n => (n, decide (n ≤ 65535))
set_option maxRecDepth 1000000 in
set_option maxHeartbeats 1000000 in
theorem refPort_any (s : ByteArray) (w : World) (hs : s.size ≤ 1000000) :
    Calls Tryz.prog 82 #[.string s] w fun e w' => e = .returned (.tuple #[.int .i64 ((portP s.data.toList).1 : Nat), .bool (portP s.data.toList).2]) ∧ w = w' := by
  have HP : Hid (portP s.data.toList = match portL 0 s.data.toList with | none => (0, false) | some n => (n, decide (n ≤ 65535))) := Lib.hid rfl
  go_enter Tryz.func82, Tryz.ntmps82
  go_wp2
  go_loop [4, 5] (fun vn vi => ∃ i n : Nat, vn = .int .i64 n ∧ vi = .int .i64 i ∧ i ≤ s.size ∧ n ≤ 70000 ∧ Hid (portL 0 s.data.toList = portL n (s.data.toList.drop i))) (fun _ vi => s.size - (intOf vi).toNat)
  case atStart => exact ⟨0, 0, rfl, rfl, by omega, by omega, Lib.hid (by simp)⟩
  case round =>
    obtain ⟨i, n, rfl, rfl, hi, hn, HI⟩ := hrel
    by_cases hlt : i < s.size
    · have hd := drop_at s i hlt
      have hc256 := s[i].toNat_lt
      by_cases hok : 48 ≤ s[i].toNat ∧ s[i].toNat ≤ 57
      · have HN : Hid (portL 0 s.data.toList = portL (min (n * 10 + (s[i].toNat - 48)) 70000) (s.data.toList.drop (i + 1))) := by
          rw [HI.out, hd, portL, if_pos hok]; exact Lib.hid rfl
        have h1 : (48 : Int) ≤ s[i].toNat := by omega
        have h2 : (s[i].toNat : Int) ≤ 57 := by omega
        clear hd HI
        go_wp2
        refine ⟨⟨i + 1, min (n * 10 + (s[i].toNat - 48)) 70000, ?_, rfl, by omega, by omega, HN⟩, by simp [intOf]; omega⟩
        congr 1; omega
      · have HN : Hid (portP s.data.toList = (0, false)) := by
          rw [HP.out, HI.out, hd, portL, if_neg hok]; exact Lib.hid rfl
        have hways : (s[i].toNat : Int) < 48 ∨ ((48 : Int) ≤ s[i].toNat ∧ (57 : Int) < s[i].toNat) := by omega
        clear hd HI hok
        rcases hways with h1 | ⟨h1, h2⟩
        all_goals
          go_wp2
          go_ret2
          exact ⟨by rw [HN.out]; exact rfl, rfl⟩
    · obtain rfl : i = s.size := by omega
      have HN : Hid (portP s.data.toList = (n, decide (n ≤ 65535))) := by rw [HP.out, HI.out, drop_end]; exact Lib.hid rfl
      have hdc : decide ((n : Int) ≤ 65535) = decide (n ≤ 65535) := by rw [Bool.eq_iff_iff]; simp; omega
      clear HI
      go_wp2
      go_ret2
      exact ⟨by rw [HN.out]; first | exact rfl | simp [hdc], rfl⟩
end Go.Proofs.YtmgkmpbblhkacaaGreatDoor
namespace Go.Proofs.YtmgkmpbblhkacaaGreatDoor
open Go.RowKit
set_option linter.unusedSimpArgs false
set_option linter.unusedVariables false

def sHttp : Bs := [104, 116, 116, 112]
def sHttps : Bs := [104, 116, 116, 112, 115]
def sWs : Bs := [119, 115]
def sWss : Bs := [119, 115, 115]
def sData : Bs := [100, 97, 116, 97]
def sBlob : Bs := [98, 108, 111, 98]
def sAbout : Bs := [97, 98, 111, 117, 116]
/-- transeptref08.Default. -/
def defP (s : Bs) : Int := if s = sHttp ∨ s = sWs then 80 else if s = sHttps ∨ s = sWss then 443 else if s = sData ∨ s = sBlob ∨ s = sAbout then 0 else -1
theorem str_ne (s : ByteArray) (l : Bs) (h : s.data.toList ≠ l) : (s.toList == l) = false := by
  rw [ByteArray.toList_eq]; exact beq_eq_false_iff_ne.2 h
theorem str_of (s : ByteArray) (l : Bs) (h : s.data.toList = l) : s = strOf l := by
  subst h
  apply ByteArray.ext
  simp [strOf]
set_option maxRecDepth 1000000 in
set_option maxHeartbeats 2000000 in
theorem refDefault_any (s : ByteArray) (w : World) :
    Calls Tryz.prog 17 #[.string s] w fun e w' => e = .returned (.int .i64 (defP s.data.toList)) ∧ w = w' := by
  by_cases h1 : s.data.toList = sHttp
  · have hr : Hid (defP s.data.toList = 80) := Lib.hid (by rw [h1]; decide)
    obtain rfl := str_of s _ h1
    unfold sHttp strOf at *
    clear h1
    go_enter Tryz.func17, Tryz.ntmps17
    go_wp2
    go_ret
    exact ⟨by rw [hr.out]; exact rfl, rfl⟩
  by_cases h2 : s.data.toList = sWs
  · have hr : Hid (defP s.data.toList = 80) := Lib.hid (by rw [h2]; decide)
    obtain rfl := str_of s _ h2
    unfold sWs strOf at *
    clear h1 h2
    go_enter Tryz.func17, Tryz.ntmps17
    go_wp2
    go_ret
    exact ⟨by rw [hr.out]; exact rfl, rfl⟩
  by_cases h3 : s.data.toList = sHttps
  · have hr : Hid (defP s.data.toList = 443) := Lib.hid (by rw [h3]; decide)
    obtain rfl := str_of s _ h3
    unfold sHttps strOf at *
    clear h1 h2 h3
    go_enter Tryz.func17, Tryz.ntmps17
    go_wp2
    go_ret
    exact ⟨by rw [hr.out]; exact rfl, rfl⟩
  by_cases h4 : s.data.toList = sWss
  · have hr : Hid (defP s.data.toList = 443) := Lib.hid (by rw [h4]; decide)
    obtain rfl := str_of s _ h4
    unfold sWss strOf at *
    clear h1 h2 h3 h4
    go_enter Tryz.func17, Tryz.ntmps17
    go_wp2
    go_ret
    exact ⟨by rw [hr.out]; exact rfl, rfl⟩
  by_cases h5 : s.data.toList = sData
  · have hr : Hid (defP s.data.toList = 0) := Lib.hid (by rw [h5]; decide)
    obtain rfl := str_of s _ h5
    unfold sData strOf at *
    clear h1 h2 h3 h4 h5
    go_enter Tryz.func17, Tryz.ntmps17
    go_wp2
    go_ret
    exact ⟨by rw [hr.out]; exact rfl, rfl⟩
  by_cases h6 : s.data.toList = sBlob
  · have hr : Hid (defP s.data.toList = 0) := Lib.hid (by rw [h6]; decide)
    obtain rfl := str_of s _ h6
    unfold sBlob strOf at *
    clear h1 h2 h3 h4 h5 h6
    go_enter Tryz.func17, Tryz.ntmps17
    go_wp2
    go_ret
    exact ⟨by rw [hr.out]; exact rfl, rfl⟩
  by_cases h7 : s.data.toList = sAbout
  · have hr : Hid (defP s.data.toList = 0) := Lib.hid (by rw [h7]; decide)
    obtain rfl := str_of s _ h7
    unfold sAbout strOf at *
    clear h1 h2 h3 h4 h5 h6 h7
    go_enter Tryz.func17, Tryz.ntmps17
    go_wp2
    go_ret
    exact ⟨by rw [hr.out]; exact rfl, rfl⟩
  have hr : Hid (defP s.data.toList = -1) := Lib.hid (by unfold defP; rw [if_neg (by simp [h1, h2]), if_neg (by simp [h3, h4]), if_neg (by simp [h5, h6, h7])])
  have b1 := str_ne s _ h1
  have b2 := str_ne s _ h2
  have b3 := str_ne s _ h3
  have b4 := str_ne s _ h4
  have b5 := str_ne s _ h5
  have b6 := str_ne s _ h6
  have b7 := str_ne s _ h7
  unfold sHttp at b1
  unfold sWs at b2
  unfold sHttps at b3
  unfold sWss at b4
  unfold sData at b5
  unfold sBlob at b6
  unfold sAbout at b7
  clear h1 h2 h3 h4 h5 h6 h7
  go_enter Tryz.func17, Tryz.ntmps17
  go_wp2
  go_ret
  exact ⟨by rw [hr.out]; exact rfl, rfl⟩

def blk (c : UInt8) : Bool := decide (c.toNat ≤ 32)
def rtrim (l : Bs) : Bs := (l.reverse.dropWhile blk).reverse
theorem rtrim_snoc (l : Bs) (x : UInt8) : rtrim (l ++ [x]) = if blk x = true then rtrim l else l ++ [x] := by
  unfold rtrim
  rw [List.reverse_append, List.reverse_cons, List.reverse_nil, List.nil_append, List.singleton_append, List.dropWhile_cons]
  split
  · rfl
  · simp
def keepB (c : UInt8) : Bool := decide (c ≠ 9) && decide (c ≠ 10) && decide (c ≠ 13)
/-- transeptref08.clean. -/
def cleanP (s : Bs) : Bs := (rtrim (s.dropWhile blk)).filter keepB
theorem take_prev (l : Bs) (f t : Nat) (x : UInt8) (hf : f < t) (hx : l[t - 1]? = some x) : (l.drop f).take (t - f) = (l.drop f).take (t - 1 - f) ++ [x] := by
  have := take_more l f (t - 1) x (by omega) hx
  rw [show t - 1 + 1 - f = t - f by omega] at this
  exact this
set_option maxRecDepth 1000000 in
set_option maxHeartbeats 4000000 in
theorem refClean_any (s : ByteArray) (w : World) (hs : s.size ≤ 1000000) :
    Calls Tryz.prog 45 #[.string s] w fun e w' => e = .returned (.string (strOf (cleanP s.data.toList))) ∧ Below w.heap.size w w' := by
  go_enter Tryz.func45, Tryz.ntmps45
  go_wp2
  go_loop [3] (fun vf => ∃ f : Nat, vf = .int .i64 f ∧ f ≤ s.size ∧ Hid (s.data.toList.dropWhile blk = (s.data.toList.drop f).dropWhile blk)) (fun vf => s.size - (intOf vf).toNat)
  case atStart => exact ⟨0, rfl, by omega, Lib.hid (by simp)⟩
  case round =>
    obtain ⟨f, rfl, hf, HI⟩ := hrel
    by_cases hgo : ∃ h : f < s.size, blk (s[f]'h) = true
    · obtain ⟨hlt, hb⟩ := hgo
      have hd := drop_at s f hlt
      have HN : Hid (s.data.toList.dropWhile blk = (s.data.toList.drop (f + 1)).dropWhile blk) := by
        rw [HI.out, hd, List.dropWhile_cons, if_pos hb]; exact Lib.hid rfl
      have h32 : (s[f].toNat : Int) ≤ 32 := by unfold blk at hb; simp at hb; omega
      clear hd HI hb
      go_wp2
      go_round
      case rel => exact ⟨f + 1, by go_num, by omega, HN⟩
      case measure => simp [intOf]; omega
    · have hA : Hid (s.data.toList.dropWhile blk = s.data.toList.drop f) := by
        rw [HI.out]
        by_cases hlt : f < s.size
        · rw [drop_at s f hlt, List.dropWhile_cons, if_neg (fun h => hgo ⟨hlt, h⟩)]; exact Lib.hid rfl
        · obtain rfl : f = s.size := by omega
          rw [drop_end]; exact Lib.hid rfl
      have hways : f = s.size ∨ ∃ h : f < s.size, (32 : Int) < s[f].toNat := by
        by_cases hlt : f < s.size
        · refine Or.inr ⟨hlt, ?_⟩
          have : ¬ blk s[f] = true := fun h => hgo ⟨hlt, h⟩
          unfold blk at this; simp at this; omega
        · exact Or.inl (by omega)
      clear HI hgo
      rcases hways with hfe | ⟨hlt0, h32⟩
      all_goals
        try (have hge : ¬ ((f : Int) < (s.size : Int)) := by omega)
        try clear hfe
        go_wp2
        go_loop [4] (fun vt => ∃ t : Nat, vt = .int .i64 t ∧ f ≤ t ∧ t ≤ s.size ∧ Hid (rtrim (s.data.toList.drop f) = rtrim ((s.data.toList.drop f).take (t - f)))) (fun vt => (intOf vt).toNat)
        case atStart => exact ⟨s.size, rfl, hf, Nat.le_refl _, Lib.hid (by rw [List.take_of_length_le (by rw [List.length_drop, ← Lib.size_eq]; exact Nat.le_refl _)])⟩
        case round =>
          obtain ⟨t, rfl, hft, hts, HT⟩ := hrel
          by_cases hgo : ∃ h : t - 1 < s.size, f < t ∧ blk (s[t - 1]'h) = true
          · obtain ⟨ht1, hlt2, hb⟩ := hgo
            try (exfalso; omega)
            all_goals
              have hget := getI s (t - 1) ht1
              have HN : Hid (rtrim (s.data.toList.drop f) = rtrim ((s.data.toList.drop f).take (t - 1 - f))) := by
                rw [HT.out, take_prev _ _ _ _ hlt2 hget, rtrim_snoc, if_pos hb]; exact Lib.hid rfl
              have h32' : (s[t - 1].toNat : Int) ≤ 32 := by unfold blk at hb; simp at hb; omega
              have t1 : ((t : Int) - 1).toNat = t - 1 := by omega
              clear hget HT hb
              go_wp2
              go_round
              case rel => exact ⟨t - 1, by first | (congr 1; done) | (congr 1; omega), by omega, by omega, HN⟩
              case measure => simp [intOf]; omega
          · have hB : Hid (rtrim (s.data.toList.drop f) = (s.data.toList.drop f).take (t - f)) := by
              rw [HT.out]
              by_cases hlt2 : f < t
              · have hget := getI s (t - 1) (by omega)
                rw [take_prev _ _ _ _ hlt2 hget, rtrim_snoc, if_neg (fun h => hgo ⟨by omega, hlt2, h⟩)]; exact Lib.hid rfl
              · rw [show t - f = 0 by omega, List.take_zero]; exact Lib.hid rfl
            have hways2 : t = f ∨ ∃ h : t - 1 < s.size, f < t ∧ (32 : Int) < (s[t - 1]'h).toNat := by
              by_cases hlt2 : f < t
              · refine Or.inr ⟨by omega, hlt2, ?_⟩
                have : ¬ blk (s[t - 1]'(by omega)) = true := fun h => hgo ⟨by omega, hlt2, h⟩
                unfold blk at this; simp at this; omega
              · exact Or.inl (by omega)
            have HC : Hid (cleanP s.data.toList = ((s.data.toList.drop f).take (t - f)).filter keepB) := by
              unfold cleanP; rw [hA.out, hB.out]; exact Lib.hid rfl
            clear HT hgo hB
            have t1 : ((t : Int) - 1).toNat = t - 1 := by omega
            rcases hways2 with hte | ⟨ht1, hlt2, h32'⟩
            all_goals
              try (have hge2 : ¬ ((f : Int) < (t : Int)) := by omega)
              try clear hte
              go_wp2
              have hown0 := Lib.hid (OwnY.new w w.heap.size (Nat.le_refl _))
              have hb0 : Below w.heap.size w (w.alloc (.cells #[] 5)) := (Below.refl _ w).alloc (Nat.le_refl _) _
              go_loopw [5, 6] (fun v vi wr => ∃ (i : Nat) (xs : Bs) (g c : Nat), v = .slice (some ⟨g, 0, none⟩) xs.length c ∧ vi = .int .i64 i ∧ f ≤ i ∧ i ≤ t ∧ xs.length ≤ i ∧ Below w.heap.size w wr ∧ Hid (OwnY wr w.heap.size (.slice (some ⟨g, 0, none⟩) xs.length c) xs ∧ xs = ((s.data.toList.drop f).take (i - f)).filter keepB)) (fun _ vi _ => t - (intOf vi).toNat)
              case atStart => exact ⟨f, [], w.heap.size, 0, rfl, rfl, Nat.le_refl _, hft, by simp, hb0, Lib.hid ⟨hown0.out, by simp⟩⟩
              case round =>
                obtain ⟨i, xs, g, cp, rfl, rfl, hfi, hit, hxl, hbw, HI⟩ := hrel
                obtain ⟨wo, rfl⟩ : ∃ wo : World, wo = wr := ⟨_, rfl⟩
                have hB := hbw.size
                by_cases hlt : i < t
                · try (exfalso; omega)
                  all_goals
                    have hiz : i < s.size := by omega
                    have HO := Lib.hid HI.out.1
                    have hget := getI s i hiz
                    obtain ⟨c, hc⟩ : ∃ c, s[i] = c := ⟨_, rfl⟩
                    rw [hc] at hget
                    have htk : ((s.data.toList.drop f).take (i + 1 - f)).filter keepB = xs ++ (if keepB c = true then [c] else []) := by
                      rw [take_more _ _ _ _ hfi hget, List.filter_append, ← HI.out.2]
                      congr 1
                      rw [List.filter_cons]
                      rfl
                    have HTK := Lib.hid htk
                    have hlti : (i : Int) < (t : Int) := by omega
                    clear HI hget htk
                    by_cases hk : keepB c = true
                    · have HN : Hid (xs ++ [c] = ((s.data.toList.drop f).take (i + 1 - f)).filter keepB) := by rw [HTK.out, if_pos hk]; exact Lib.hid rfl
                      simp only [keepB, Bool.and_eq_true, decide_eq_true_eq] at hk
                      obtain ⟨⟨k1, k2⟩, k3⟩ := hk
                      have b1 := u8_neL c 9 9 rfl k1
                      have b2 := u8_neL c 10 10 rfl k2
                      have b3 := u8_neL c 13 13 rfl k3
                      have b1' : ((c.toNat : Int) != 9) = true := by unfold bne; rw [b1]; rfl
                      have b2' : ((c.toNat : Int) != 10) = true := by unfold bne; rw [b2]; rfl
                      have b3' : ((c.toNat : Int) != 13) = true := by unfold bne; rw [b3]; rfl
                      clear k1 k2 k3
                      go_wp2_with (first | (at_builtin; refine app_u8 (qs := [c]) rfl _ _ rfl w.heap.size _ xs rfl (HO.out.below ((Below.refl _ _).alloc (Nat.le_refl _) _)) ⟨wo.heap.size, 0, none⟩ 1 rfl (one_newY _ _ rfl wo) (by omega) (by simp) (by simp; omega) ?_; intro v2 w2 hown2 hg2))
                      rcases OwnY.form hown2 with ⟨_, h⟩ | ⟨g2, cp2, rfl, _⟩
                      · simp at h
                      · have hb2 : Below w.heap.size w w2 := (hbw.alloc hB _).grown hg2 (by simp; omega) HO.out.base
                        exact ⟨⟨i + 1, _, g2, cp2, rfl, rfl, by omega, by omega, by simp; omega, hb2, Lib.hid ⟨hown2, HN.out⟩⟩, by simp [intOf]; omega⟩
                    · have HN : Hid (xs = ((s.data.toList.drop f).take (i + 1 - f)).filter keepB) := by rw [HTK.out, if_neg hk]; exact Lib.hid (by simp)
                      have hcase : c = 9 ∨ (c ≠ 9 ∧ c = 10) ∨ (c ≠ 9 ∧ c ≠ 10 ∧ c = 13) := by
                        simp only [keepB, Bool.and_eq_true, decide_eq_true_eq] at hk
                        by_cases k1 : c = 9
                        · exact Or.inl k1
                        · by_cases k2 : c = 10
                          · exact Or.inr (Or.inl ⟨k1, k2⟩)
                          · by_cases k3 : c = 13
                            · exact Or.inr (Or.inr ⟨k1, k2, k3⟩)
                            · exact absurd ⟨⟨k1, k2⟩, k3⟩ hk
                      clear hk
                      rcases hcase with k1 | ⟨k1, k2⟩ | ⟨k1, k2, k3⟩
                      · have b1 := u8_eqL c 9 9 rfl k1
                        have b1' : ((c.toNat : Int) != 9) = false := by unfold bne; rw [b1]; rfl
                        clear k1
                        go_wp2
                        exact ⟨⟨i + 1, xs, g, cp, rfl, rfl, by omega, by omega, by omega, hbw, Lib.hid ⟨HO.out, HN.out⟩⟩, by simp [intOf]; omega⟩
                      · have b1 := u8_neL c 9 9 rfl k1
                        have b2 := u8_eqL c 10 10 rfl k2
                        have b1' : ((c.toNat : Int) != 9) = true := by unfold bne; rw [b1]; rfl
                        have b2' : ((c.toNat : Int) != 10) = false := by unfold bne; rw [b2]; rfl
                        clear k1 k2
                        go_wp2
                        exact ⟨⟨i + 1, xs, g, cp, rfl, rfl, by omega, by omega, by omega, hbw, Lib.hid ⟨HO.out, HN.out⟩⟩, by simp [intOf]; omega⟩
                      · have b1 := u8_neL c 9 9 rfl k1
                        have b2 := u8_neL c 10 10 rfl k2
                        have b3 := u8_eqL c 13 13 rfl k3
                        have b1' : ((c.toNat : Int) != 9) = true := by unfold bne; rw [b1]; rfl
                        have b2' : ((c.toNat : Int) != 10) = true := by unfold bne; rw [b2]; rfl
                        have b3' : ((c.toNat : Int) != 13) = false := by unfold bne; rw [b3]; rfl
                        clear k1 k2 k3
                        go_wp2
                        exact ⟨⟨i + 1, xs, g, cp, rfl, rfl, by omega, by omega, by omega, hbw, Lib.hid ⟨HO.out, HN.out⟩⟩, by simp [intOf]; omega⟩
                · obtain rfl : i = t := by omega
                  have hv : (Value.slice (some ⟨g, 0, none⟩) xs.length cp) ≠ .slice none 0 0 := by intro h; cases h
                  have hend : Hid (xs = cleanP s.data.toList) := by rw [HC.out, HI.out.2]; exact Lib.hid rfl
                  have hst := own_str HI.out.1 hv
                  clear HI hv
                  go_wp2
                  go_ret
                  exact ⟨by rw [← hend.out]; exact rfl, hbw⟩
end Go.Proofs.YtmgkmpbblhkacaaGreatDoor
namespace Go.Proofs.YtmgkmpbblhkacaaGreatDoor
open Go.RowKit
set_option linter.unusedSimpArgs false
set_option linter.unusedVariables false

/-- transeptref08.signed. -/
def signedP (k : Nat) (s : Bs) (at_ : Nat) : Bs := if at_ = s.length then [] else (s.drop at_).take 1 ++ encP k (s.drop (at_ + 1))
set_option maxRecDepth 1000000 in
set_option maxHeartbeats 2000000 in
theorem refSigned_any (s : ByteArray) (at_ k : Nat) (w : World) (hs : s.size ≤ 300000) (ha : at_ ≤ s.size) (h1 : 1 ≤ k) (h5 : k ≤ 5) :
    Calls Tryz.prog 48 #[.string s, .int .i64 at_, .int .i64 k] w fun e w' => e = .returned (.string (strOf (signedP k s.data.toList at_))) ∧ Below w.heap.size w w' := by
  by_cases he : at_ = s.size
  · have hr : Hid (signedP k s.data.toList at_ = []) := Lib.hid (by unfold signedP; rw [if_pos (by rw [he, Lib.size_eq])])
    subst he
    go_enter Tryz.func48, Tryz.ntmps48
    go_wp2
    go_ret
    exact ⟨by rw [hr.out]; exact rfl, Below.refl _ _⟩
  · have hlt : at_ < s.size := by omega
    have e1 : (s.extract (at_ + 1) s.size).data.toList = s.data.toList.drop (at_ + 1) := by rw [extract_from, strOf_data]
    have z1 : (s.extract (at_ + 1) s.size).size ≤ 300000 := by rw [ByteArray.size_extract]; omega
    have CE := fun w' => Encode_any k (s.extract (at_ + 1) s.size) w' (by omega) h1 h5
    rw [e1] at CE
    have hx : s.extract at_ (at_ + 1) = strOf ((s.data.toList.drop at_).take 1) := by
      rw [extract_strOf, List.drop_take, show at_ + 1 - at_ = 1 by omega]
    have hr : Hid (strOf (signedP k s.data.toList at_) = s.extract at_ (at_ + 1) ++ strOf (encP k (s.data.toList.drop (at_ + 1)))) := by
      unfold signedP; rw [if_neg (by rw [← Lib.size_eq]; exact he), strOf_append, hx]; exact Lib.hid rfl
    have hel := encP_len k (s.data.toList.drop (at_ + 1))
    rw [List.length_drop, ← Lib.size_eq] at hel
    have CE' := Lib.hid CE
    obtain ⟨E, hE⟩ : ∃ E, strOf (encP k (s.data.toList.drop (at_ + 1))) = E := ⟨_, rfl⟩
    have hEz : E.size ≤ 900000 := by rw [← hE, strOf_size]; omega
    rw [hE] at CE' hr
    obtain ⟨X, hX⟩ : ∃ X, s.extract at_ (at_ + 1) = X := ⟨_, rfl⟩
    have hXz : X.size ≤ 1 := by rw [← hX, ByteArray.size_extract]; omega
    rw [hX] at hr
    have hne : ((at_ : Int) == (s.size : Int)) = false := beq_eq_false_iff_ne.2 (by omega)
    clear CE e1 hx hel hE h1 h5 he z1
    go_enter Tryz.func48, Tryz.ntmps48
    go_wp2_with fail
    have m1 : IntKind.i64.wrap ((at_ : Int) + 1) = (at_ : Int) + 1 := IntWalk.i64_in _ (by omega)
    have n1 : (0 : Int) ≤ (at_ : Int) + 1 := by omega
    have t1 : ((at_ : Int) + 1).toNat = at_ + 1 := by omega
    have l1 : at_ + 1 ≤ s.size := by omega
    have l1' : (at_ : Int) + 1 ≤ (s.size : Int) := by omega
    have l2 : at_ ≤ at_ + 1 := by omega
    have l3 : (at_ : Int) ≤ (at_ : Int) + 1 := by omega
    have hnb : ¬ 9223372036854775807 < X.size + E.size := by omega
    go_region_law (first | (go_simp; go_at_call 49; refine (CE'.out _).mono ?_; rintro e w2 ⟨rfl, hb2⟩))
    all_goals
      try go_wp2
      go_ret
      exact ⟨by rw [hr.out]; exact rfl, (Below.drew (Below.refl _ _)).trans hb2⟩
end Go.Proofs.YtmgkmpbblhkacaaGreatDoor
namespace Go.Proofs.YtmgkmpbblhkacaaGreatDoor
open Go.RowKit
set_option linter.unusedSimpArgs false
set_option linter.unusedVariables false

/-- transeptref08.dot. -/
def dotP (s : Bs) : Nat :=
  if s[0]? = some 46 then 1
  else if s[0]? = some 37 ∧ s[1]? = some 50 ∧ (s[2]? = some 101 ∨ s[2]? = some 69) then 3 else 0
theorem dotP_le (s : Bs) : dotP s ≤ s.length ∧ dotP s ≤ 3 := by
  unfold dotP
  split
  · next h =>
    have := (List.getElem?_eq_some_iff.1 h).1
    omega
  · split
    · next h =>
      rcases h with ⟨_, _, h2 | h2⟩ <;>
      · have := (List.getElem?_eq_some_iff.1 h2).1
        omega
    · omega
set_option maxRecDepth 1000000 in
set_option maxHeartbeats 4000000 in
theorem refDot_any (s : ByteArray) (w : World) (hs : s.size ≤ 1000000) :
    Calls Tryz.prog 146 #[.string s] w fun e w' => e = .returned (.int .i64 (dotP s.data.toList : Nat)) ∧ w = w' := by
  by_cases h0 : s.size = 0
  · have hl : s.data.toList = [] := by rw [← List.length_eq_zero_iff, ← Lib.size_eq]; exact h0
    have hemp : s.toList.isEmpty = true := by rw [isEmpty_data, hl]; rfl
    have hr : Hid (dotP s.data.toList = 0) := Lib.hid (by rw [hl]; rfl)
    have h3 : ¬ (3 : Int) ≤ (s.size : Int) := by omega
    clear hl h0
    go_enter Tryz.func146, Tryz.ntmps146
    go_wp2
    go_ret
    exact ⟨by rw [hr.out]; exact rfl, rfl⟩
  have z0 : 0 < s.size := by omega
  have hemp : s.toList.isEmpty = false := by
    rw [isEmpty_data]
    refine beq_eq_false_iff_ne.2 fun h => ?_
    rw [Lib.size_eq, h] at z0
    exact absurd z0 (by decide)
  have g0 := getI s 0 z0
  by_cases c0 : s[0] = 46
  · have hr : Hid (dotP s.data.toList = 1) := Lib.hid (by unfold dotP; rw [g0, c0]; rfl)
    have b0 := u8_eqL _ 46 46 rfl c0
    clear g0 c0 h0
    go_enter Tryz.func146, Tryz.ntmps146
    go_wp2
    go_ret
    exact ⟨by rw [hr.out]; exact rfl, rfl⟩
  have b0 := u8_neL _ 46 46 rfl c0
  have n0 : s.data.toList[0]? ≠ some 46 := by rw [g0]; exact fun h => c0 (Option.some.inj h)
  by_cases hz : s.size < 3
  · have g2 : s.data.toList[2]? = none := List.getElem?_eq_none (by rw [← Lib.size_eq]; omega)
    have hr : Hid (dotP s.data.toList = 0) := Lib.hid (by unfold dotP; rw [if_neg n0, g2]; simp)
    have h3 : ¬ (3 : Int) ≤ (s.size : Int) := by omega
    clear g0 c0 h0 n0 g2
    go_enter Tryz.func146, Tryz.ntmps146
    go_wp2
    go_ret
    exact ⟨by rw [hr.out]; exact rfl, rfl⟩
  have h3 : (3 : Int) ≤ (s.size : Int) := by omega
  have z1 : 1 < s.size := by omega
  have z2 : 2 < s.size := by omega
  have g1 := getI s 1 z1
  have g2 := getI s 2 z2
  by_cases c1 : s[0] = 37
  case neg =>
    have hr : Hid (dotP s.data.toList = 0) := Lib.hid (by unfold dotP; rw [if_neg n0, g0]; exact if_neg (fun h => c1 (Option.some.inj h.1)))
    have b1 := u8_neL _ 37 37 rfl c1
    clear g0 c0 h0 n0 g2 g1 c1 hz
    go_enter Tryz.func146, Tryz.ntmps146
    go_wp2
    go_ret
    exact ⟨by rw [hr.out]; exact rfl, rfl⟩
  have b1 := u8_eqL _ 37 37 rfl c1
  by_cases c2 : s[1] = 50
  case neg =>
    have hr : Hid (dotP s.data.toList = 0) := Lib.hid (by unfold dotP; rw [if_neg n0, g1]; exact if_neg (fun h => c2 (Option.some.inj h.2.1)))
    have b2 := u8_neL _ 50 50 rfl c2
    clear g0 c0 h0 n0 g2 g1 c1 c2 hz
    go_enter Tryz.func146, Tryz.ntmps146
    go_wp2
    go_ret
    exact ⟨by rw [hr.out]; exact rfl, rfl⟩
  have b2 := u8_eqL _ 50 50 rfl c2
  by_cases c3 : s[2] = 101
  · have hr : Hid (dotP s.data.toList = 3) := Lib.hid (by unfold dotP; rw [if_neg n0, g0, g1, g2, c1, c2, c3]; rfl)
    have b3 := u8_eqL _ 101 101 rfl c3
    clear g0 c0 h0 n0 g2 g1 c1 c2 c3 hz
    go_enter Tryz.func146, Tryz.ntmps146
    go_wp2
    go_ret
    exact ⟨by rw [hr.out]; exact rfl, rfl⟩
  have b3 := u8_neL _ 101 101 rfl c3
  by_cases c4 : s[2] = 69
  · have hr : Hid (dotP s.data.toList = 3) := Lib.hid (by unfold dotP; rw [if_neg n0, g0, g1, g2, c1, c2, c4]; rfl)
    have b4 := u8_eqL _ 69 69 rfl c4
    clear g0 c0 h0 n0 g2 g1 c1 c2 c3 c4 hz
    go_enter Tryz.func146, Tryz.ntmps146
    go_wp2
    go_ret
    exact ⟨by rw [hr.out]; exact rfl, rfl⟩
  · have hr : Hid (dotP s.data.toList = 0) := Lib.hid (by
      unfold dotP
      rw [if_neg n0, g2]
      exact if_neg (fun h => by
        rcases h.2.2 with h | h
        · exact c3 (Option.some.inj h)
        · exact c4 (Option.some.inj h)))
    have b4 := u8_neL _ 69 69 rfl c4
    clear g0 c0 h0 n0 g2 g1 c1 c2 c3 c4 hz
    go_enter Tryz.func146, Tryz.ntmps146
    go_wp2
    go_ret
    exact ⟨by rw [hr.out]; exact rfl, rfl⟩
end Go.Proofs.YtmgkmpbblhkacaaGreatDoor
namespace Go.Proofs.YtmgkmpbblhkacaaGreatDoor
open Go.RowKit
set_option linter.unusedSimpArgs false
set_option linter.unusedVariables false

/-- transeptref08.dots. -/
def dotsP (s : Bs) : Nat :=
  if dotP s = 0 then 0
  else if dotP s = s.length then 1
  else if 0 < dotP (s.drop (dotP s)) ∧ dotP s + dotP (s.drop (dotP s)) = s.length then 2 else 0
set_option maxRecDepth 1000000 in
set_option maxHeartbeats 4000000 in
theorem refDots_any (s : ByteArray) (w : World) (hs : s.size ≤ 1000000) :
    Calls Tryz.prog 118 #[.string s] w fun e w' => e = .returned (.int .i64 (dotsP s.data.toList : Nat)) ∧ w = w' := by
  have C1 := Lib.hid (refDot_any s w hs)
  have hle := dotP_le s.data.toList
  obtain ⟨a, ha⟩ : ∃ a, dotP s.data.toList = a := ⟨_, rfl⟩
  have hR : dotsP s.data.toList = if a = 0 then 0 else if a = s.size then 1 else if 0 < dotP (s.data.toList.drop a) ∧ a + dotP (s.data.toList.drop a) = s.size then 2 else 0 := by
    unfold dotsP; rw [ha, ← Lib.size_eq]
  rw [ha, ← Lib.size_eq] at hle
  rw [ha] at C1
  have hle1 := hle.1
  clear hle ha
  by_cases a0 : a = 0
  · have hr : Hid (dotsP s.data.toList = 0) := Lib.hid (by rw [hR, if_pos a0])
    subst a0
    clear hR
    go_enter Tryz.func118, Tryz.ntmps118
    go_wp2_with (first | (go_at_call 146; refine C1.out.mono ?_; rintro e w1 ⟨rfl, rfl⟩))
    go_ret
    exact ⟨by rw [hr.out]; exact rfl, rfl⟩
  have q0 : ((a : Int) == 0) = false := beq_eq_false_iff_ne.2 (by omega)
  by_cases a1 : a = s.size
  · have hr : Hid (dotsP s.data.toList = 1) := Lib.hid (by rw [hR, if_neg a0, if_pos a1])
    have q1 : ((a : Int) == (s.size : Int)) = true := by rw [a1]; exact beq_self_eq_true _
    clear hR a1 a0
    go_enter Tryz.func118, Tryz.ntmps118
    go_wp2_with (first | (go_at_call 146; refine C1.out.mono ?_; rintro e w1 ⟨rfl, rfl⟩))
    go_ret
    exact ⟨by rw [hr.out]; exact rfl, rfl⟩
  have q1 : ((a : Int) == (s.size : Int)) = false := beq_eq_false_iff_ne.2 (by omega)
  have e1 : (s.extract a s.size).data.toList = s.data.toList.drop a := by rw [extract_from, strOf_data]
  have C2 := refDot_any (s.extract a s.size) w (by rw [ByteArray.size_extract]; omega)
  rw [e1] at C2
  have hle2 := (dotP_le (s.data.toList.drop a)).1
  rw [List.length_drop, ← Lib.size_eq] at hle2
  obtain ⟨b, hb⟩ : ∃ b, dotP (s.data.toList.drop a) = b := ⟨_, rfl⟩
  rw [hb] at C2 hR hle2
  rw [if_neg a0, if_neg a1] at hR
  have C2' := Lib.hid C2
  clear e1 C2 hb
  have t1 : ((a : Int)).toNat = a := by omega
  have l1 : (a : Int) ≤ (s.size : Int) := by omega
  have m1 : IntKind.i64.wrap ((a : Int) + b) = (a : Int) + b := IntWalk.i64_in _ (by omega)
  by_cases b0 : b = 0
  · have hr : Hid (dotsP s.data.toList = 0) := Lib.hid (by rw [hR]; exact if_neg (by omega))
    subst b0
    clear hR
    go_enter Tryz.func118, Tryz.ntmps118
    go_wp2_with (first | (go_at_call 146; first | (with_reducible refine C1.out.mono ?_; rintro e w1 ⟨rfl, rfl⟩) | (with_reducible refine C2'.out.mono ?_; rintro e w1 ⟨rfl, rfl⟩)))
    go_ret
    exact ⟨by rw [hr.out]; exact rfl, rfl⟩
  have q2 : (0 : Int) < (b : Int) := by omega
  by_cases b1 : a + b = s.size
  · have hr : Hid (dotsP s.data.toList = 2) := Lib.hid (by rw [hR]; exact if_pos (by omega))
    have q3 : ((a : Int) + (b : Int) == (s.size : Int)) = true := beq_iff_eq.2 (by omega)
    clear hR b1 b0
    go_enter Tryz.func118, Tryz.ntmps118
    go_wp2_with (first | (go_at_call 146; first | (with_reducible refine C1.out.mono ?_; rintro e w1 ⟨rfl, rfl⟩) | (with_reducible refine C2'.out.mono ?_; rintro e w1 ⟨rfl, rfl⟩)))
    go_ret
    exact ⟨by rw [hr.out]; exact rfl, rfl⟩
  · have hr : Hid (dotsP s.data.toList = 0) := Lib.hid (by rw [hR]; exact if_neg (by omega))
    have q3 : ((a : Int) + (b : Int) == (s.size : Int)) = false := beq_eq_false_iff_ne.2 (by omega)
    clear hR b1 b0
    go_enter Tryz.func118, Tryz.ntmps118
    go_wp2_with (first | (go_at_call 146; first | (with_reducible refine C1.out.mono ?_; rintro e w1 ⟨rfl, rfl⟩) | (with_reducible refine C2'.out.mono ?_; rintro e w1 ⟨rfl, rfl⟩)))
    go_ret
    exact ⟨by rw [hr.out]; exact rfl, rfl⟩
end Go.Proofs.YtmgkmpbblhkacaaGreatDoor
