/- The reference's Default, clean, signed. -/
import Derived.Test.YtmgkmpbblhkacaaGreatDoorR8
namespace Go.Proofs.YtmgkmpbblhkacaaGreatDoor
open Go.RowKit
set_option linter.unusedSimpArgs false
set_option linter.unusedVariables false

def sHttp : Bs := [104, 116, 116, 112]
def sHttps : Bs := [104, 116, 116, 112, 115]
def sWs : Bs := [119, 115]
def sWss : Bs := [119, 115, 115]
def sData : Bs := [100, 97, 116, 97]
def sBlob : Bs := [98, 108, 111, 98]
def sAbout : Bs := [97, 98, 111, 117, 116]
/-- transeptref08.Default. -/
def defP (s : Bs) : Int := if s = sHttp ∨ s = sWs then 80 else if s = sHttps ∨ s = sWss then 443 else if s = sData ∨ s = sBlob ∨ s = sAbout then 0 else -1
theorem str_ne (s : ByteArray) (l : Bs) (h : s.data.toList ≠ l) : (s.toList == l) = false := by
  rw [ByteArray.toList_eq]; exact beq_eq_false_iff_ne.2 h
theorem str_of (s : ByteArray) (l : Bs) (h : s.data.toList = l) : s = strOf l := by
  subst h
  apply ByteArray.ext
  simp [strOf]
set_option maxRecDepth 1000000 in
set_option maxHeartbeats 2000000 in
theorem refDefault_any (s : ByteArray) (w : World) :
    Calls Tryz.prog 17 #[.string s] w fun e w' => e = .returned (.int .i64 (defP s.data.toList)) ∧ w = w' := by
  by_cases h1 : s.data.toList = sHttp
  · have hr : Hid (defP s.data.toList = 80) := Lib.hid (by rw [h1]; decide)
    obtain rfl := str_of s _ h1
    unfold sHttp strOf at *
    clear h1
    go_enter Tryz.func17, Tryz.ntmps17
    go_wp2
    go_ret
    exact ⟨by rw [hr.out]; exact rfl, rfl⟩
  by_cases h2 : s.data.toList = sWs
  · have hr : Hid (defP s.data.toList = 80) := Lib.hid (by rw [h2]; decide)
    obtain rfl := str_of s _ h2
    unfold sWs strOf at *
    clear h1 h2
    go_enter Tryz.func17, Tryz.ntmps17
    go_wp2
    go_ret
    exact ⟨by rw [hr.out]; exact rfl, rfl⟩
  by_cases h3 : s.data.toList = sHttps
  · have hr : Hid (defP s.data.toList = 443) := Lib.hid (by rw [h3]; decide)
    obtain rfl := str_of s _ h3
    unfold sHttps strOf at *
    clear h1 h2 h3
    go_enter Tryz.func17, Tryz.ntmps17
    go_wp2
    go_ret
    exact ⟨by rw [hr.out]; exact rfl, rfl⟩
  by_cases h4 : s.data.toList = sWss
  · have hr : Hid (defP s.data.toList = 443) := Lib.hid (by rw [h4]; decide)
    obtain rfl := str_of s _ h4
    unfold sWss strOf at *
    clear h1 h2 h3 h4
    go_enter Tryz.func17, Tryz.ntmps17
    go_wp2
    go_ret
    exact ⟨by rw [hr.out]; exact rfl, rfl⟩
  by_cases h5 : s.data.toList = sData
  · have hr : Hid (defP s.data.toList = 0) := Lib.hid (by rw [h5]; decide)
    obtain rfl := str_of s _ h5
    unfold sData strOf at *
    clear h1 h2 h3 h4 h5
    go_enter Tryz.func17, Tryz.ntmps17
    go_wp2
    go_ret
    exact ⟨by rw [hr.out]; exact rfl, rfl⟩
  by_cases h6 : s.data.toList = sBlob
  · have hr : Hid (defP s.data.toList = 0) := Lib.hid (by rw [h6]; decide)
    obtain rfl := str_of s _ h6
    unfold sBlob strOf at *
    clear h1 h2 h3 h4 h5 h6
    go_enter Tryz.func17, Tryz.ntmps17
    go_wp2
    go_ret
    exact ⟨by rw [hr.out]; exact rfl, rfl⟩
  by_cases h7 : s.data.toList = sAbout
  · have hr : Hid (defP s.data.toList = 0) := Lib.hid (by rw [h7]; decide)
    obtain rfl := str_of s _ h7
    unfold sAbout strOf at *
    clear h1 h2 h3 h4 h5 h6 h7
    go_enter Tryz.func17, Tryz.ntmps17
    go_wp2
    go_ret
    exact ⟨by rw [hr.out]; exact rfl, rfl⟩
  have hr : Hid (defP s.data.toList = -1) := Lib.hid (by unfold defP; rw [if_neg (by simp [h1, h2]), if_neg (by simp [h3, h4]), if_neg (by simp [h5, h6, h7])])
  have b1 := str_ne s _ h1
  have b2 := str_ne s _ h2
  have b3 := str_ne s _ h3
  have b4 := str_ne s _ h4
  have b5 := str_ne s _ h5
  have b6 := str_ne s _ h6
  have b7 := str_ne s _ h7
  unfold sHttp at b1
  unfold sWs at b2
  unfold sHttps at b3
  unfold sWss at b4
  unfold sData at b5
  unfold sBlob at b6
  unfold sAbout at b7
  clear h1 h2 h3 h4 h5 h6 h7
  go_enter Tryz.func17, Tryz.ntmps17
  go_wp2
  go_ret
  exact ⟨by rw [hr.out]; exact rfl, rfl⟩

def blk (c : UInt8) : Bool := decide (c.toNat ≤ 32)
def rtrim (l : Bs) : Bs := (l.reverse.dropWhile blk).reverse
theorem rtrim_snoc (l : Bs) (x : UInt8) : rtrim (l ++ [x]) = if blk x = true then rtrim l else l ++ [x] := by
  unfold rtrim
  rw [List.reverse_append, List.reverse_cons, List.reverse_nil, List.nil_append, List.singleton_append, List.dropWhile_cons]
  split
  · rfl
  · simp
def keepB (c : UInt8) : Bool := decide (c ≠ 9) && decide (c ≠ 10) && decide (c ≠ 13)
/-- transeptref08.clean. -/
def cleanP (s : Bs) : Bs := (rtrim (s.dropWhile blk)).filter keepB
theorem take_prev (l : Bs) (f t : Nat) (x : UInt8) (hf : f < t) (hx : l[t - 1]? = some x) : (l.drop f).take (t - f) = (l.drop f).take (t - 1 - f) ++ [x] := by
  have := take_more l f (t - 1) x (by omega) hx
  rw [show t - 1 + 1 - f = t - f by omega] at this
  exact this
set_option maxRecDepth 1000000 in
set_option maxHeartbeats 4000000 in
theorem refClean_any (s : ByteArray) (w : World) (hs : s.size ≤ 1000000) :
    Calls Tryz.prog 45 #[.string s] w fun e w' => e = .returned (.string (strOf (cleanP s.data.toList))) ∧ Below w.heap.size w w' := by
  go_enter Tryz.func45, Tryz.ntmps45
  go_wp2
  go_loop [3] (fun vf => ∃ f : Nat, vf = .int .i64 f ∧ f ≤ s.size ∧ Hid (s.data.toList.dropWhile blk = (s.data.toList.drop f).dropWhile blk)) (fun vf => s.size - (intOf vf).toNat)
  case atStart => exact ⟨0, rfl, by omega, Lib.hid (by simp)⟩
  case round =>
    obtain ⟨f, rfl, hf, HI⟩ := hrel
    by_cases hgo : ∃ h : f < s.size, blk (s[f]'h) = true
    · obtain ⟨hlt, hb⟩ := hgo
      have hd := drop_at s f hlt
      have HN : Hid (s.data.toList.dropWhile blk = (s.data.toList.drop (f + 1)).dropWhile blk) := by
        rw [HI.out, hd, List.dropWhile_cons, if_pos hb]; exact Lib.hid rfl
      have h32 : (s[f].toNat : Int) ≤ 32 := by unfold blk at hb; simp at hb; omega
      clear hd HI hb
      go_wp2
      go_round
      case rel => exact ⟨f + 1, by go_num, by omega, HN⟩
      case measure => simp [intOf]; omega
    · have hA : Hid (s.data.toList.dropWhile blk = s.data.toList.drop f) := by
        rw [HI.out]
        by_cases hlt : f < s.size
        · rw [drop_at s f hlt, List.dropWhile_cons, if_neg (fun h => hgo ⟨hlt, h⟩)]; exact Lib.hid rfl
        · obtain rfl : f = s.size := by omega
          rw [drop_end]; exact Lib.hid rfl
      have hways : f = s.size ∨ ∃ h : f < s.size, (32 : Int) < s[f].toNat := by
        by_cases hlt : f < s.size
        · refine Or.inr ⟨hlt, ?_⟩
          have : ¬ blk s[f] = true := fun h => hgo ⟨hlt, h⟩
          unfold blk at this; simp at this; omega
        · exact Or.inl (by omega)
      clear HI hgo
      rcases hways with hfe | ⟨hlt0, h32⟩
      all_goals
        try (have hge : ¬ ((f : Int) < (s.size : Int)) := by omega)
        try clear hfe
        go_wp2
        go_loop [4] (fun vt => ∃ t : Nat, vt = .int .i64 t ∧ f ≤ t ∧ t ≤ s.size ∧ Hid (rtrim (s.data.toList.drop f) = rtrim ((s.data.toList.drop f).take (t - f)))) (fun vt => (intOf vt).toNat)
        case atStart => exact ⟨s.size, rfl, hf, Nat.le_refl _, Lib.hid (by rw [List.take_of_length_le (by rw [List.length_drop, ← Lib.size_eq]; exact Nat.le_refl _)])⟩
        case round =>
          obtain ⟨t, rfl, hft, hts, HT⟩ := hrel
          by_cases hgo : ∃ h : t - 1 < s.size, f < t ∧ blk (s[t - 1]'h) = true
          · obtain ⟨ht1, hlt2, hb⟩ := hgo
            try (exfalso; omega)
            all_goals
              have hget := getI s (t - 1) ht1
              have HN : Hid (rtrim (s.data.toList.drop f) = rtrim ((s.data.toList.drop f).take (t - 1 - f))) := by
                rw [HT.out, take_prev _ _ _ _ hlt2 hget, rtrim_snoc, if_pos hb]; exact Lib.hid rfl
              have h32' : (s[t - 1].toNat : Int) ≤ 32 := by unfold blk at hb; simp at hb; omega
              have t1 : ((t : Int) - 1).toNat = t - 1 := by omega
              clear hget HT hb
              go_wp2
              go_round
              case rel => exact ⟨t - 1, by first | (congr 1; done) | (congr 1; omega), by omega, by omega, HN⟩
              case measure => simp [intOf]; omega
          · have hB : Hid (rtrim (s.data.toList.drop f) = (s.data.toList.drop f).take (t - f)) := by
              rw [HT.out]
              by_cases hlt2 : f < t
              · have hget := getI s (t - 1) (by omega)
                rw [take_prev _ _ _ _ hlt2 hget, rtrim_snoc, if_neg (fun h => hgo ⟨by omega, hlt2, h⟩)]; exact Lib.hid rfl
              · rw [show t - f = 0 by omega, List.take_zero]; exact Lib.hid rfl
            have hways2 : t = f ∨ ∃ h : t - 1 < s.size, f < t ∧ (32 : Int) < (s[t - 1]'h).toNat := by
              by_cases hlt2 : f < t
              · refine Or.inr ⟨by omega, hlt2, ?_⟩
                have : ¬ blk (s[t - 1]'(by omega)) = true := fun h => hgo ⟨by omega, hlt2, h⟩
                unfold blk at this; simp at this; omega
              · exact Or.inl (by omega)
            have HC : Hid (cleanP s.data.toList = ((s.data.toList.drop f).take (t - f)).filter keepB) := by
              unfold cleanP; rw [hA.out, hB.out]; exact Lib.hid rfl
            clear HT hgo hB
            have t1 : ((t : Int) - 1).toNat = t - 1 := by omega
            rcases hways2 with hte | ⟨ht1, hlt2, h32'⟩
            all_goals
              try (have hge2 : ¬ ((f : Int) < (t : Int)) := by omega)
              try clear hte
              go_wp2
              have hown0 := Lib.hid (OwnY.new w w.heap.size (Nat.le_refl _))
              have hb0 : Below w.heap.size w (w.alloc (.cells #[] 5)) := (Below.refl _ w).alloc (Nat.le_refl _) _
              go_loopw [5, 6] (fun v vi wr => ∃ (i : Nat) (xs : Bs) (g c : Nat), v = .slice (some ⟨g, 0, none⟩) xs.length c ∧ vi = .int .i64 i ∧ f ≤ i ∧ i ≤ t ∧ xs.length ≤ i ∧ Below w.heap.size w wr ∧ Hid (OwnY wr w.heap.size (.slice (some ⟨g, 0, none⟩) xs.length c) xs ∧ xs = ((s.data.toList.drop f).take (i - f)).filter keepB)) (fun _ vi _ => t - (intOf vi).toNat)
              case atStart => exact ⟨f, [], w.heap.size, 0, rfl, rfl, Nat.le_refl _, hft, by simp, hb0, Lib.hid ⟨hown0.out, by simp⟩⟩
              case round =>
                obtain ⟨i, xs, g, cp, rfl, rfl, hfi, hit, hxl, hbw, HI⟩ := hrel
                obtain ⟨wo, rfl⟩ : ∃ wo : World, wo = wr := ⟨_, rfl⟩
                have hB := hbw.size
                by_cases hlt : i < t
                · try (exfalso; omega)
                  all_goals
                    have hiz : i < s.size := by omega
                    have HO := Lib.hid HI.out.1
                    have hget := getI s i hiz
                    obtain ⟨c, hc⟩ : ∃ c, s[i] = c := ⟨_, rfl⟩
                    rw [hc] at hget
                    have htk : ((s.data.toList.drop f).take (i + 1 - f)).filter keepB = xs ++ (if keepB c = true then [c] else []) := by
                      rw [take_more _ _ _ _ hfi hget, List.filter_append, ← HI.out.2]
                      congr 1
                      rw [List.filter_cons]
                      rfl
                    have HTK := Lib.hid htk
                    have hlti : (i : Int) < (t : Int) := by omega
                    clear HI hget htk
                    by_cases hk : keepB c = true
                    · have HN : Hid (xs ++ [c] = ((s.data.toList.drop f).take (i + 1 - f)).filter keepB) := by rw [HTK.out, if_pos hk]; exact Lib.hid rfl
                      simp only [keepB, Bool.and_eq_true, decide_eq_true_eq] at hk
                      obtain ⟨⟨k1, k2⟩, k3⟩ := hk
                      have b1 := u8_neL c 9 9 rfl k1
                      have b2 := u8_neL c 10 10 rfl k2
                      have b3 := u8_neL c 13 13 rfl k3
                      have b1' : ((c.toNat : Int) != 9) = true := by unfold bne; rw [b1]; rfl
                      have b2' : ((c.toNat : Int) != 10) = true := by unfold bne; rw [b2]; rfl
                      have b3' : ((c.toNat : Int) != 13) = true := by unfold bne; rw [b3]; rfl
                      clear k1 k2 k3
                      go_wp2_with (first | (at_builtin; refine app_u8 (qs := [c]) rfl _ _ rfl w.heap.size _ xs rfl (HO.out.below ((Below.refl _ _).alloc (Nat.le_refl _) _)) ⟨wo.heap.size, 0, none⟩ 1 rfl (one_newY _ _ rfl wo) (by omega) (by simp) (by simp; omega) ?_; intro v2 w2 hown2 hg2))
                      rcases OwnY.form hown2 with ⟨_, h⟩ | ⟨g2, cp2, rfl, _⟩
                      · simp at h
                      · have hb2 : Below w.heap.size w w2 := (hbw.alloc hB _).grown hg2 (by simp; omega) HO.out.base
                        exact ⟨⟨i + 1, _, g2, cp2, rfl, rfl, by omega, by omega, by simp; omega, hb2, Lib.hid ⟨hown2, HN.out⟩⟩, by simp [intOf]; omega⟩
                    · have HN : Hid (xs = ((s.data.toList.drop f).take (i + 1 - f)).filter keepB) := by rw [HTK.out, if_neg hk]; exact Lib.hid (by simp)
                      have hcase : c = 9 ∨ (c ≠ 9 ∧ c = 10) ∨ (c ≠ 9 ∧ c ≠ 10 ∧ c = 13) := by
                        simp only [keepB, Bool.and_eq_true, decide_eq_true_eq] at hk
                        by_cases k1 : c = 9
                        · exact Or.inl k1
                        · by_cases k2 : c = 10
                          · exact Or.inr (Or.inl ⟨k1, k2⟩)
                          · by_cases k3 : c = 13
                            · exact Or.inr (Or.inr ⟨k1, k2, k3⟩)
                            · exact absurd ⟨⟨k1, k2⟩, k3⟩ hk
                      clear hk
                      rcases hcase with k1 | ⟨k1, k2⟩ | ⟨k1, k2, k3⟩
                      · have b1 := u8_eqL c 9 9 rfl k1
                        have b1' : ((c.toNat : Int) != 9) = false := by unfold bne; rw [b1]; rfl
                        clear k1
                        go_wp2
                        exact ⟨⟨i + 1, xs, g, cp, rfl, rfl, by omega, by omega, by omega, hbw, Lib.hid ⟨HO.out, HN.out⟩⟩, by simp [intOf]; omega⟩
                      · have b1 := u8_neL c 9 9 rfl k1
                        have b2 := u8_eqL c 10 10 rfl k2
                        have b1' : ((c.toNat : Int) != 9) = true := by unfold bne; rw [b1]; rfl
                        have b2' : ((c.toNat : Int) != 10) = false := by unfold bne; rw [b2]; rfl
                        clear k1 k2
                        go_wp2
                        exact ⟨⟨i + 1, xs, g, cp, rfl, rfl, by omega, by omega, by omega, hbw, Lib.hid ⟨HO.out, HN.out⟩⟩, by simp [intOf]; omega⟩
                      · have b1 := u8_neL c 9 9 rfl k1
                        have b2 := u8_neL c 10 10 rfl k2
                        have b3 := u8_eqL c 13 13 rfl k3
                        have b1' : ((c.toNat : Int) != 9) = true := by unfold bne; rw [b1]; rfl
                        have b2' : ((c.toNat : Int) != 10) = true := by unfold bne; rw [b2]; rfl
                        have b3' : ((c.toNat : Int) != 13) = false := by unfold bne; rw [b3]; rfl
                        clear k1 k2 k3
                        go_wp2
                        exact ⟨⟨i + 1, xs, g, cp, rfl, rfl, by omega, by omega, by omega, hbw, Lib.hid ⟨HO.out, HN.out⟩⟩, by simp [intOf]; omega⟩
                · obtain rfl : i = t := by omega
                  have hv : (Value.slice (some ⟨g, 0, none⟩) xs.length cp) ≠ .slice none 0 0 := by intro h; cases h
                  have hend : Hid (xs = cleanP s.data.toList) := by rw [HC.out, HI.out.2]; exact Lib.hid rfl
                  have hst := own_str HI.out.1 hv
                  clear HI hv
                  go_wp2
                  go_ret
                  exact ⟨by rw [← hend.out]; exact rfl, hbw⟩
end Go.Proofs.YtmgkmpbblhkacaaGreatDoor
