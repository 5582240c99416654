/- What is decoded is not longer. The reference's bad, and Parse of a host without brackets. -/
import Derived.Test.YtmgkmpbblhkacaaGreatDoorDec
import Derived.Test.YtmgkmpbblhkacaaGreatDoorMgV
import Derived.Test.YtmgkmpbblhkacaaGreatDoorRefDec
import Derived.Test.YtmgkmpbblhkacaaGreatDoorMgQ
namespace Go.Proofs.YtmgkmpbblhkacaaGreatDoor
open Go.RowKit
set_option linter.unusedSimpArgs false
set_option linter.unusedVariables false

theorem pdec_len (s : Bs) : (pdec s).length ≤ s.length := by
  fun_induction pdec s <;> simp_all <;> omega
end Go.Proofs.YtmgkmpbblhkacaaGreatDoor
namespace Go.Proofs.YtmgkmpbblhkacaaGreatDoor
open Go.RowKit
set_option linter.unusedSimpArgs false
set_option linter.unusedVariables false

def badL : Bs := [35, 37, 47, 58, 60, 62, 63, 64, 91, 92, 93, 94, 124]
theorem forb_has (c : UInt8) : forbB c = (decide (c.toNat < 33) || decide (126 < c.toNat) || hasP badL c) := by
  unfold forbB hasP badL
  have : decide (c.toNat ≤ 32) = decide (c.toNat < 33) := by
    rw [Bool.eq_iff_iff]; simp; omega
  rw [this]
set_option maxRecDepth 1000000 in
set_option maxHeartbeats 1000000 in
theorem refBad_any (c : UInt8) (w : World) :
    Calls Tryz.prog 115 #[.int .u8 c.toNat] w fun e w' => e = .returned (.bool (forbB c)) ∧ w = w' := by
  have hf := forb_has c
  have hc256 := c.toNat_lt
  by_cases hlo : c.toNat < 33
  · have hr : Hid (forbB c = true) := Lib.hid (by rw [hf]; simp [hlo])
    have h1 : (c.toNat : Int) < 33 := by omega
    clear hf hlo
    go_enter Tryz.func115, Tryz.ntmps115
    go_wp2
    go_ret
    exact ⟨by rw [hr.out]; exact rfl, rfl⟩
  · by_cases hhi : 126 < c.toNat
    · have hr : Hid (forbB c = true) := Lib.hid (by rw [hf]; simp [hhi])
      have h1 : (33 : Int) ≤ c.toNat := by omega
      have h2 : (126 : Int) < c.toNat := by omega
      clear hf hlo hhi
      go_enter Tryz.func115, Tryz.ntmps115
      go_wp2
      go_ret
      exact ⟨by rw [hr.out]; exact rfl, rfl⟩
    · have hr : Hid (forbB c = hasP badL c) := Lib.hid (by rw [hf]; simp [hlo, hhi])
      have h1 : (33 : Int) ≤ c.toNat := by omega
      have h2 : (c.toNat : Int) ≤ 126 := by omega
      clear hf hlo hhi
      go_enter Tryz.func115, Tryz.ntmps115
      go_wp2
      have hN : Hid ((⟨#[35, 37, 47, 58, 60, 62, 63, 64, 91, 92, 93, 94, 124]⟩ : ByteArray).data.toList = badL) := Lib.hid rfl
      have hNz : (⟨#[35, 37, 47, 58, 60, 62, 63, 64, 91, 92, 93, 94, 124]⟩ : ByteArray).size ≤ 1000000 := by decide
      generalize (⟨#[35, 37, 47, 58, 60, 62, 63, 64, 91, 92, 93, 94, 124]⟩ : ByteArray) = s at hN hNz ⊢
      go_loop [4] (fun vi => ∃ i : Nat, vi = .int .i64 i ∧ i ≤ s.size ∧ Hid (hasP badL c = hasP (s.data.toList.drop i) c)) (fun vi => s.size - (intOf vi).toNat)
      case atStart => exact ⟨0, rfl, by omega, Lib.hid (by rw [hN.out]; rfl)⟩
      case round =>
        obtain ⟨i, rfl, hi, HI⟩ := hrel
        by_cases hlt : i < s.size
        · have hd := drop_at s i hlt
          by_cases hc : s[i] = c
          · have hr2 : Hid (forbB c = true) := by rw [hr.out, HI.out, hd, hc]; exact Lib.hid (by simp [hasP])
            have hb := u8_eq _ _ hc
            clear hd hc HI
            go_wp2
            go_ret
            exact ⟨by rw [hr2.out]; exact rfl, rfl⟩
          · have hr2 : Hid (hasP badL c = hasP (s.data.toList.drop (i + 1)) c) := by
              rw [HI.out, hd]
              refine Lib.hid ?_
              have e : (c == s[i]) = false := by simpa using fun h : c = s[i] => hc h.symm
              unfold hasP
              rw [List.contains_cons, e, Bool.false_or]
            have hb := u8_ne _ _ hc
            clear hd hc HI
            go_wp2
            go_round
            case rel => exact ⟨i + 1, by go_num, by omega, hr2⟩
            case measure => simp [intOf]; omega
        · obtain rfl : i = s.size := by omega
          have hr2 : Hid (forbB c = false) := by rw [hr.out, HI.out, drop_end]; exact Lib.hid rfl
          clear HI
          go_wp2
          go_ret
          exact ⟨by rw [hr2.out]; exact rfl, rfl⟩
/-- transeptref07.Parse, of a host without brackets. -/
def parseNR (s : Bs) : Option Bs :=
  if (pdec s).any forbB = true then none
  else if pdec s = [] then none
  else if (ip4R ((pdec s).map lowB)).2.2 ≠ 0 then none
  else if (ip4R ((pdec s).map lowB)).2.1 = true then some (text4 (ip4R ((pdec s).map lowB)).1)
  else some ((pdec s).map lowB)
def ParseREnd (r : Option Bs) (e : Ending) : Prop :=
  match r with
  | some l => e = .returned (.tuple #[.string (strOf l), .int .i64 0])
  | none => e = .returned (.tuple #[.string ⟨#[]⟩, .int .i64 7])
theorem ip4R_form (l : Bs) : ((ip4R l).2.2 = 0 ∨ (ip4R l).2.2 = 7) ∧ (ip4R l).1 < 4294967296 := by
  unfold ip4R
  split
  · exact ⟨Or.inl rfl, by simp only; omega⟩
  · split
    · exact ⟨Or.inr rfl, by simp only; omega⟩
    · split
      · exact ⟨Or.inr rfl, by simp only; omega⟩
      · exact ⟨Or.inl rfl, Nat.mod_lt _ (by decide)⟩
theorem low_val (c : UInt8) : ((lowB c).toNat : Int) = if 65 ≤ c.toNat ∧ c.toNat ≤ 90 then (c.toNat : Int) + 32 else (c.toNat : Int) := by
  have : ∀ k : Fin 256, ((lowB (UInt8.ofNat k.val)).toNat : Int) = if 65 ≤ (UInt8.ofNat k.val).toNat ∧ (UInt8.ofNat k.val).toNat ≤ 90 then ((UInt8.ofNat k.val).toNat : Int) + 32 else ((UInt8.ofNat k.val).toNat : Int) := by decide +kernel
  have h := this ⟨c.toNat, c.toNat_lt⟩
  simpa using h
set_option maxRecDepth 1000000 in
set_option maxHeartbeats 4000000 in
theorem refParseN_any (s : ByteArray) (w : World) (hs : s.size ≤ 1000000) (hb : s.data.toList.headD 0 ≠ 91) :
    Calls Tryz.prog 83 #[.string s] w fun e w' => ParseREnd (parseNR s.data.toList) e ∧ Below w.heap.size w w' := by
  have CD := Lib.hid (refDecode_any s w hs)
  have hdz := pdec_len s.data.toList
  rw [← Lib.size_eq] at hdz
  obtain ⟨l, hl⟩ : ∃ l, pdec s.data.toList = l := ⟨_, rfl⟩
  have hR : parseNR s.data.toList = if l.any forbB = true then none else if l = [] then none else if (ip4R (l.map lowB)).2.2 ≠ 0 then none else if (ip4R (l.map lowB)).2.1 = true then some (text4 (ip4R (l.map lowB)).1) else some (l.map lowB) := by
    unfold parseNR; rw [hl]
  rw [hl] at CD hdz
  have HR := Lib.hid hR
  have hfirst : s.toList.isEmpty = true ∨ (s.toList.isEmpty = false ∧ 0 < s.size ∧ ∀ h : 0 < s.size, ((s[0].toNat : Int) == 91) = false) := by
    by_cases h0 : s.data.toList = []
    · exact Or.inl (by rw [isEmpty_data, h0]; rfl)
    · refine Or.inr ⟨by rw [isEmpty_data]; exact beq_eq_false_iff_ne.2 h0, by rw [Lib.size_eq]; exact List.length_pos_iff.2 h0, fun h => ?_⟩
      exact u8_neL _ 91 91 rfl (by rw [← head_get s h]; exact hb)
  obtain ⟨D, hD⟩ : ∃ D, strOf l = D := ⟨_, rfl⟩
  have hDl : D.data.toList = l := by rw [← hD, strOf_data]
  have hDz : D.size ≤ 1000000 := by rw [Lib.size_eq, hDl]; omega
  rw [hD] at CD
  have HDL := Lib.hid hDl
  clear hl hR hb hD hDl hdz
  rcases hfirst with hemp | ⟨hemp, hz0, hne91⟩
  all_goals
    try (have hb91 := hne91 hz0)
    try clear hne91
    go_enter Tryz.func83, Tryz.ntmps83
    go_wp2_with (first | (go_at_call 114; refine CD.out.mono ?_; rintro e w1 ⟨rfl, hb1⟩))
    have hB1 := hb1.size
    go_loopw [7, 8] (fun vo vi wr => ∃ (i : Nat) (q : ByteArray), vo = .string q ∧ vi = .int .i64 i ∧ i ≤ D.size ∧ q.size ≤ i ∧ Below w1.heap.size w1 wr ∧ Hid (q = strOf ((l.take i).map lowB) ∧ (l.take i).any forbB = false)) (fun _ vi _ => D.size - (intOf vi).toNat)
    case atStart => exact ⟨0, ⟨#[]⟩, rfl, rfl, by omega, by decide, Below.refl _ _, Lib.hid ⟨rfl, rfl⟩⟩
    case round =>
      obtain ⟨i, q, rfl, rfl, hi, hq, hbw, HI⟩ := hrel
      obtain ⟨wo, rfl⟩ : ∃ wo : World, wo = wr := ⟨_, rfl⟩
      have hB := hbw.size
      have hbb : Below w.heap.size w wo := hb1.trans (hbw.mono hB1)
      by_cases hlt : i < D.size
      · have hget : l[i]? = some D[i] := by rw [← HDL.out]; exact getI D i hlt
        obtain ⟨c, hc⟩ : ∃ c, D[i] = c := ⟨_, rfl⟩
        rw [hc] at hget
        have hc256 := c.toNat_lt
        have CB : Hid (∀ w' : World, Calls Tryz.prog 115 #[.int .u8 c.toNat] w' fun e w'' => e = .returned (.bool (forbB c)) ∧ w' = w'') := Lib.hid (fun w' => refBad_any c w')
        cases hf : forbB c with
        | true =>
          have hr : Hid (parseNR s.data.toList = none) := by
            rw [HR.out, if_pos]; exact Lib.hid rfl
            rw [List.any_eq_true]
            exact ⟨c, List.mem_of_getElem? hget, hf⟩
          rw [hf] at CB
          clear HI hget hf
          go_wp2_with (first | (go_at_call 115; refine (CB.out _).mono ?_; rintro e w9 ⟨rfl, rfl⟩))
          go_ret2
          exact ⟨by rw [hr.out]; exact rfl, hbb⟩
        | false =>
          rw [hf] at CB
          have HN : Hid (q ++ strOf [lowB c] = strOf ((l.take (i + 1)).map lowB) ∧ (l.take (i + 1)).any forbB = false) := by
            refine Lib.hid ⟨?_, ?_⟩
            · rw [List.take_add_one, hget, List.map_append, strOf_append, ← HI.out.1]; rfl
            · rw [List.take_add_one, hget, List.any_append, HI.out.2]; simp [hf]
          have hqz : (q ++ strOf [lowB c]).size ≤ i + 1 := by rw [ByteArray.size_append, strOf_size]; simp; omega
          have hlv := low_val c
          have hl1 : (strOf [lowB c]).size ≤ 1 := by rw [strOf_size]; simp
          clear HI hget hf
          by_cases hup : 65 ≤ c.toNat ∧ c.toNat ≤ 90
          · rw [if_pos hup] at hlv
            have hst := byte_str (lowB c) ((c.toNat : Int) + 32) hlv.symm wo wo.heap.size rfl
            have h1 : (65 : Int) ≤ c.toNat := by omega
            have h2 : (c.toNat : Int) ≤ 90 := by omega
            clear hlv hup
            go_wp2_with (first | (go_at_call 115; refine (CB.out _).mono ?_; rintro e w9 ⟨rfl, rfl⟩))
            exact ⟨⟨i + 1, _, rfl, rfl, by omega, hqz, hbw.alloc hB _, HN⟩, by simp [intOf]; omega⟩
          · rw [if_neg hup] at hlv
            have hst := byte_str (lowB c) (c.toNat : Int) hlv.symm wo wo.heap.size rfl
            have hw : (c.toNat : Int) < 65 ∨ ((65 : Int) ≤ c.toNat ∧ (90 : Int) < c.toNat) := by omega
            clear hlv hup
            rcases hw with h1 | ⟨h1, h2⟩
            · go_wp2_with (first | (go_at_call 115; refine (CB.out _).mono ?_; rintro e w9 ⟨rfl, rfl⟩))
              exact ⟨⟨i + 1, _, rfl, rfl, by omega, hqz, hbw.alloc hB _, HN⟩, by simp [intOf]; omega⟩
            · have h3 : decide ((c.toNat : Int) ≤ 90) = false := decide_eq_false (by omega)
              go_wp2_with (first | (go_at_call 115; refine (CB.out _).mono ?_; rintro e w9 ⟨rfl, rfl⟩))
              exact ⟨⟨i + 1, _, rfl, rfl, by omega, hqz, hbw.alloc hB _, HN⟩, by simp [intOf]; omega⟩
      · obtain rfl : i = D.size := by omega
        obtain ⟨hq1, hq2⟩ := HI.out
        have hlen : l.length = D.size := by rw [← HDL.out, ← Lib.size_eq]
        rw [List.take_of_length_le (by omega)] at hq1 hq2
        have hGf : ∀ o : Bs, o = l.map lowB → parseNR s.data.toList = if l = [] then none else if (ip4R o).2.2 ≠ 0 then none else if (ip4R o).2.1 = true then some (text4 (ip4R o).1) else some o := by
          intro o ho
          rw [HR.out, if_neg (by rw [hq2]; simp), ho]
        obtain ⟨o, ho⟩ : ∃ o, l.map lowB = o := ⟨_, rfl⟩
        have hG2 := hGf o ho.symm
        rw [ho] at hq1
        by_cases hl0 : l = []
        · have hr : Hid (parseNR s.data.toList = none) := by rw [hG2, if_pos hl0]; exact Lib.hid rfl
          have heq : q.toList.isEmpty = true := by rw [hq1, strOf_isEmpty, ← ho, hl0]; rfl
          clear hq1 hq2 hlen hGf hG2 ho hl0 HI
          go_wp2
          go_ret2
          exact ⟨by rw [hr.out]; exact rfl, hbb⟩
        · rw [if_neg hl0] at hG2
          have heq : q.toList.isEmpty = false := by rw [hq1, strOf_isEmpty, ← ho]; exact beq_eq_false_iff_ne.2 (by simpa using hl0)
          have hqz : q.size ≤ 1000000 := by omega
          have CI := fun w' => refIPv4_any q w' hqz
          rw [hq1, strOf_data] at CI
          rw [← hq1] at CI
          obtain ⟨hform, hlt4⟩ := ip4R_form o
          obtain ⟨a, b, e, ht⟩ : ∃ a b e, ip4R o = (a, b, e) := ⟨_, _, _, rfl⟩
          rw [ht] at CI hG2 hform hlt4
          simp only at CI hG2 hform hlt4
          have CI' := Lib.hid CI
          have HG2 := Lib.hid hG2
          have HQ := Lib.hid hq1
          clear hq1 hq2 hlen hGf hG2 ho hl0 HI CI ht
          rcases hform with rfl | rfl
          · cases b with
            | true =>
              have hr : Hid (parseNR s.data.toList = some (text4 a)) := by rw [HG2.out, if_neg (by simp), if_pos rfl]; exact Lib.hid rfl
              have CT := Lib.hid (fun w' => refText4_any a w' hlt4)
              go_wp2_with (first | (go_at_call 116; refine (CI'.out _).mono ?_; rintro e w2 ⟨rfl, hb2⟩) | (go_at_call 117; refine (CT.out _).mono ?_; rintro e w3 ⟨rfl, hb3⟩))
              go_ret2
              have g2 := hbb.trans (hb2.mono hbb.size)
              exact ⟨by rw [hr.out]; exact rfl, g2.trans (hb3.mono g2.size)⟩
            | false =>
              have hr : Hid (parseNR s.data.toList = some o) := by rw [HG2.out, if_neg (by simp), if_neg (by simp)]; exact Lib.hid rfl
              go_wp2_with (first | (go_at_call 116; refine (CI'.out _).mono ?_; rintro e w2 ⟨rfl, hb2⟩))
              go_ret2
              exact ⟨by rw [hr.out, HQ.out]; exact rfl, hbb.trans (hb2.mono hbb.size)⟩
          · have hr : Hid (parseNR s.data.toList = none) := by rw [HG2.out, if_pos (by decide)]; exact Lib.hid rfl
            go_wp2_with (first | (go_at_call 116; refine (CI'.out _).mono ?_; rintro e w2 ⟨rfl, hb2⟩))
            go_ret2
            exact ⟨by rw [hr.out]; exact rfl, hbb.trans (hb2.mono hbb.size)⟩
end Go.Proofs.YtmgkmpbblhkacaaGreatDoor
