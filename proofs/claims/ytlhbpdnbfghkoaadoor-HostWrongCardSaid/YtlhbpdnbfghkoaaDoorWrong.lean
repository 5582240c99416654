/- HostWrong: a byte that may not be spoils any name: for every text, place and byte. The plain law and the walk. -/
import Derived.Test.YtlhbpdnbfghkoaaDoorOnce
import Derived.Test.YtlhbpdnbfghkoaaDoorBased
import Derived.Laws.BitsLemmas
import Derived.Deep.RegionHeld3
namespace Go.Proofs.YtlhbpdnbfghkoaaDoor
open Go.RowKit
set_option linter.unusedSimpArgs false
set_option linter.unusedVariables false

theorem pdec_app (x r : Bs) (h : (37 : UInt8) ∉ x) : pdec (x ++ r) = x ++ pdec r := by
  induction x with
  | nil => rfl
  | cons c x ih =>
    rw [List.mem_cons, not_or] at h
    rw [List.cons_append, pdec_step _ _ (fun hh => h.1 hh.1.symm), ih h.2]
    rfl
theorem valB_hexd (k : Nat) (h : k < 16) : valB (hexd k) = k := by
  have : ∀ k : Fin 16, valB (hexd k.val) = (k.val : Int) := by decide
  exact this ⟨k, h⟩
theorem pdec_coded (x r : Bs) (c : UInt8) (h : (37 : UInt8) ∉ x) : pdec (x ++ 37 :: hexd (c.toNat / 16) :: hexd (c.toNat % 16) :: r) = x ++ c :: pdec r := by
  have hc := c.toNat_lt
  rw [pdec_app _ _ h, pdec_hit _ _ _ (by rw [valB_hexd _ (by omega)]; omega) (by rw [valB_hexd _ (by omega)]; omega), valB_hexd _ (by omega), valB_hexd _ (by omega)]
  have : UInt8.ofNat (((c.toNat / 16 : Nat) : Int).toNat * 16 + ((c.toNat % 16 : Nat) : Int).toNat) = c := by
    have e : ((c.toNat / 16 : Nat) : Int).toNat * 16 + ((c.toNat % 16 : Nat) : Int).toNat = c.toNat := by simp only [Int.toNat_natCast]; omega
    rw [e, UInt8.ofNat_toNat]
  rw [this]
/-- What decodes to a byte that may not be is no host. -/
theorem parse_bad (l : Bs) (c : UInt8) (hf : forbB c = true) (hh : ¬ ([91] : Bs).isPrefixOf l = true) (hm : c ∈ pdec l) : parseP l = none := by
  unfold parseP
  rw [if_neg hh, if_neg (fun h => by rw [h] at hm; cases hm), if_pos (List.any_eq_true.2 ⟨c, hm, hf⟩)]
theorem head_put (a y : Bs) (c : UInt8) (k : Nat) (ha : ¬ ([91] : Bs).isPrefixOf a = true) (hc : c ≠ 91) : ¬ ([91] : Bs).isPrefixOf (a.take k ++ c :: y) = true := by
  cases a with
  | nil =>
    simp [List.isPrefixOf]
    exact fun h => hc h.symm
  | cons x r =>
    cases k with
    | zero =>
      simp [List.isPrefixOf]
      exact fun h => hc h.symm
    | succ k =>
      simp [List.isPrefixOf] at ha ⊢
      exact ha
theorem okc_37 (a : Bs) (h : ∀ c ∈ a, okc c = true) (k : Nat) : (37 : UInt8) ∉ a.take k := by
  intro hm
  have := h 37 (List.mem_of_mem_take hm)
  revert this; decide
theorem wrong_plain (a : Bs) (c : UInt8) (k : Nat) (h : ∀ c ∈ a, okc c = true) (ha : ¬ ([91] : Bs).isPrefixOf a = true) (hf : forbB c = true) (hc : c ≠ 91) (h37 : c ≠ 37) : parseP (a.take k ++ c :: a.drop k) = none := by
  refine parse_bad _ c hf (head_put a _ c k ha hc) ?_
  rw [pdec_app _ _ (okc_37 a h k), pdec_step _ _ (fun hh => h37 hh.1)]
  simp
theorem wrong_coded (a : Bs) (c : UInt8) (k : Nat) (h : ∀ c ∈ a, okc c = true) (ha : ¬ ([91] : Bs).isPrefixOf a = true) (hf : forbB c = true) : parseP (a.take k ++ 37 :: hexd (c.toNat / 16) :: hexd (c.toNat % 16) :: a.drop k) = none := by
  refine parse_bad _ c hf (head_put a _ 37 k ha (by decide)) ?_
  rw [pdec_coded _ _ _ (okc_37 a h k)]
  simp

theorem i64_and16 (n : Int) : ∃ p : Nat, p < 65536 ∧ bits .and .i64 n 65535 = (p : Int) := by
  have hm : (BitVec.ofInt 64 65535).toNat = 2 ^ 16 - 1 := by decide
  have key : (BitVec.ofInt 64 n &&& BitVec.ofInt 64 65535).toNat = (n % ((2 ^ 64 : Nat) : Int)).toNat % 2 ^ 16 := by
    rw [BitVec.toNat_and, BitVec.toNat_ofInt, hm, Nat.and_two_pow_sub_one_eq_mod]
  refine ⟨(n % ((2 ^ 64 : Nat) : Int)).toNat % 2 ^ 16, Nat.mod_lt _ (by decide), ?_⟩
  show IntKind.i64.wrap ((BitVec.ofInt 64 n &&& BitVec.ofInt 64 65535).toNat : Nat) = _
  rw [key, IntKind.wrap_i64]
  omega

theorem u8_wrap_low (x : Int) (h0 : 0 ≤ x) (h1 : x < 256) : IntKind.u8.wrap x = x := by
  simp [IntKind.wrap, IntKind.bits, IntKind.signed]
  omega
/-- The bytes that may not be. -/
def badB : ByteArray := ⟨#[35, 37, 47, 58, 60, 62, 63, 64, 92, 93, 94, 124, 32, 0, 31, 127, 128, 255]⟩
theorem badB_forb (i : Nat) (h : i < badB.size) : forbB (badB[i]'h) = true ∧ badB[i]'h ≠ 91 := by
  have : ∀ i : Fin 18, forbB (badB[i.val]'(by have := i.isLt; exact this)) = true ∧ badB[i.val]'(by have := i.isLt; exact this) ≠ 91 := by decide
  exact this ⟨i, h⟩

theorem byte_str_drew (c : UInt8) (x : Int) (hx : x = (c.toNat : Int)) (W : World) (b : Nat) (hb : b = W.heap.size) : (convert 30 9 (.slice (some ⟨b, 0, none⟩) 1 1)).run Tryd.prog (W.alloc (.cells #[.int .u8 x] 5)).drew = .ok (.string (strOf [c])) (W.alloc (.cells #[.int .u8 x] 5)).drew := by
  subst hx; subst hb
  refine run_convert_bytes_back _ _ _ 5 _ _ [c] Tryd.underlying30 Tryd.underlying5 Tryd.underlying9 ?_
  intro j hj
  rw [add_zero_off]
  show (W.alloc (.cells #[.int .u8 (c.toNat : Int)] 5)).cell? ⟨W.heap.size, j, none⟩ = _
  rw [cells_alloc_new]
  match j, hj with
  | 0, _ => rfl
set_option maxRecDepth 1000000 in
set_option maxHeartbeats 8000000 in
theorem wrong_any (s : ByteArray) (at_ which : Int) (w : World) (hs : s.size ≤ 9223372036854775807) (hG : GL w) :
    Calls Tryd.prog 5 #[.string s, .int .i64 at_, .int .i64 which] w fun e w' => e = .returned (.bool true) ∧ Below w.heap.size w w' := by
  have CS := Lib.hid (shown_any w hG)
  go_enter Tryd.func5, Tryd.ntmps5
  go_wp2_with fail
  refine CS.out.mono ?_
  rintro e w1 ⟨rfl, hb1⟩
  clear CS
  go_wp2_with fail
  obtain ⟨t, ht⟩ : ∃ t, s.extract 0 (min (s.size : Int) 100).toNat = t := ⟨_, rfl⟩
  have htz : t.size ≤ 100 := by rw [← ht, ByteArray.size_extract]; omega
  rw [ht]
  have hG1 := hG.below hb1
  have CP := Lib.hid (Parse_any t w1 (by omega) hG1)
  have HO := Lib.hid (once_plain t.data.toList)
  have HLEN := Lib.hid (parse_len t.data.toList)
  obtain ⟨r, hr⟩ : ∃ r, parseP t.data.toList = r := ⟨_, rfl⟩
  rw [hr] at CP HO HLEN
  clear ht hr
  refine CP.out.mono ?_
  rintro e w2 ⟨he, hb2⟩
  clear CP
  have hbw : Below w.heap.size w w2 := hb1.trans (hb2.mono hb1.size)
  cases r with
  | none =>
    obtain rfl := he
    clear HO HLEN
    go_wp2_with fail
    go_ret
    exact ⟨rfl, hbw⟩
  | some a =>
    obtain rfl := he
    obtain ⟨hne, hok, _⟩ := HO.out a rfl
    have hal : a.length ≤ 300 := by have := HLEN.out a rfl; rw [(Lib.size_eq t).symm] at this; omega
    have hG2 := hG.below hbw
    obtain ⟨q, hq⟩ : ∃ q, strOf a = q := ⟨_, rfl⟩
    have hqz : q.size ≤ 300 := by rw [← hq, strOf_size]; exact hal
    have hq0 : 0 < q.size := by rw [← hq, strOf_size]; exact List.length_pos_iff.2 hne
    have hqb : ((q.size : Int) == 0) = false := beq_eq_false_iff_ne.2 (by omega)
    have hhead : q[0] = a.headD 0 := by
      subst hq
      rw [← data_get]
      cases a with
      | nil => exact absurd rfl hne
      | cons x r => rfl
    have HHEAD := Lib.hid hhead
    have HNE := Lib.hid hne
    have HOK := Lib.hid hok
    have HQ := Lib.hid hq
    rw [hq]
    clear HO HLEN hne hok hal hq hhead
    by_cases h91 : a.headD 0 = 91
    · have hb91 : ((q[0].toNat : Int) == 91) = true := by rw [HHEAD.out, h91]; rfl
      clear h91
      go_wp2_with fail
      go_ret
      exact ⟨rfl, hbw⟩
    · have hb91 : ((q[0].toNat : Int) == 91) = false := by
        refine beq_eq_false_iff_ne.2 (fun h => h91 ?_)
        rw [← HHEAD.out]
        exact UInt8.toNat_inj.1 (by have h2 : q[0].toNat = 91 := by omega
                                    exact h2)
      have hpre : ¬ ([91] : Bs).isPrefixOf a = true := by
        have := HNE.out
        cases a with
        | nil => exact absurd rfl this
        | cons x r =>
          simp [List.isPrefixOf]
          exact fun h => h91 (by simpa using h.symm)
      obtain ⟨p1, hp1, he1⟩ := i64_and16 which
      obtain ⟨p2, hp2, he2⟩ := i64_and16 at_
      have HPRE := Lib.hid hpre
      clear hpre h91
      go_wp2_with fail
      have hk : ((p2 : Int) % ((q.size : Int) + 1)) = ((p2 % (q.size + 1) : Nat) : Int) := rfl
      have hkl : p2 % (q.size + 1) ≤ q.size := by have := Nat.mod_lt p2 (show 0 < q.size + 1 by omega); omega
      have hbi : p1 % 18 < badB.size := Nat.mod_lt _ (by decide)
      have hbad := badB_forb (p1 % 18) hbi
      unfold badB at hbad
      rw [hk]
      generalize p2 % (q.size + 1) = k at hkl ⊢
      generalize (⟨#[35, 37, 47, 58, 60, 62, 63, 64, 92, 93, 94, 124, 32, 0, 31, 127, 128, 255]⟩ : ByteArray)[p1 % 18] = c at hbad ⊢
      obtain ⟨hforb, hc91⟩ := hbad
      have hc256 := c.toNat_lt
      have hst := fun W : World => byte_str c (c.toNat : Int) rfl W W.heap.size rfl
      have hstd := fun W : World => byte_str_drew c (c.toNat : Int) rfl W W.heap.size rfl
      have e1 : q.extract 0 k = strOf (a.take k) := by rw [extract_strOf, ← HQ.out, strOf_data, List.drop_zero]
      have e2 : q.extract k q.size = strOf (a.drop k) := by
        rw [extract_strOf, ← HQ.out, strOf_data, List.take_of_length_le (by rw [strOf_size]; exact Nat.le_refl _)]
      obtain ⟨y1, hy1⟩ : ∃ y1, q.extract 0 k = y1 := ⟨_, rfl⟩
      obtain ⟨y2, hy2⟩ : ∃ y2, q.extract k q.size = y2 := ⟨_, rfl⟩
      have hz1 : y1.size ≤ 300 := by rw [← hy1, ByteArray.size_extract]; omega
      have hz2 : y2.size ≤ 300 := by rw [← hy2, ByteArray.size_extract]; omega
      rw [hy1] at e1
      rw [hy2] at e2
      have hz3 : (strOf [c]).size ≤ 1 := by rw [strOf_size]; simp
      have E1 := Lib.hid e1
      have E2 := Lib.hid e2
      clear hk e1 e2 he1 he2 hp1 hp2 hbi
      go_region
      have hb3 : Below w2.heap.size w2 (w2.alloc (.cells #[.int .u8 (c.toNat : Int)] 5)).drew := Below.drew ((Below.refl _ w2).alloc (Nat.le_refl _) _)
      generalize (w2.alloc (.cells #[.int .u8 (c.toNat : Int)] 5)).drew = w3 at hb3 ⊢
      clear hst hstd
      have CB1 := Lib.hid (fun w' : World => show Calls Tryd.prog 8 #[.int .i64 ((c.toNat : Int) / 16), .int .i64 16] w' fun e w'' => e = .returned (.string (strOf [hexd (c.toNat / 16)])) ∧ Below w'.heap.size w' w'' by
        have := based_any (c.toNat / 16) 16 w' (by omega) (by decide) (by decide)
        rw [digs_lt _ _ (by omega)] at this
        exact this)
      have CB2 := Lib.hid (fun w' : World => show Calls Tryd.prog 8 #[.int .i64 ((c.toNat : Int) % 16), .int .i64 16] w' fun e w'' => e = .returned (.string (strOf [hexd (c.toNat % 16)])) ∧ Below w'.heap.size w' w'' by
        have := based_any (c.toNat % 16) 16 w' (by omega) (by decide) (by decide)
        rw [digs_lt _ _ (by omega)] at this
        exact this)
      have hz4 : (strOf [hexd (c.toNat / 16)]).size ≤ 1 := by rw [strOf_size]; simp
      have hz5 : (strOf [hexd (c.toNat % 16)]).size ≤ 1 := by rw [strOf_size]; simp
      have n1 : ¬ 9223372036854775807 < y1.size + 1 := by omega
      have n2 : ¬ 9223372036854775807 < y1.size + 1 + (strOf [hexd (c.toNat / 16)]).size := by omega
      have n3 : ¬ 9223372036854775807 < y1.size + 1 + (strOf [hexd (c.toNat / 16)]).size + (strOf [hexd (c.toNat % 16)]).size := by omega
      have n4 : ¬ 9223372036854775807 < y1.size + 1 + (strOf [hexd (c.toNat / 16)]).size + (strOf [hexd (c.toNat % 16)]).size + y2.size := by omega
      obtain ⟨hi, hhi⟩ : ∃ hi : Int, (c.toNat : Int) / 16 = hi := ⟨_, rfl⟩
      obtain ⟨lo, hlo⟩ : ∃ lo : Int, (c.toNat : Int) % 16 = lo := ⟨_, rfl⟩
      rw [hhi] at CB1
      rw [hlo] at CB2
      obtain ⟨s1, hs1⟩ : ∃ s1, strOf [hexd (c.toNat / 16)] = s1 := ⟨_, rfl⟩
      obtain ⟨s2, hs2⟩ : ∃ s2, strOf [hexd (c.toNat % 16)] = s2 := ⟨_, rfl⟩
      rw [hs1] at CB1 n2 n3 n4
      rw [hs2] at CB2 n3 n4
      have S1 := Lib.hid hs1
      have S2 := Lib.hid hs2
      clear hs1 hs2 hz4 hz5
      have hxs : ∃ hx : Int → ByteArray, hx hi = s1 ∧ hx lo = s2 ∧ ∀ (x : Int) (w' : World), 0 ≤ x → x < 16 → Calls Tryd.prog 8 #[.int .i64 x, .int .i64 16] w' fun e w'' => e = .returned (.string (hx x)) ∧ Below w'.heap.size w' w'' := by
        refine ⟨fun x => strOf [hexd x.toNat], ?_, ?_, ?_⟩
        · show strOf [hexd hi.toNat] = s1
          rw [← S1.out, ← hhi]; rfl
        · show strOf [hexd lo.toNat] = s2
          rw [← S2.out, ← hlo]; rfl
        · intro x w' h0 h16
          obtain ⟨n, rfl⟩ : ∃ n : Nat, x = n := ⟨x.toNat, by omega⟩
          have := based_any n 16 w' (by omega) (by decide) (by decide)
          rw [digs_lt _ _ (by omega)] at this
          exact this
      obtain ⟨hx, hx1, hx2, hxc⟩ := hxs
      have CX := Lib.hid hxc
      have hi0 : 0 ≤ hi := by omega
      have hi16 : hi < 16 := by omega
      have lo0 : 0 ≤ lo := by omega
      have lo16 : lo < 16 := by omega
      have hw1 : IntKind.u8.wrap hi = hi := u8_wrap_low hi hi0 (by omega)
      have hw2 : IntKind.i64.wrap hi = hi := by rw [IntKind.wrap_i64]; omega
      have hw3 : IntKind.u8.wrap lo = lo := u8_wrap_low lo lo0 (by omega)
      have hw4 : IntKind.i64.wrap lo = lo := by rw [IntKind.wrap_i64]; omega
      have htm : Int.tmod (c.toNat : Int) 16 = lo := hlo
      clear hxc CB1 CB2
      go_wp2_with fail
      go_region_held3 (fun w' : World => Below w3.heap.size w3 w')
        (first | exact Below.drew (Below.refl _ _) | assumption | exact Below.trans (by assumption) (Below.mono hb4 (Below.size (by assumption))))
        (first | (go_at_call 8; refine (CX.out _ _ (by assumption) (by assumption)).mono ?_; rintro e w4 ⟨rfl, hb4⟩))
      rename_i hheld
      have hbw4 : Below w.heap.size w w4 := (hbw.trans (hb3.mono hbw.size)).trans (hheld.mono (Nat.le_trans hbw.size hb3.size))
      have hG4 := hG.below hbw4
      have ep : y1 ++ strOf [c] ++ y2 = strOf (a.take k ++ c :: a.drop k) := by
        rw [E1.out, E2.out, ← strOf_append, ← strOf_append, List.append_assoc]; rfl
      have ec : y1 ++ (⟨#[37]⟩ : ByteArray) ++ s1 ++ s2 ++ y2 = strOf (a.take k ++ 37 :: hexd (c.toNat / 16) :: hexd (c.toNat % 16) :: a.drop k) := by
        rw [E1.out, E2.out, ← S1.out, ← S2.out, show (⟨#[37]⟩ : ByteArray) = strOf [37] from rfl, ← strOf_append, ← strOf_append, ← strOf_append, ← strOf_append]
        simp only [List.append_assoc]; rfl
      have hzp : (y1 ++ strOf [c] ++ y2).size ≤ 1000000 := by rw [ByteArray.size_append, ByteArray.size_append]; omega
      have hzs1 : s1.size = 1 := by rw [← S1.out, strOf_size]; rfl
      have hzs2 : s2.size = 1 := by rw [← S2.out, strOf_size]; rfl
      have hzc : (y1 ++ (⟨#[37]⟩ : ByteArray) ++ s1 ++ s2 ++ y2).size ≤ 1000000 := by
        rw [ByteArray.size_append, ByteArray.size_append, ByteArray.size_append, ByteArray.size_append, hzs1, hzs2]
        have : (⟨#[37]⟩ : ByteArray).size = 1 := rfl
        omega
      have CPP := Parse_any (y1 ++ strOf [c] ++ y2) w4 hzp hG4
      have CPC := fun (w' : World) (hb : Below w4.heap.size w4 w') => Parse_none (y1 ++ (⟨#[37]⟩ : ByteArray) ++ s1 ++ s2 ++ y2) w' hzc (hG4.below hb) (by rw [ec, strOf_data]; exact wrong_coded a c k HOK.out HPRE.out hforb)
      have CPC' := Lib.hid CPC
      have hplain : Hid (c ≠ 37 → parseP (y1 ++ strOf [c] ++ y2).data.toList = none) := Lib.hid (fun h => by rw [ep, strOf_data]; exact wrong_plain a c k HOK.out HPRE.out hforb hc91 h)
      obtain ⟨r, hr⟩ : ∃ r, parseP (y1 ++ strOf [c] ++ y2).data.toList = r := ⟨_, rfl⟩
      rw [hr] at CPP hplain
      have CPP' := Lib.hid CPP
      generalize y1 ++ strOf [c] ++ y2 = PL at CPP' ⊢
      generalize y1 ++ (⟨#[37]⟩ : ByteArray) ++ s1 ++ s2 ++ y2 = CD at CPC' ⊢
      clear CPP CPC ep ec hzp hzc hzs1 hzs2 hr hy1 hy2 n1 n2 n3 n4 hx1 hx2 CX
      go_wp2_with fail
      refine CPP'.out.mono ?_
      rintro e w5 ⟨he, hb5⟩
      have hbw5 : Below w.heap.size w w5 := hbw4.trans (hb5.mono hbw4.size)
      by_cases h37 : c = 37
      · have hb37 : ((c.toNat : Int) == 37) = true := by rw [h37]; rfl
        clear h37 hplain
        cases r with
        | none =>
          obtain rfl := he
          go_wp2_with (first | (go_at_call 7; refine (CPC'.out _ hb5).mono ?_; rintro e w6 ⟨rfl, hb6⟩))
          go_ret
          exact ⟨rfl, hbw5.trans (hb6.mono hbw5.size)⟩
        | some l =>
          obtain rfl := he
          go_wp2_with (first | (go_at_call 7; refine (CPC'.out _ hb5).mono ?_; rintro e w6 ⟨rfl, hb6⟩))
          go_ret
          exact ⟨rfl, hbw5.trans (hb6.mono hbw5.size)⟩
      · have hb37 : ((c.toNat : Int) == 37) = false := by
          refine beq_eq_false_iff_ne.2 (fun h => h37 ?_)
          have h2 : c.toNat = 37 := by omega
          exact UInt8.toNat_inj.1 h2
        obtain rfl := hplain.out h37
        obtain rfl := he
        clear h37
        go_wp2_with (first | (go_at_call 7; refine (CPC'.out _ hb5).mono ?_; rintro e w6 ⟨rfl, hb6⟩))
        go_ret
        exact ⟨rfl, hbw5.trans (hb6.mono hbw5.size)⟩
end Go.Proofs.YtlhbpdnbfghkoaaDoor
