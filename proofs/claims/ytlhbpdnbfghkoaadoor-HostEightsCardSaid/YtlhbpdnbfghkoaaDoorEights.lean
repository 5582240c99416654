/- HostEights: each address of eight pieces is written shortest, and parsed as it is. The walk. -/
import Derived.Test.YtlhbpdnbfghkoaaDoorEightsP
namespace Go.Proofs.YtlhbpdnbfghkoaaDoor
open Go.RowKit
set_option linter.unusedSimpArgs false
set_option linter.unusedVariables false

theorem IPv6_some (s : ByteArray) (L : List Nat) (w : World) (hs : s.size ≤ 1000000) (hG : GL w) (h : ip6 s.data.toList = some L) :
    Calls Tryd.prog 9 #[.string s] w fun e w' => e = .returned (.tuple #[agg8 L, .int .i64 0]) ∧ Below w.heap.size w w' := by
  have := IPv6_any s w hs hG
  rw [h] at this
  exact this
theorem joinB_snoc (c : UInt8) (ps : List Bs) (p : Bs) (h : ps ≠ []) : joinB c (ps ++ [p]) = joinB c ps ++ c :: p := by
  induction ps with
  | nil => exact absurd rfl h
  | cons q r ih =>
    cases r with
    | nil => rw [joinB_one]; show joinB c [q, p] = _; rw [joinB_cons, joinB_one]
    | cons a b =>
      have := ih (by simp)
      rw [List.cons_append, List.cons_append, joinB_cons, joinB_cons, List.append_assoc]
      rw [List.cons_append] at this
      rw [this]
      rfl
theorem step_join (f : Nat → Bs) (L : List Nat) (i x : Nat) (hx : L[i]? = some x) : strOf (joinB 58 ((L.take (i + 1)).map f)) = if i = 0 then strOf (joinB 58 ((L.take i).map f)) ++ strOf (f x) else strOf (joinB 58 ((L.take i).map f)) ++ (⟨#[58]⟩ : ByteArray) ++ strOf (f x) := by
  have hi := (List.getElem?_eq_some_iff.1 hx).1
  rw [List.take_add_one, hx, List.map_append]
  split
  · rename_i h; subst h
    rw [← strOf_append]
    show strOf (joinB 58 [f x]) = strOf ([] ++ f x)
    rw [joinB_one]; rfl
  · rename_i h
    show strOf (joinB 58 ((L.take i).map f ++ [f x])) = _
    rw [joinB_snoc _ _ _ (by intro h2; rw [List.map_eq_nil_iff, List.take_eq_nil_iff] at h2; rcases h2 with h2 | h2; exact h h2; rw [h2] at hi; simp at hi)]
    rw [show (⟨#[58]⟩ : ByteArray) = strOf [58] from rfl, ← strOf_append, ← strOf_append, List.append_assoc]
    rfl
set_option maxRecDepth 1000000 in
set_option maxHeartbeats 8000000 in
theorem eights_any (L : List Nat) (w : World) (hl : L.length = 8) (hx : ∀ x ∈ L, x < 65536) (hG : GL w) :
    Calls Tryd.prog 4 #[agg8 L] w fun e w' => e = .returned (.bool true) ∧ Below w.heap.size w w' := by
  have HL := Lib.hid hl
  have HX := Lib.hid hx
  have CS := Lib.hid (fun w' hG' => shown_any w' hG')
  match L, hl with
  | [a0, a1, a2, a3, a4, a5, a6, a7], _ =>
  rw [agg_eight]
  clear hx
  go_enter Tryd.func4, Tryd.ntmps4
  go_wp2_with fail
  refine (CS.out _ (hG.alloc _)).mono ?_
  rintro e w1 ⟨rfl, hb1⟩
  have hb01 : Below w.heap.size w w1 := ((Below.refl _ w).alloc (Nat.le_refl _) _).trans (hb1.mono (by simp))
  have hh1 : w1.heap[w.heap.size]? = some (.cells #[.int .u16 (a0 : Int), .int .u16 (a1 : Int), .int .u16 (a2 : Int), .int .u16 (a3 : Int), .int .u16 (a4 : Int), .int .u16 (a5 : Int), .int .u16 (a6 : Int), .int .u16 (a7 : Int)] 28 (0, 0)) := by
    rw [hb1.block _ (by simp)]; exact heap_alloc_new w _
  have HH := Lib.hid hh1
  clear CS hh1 hb1
  go_wp2_with fail
  obtain ⟨L, hL⟩ : ∃ L, [a0, a1, a2, a3, a4, a5, a6, a7] = L := ⟨_, rfl⟩
  have hcell : ∀ (i x : Nat), L[i]? = some x → w1.cell? ⟨w.heap.size, i, none⟩ = some (.int .u16 (x : Int)) := by
    intro i x hi
    rw [cell_of_heap HH.out]
    rw [← hL] at hi
    match i, hi with
    | 0, hi => simp at hi; subst hi; rfl
    | 1, hi => simp at hi; subst hi; rfl
    | 2, hi => simp at hi; subst hi; rfl
    | 3, hi => simp at hi; subst hi; rfl
    | 4, hi => simp at hi; subst hi; rfl
    | 5, hi => simp at hi; subst hi; rfl
    | 6, hi => simp at hi; subst hi; rfl
    | 7, hi => simp at hi; subst hi; rfl
    | i + 8, hi => simp at hi
  have hblk : w.heap.size < w1.heap.size := (Array.getElem?_eq_some_iff.1 HH.out).1
  have HC := Lib.hid hcell
  have HLE := Lib.hid hL
  rw [hL] at HL HX
  clear hcell hL
  go_loopw [4, 5, 6] (fun v4 v5 vi wr => ∃ (i : Nat) (q4 q5 : ByteArray), v4 = .string q4 ∧ v5 = .string q5 ∧ vi = .int .i64 i ∧ i ≤ 8 ∧ q4.size ≤ 50 * i ∧ q5.size ≤ 50 * i ∧ Below w1.heap.size w1 wr ∧ Hid (q4 = strOf (joinB 58 ((L.take i).map hexDigits)) ∧ q5 = strOf (joinB 58 ((L.take i).map up4)))) (fun _ _ vi _ => 8 - (intOf vi).toNat)
  case atStart => exact ⟨0, ⟨#[]⟩, ⟨#[]⟩, rfl, rfl, rfl, by omega, by decide, by decide, Below.refl _ _, Lib.hid ⟨rfl, rfl⟩⟩
  case round =>
    obtain ⟨i, q4, q5, rfl, rfl, rfl, hi, hz4, hz5, hbw, HI⟩ := hrel
    obtain ⟨wo, rfl⟩ : ∃ wo : World, wo = wr := ⟨_, rfl⟩
    have hB := hbw.size
    by_cases hlt : i < 8
    · obtain ⟨x, hx⟩ : ∃ x, L[i]? = some x := ⟨_, List.getElem?_eq_getElem (by rw [HL.out]; exact hlt)⟩
      have hx16 : x < 65536 := HX.out x (List.mem_of_getElem? hx)
      have hc : wo.cell? ⟨w.heap.size, i, none⟩ = some (.int .u16 (x : Int)) := by
        rw [hbw.cell (p := ⟨w.heap.size, i, none⟩) hblk]; exact HC.out i x hx
      have HXI := Lib.hid hx
      have hdl := hexDigits_len x hx16
      have CB := Lib.hid (fun w' : World => show Calls Tryd.prog 8 #[.int .i64 (x : Int), .int .i64 16] w' fun e w'' => e = .returned (.string (strOf (hexDigits x))) ∧ Below w'.heap.size w' w'' by
        have := based_any x 16 w' (by omega) (by decide) (by decide)
        rw [digs16] at this
        exact this)
      have hpad := pad_last x hx16
      obtain ⟨d, hd⟩ : ∃ d, strOf (hexDigits x) = d := ⟨_, rfl⟩
      have hdz : d.size ≤ 4 := by rw [← hd, strOf_size]; exact hdl
      have hd1 : 1 ≤ d.size := by rw [← hd, strOf_size]; exact List.length_pos_iff.2 (hex_ne x)
      have hpe : ((⟨#[48, 48, 48]⟩ : ByteArray) ++ d).extract (3 + d.size - 4) (3 + d.size) = strOf (pad4 x) := by
        have e0 : (⟨#[48, 48, 48]⟩ : ByteArray) ++ d = strOf (48 :: 48 :: 48 :: hexDigits x) := by rw [← hd, show (⟨#[48, 48, 48]⟩ : ByteArray) = strOf [48, 48, 48] from rfl, ← strOf_append]; rfl
        have e1 : d.size = (hexDigits x).length := by rw [← hd, strOf_size]
        rw [e0, extract_strOf, strOf_data, e1, List.take_of_length_le (by simp; omega), show 3 + (hexDigits x).length - 4 = (hexDigits x).length + 3 - 4 by omega, hpad]
      obtain ⟨P, hP⟩ : ∃ P, strOf (pad4 x) = P := ⟨_, rfl⟩
      rw [hP] at hpe
      have hPz : P.size = 4 := by rw [← hP, strOf_size]; rfl
      have HP := Lib.hid hP
      have HPZ := Lib.hid hPz
      clear hP hPz
      rw [hd] at CB
      have HD := Lib.hid hd
      have HPAD := Lib.hid hpad
      clear hx hd hpad hdl
      have hways : (¬ (0 : Int) < (i : Int)) ∨ (0 : Int) < (i : Int) := by omega
      rcases hways with h0 | h0
      all_goals
        go_wp2_with (first | (go_at_call 8; refine (CB.out _).mono ?_; rintro e w4 ⟨rfl, hb4⟩; have hc4 := cell_later hb4 hc) | (go_at_call 8; refine (CB.out _).mono ?_; rintro e w5 ⟨rfl, hb5⟩))
        rw [hpe]
        have hbw5 : Below w1.heap.size w1 w5 := (hbw.trans (hb4.mono hB)).trans (hb5.mono (Nat.le_trans hB hb4.size))
        clear hpe hc hc4
        first | (obtain ⟨qb, hqb⟩ : ∃ qb, q5 ++ (⟨#[58]⟩ : ByteArray) = qb := ⟨_, rfl⟩; rw [hqb]) | (obtain ⟨qb, hqb⟩ : ∃ qb, q5 = qb := ⟨_, rfl⟩; rw [hqb])
        first | (obtain ⟨qf, hqf⟩ : ∃ qf, q4 ++ (⟨#[58]⟩ : ByteArray) ++ d = qf := ⟨_, rfl⟩; rw [hqf]) | (obtain ⟨qf, hqf⟩ : ∃ qf, q4 ++ d = qf := ⟨_, rfl⟩; rw [hqf])
        have H4 : Hid (qf = strOf (joinB 58 ((L.take (i + 1)).map hexDigits))) := by
          rw [step_join hexDigits L i x HXI.out, ← hqf, HD.out, ← HI.out.1]
          first | (rw [if_neg (by omega)]; exact Lib.hid rfl) | (rw [if_pos (by omega)]; exact Lib.hid rfl)
        have H5 : Hid (qb ++ strOf (up4 x) = strOf (joinB 58 ((L.take (i + 1)).map up4))) := by
          rw [step_join up4 L i x HXI.out, ← hqb, ← HI.out.2]
          first | (rw [if_neg (by omega)]; exact Lib.hid rfl) | (rw [if_pos (by omega)]; exact Lib.hid rfl)
        have hqbz : qb.size ≤ 50 * i + 1 := by
          rw [← hqb]
          first | (rw [ByteArray.size_append]; have : (⟨#[58]⟩ : ByteArray).size = 1 := rfl; omega) | omega
        have hqfz : qf.size ≤ 50 * i + 5 := by
          rw [← hqf]
          first | (rw [ByteArray.size_append, ByteArray.size_append]; have : (⟨#[58]⟩ : ByteArray).size = 1 := rfl; omega) | (rw [ByteArray.size_append]; omega)
        clear hqb hqf
        go_loopw [5, 8] (fun v5 vk wr => ∃ (k : Nat) (q : ByteArray), v5 = .string q ∧ vk = .int .i64 k ∧ k ≤ 4 ∧ q.size ≤ 50 * i + 1 + k ∧ Below w1.heap.size w1 wr ∧ Hid (q = qb ++ strOf (((pad4 x).take k).map upc))) (fun _ vk _ => 4 - (intOf vk).toNat)
        case atStart => exact ⟨0, qb, rfl, rfl, by omega, by omega, hbw5, Lib.hid (by apply ByteArray.ext; apply Array.ext'; simp [strOf])⟩
        case round =>
          obtain ⟨k, q, rfl, rfl, hk, hqz, hbr, HQ⟩ := hrel
          obtain ⟨wi, rfl⟩ : ∃ wi : World, wi = wr := ⟨_, rfl⟩
          have hBr := hbr.size
          by_cases hk4 : k < 4
          · obtain ⟨c, hcb⟩ : ∃ c, (pad4 x)[k]? = some c := ⟨_, List.getElem?_eq_getElem (by simp [pad4]; exact hk4)⟩
            have hkP : k < P.size := by rw [HPZ.out]; exact hk4
            have hPk : P[k] = c := by
              have h1 : P.data.toList[k]'(by simpa using hkP) = P[k] := data_get P k hkP
              rw [← h1]
              have h2 : P.data.toList[k]? = some c := by rw [← HP.out, strOf_data]; exact hcb
              exact (List.getElem?_eq_some_iff.1 h2).2
            have hc256 := c.toNat_lt
            have HNEW : Hid (q ++ strOf [upc c] = qb ++ strOf (((pad4 x).take (k + 1)).map upc)) := by
              rw [HQ.out, List.take_add_one, hcb, List.map_append, strOf_append]
              refine Lib.hid ?_
              rw [ByteArray.append_assoc]; rfl
            clear hcb
            have hz1 : (strOf [upc c]).size ≤ 1 := by rw [strOf_size]; simp
            by_cases hup : 97 ≤ c.toNat
            · have hst := fun W : World => byte_str (upc c) ((c.toNat : Int) - 32) (by unfold upc; rw [if_pos hup, UInt8.toNat_sub]; show _ = (((256 - 32 + c.toNat) % 256 : Nat) : Int); omega) W W.heap.size rfl
              have hup' : (97 : Int) ≤ (c.toNat : Int) := by omega
              go_wp2
              refine ⟨⟨k + 1, _, rfl, rfl, by omega, by rw [ByteArray.size_append]; omega, hbr.alloc (Nat.le_trans (by omega) hBr) _, HNEW⟩, by simp [intOf]; omega⟩
            · have hst := fun W : World => byte_str (upc c) (c.toNat : Int) (by unfold upc; rw [if_neg hup]) W W.heap.size rfl
              have hup' : (c.toNat : Int) < 97 := by omega
              go_wp2
              refine ⟨⟨k + 1, _, rfl, rfl, by omega, by rw [ByteArray.size_append]; omega, hbr.alloc (Nat.le_trans (by omega) hBr) _, HNEW⟩, by simp [intOf]; omega⟩
          · obtain rfl : k = 4 := by omega
            go_wp2
            refine ⟨⟨i + 1, qf, q, rfl, rfl, rfl, by omega, by omega, by omega, hbr, Lib.hid ⟨H4.out, ?_⟩⟩, by simp [intOf]; omega⟩
            rw [← H5.out, HQ.out]; rfl
    · obtain rfl : i = 8 := by omega
      have hI := HI.out
      rw [List.take_of_length_le (by rw [HL.out]; exact Nat.le_refl _)] at hI
      obtain ⟨h4, h5⟩ := hI
      have hG1 := hG.below hb01
      have hGo := hG1.below hbw
      have i4 : ip6 q4.data.toList = some L := by
        rw [h4, strOf_data]
        exact ip6_spelled hexDigits L HL.out (fun x hx => ⟨hex16_hex x (HX.out x hx), hex_ne x, fun hm => (hex_all (fun c => c ≠ 58) (fun k hk => (hexd_ok k hk).2.2.1) x 58 hm) rfl, fun hm => (hex_all (fun c => c ≠ 46) (fun k hk => (hexd_ok k hk).2.2.2) x 46 hm) rfl⟩)
      have i5 : ip6 q5.data.toList = some L := by
        rw [h5, strOf_data]
        exact ip6_spelled up4 L HL.out (fun x hx => ⟨hex16_up4 x (HX.out x hx), up4_ok x (HX.out x hx)⟩)
      have C4 := fun (w' : World) (hb : Below wo.heap.size wo w') => IPv6_some q4 L w' (by omega) (hGo.below hb) i4
      have C5 := fun (w' : World) (hb : Below wo.heap.size wo w') => IPv6_some q5 L w' (by omega) (hGo.below hb) i5
      have ip : parseP ((⟨#[91]⟩ : ByteArray) ++ q5 ++ ⟨#[93]⟩).data.toList = some (91 :: (text6 L ++ [93])) := by
        have e : (⟨#[91]⟩ : ByteArray) ++ q5 ++ ⟨#[93]⟩ = strOf (91 :: (joinB 58 (L.map up4) ++ [93])) := by
          rw [h5, show (⟨#[91]⟩ : ByteArray) = strOf [91] from rfl, show (⟨#[93]⟩ : ByteArray) = strOf [93] from rfl, ← strOf_append, ← strOf_append]; rfl
        rw [e, strOf_data]
        unfold parseP
        rw [if_pos (trimPrefix_cons 91 _).1, (trimPrefix_cons 91 _).2, if_pos (hasSuffix_snoc _ 93).1, (hasSuffix_snoc _ 93).2, show ip6 (joinB 58 (L.map up4)) = some L by rw [h5, strOf_data] at i5; exact i5]
      have hzp : ((⟨#[91]⟩ : ByteArray) ++ q5 ++ ⟨#[93]⟩).size ≤ 1000000 := by
        rw [ByteArray.size_append, ByteArray.size_append]
        have h1 : (⟨#[91]⟩ : ByteArray).size = 1 := rfl
        have h2 : (⟨#[93]⟩ : ByteArray).size = 1 := rfl
        omega
      have CP := fun (w' : World) (hb : Below wo.heap.size wo w') => Parse_some _ _ w' hzp (hGo.below hb) ip
      have hq4 : Hid (q4.size = (joinB 58 (L.map hexDigits)).length) := by rw [h4, strOf_size]; exact Lib.hid rfl
      have C4' := Lib.hid C4
      have C5' := Lib.hid C5
      have CP' := Lib.hid CP
      rw [← HLE.out, agg_eight] at C4' C5'
      obtain ⟨wr1, wr2, wr3, wr4⟩ := written L HL.out
      obtain ⟨ll, hll⟩ : ∃ ll, 91 :: (text6 L ++ [93]) = ll := ⟨_, rfl⟩
      rw [hll] at wr1 wr2 CP'
      obtain ⟨S, hS⟩ : ∃ S, strOf ll = S := ⟨_, rfl⟩
      rw [hS] at CP'
      have hSz : S.size = (text6 L).length + 2 := by rw [← hS, strOf_size, ← hll]; simp
      have hs4 : 4 ≤ S.size := by omega
      have hsm : S.size ≤ 300 := by have := text6_len L HL.out HX.out; omega
      have hsq : S.size ≤ q4.size + 2 := by rw [hq4.out]; omega
      have e6 : S.extract 1 (S.size - 1) = strOf (text6 L) := by
        rw [extract_strOf, hSz, ← hS, strOf_data, ← hll]
        congr 1
        rw [show (text6 L).length + 2 - 1 = (text6 L).length + 1 by omega, List.take_succ_cons]
        simp
      have C6' := Lib.hid (fun (w' : World) (hb : Below wo.heap.size wo w') => IPv6_some (S.extract 1 (S.size - 1)) L w' (by rw [ByteArray.size_extract]; omega) (hGo.below hb) (by rw [e6, strOf_data]; exact ip6_text6 L HL.out HX.out))
      rw [← HLE.out, agg_eight] at C6'
      have HDAT : Hid (S.data.toList = ll) := by rw [← hS, strOf_data]; exact Lib.hid rfl
      have HW1 := Lib.hid wr1
      have HW2 := Lib.hid wr2
      clear C4 C5 CP ip i4 i5 h4 h5 hzp HI hS hSz e6 wr1 wr2 wr3 wr4 hll
      go_wp2_with fail
      refine (C4'.out _ (Below.refl _ _)).mono ?_
      rintro e w2 ⟨rfl, hb2⟩
      go_wp2_with fail
      have ho2 := hb2.alloc hb2.size (.cells #[.int .u16 (a0 : Int), .int .u16 (a1 : Int), .int .u16 (a2 : Int), .int .u16 (a3 : Int), .int .u16 (a4 : Int), .int .u16 (a5 : Int), .int .u16 (a6 : Int), .int .u16 (a7 : Int)] 28)
      have hh2 := heap_alloc_new w2 (.cells #[.int .u16 (a0 : Int), .int .u16 (a1 : Int), .int .u16 (a2 : Int), .int .u16 (a3 : Int), .int .u16 (a4 : Int), .int .u16 (a5 : Int), .int .u16 (a6 : Int), .int .u16 (a7 : Int)] 28)
      generalize w2.alloc (.cells #[.int .u16 (a0 : Int), .int .u16 (a1 : Int), .int .u16 (a2 : Int), .int .u16 (a3 : Int), .int .u16 (a4 : Int), .int .u16 (a5 : Int), .int .u16 (a6 : Int), .int .u16 (a7 : Int)] 28) = W2 at ho2 hh2 ⊢
      generalize w2.heap.size = b2 at hh2 ⊢
      have HH2 := Lib.hid hh2
      clear hh2 hb2
      refine (C5'.out _ ho2).mono ?_
      rintro e w3 ⟨rfl, hb3⟩
      go_wp2_with fail
      have ho3 := (ho2.trans (hb3.mono ho2.size)).alloc (Nat.le_trans ho2.size hb3.size) (.cells #[.int .u16 (a0 : Int), .int .u16 (a1 : Int), .int .u16 (a2 : Int), .int .u16 (a3 : Int), .int .u16 (a4 : Int), .int .u16 (a5 : Int), .int .u16 (a6 : Int), .int .u16 (a7 : Int)] 28)
      have hB2 : b2 < W2.heap.size := (Array.getElem?_eq_some_iff.1 HH2.out).1
      have hh23 : Hid (w3.heap[b2]? = some (.cells #[.int .u16 (a0 : Int), .int .u16 (a1 : Int), .int .u16 (a2 : Int), .int .u16 (a3 : Int), .int .u16 (a4 : Int), .int .u16 (a5 : Int), .int .u16 (a6 : Int), .int .u16 (a7 : Int)] 28 (0, 0))) := by rw [hb3.block b2 hB2]; exact HH2
      have hB23 : b2 < w3.heap.size := Nat.lt_of_lt_of_le hB2 hb3.size
      have hh3 := heap_alloc_new w3 (.cells #[.int .u16 (a0 : Int), .int .u16 (a1 : Int), .int .u16 (a2 : Int), .int .u16 (a3 : Int), .int .u16 (a4 : Int), .int .u16 (a5 : Int), .int .u16 (a6 : Int), .int .u16 (a7 : Int)] 28)
      have hn3 : Hid (∀ o, (w3.alloc o).heap[b2]? = w3.heap[b2]?) := Lib.hid (fun o => ((Below.refl w3.heap.size w3).alloc (Nat.le_refl _) o).block b2 hB23)
      have hh32 := hn3.out (.cells #[.int .u16 (a0 : Int), .int .u16 (a1 : Int), .int .u16 (a2 : Int), .int .u16 (a3 : Int), .int .u16 (a4 : Int), .int .u16 (a5 : Int), .int .u16 (a6 : Int), .int .u16 (a7 : Int)] 28)
      rw [hh23.out] at hh32
      have hB3 : w3.heap.size < (w3.alloc (.cells #[.int .u16 (a0 : Int), .int .u16 (a1 : Int), .int .u16 (a2 : Int), .int .u16 (a3 : Int), .int .u16 (a4 : Int), .int .u16 (a5 : Int), .int .u16 (a6 : Int), .int .u16 (a7 : Int)] 28)).heap.size := (Array.getElem?_eq_some_iff.1 hh3).1
      generalize w3.alloc (.cells #[.int .u16 (a0 : Int), .int .u16 (a1 : Int), .int .u16 (a2 : Int), .int .u16 (a3 : Int), .int .u16 (a4 : Int), .int .u16 (a5 : Int), .int .u16 (a6 : Int), .int .u16 (a7 : Int)] 28) = W3 at ho3 hh3 hh32 hB3 ⊢
      generalize w3.heap.size = b3 at hh3 hB3 hB23 ⊢
      have HH3 := Lib.hid hh3
      have HH32 := Lib.hid hh32
      clear hh3 hh32 hn3 hh23 HH2
      refine (CP'.out _ ho3).mono ?_
      rintro e w4 ⟨rfl, hb4⟩
      have ho4 := ho3.trans (hb4.mono ho3.size)
      have hhw : Hid (w4.heap[w.heap.size]? = some (.cells #[.int .u16 (a0 : Int), .int .u16 (a1 : Int), .int .u16 (a2 : Int), .int .u16 (a3 : Int), .int .u16 (a4 : Int), .int .u16 (a5 : Int), .int .u16 (a6 : Int), .int .u16 (a7 : Int)] 28 (0, 0))) := by
        rw [ho4.block _ (Nat.lt_of_lt_of_le hblk hbw.size), hbw.block _ hblk]; exact HH
      have hh42 : Hid (w4.heap[b2]? = some (.cells #[.int .u16 (a0 : Int), .int .u16 (a1 : Int), .int .u16 (a2 : Int), .int .u16 (a3 : Int), .int .u16 (a4 : Int), .int .u16 (a5 : Int), .int .u16 (a6 : Int), .int .u16 (a7 : Int)] 28 (0, 0))) := by
        rw [hb4.block _ (Nat.lt_trans hB23 hB3)]; exact HH32
      have hh43 : Hid (w4.heap[b3]? = some (.cells #[.int .u16 (a0 : Int), .int .u16 (a1 : Int), .int .u16 (a2 : Int), .int .u16 (a3 : Int), .int .u16 (a4 : Int), .int .u16 (a5 : Int), .int .u16 (a6 : Int), .int .u16 (a7 : Int)] 28 (0, 0))) := by
        rw [hb4.block _ hB3]; exact HH3
      obtain ⟨x0, x1, x2, x3, x4, x5, x6, x7⟩ := eight_all hhw.out
      obtain ⟨y0, y1, y2, y3, y4, y5, y6, y7⟩ := eight_all hh42.out
      obtain ⟨z0, z1, z2, z3, z4, z5, z6, z7⟩ := eight_all hh43.out
      have EQ := eq8 (a0 : Int) (a1 : Int) (a2 : Int) (a3 : Int) (a4 : Int) (a5 : Int) (a6 : Int) (a7 : Int)
      go_wp2_with fail
      refine (C6'.out _ ho4).mono ?_
      rintro e w5 ⟨rfl, hb5⟩
      have ho5 := (ho4.trans (hb5.mono ho4.size)).alloc (Nat.le_trans ho4.size hb5.size) (.cells #[.int .u16 (a0 : Int), .int .u16 (a1 : Int), .int .u16 (a2 : Int), .int .u16 (a3 : Int), .int .u16 (a4 : Int), .int .u16 (a5 : Int), .int .u16 (a6 : Int), .int .u16 (a7 : Int)] 28)
      have hblw := Nat.lt_of_lt_of_le hblk (Nat.le_trans hbw.size ho4.size)
      have hhw5 : Hid (w5.heap[w.heap.size]? = some (.cells #[.int .u16 (a0 : Int), .int .u16 (a1 : Int), .int .u16 (a2 : Int), .int .u16 (a3 : Int), .int .u16 (a4 : Int), .int .u16 (a5 : Int), .int .u16 (a6 : Int), .int .u16 (a7 : Int)] 28 (0, 0))) := by
        rw [hb5.block _ hblw]; exact hhw
      have hblw5 := Nat.lt_of_lt_of_le hblw hb5.size
      clear x0 x1 x2 x3 x4 x5 x6 x7 y0 y1 y2 y3 y4 y5 y6 y7 z0 z1 z2 z3 z4 z5 z6 z7
      go_wp2_with fail
      have hh5 := heap_alloc_new w5 (.cells #[.int .u16 (a0 : Int), .int .u16 (a1 : Int), .int .u16 (a2 : Int), .int .u16 (a3 : Int), .int .u16 (a4 : Int), .int .u16 (a5 : Int), .int .u16 (a6 : Int), .int .u16 (a7 : Int)] 28)
      have hn5 : Hid (∀ o, (w5.alloc o).heap[w.heap.size]? = w5.heap[w.heap.size]?) := Lib.hid (fun o => ((Below.refl w5.heap.size w5).alloc (Nat.le_refl _) o).block _ hblw5)
      have hhw6 := hn5.out (.cells #[.int .u16 (a0 : Int), .int .u16 (a1 : Int), .int .u16 (a2 : Int), .int .u16 (a3 : Int), .int .u16 (a4 : Int), .int .u16 (a5 : Int), .int .u16 (a6 : Int), .int .u16 (a7 : Int)] 28)
      rw [hhw5.out] at hhw6
      generalize w5.alloc (.cells #[.int .u16 (a0 : Int), .int .u16 (a1 : Int), .int .u16 (a2 : Int), .int .u16 (a3 : Int), .int .u16 (a4 : Int), .int .u16 (a5 : Int), .int .u16 (a6 : Int), .int .u16 (a7 : Int)] 28) = W5 at ho5 hh5 hhw6 ⊢
      generalize w5.heap.size = b5 at hh5 ⊢
      have HH5 := Lib.hid hh5
      have HHW6 := Lib.hid hhw6
      clear hh5 hhw6 hn5 hhw5
      have hfin : Below w.heap.size w W5 := (hb01.trans (hbw.mono hb01.size)).trans (ho5.mono (Nat.le_trans hb01.size hbw.size))
      go_loopw [18, 19, 20] (fun vc vd vi wr => ∃ k c d : Nat, vc = .int .i64 c ∧ vd = .int .i64 d ∧ vi = .int .i64 k ∧ k ≤ S.size ∧ c ≤ k ∧ d ≤ k ∧ wr = W5 ∧ Hid (c + cnt (ll.drop k) = cnt ll ∧ d + dbl (ll.drop k) = dbl ll)) (fun _ _ vi _ => S.size - (intOf vi).toNat)
      case atStart => exact ⟨0, 0, 0, rfl, rfl, rfl, by omega, by omega, by omega, rfl, Lib.hid ⟨by simp, by simp⟩⟩
      case round =>
        obtain ⟨k, c, d, rfl, rfl, rfl, hk, hck, hdk, rfl, HI⟩ := hrel
        by_cases hlt : k < S.size
        · have hdk1 : ll.drop k = S[k] :: ll.drop (k + 1) := by
            rw [← HDAT.out, ← data_get S k hlt]
            exact List.drop_eq_getElem_cons (by simpa using hlt)
          by_cases h58 : S[k] = 58
          · have hb58 : ((S[k].toNat : Int) == 58) = true := by rw [h58]; rfl
            by_cases hlt2 : k + 1 < S.size
            · have hdk2 : (ll.drop (k + 1)).headD 0 = S[k + 1] := by
                rw [← HDAT.out, ← data_get S (k + 1) hlt2]
                rw [List.drop_eq_getElem_cons (by simpa using hlt2)]; rfl
              by_cases h59 : S[k + 1] = 58
              · have hb59 : ((S[k + 1].toNat : Int) == 58) = true := by rw [h59]; rfl
                have HN : Hid ((c + 1) + cnt (ll.drop (k + 1)) = cnt ll ∧ (d + 1) + dbl (ll.drop (k + 1)) = dbl ll) := by
                  have := HI.out
                  rw [hdk1, cnt, dbl, if_pos h58, if_pos ⟨h58, by rw [hdk2, h59]⟩] at this
                  exact Lib.hid ⟨by omega, by omega⟩
                clear hdk1 hdk2 h58 h59 HI
                go_wp2
                exact ⟨⟨k + 1, c + 1, d + 1, rfl, rfl, rfl, by omega, by omega, by omega, trivial, HN⟩, by simp [intOf]; omega⟩
              · have hb59 : ((S[k + 1].toNat : Int) == 58) = false := u8_58 _ h59
                have HN : Hid ((c + 1) + cnt (ll.drop (k + 1)) = cnt ll ∧ d + dbl (ll.drop (k + 1)) = dbl ll) := by
                  have := HI.out
                  rw [hdk1, cnt, dbl, if_pos h58, if_neg (fun h => h59 (by rw [← hdk2]; exact h.2))] at this
                  exact Lib.hid ⟨by omega, by omega⟩
                clear hdk1 hdk2 h58 h59 HI
                go_wp2
                exact ⟨⟨k + 1, c + 1, d, rfl, rfl, rfl, by omega, by omega, by omega, trivial, HN⟩, by simp [intOf]; omega⟩
            · have HN : Hid ((c + 1) + cnt (ll.drop (k + 1)) = cnt ll ∧ d + dbl (ll.drop (k + 1)) = dbl ll) := by
                have h0 : ll.drop (k + 1) = [] := by
                  rw [← HDAT.out]
                  exact List.drop_of_length_le (by rw [← Lib.size_eq]; omega)
                have := HI.out
                rw [hdk1, cnt, dbl, if_pos h58, if_neg (fun h => absurd h.2 (by rw [h0]; decide))] at this
                exact Lib.hid ⟨by omega, by omega⟩
              clear hdk1 h58 HI
              go_wp2
              exact ⟨⟨k + 1, c + 1, d, rfl, rfl, rfl, by omega, by omega, by omega, trivial, HN⟩, by simp [intOf]; omega⟩
          · have hb58 : ((S[k].toNat : Int) == 58) = false := u8_58 _ h58
            have HN : Hid (c + cnt (ll.drop (k + 1)) = cnt ll ∧ d + dbl (ll.drop (k + 1)) = dbl ll) := by
              have := HI.out
              rw [hdk1, cnt, dbl, if_neg h58, if_neg (fun h => h58 h.1)] at this
              exact Lib.hid ⟨by omega, by omega⟩
            clear hdk1 h58 HI
            go_wp2
            exact ⟨⟨k + 1, c, d, rfl, rfl, rfl, by omega, by omega, by omega, trivial, HN⟩, by simp [intOf]; omega⟩
        · obtain rfl : k = S.size := by omega
          have hlen : ll.drop S.size = [] := by
            rw [← HDAT.out]
            exact List.drop_of_length_le (by rw [← Lib.size_eq]; exact Nat.le_refl _)
          have h := HI.out
          rw [hlen] at h
          have hc : c = cnt ll := h.1
          have hd : d = dbl ll := h.2
          have h1 := HW1.out
          have h2 := HW2.out
          rw [← hd] at h1 h2
          rw [← hc] at h2
          have hd1 : (d : Int) ≤ 1 := by omega
          have hdec : decide ((S.size : Int) ≤ (q4.size : Int) + 2) = true := decide_eq_true (by omega)
          have hcd : d = 1 ∨ (d = 0 ∧ c = 7) := by omega
          obtain ⟨x0, x1, x2, x3, x4, x5, x6, x7⟩ := eight_all HHW6.out
          obtain ⟨y0, y1, y2, y3, y4, y5, y6, y7⟩ := eight_all HH5.out
          clear HI h hc hd h1 h2 hlen
          rcases hcd with rfl | ⟨rfl, rfl⟩
          all_goals
            go_wp2
            go_ret
            exact ⟨rfl, hfin⟩
end Go.Proofs.YtlhbpdnbfghkoaaDoor
