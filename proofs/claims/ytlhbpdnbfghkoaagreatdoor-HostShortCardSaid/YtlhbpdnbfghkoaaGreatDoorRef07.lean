/- The reference's hexa and Text6. -/
import Derived.Test.YtlhbpdnbfghkoaaGreatDoorShortP
namespace Go.Proofs.YtlhbpdnbfghkoaaGreatDoor
open Go.RowKit
set_option linter.unusedSimpArgs false
set_option linter.unusedVariables false

theorem hexd_lo (n : Nat) (h : n < 10) : (48 : Int) + (n : Int) = ((hexd n).toNat : Int) := by
  have : ∀ n : Fin 10, (48 : Int) + (n.val : Int) = ((hexd n.val).toNat : Int) := by decide
  exact this ⟨n, h⟩
theorem hexd_hi (n : Nat) (h0 : 10 ≤ n) (h : n < 16) : (97 : Int) + (n : Int) - 10 = ((hexd n).toNat : Int) := by
  have : ∀ n : Fin 16, 10 ≤ n.val → (97 : Int) + (n.val : Int) - 10 = ((hexd n.val).toNat : Int) := by decide
  exact this ⟨n, h⟩ h0
theorem hexDigits_size (n : Nat) : ∀ k, n < 16 ^ k → 1 ≤ k → (hexDigits n).length ≤ k := by
  induction n using Nat.strongRecOn with
  | _ n ih =>
    intro k hk h1
    by_cases h : n < 16
    · rw [hexDigits_lt _ h]; exact h1
    · rw [hexDigits_ge _ h, List.length_append]
      obtain ⟨j, rfl⟩ : ∃ j, k = j + 1 := ⟨k - 1, by omega⟩
      have h2 : n / 16 < 16 ^ j := by rw [Nat.pow_succ] at hk; omega
      have h3 : 1 ≤ j := by
        refine Classical.byContradiction fun h => ?_
        obtain rfl : j = 0 := by omega
        omega
      have := ih (n / 16) (by omega) j h2 h3
      simp
      omega
set_option maxRecDepth 1000000 in
set_option maxHeartbeats 8000000 in
theorem hexa_any (n : Nat) : ∀ (w : World), n < 1000000000000 →
    Calls Tryz.prog 30 #[.int .i64 n] w fun e w' => e = .returned (.string (strOf (hexDigits n))) ∧ Below w.heap.size w w' := by
  induction n using Nat.strongRecOn with
  | _ n ih =>
    intro w hn
    have IH := Lib.hid ih
    clear ih
    by_cases h16 : n < 16
    · have HD := Lib.hid (hexDigits_lt n h16)
      by_cases h10 : n < 10
      · have hst := byte_str (hexd n) (48 + (n : Int)) (hexd_lo n h10) w w.heap.size rfl
        go_enter Tryz.func30, Tryz.ntmps30
        go_wp2_with fail
        go_ret
        exact ⟨by rw [HD.out]; exact rfl, (Below.refl _ w).alloc (Nat.le_refl _) _⟩
      · have hst := byte_str (hexd n) (97 + (n : Int) - 10) (hexd_hi n (by omega) h16) w w.heap.size rfl
        go_enter Tryz.func30, Tryz.ntmps30
        go_wp2_with fail
        go_ret
        exact ⟨by rw [HD.out]; exact rfl, (Below.refl _ w).alloc (Nat.le_refl _) _⟩
    · have HD := Lib.hid (hexDigits_ge n h16)
      have C1 := Lib.hid (fun w' : World => show Calls Tryz.prog 30 #[.int .i64 ((n : Int) / 16)] w' fun e w'' => e = .returned (.string (strOf (hexDigits (n / 16)))) ∧ Below w'.heap.size w' w'' from IH.out (n / 16) (by omega) w' (by omega))
      have C2 := Lib.hid (fun w' : World => show Calls Tryz.prog 30 #[.int .i64 ((n : Int) % 16)] w' fun e w'' => e = .returned (.string (strOf (hexDigits (n % 16)))) ∧ Below w'.heap.size w' w'' from IH.out (n % 16) (by omega) w' (by omega))
      have z1 : (hexDigits (n / 16)).length ≤ 10 := hexDigits_size _ 10 (by omega) (by omega)
      have z2 : (hexDigits (n % 16)).length ≤ 10 := hexDigits_size _ 10 (by omega) (by omega)
      have hz1 : (strOf (hexDigits (n / 16))).size ≤ 10 := by rw [strOf_size]; exact z1
      have hz2 : (strOf (hexDigits (n % 16))).size ≤ 10 := by rw [strOf_size]; exact z2
      have e2 : hexDigits (n % 16) = [hexd (n % 16)] := hexDigits_lt _ (by omega)
      have hfin : Hid (strOf (hexDigits (n / 16)) ++ strOf (hexDigits (n % 16)) = strOf (hexDigits n)) := Lib.hid (by rw [HD.out, e2, strOf_append])
      obtain ⟨s1, hs1⟩ : ∃ s, strOf (hexDigits (n / 16)) = s := ⟨_, rfl⟩
      obtain ⟨s2, hs2⟩ : ∃ s, strOf (hexDigits (n % 16)) = s := ⟨_, rfl⟩
      rw [hs1] at C1 hz1 hfin
      rw [hs2] at C2 hz2 hfin
      clear e2 hs1 hs2 IH z1 z2
      go_enter Tryz.func30, Tryz.ntmps30
      go_wp2_with fail
      refine (C1.out _).mono ?_
      rintro e w1 ⟨rfl, hb1⟩
      go_wp2_with fail
      refine (C2.out _).mono ?_
      rintro e w2 ⟨rfl, hb2⟩
      go_wp2_with fail
      go_ret
      exact ⟨by rw [← hfin.out]; exact rfl, hb1.trans (hb2.mono hb1.size)⟩

theorem shB_len (L : List Nat) (hx : ∀ x ∈ L, x < 65536) (f t i : Nat) (hl : L.length = 8) (hi : i ≤ 8) : (shB L f t i).length ≤ 100 := by
  have h1 : ∀ M : List Nat, M.length ≤ 8 → (∀ x ∈ M, x < 65536) → (joinB 58 (M.map hexDigits)).length ≤ 8 * 5 := by
    intro M hm hM
    refine Nat.le_trans (joinB_len 58 (M.map hexDigits) 4 ?_) ?_
    · intro p hp
      obtain ⟨x, hx, rfl⟩ := List.mem_map.1 hp
      exact hexDigits_len x (hM x hx)
    · rw [List.length_map]; omega
  unfold shB
  split
  · exact Nat.le_trans (h1 _ (by rw [List.length_take]; omega) (fun x h => hx x (List.mem_of_mem_take h))) (by omega)
  · have a := h1 (L.take f) (by rw [List.length_take]; omega) (fun x h => hx x (List.mem_of_mem_take h))
    have b := h1 ((L.drop t).take (i - t)) (by rw [List.length_take, List.length_drop]; omega) (fun x h => hx x (List.mem_of_mem_drop (List.mem_of_mem_take h)))
    simp only [List.length_append, List.length_cons, List.length_nil]
    omega
/-- The last byte of a text, as a string's. -/
theorem last_at (q : ByteArray) (u : Bs) (y : UInt8) (h : q = strOf (u ++ [y])) (hk : q.size - 1 < q.size) : q[q.size - 1] = y := by
  rw [← data_get q _ hk]
  subst h
  simp [strOf_data, strOf_size]

set_option maxRecDepth 1000000 in
set_option maxHeartbeats 8000000 in
theorem refText6_any (L : List Nat) (w : World) (hl : L.length = 8) (hx : ∀ x ∈ L, x < 65536) :
    Calls Tryz.prog 16 #[agg8 L] w fun e w' => e = .returned (.string (strOf (text6 L))) ∧ Below w.heap.size w w' := by
  have HT6 := Lib.hid (shB_text6 L hl)
  have HX := Lib.hid hx
  clear hx
  match L, hl with
  | [a0, a1, a2, a3, a4, a5, a6, a7], hl =>
  have HC := Lib.hid (agg8_cells [a0, a1, a2, a3, a4, a5, a6, a7] w w.heap.size rfl)
  have hbw : Below w.heap.size w (w.alloc (.cells (cells8 [a0, a1, a2, a3, a4, a5, a6, a7]) 39)) := (Below.refl _ w).alloc (Nat.le_refl _) _
  have hblk0 : w.heap.size < (w.alloc (.cells (cells8 [a0, a1, a2, a3, a4, a5, a6, a7]) 39)).heap.size := by simp
  have HBW := Lib.hid hbw
  have HBL := Lib.hid hblk0
  clear hbw hblk0
  unfold agg8 cells8 at *
  simp only [List.map_cons, List.map_nil] at HC HBW HBL ⊢
  have HFIN : ∀ T : Bs, T = text6 [a0, a1, a2, a3, a4, a5, a6, a7] → True := fun _ _ => trivial
  clear HFIN
  go_enter Tryz.func16, Tryz.ntmps16
  go_wp2
  generalize w.alloc _ = w1 at HC HBW HBL ⊢
  have hl8 : ([a0, a1, a2, a3, a4, a5, a6, a7] : List Nat).length = 8 := hl
  have HL := Lib.hid hl8
  have HR := Lib.hid (rowTo_le [a0, a1, a2, a3, a4, a5, a6, a7])
  have HSP := Lib.hid (rowTo_spec [a0, a1, a2, a3, a4, a5, a6, a7])
  clear hl hl8
  obtain ⟨l, hle⟩ : ∃ l, [a0, a1, a2, a3, a4, a5, a6, a7] = l := ⟨_, rfl⟩
  rw [hle] at HC HL HR HX HT6 HSP
  have HLE := Lib.hid hle
  clear hle
  have hBW := HBW.out.size
  go_loopw [3, 4, 5] (fun vf vs vi wr => ∃ (i sz : Nat) (fr : Int), vf = .int .i64 fr ∧ vs = .int .i64 sz ∧ vi = .int .i64 i ∧ i ≤ 8 ∧ 1 ≤ sz ∧ sz ≤ 8 ∧ -1 ≤ fr ∧ fr ≤ 8 ∧ w1 = wr ∧ Hid (sz = max 1 ((rowTo l i).2 - (rowTo l i).1) ∧ fr = if (rowTo l i).2 = 0 then -1 else ((rowTo l i).1 : Int))) (fun _ _ vi _ => 8 - (intOf vi).toNat)
  case atStart => exact ⟨0, 1, -1, rfl, rfl, rfl, by omega, by omega, by omega, by omega, by omega, rfl, Lib.hid ⟨rfl, rfl⟩⟩
  case round =>
    obtain ⟨i, sz, fr, rfl, rfl, rfl, hi, hs1, hs8, hf1, hf8, rfl, HI⟩ := hrel
    by_cases hlt : i < 8
    · go_wp2
      go_loopw [6] (fun vk wr => ∃ k : Nat, vk = .int .i64 k ∧ i + k ≤ 8 ∧ w1 = wr ∧ Hid (zrun (l.drop i) = k + zrun (l.drop (i + k)))) (fun vk _ => 8 - (intOf vk).toNat)
      case atStart => exact ⟨0, rfl, by omega, rfl, Lib.hid (by simp)⟩
      case round =>
        obtain ⟨k, rfl, hk8, rfl, hz⟩ := hrel
        have fin : ∀ n : Nat, zrun (l.drop i) = n → i + n ≤ 8 → (sz < n → Hid (n = max 1 ((rowTo l (i + 1)).2 - (rowTo l (i + 1)).1) ∧ (i : Int) = if (rowTo l (i + 1)).2 = 0 then -1 else ((rowTo l (i + 1)).1 : Int))) ∧ (n ≤ sz → Hid (sz = max 1 ((rowTo l (i + 1)).2 - (rowTo l (i + 1)).1) ∧ fr = if (rowTo l (i + 1)).2 = 0 then -1 else ((rowTo l (i + 1)).1 : Int))) := by
          intro n hn hle
          obtain ⟨h1, h2⟩ := HI.out
          constructor
          · intro hlt2
            rw [rowTo, hn, if_pos (by omega)]
            exact Lib.hid ⟨by simp only; omega, by simp only; rw [if_neg (by omega)]⟩
          · intro hlt2
            rw [rowTo, hn, if_neg (by omega)]
            exact Lib.hid ⟨h1, h2⟩
        have FIN := Lib.hid fin
        clear fin
        by_cases hk : i + k < 8
        · have hki : (i : Int) + (k : Int) < 8 := by omega
          obtain ⟨x, hx⟩ : ∃ x, l[i + k]? = some x := ⟨_, List.getElem?_eq_getElem (by rw [HL.out]; exact hk)⟩
          have hcell := HC.out (i + k) x hx
          have HXX := Lib.hid hx
          clear hx
          by_cases hx0 : x = 0
          · subst hx0
            have hz2 : Hid (zrun (l.drop i) = (k + 1) + zrun (l.drop (i + (k + 1)))) := by
              rw [hz.out, zrun_zero l (i + k) HXX.out]; exact Lib.hid (by rw [Nat.add_assoc i k 1]; omega)
            clear hz FIN
            go_wp2
            refine ⟨⟨k + 1, rfl, by omega, ?_, hz2⟩, by simp [intOf]; omega⟩
            trivial
          · have hxb : ((x : Int) == 0) = false := beq_eq_false_iff_ne.2 (by omega)
            have hz2 : zrun (l.drop i) = k := by
              rw [hz.out, zrun_stop l (i + k) (fun y hy => by rw [HXX.out] at hy; cases hy; exact hx0)]; rfl
            obtain ⟨g1, g2⟩ := FIN.out k hz2 hk8
            have G1 := Lib.hid g1
            have G2 := Lib.hid g2
            clear hz hx0 hz2 FIN g1 g2
            go_wp2
            · have h2 : sz < k := by assumption
              exact ⟨⟨i + 1, k, i, rfl, rfl, rfl, by omega, by omega, by omega, by omega, by omega, trivial, G1.out (by omega)⟩, by simp [intOf]; omega⟩
            · have h2 : k ≤ sz := by first | assumption | exact Nat.not_lt.1 (by assumption)
              exact ⟨⟨i + 1, sz, fr, rfl, rfl, rfl, by omega, by omega, by omega, by omega, by omega, trivial, G2.out (by omega)⟩, by simp [intOf]; omega⟩
        · have hk8' : i + k = 8 := by omega
          have hki : ¬ ((i : Int) + (k : Int) < 8) := by omega
          have hz2 : zrun (l.drop i) = k := by
            rw [hz.out, List.drop_of_length_le (by rw [HL.out]; omega)]; rfl
          obtain ⟨g1, g2⟩ := FIN.out k hz2 hk8
          have G1 := Lib.hid g1
          have G2 := Lib.hid g2
          clear hz hz2 FIN g1 g2 hk8'
          go_wp2
          · have h2 : sz < k := by assumption
            exact ⟨⟨i + 1, k, i, rfl, rfl, rfl, by omega, by omega, by omega, by omega, by omega, trivial, G1.out (by omega)⟩, by simp [intOf]; omega⟩
          · have h2 : k ≤ sz := by first | assumption | exact Nat.not_lt.1 (by assumption)
            exact ⟨⟨i + 1, sz, fr, rfl, rfl, rfl, by omega, by omega, by omega, by omega, by omega, trivial, G2.out (by omega)⟩, by simp [intOf]; omega⟩
    · obtain rfl : i = 8 := by omega
      have h8 : ((8 : Nat) : Int) = 8 := rfl
      rw [h8]
      clear h8
      have hdef : ∃ (f t : Nat), f < t ∧ t ≤ 9 ∧ shB l f t 8 = text6 l ∧ ((fr = -1 ∧ f = 8) ∨ (fr = (f : Int) ∧ f + sz = t ∧ f < 8 ∧ t ≤ 8)) := by
        obtain ⟨h1, h2⟩ := HI.out
        have h3 := HT6.out
        by_cases h0 : (rowTo l 8).2 = 0
        · rw [if_pos h0] at h2 h3
          exact ⟨8, 9, by omega, by omega, h3, Or.inl ⟨h2, rfl⟩⟩
        · rw [if_neg h0] at h2 h3
          rcases HSP.out 8 (by rw [HL.out]; exact Nat.le_refl _) with h | ⟨h4, h5, _⟩
          · rw [h] at h0; exact absurd rfl h0
          · rw [HL.out] at h5
            exact ⟨_, _, by omega, by omega, h3, Or.inr ⟨h2, by omega, by omega, h5⟩⟩
      obtain ⟨f, t, hft, ht9, hend, hcase⟩ := hdef
      have HE := Lib.hid hend
      have HCASE := Lib.hid hcase
      clear hend hcase HI HT6 HSP HR
      go_wp2
      go_loopw [7, 8] (fun vs vi wr => ∃ (i : Nat) (q : ByteArray), vs = .string q ∧ vi = .int .i64 i ∧ i ≤ 8 ∧ (i ≤ f ∨ t ≤ i) ∧ q.size ≤ 100 ∧ Below w1.heap.size w1 wr ∧ Hid (q = strOf (shB l f t i))) (fun _ vi _ => 8 - (intOf vi).toNat)
      case atStart => exact ⟨0, ⟨#[]⟩, rfl, rfl, by omega, by omega, by decide, Below.refl _ _, Lib.hid (by rw [shB_zero]; rfl)⟩
      case round =>
        obtain ⟨i, q, rfl, rfl, hi, hdj, hqz, hbr, HI⟩ := hrel
        obtain ⟨wo, rfl⟩ : ∃ wo : World, wo = wr := ⟨_, rfl⟩
        have hB := hbr.size
        by_cases hlt : i < 8
        · obtain ⟨x, hx⟩ : ∃ x, l[i]? = some x := ⟨_, List.getElem?_eq_getElem (by rw [HL.out]; exact hlt)⟩
          have hx16 : x < 65536 := HX.out x (List.mem_of_getElem? hx)
          have hcell : wo.cell? ⟨w.heap.size, i, none⟩ = some (.int .u16 (x : Int)) := by
            rw [hbr.cell (p := ⟨w.heap.size, i, none⟩) HBL.out]; exact HC.out i x hx
          by_cases hif : i = f
          · subst hif
            have hc : fr = (i : Int) ∧ i + sz = t ∧ t ≤ 8 := by
              rcases HCASE.out with ⟨_, h⟩ | ⟨h1, h2, h3, h4⟩
              · omega
              · exact ⟨h1, h2, h4⟩
            obtain ⟨rfl, hsz, ht8⟩ := hc
            have HN : Hid (q ++ (⟨#[58, 58]⟩ : ByteArray) = strOf (shB l i t (i + sz))) := by
              have e : ∀ d, i + 1 + d ≤ t → shB l i t (i + 1 + d) = shB l i t i ++ [58, 58] := by
                intro d
                induction d with
                | zero => intro _; exact shB_at l i t hft
                | succ d ih => intro hd; rw [← ih (by omega)]; exact shB_in l i t (i + 1 + d) (by omega) (by omega)
              have := e (sz - 1) (by omega)
              rw [show i + 1 + (sz - 1) = i + sz by omega] at this
              rw [this, strOf_append, ← HI.out]
              exact Lib.hid rfl
            have hz2 := shB_len l HX.out i t (i + sz) HL.out (by omega)
            have hqz2 : (q ++ (⟨#[58, 58]⟩ : ByteArray)).size ≤ 100 := by rw [HN.out, strOf_size]; exact hz2
            clear hcell hx HCASE hz2
            go_wp2
            refine ⟨⟨i + sz, _, rfl, ?_, by omega, Or.inr (by omega), hqz2, hbr, HN⟩, ?_⟩
            · congr 1
            · simp [intOf]; omega
          · have hne : (((i : Int)) == fr) = false := by
              refine beq_eq_false_iff_ne.2 ?_
              rcases HCASE.out with ⟨h, _⟩ | ⟨h, _, _, _⟩ <;> omega
            have C1 := Lib.hid (fun w' : World => hexa_any x w' (by omega))
            have hxl := hexDigits_len x hx16
            have hlen := shB_len l HX.out f t (i + 1) HL.out (by omega)
            by_cases hfirst : (i < f ∧ i = 0) ∨ i = t
            · obtain ⟨h1, h2⟩ := shB_first l f t i x hx hft hfirst
              have HN : Hid (q ++ strOf (hexDigits x) = strOf (shB l f t (i + 1))) := by rw [h1, strOf_append, ← HI.out]; exact Lib.hid rfl
              have hqz2 : (q ++ strOf (hexDigits x)).size ≤ 100 := by rw [HN.out, strOf_size]; exact hlen
              have HH := Lib.hid h2
              have hbound : i + 1 ≤ f ∨ t ≤ i + 1 := by omega
              obtain ⟨d, hd⟩ : ∃ d, strOf (hexDigits x) = d := ⟨_, rfl⟩
              have hdz : d.size ≤ 4 := by rw [← hd, strOf_size]; exact hxl
              rw [hd] at C1 HN hqz2
              rcases HH.out with h3 | ⟨u, h3⟩
              · have hemp : q.toList.isEmpty = true := by rw [HI.out, h3, strOf_isEmpty]; rfl
                clear h1 h2 h3 HH hx hlen hxl HI HCASE hfirst hd
                go_wp2_with (first | (go_at_call 30; refine (C1.out _).mono ?_; rintro e w4 ⟨rfl, hb4⟩))
                refine ⟨⟨i + 1, _, rfl, rfl, by omega, hbound, hqz2, hbr.trans (hb4.mono hB), HN⟩, by simp [intOf]; omega⟩
              · have hsz0 : 0 < q.size := by rw [HI.out, strOf_size, h3]; simp
                have hlast : ((q[q.size - 1].toNat : Int) == 58) = true := by rw [last_at q u 58 (by rw [HI.out, h3]) (by omega)]; rfl
                have hemp : q.toList.isEmpty = false := by rw [HI.out, strOf_isEmpty, h3]; simp
                clear h1 h2 h3 HH hx hlen hxl HI HCASE hfirst hd
                go_wp2_with (first | (go_at_call 30; refine (C1.out _).mono ?_; rintro e w4 ⟨rfl, hb4⟩))
                refine ⟨⟨i + 1, _, rfl, rfl, by omega, hbound, hqz2, hbr.trans (hb4.mono hB), HN⟩, by simp [intOf]; omega⟩
            · obtain ⟨h1, u, y, h2, hy⟩ := shB_next l f t i x hx hft (by omega)
              have HN : Hid (q ++ (⟨#[58]⟩ : ByteArray) ++ strOf (hexDigits x) = strOf (shB l f t (i + 1))) := by
                rw [h1, HI.out, show (⟨#[58]⟩ : ByteArray) = strOf [58] from rfl, ← strOf_append, ← strOf_append, List.append_assoc]; exact Lib.hid rfl
              have hqz2 : (q ++ (⟨#[58]⟩ : ByteArray) ++ strOf (hexDigits x)).size ≤ 100 := by rw [HN.out, strOf_size]; exact hlen
              have hbound : i + 1 ≤ f ∨ t ≤ i + 1 := by omega
              obtain ⟨d, hd⟩ : ∃ d, strOf (hexDigits x) = d := ⟨_, rfl⟩
              have hdz : d.size ≤ 4 := by rw [← hd, strOf_size]; exact hxl
              rw [hd] at C1 HN hqz2
              have hsz0 : 0 < q.size := by rw [HI.out, strOf_size, h2]; simp
              have hlast : ((q[q.size - 1].toNat : Int) == 58) = false := by rw [last_at q u y (by rw [HI.out, h2]) (by omega)]; exact u8_58 y hy
              have hemp : q.toList.isEmpty = false := by rw [HI.out, strOf_isEmpty, h2]; simp
              clear h1 h2 hy hx hlen hxl HI HCASE hfirst hd
              go_wp2_with (first | (go_at_call 30; refine (C1.out _).mono ?_; rintro e w4 ⟨rfl, hb4⟩))
              refine ⟨⟨i + 1, _, rfl, rfl, by omega, hbound, hqz2, hbr.trans (hb4.mono hB), HN⟩, by simp [intOf]; omega⟩
        · obtain rfl : i = 8 := by omega
          have hq : Hid (strOf (text6 l) = q) := by rw [HI.out, HE.out]; exact Lib.hid rfl
          clear HI HE
          go_wp2
          go_ret
          exact ⟨by rw [HLE.out, hq.out]; exact rfl, HBW.out.trans (hbr.mono hBW)⟩
end Go.Proofs.YtlhbpdnbfghkoaaGreatDoor
