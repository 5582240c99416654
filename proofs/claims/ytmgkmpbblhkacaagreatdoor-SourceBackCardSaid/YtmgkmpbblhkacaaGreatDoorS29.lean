/- SourceBack: the walk. -/
import Derived.Test.YtmgkmpbblhkacaaGreatDoorMgU
import Derived.Test.YtmgkmpbblhkacaaGreatDoorBackR
import Derived.Test.YtmgkmpbblhkacaaGreatDoorMgH
import Derived.Laws.StructEq
namespace Go.Proofs.YtmgkmpbblhkacaaGreatDoor
open Go.RowKit Go.MapKept
set_option linter.unusedSimpArgs false
set_option linter.unusedVariables false

theorem src_same (k n : Int) (a b c d : ByteArray) (w : World) : (Op.equalIn 10000 24 (.agg #[.int .i64 k, .string a, .string b, .int .i64 n, .string c, .string d]) (.agg #[.int .i64 k, .string a, .string b, .int .i64 n, .string c, .string d])).run Tryz.prog w = .ok true w := by
  have hs : ∀ (s : ByteArray) (w : World), (Op.equalIn 9999 9 (.string s) (.string s)).run Tryz.prog w = .ok true w := fun s w => by
    have := run_equalIn_string (P := Tryz.prog) w 9998 9 s s Tryz.underlying9
    simpa using this
  have hi : ∀ (s : Int) (w : World), (Op.equalIn 9999 3 (.int .i64 s) (.int .i64 s)).run Tryz.prog w = .ok true w := fun s w => by
    have := run_equalIn_int (P := Tryz.prog) w 9998 3 .i64 .i64 s s Tryz.underlying3
    simpa using this
  rw [show (10000 : Nat) = 9999 + 1 from rfl, run_equalIn_struct (P := Tryz.prog) w 9999 24 _ _ (by kernel_rfl) (by kernel_rfl)]
  have hp : ∀ (xs : Array Value) (i : Nat) (v : Value) w, xs[i]? = some v → (part 9 xs i).run Tryz.prog w = Result.ok v w ∧ (part 3 xs i).run Tryz.prog w = Result.ok v w := by
    intro xs i v w h
    simp [part, h]
  simp [Program.fieldsOf, Tryz.underlying24, Op.eqFields, hp, hs, hi]
/-- A letter made large, as a number. -/
theorem up_val (c : UInt8) : ((upB c).toNat : Int) = if 97 ≤ c.toNat ∧ c.toNat ≤ 122 then (c.toNat : Int) - 32 else (c.toNat : Int) := by
  have : ∀ k : Fin 256, ((upB (UInt8.ofNat k.val)).toNat : Int) = if 97 ≤ (UInt8.ofNat k.val).toNat ∧ (UInt8.ofNat k.val).toNat ≤ 122 then ((UInt8.ofNat k.val).toNat : Int) - 32 else ((UInt8.ofNat k.val).toNat : Int) := by decide +kernel
  have h := this ⟨c.toNat, c.toNat_lt⟩
  simpa using h
theorem quotedW_len2 (l : Bs) : (quotedW l).1.sc = [] ∧ (quotedW l).1.tx.length ≤ l.length := by
  unfold quotedW
  split
  · exact ⟨rfl, Nat.zero_le _⟩
  · split
    · exact ⟨rfl, Nat.zero_le _⟩
    · exact ⟨rfl, Nat.le_refl _⟩
theorem quotedS_len2 (s : Bs) : (quotedS s).1.sc = [] ∧ (quotedS s).1.tx.length ≤ 5 * s.length + 1 := by
  have h1 := cut_len1 s [45]
  have h2 := cut_len2 s [45]
  have h3 := lowS_len _ (Lib.cut s [45]).1 (Nat.le_refl _)
  have h4 := lowS_len _ s (Nat.le_refl _)
  have h5 := quotedW_len2 (lowS s)
  unfold quotedS
  split
  · split
    · exact ⟨rfl, by simp only; omega⟩
    · split
      · refine ⟨rfl, ?_⟩
        simp only [List.length_append, List.length_cons, List.length_nil]
        omega
      · exact ⟨h5.1, by omega⟩
  · exact ⟨h5.1, by omega⟩
theorem hostedS_len2 (s : Bs) (x : SrcL) (h : hostedS s = some x) : x.sc.length ≤ 4 * s.length ∧ x.tx = [] := by
  have h0 : (hostS1 s).1.length ≤ 4 * s.length := by
    unfold hostS1
    split
    · have h1 := cut_len1 s [58, 47, 47]
      have h3 := lowS_len _ (Lib.cut s [58, 47, 47]).1 (Nat.le_refl _)
      exact by simp only; omega
    · exact Nat.zero_le _
  unfold hostedS hostFin at h
  split at h
  · cases h
  · split at h
    · cases h; exact ⟨h0, rfl⟩
    · cases h
theorem srcP_len4 (s : Bs) (x : SrcL) (h : srcP s = some x) : x.sc.length ≤ 4 * s.length ∧ x.ho.length ≤ 4 * s.length ∧ x.pa.length ≤ s.length ∧ x.tx.length ≤ 5 * s.length + 1 := by
  obtain ⟨h1, h2⟩ := srcP_len s x h
  refine ⟨?_, h1, h2, ?_⟩
  all_goals
    unfold srcP at h
    split at h
    · cases h; exact Nat.zero_le _
    · split at h
      · unfold pairO at h
        split at h
        · cases h
          obtain ⟨h1, h2⟩ := quotedS_len2 ((s.take (s.length - 1)).drop 1)
          rw [List.length_drop, List.length_take] at h2
          first | (rw [h1]; exact Nat.zero_le _) | omega
        · cases h
      · split at h
        · cases h
          have := lowS_len _ (s.take (s.length - 1)) (Nat.le_refl _)
          rw [List.length_take] at this
          first | exact Nat.zero_le _ | (simp only; omega)
        · obtain ⟨h1, h2⟩ := hostedS_len2 s x h
          first | exact h1 | (rw [h2]; exact Nat.zero_le _)
theorem textP_len (x : SrcL) : (textP x).length ≤ x.sc.length + x.ho.length + x.pa.length + x.tx.length + 8 + (portT x.po).length := by
  unfold textP
  split
  · simp [sNone]; omega
  · split
    · simp; omega
    · split
      · simp; omega
      · split
        · simp only [List.length_append]
          split
          · omega
          · simp only [List.length_append, List.length_cons, List.length_nil]; omega
        · split
          · simp [sSelf]; omega
          · split
            · simp [sNonce]; omega
            · split
              · simp; omega
              · simp
theorem portT_len (q : Int) (h : q ≤ 65535) : (portT q).length ≤ 22 := by
  unfold portT
  split
  · simp
  · split
    · rename_i h0
      have := Lib.itoa_length_le q (by omega) (by omega)
      simp only [List.length_cons]; omega
    · simp
set_option maxRecDepth 1000000 in
set_option maxHeartbeats 16000000 in
theorem sourceBack_any (s : ByteArray) (w : World) (hs : s.size ≤ 9223372036854775807) (hG : GLS w) :
    Calls Tryz.prog 10 #[.string s] w fun e w' => e = .returned (.bool true) ∧ Below w.heap.size w w' := by
  have HS := Lib.hid (shown_any w hG)
  have HG := Lib.hid hG
  obtain ⟨ks, hks⟩ : ∃ ks : Nat, min (s.size : Int) 300 = (ks : Int) := ⟨min s.size 300, by omega⟩
  have ls : ks ≤ s.size := by omega
  obtain ⟨S, hS⟩ : ∃ S, s.extract 0 ks = S := ⟨_, rfl⟩
  have hSz : S.size ≤ 300 := by rw [← hS, ByteArray.size_extract]; omega
  have CP := fun w' (hG' : GLS w') => sourceParse_any S w' (by omega) hG'.toGL
  obtain ⟨l, hl⟩ : ∃ l, S.data.toList = l := ⟨_, rfl⟩
  have hll : l.length ≤ 300 := by rw [← hl, ← Lib.size_eq]; exact hSz
  have HL := Lib.hid hl
  rw [hl] at CP
  have hlz : l.length = S.size := by rw [← hl, ← Lib.size_eq]
  have HLZ := Lib.hid hlz
  obtain ⟨r, hr⟩ : ∃ r, srcP l = r := ⟨_, rfl⟩
  have hback := fun x (h : r = some x) => back_law l x (hr.trans h)
  have hlen := fun x (h : r = some x) => srcP_len4 l x (hr.trans h)
  rw [hr] at CP
  have HP := Lib.hid CP
  have HBK := Lib.hid hback
  have HLN := Lib.hid hlen
  clear CP hr hl hlz hback hlen hG
  have heg : ∀ (x y : Operand) (xs ys : Array Value) (w' : World), (eqGuard .eql 24 x y (.agg xs) (.agg ys)).run Tryz.prog w' = .ok () w' := fun x y xs ys w' => run_eqGuard_agg (P := Tryz.prog) w' .eql 24 x y xs ys (by kernel_rfl)
  have heg2 : ∀ (x y : Operand) (xs ys : Array Value) (w' : World), (eqGuard .neq 24 x y (.agg xs) (.agg ys)).run Tryz.prog w' = .ok () w' := fun x y xs ys w' => run_eqGuard_agg (P := Tryz.prog) w' .neq 24 x y xs ys (by kernel_rfl)
  have hsame := src_same
  cases r with
  | none =>
    clear HBK HLN
    go_enter Tryz.func10, Tryz.ntmps10
    go_wp2_with fail
    refine HS.out.mono ?_
    rintro e w1 ⟨rfl, hb1⟩
    have hG1 := HG.out.below hb1
    go_wp2_with fail
    refine (HP.out _ hG1).mono ?_
    rintro e w2 ⟨he, hb2⟩
    obtain rfl : e = .returned (.tuple #[.agg #[.int .i64 0, .string ⟨#[]⟩, .string ⟨#[]⟩, .int .i64 0, .string ⟨#[]⟩, .string ⟨#[]⟩], .bool false]) := he
    have hbw2 := hb1.trans (hb2.mono hb1.size)
    go_wp2
    go_ret
    exact ⟨rfl, hbw2.alloc hbw2.size _⟩
  | some x =>
    have hbk := HBK.out x rfl
    obtain ⟨n1, n2, n3, n4⟩ := HLN.out x rfl
    have htl := textP_len x
    have hpl := portT_len x.po hbk.2.2.2.1
    obtain ⟨b1, b2, b3, b4, z, b5, b6, b7⟩ := hbk
    have hZP : srcP (l.map upB) = some z := b5
    obtain ⟨T, hT⟩ : ∃ T, strOf (textP x) = T := ⟨_, rfl⟩
    have hTl : T.data.toList = textP x := by rw [← hT, strOf_data]
    have hTz : T.size ≤ 10000 := by rw [← hT, strOf_size]; omega
    have CT2 : ∀ w', GLS w' → Calls Tryz.prog 12 #[.string T] w' fun e w'' => SrcEnd (some x) e ∧ Below w'.heap.size w' w'' := fun w' hG' => by
      have := sourceParse_any T w' (by omega) hG'.toGL
      rw [hTl, b1] at this
      exact this
    obtain ⟨k, xs, xh, xn, xp, xt⟩ := x
    obtain ⟨kz, zs, zh, zn, zp, zt⟩ := z
    simp only at n1 n2 n3 n4 b2 b3 b4 b6 b7
    obtain ⟨XS, h1⟩ : ∃ b, strOf xs = b := ⟨_, rfl⟩
    obtain ⟨XH, h2⟩ : ∃ b, strOf xh = b := ⟨_, rfl⟩
    obtain ⟨XP, h3⟩ : ∃ b, strOf xp = b := ⟨_, rfl⟩
    obtain ⟨XT, h4⟩ : ∃ b, strOf xt = b := ⟨_, rfl⟩
    have d1 : XS.data.toList = xs := by rw [← h1, strOf_data]
    have d2 : XH.data.toList = xh := by rw [← h2, strOf_data]
    have d3 : XP.data.toList = xp := by rw [← h3, strOf_data]
    have d4 : XT.data.toList = xt := by rw [← h4, strOf_data]
    have hv : srcVal ⟨k, xs, xh, xn, xp, xt⟩ = .agg #[.int .i64 k, .string XS, .string XH, .int .i64 xn, .string XP, .string XT] := by
      unfold srcVal; rw [h1, h2, h3, h4]
    have CT : ∀ w', GLS w' → Calls Tryz.prog 18 #[.agg #[.int .i64 k, .string XS, .string XH, .int .i64 xn, .string XP, .string XT]] w' fun e w'' => e = .returned (.string T) ∧ Below w'.heap.size w' w'' := fun w' hG' => by
      have := sourceText_any k xn XS XH XP XT w' (by rw [← h1, strOf_size]; omega) (by rw [← h2, strOf_size]; omega) (by rw [← h3, strOf_size]; omega) (by rw [← h4, strOf_size]; omega) b4 hG'.toGL
      rw [d1, d2, d3, d4, hT] at this
      exact this
    obtain rfl : k = kz := b6.symm
    obtain ⟨ZS, z1⟩ : ∃ b, strOf zs = b := ⟨_, rfl⟩
    obtain ⟨ZH, z2⟩ : ∃ b, strOf zh = b := ⟨_, rfl⟩
    obtain ⟨ZP, z3⟩ : ∃ b, strOf zp = b := ⟨_, rfl⟩
    obtain ⟨ZT, z4⟩ : ∃ b, strOf zt = b := ⟨_, rfl⟩
    have hendz : ∀ e, SrcEnd (some ⟨k, zs, zh, zn, zp, zt⟩) e → e = .returned (.tuple #[.agg #[.int .i64 k, .string ZS, .string ZH, .int .i64 zn, .string ZP, .string ZT], .bool true]) := fun e he => by
      have h : e = .returned (.tuple #[srcVal ⟨k, zs, zh, zn, zp, zt⟩, .bool true]) := he
      rw [h]; unfold srcVal; rw [z1, z2, z3, z4]
    have HENDZ := Lib.hid hendz
    have hends : ∀ e, SrcEnd (some ⟨k, xs, xh, xn, xp, xt⟩) e → e = .returned (.tuple #[.agg #[.int .i64 k, .string XS, .string XH, .int .i64 xn, .string XP, .string XT], .bool true]) := fun e he => by
      have h : e = .returned (.tuple #[srcVal ⟨k, xs, xh, xn, xp, xt⟩, .bool true]) := he
      rw [h, hv]
    have HEND := Lib.hid hends
    have HCT := Lib.hid CT
    have HCT2 := Lib.hid CT2
    have hpn : xp = [] ↔ XP.toList.isEmpty = true := by rw [isEmpty_data, d3]; simp
    have hplain : (XP.toList.isEmpty = true ∧ (k != 5) = true ∧ (k != 6) = true ∧ Hid (ZS = XS ∧ ZH = XH ∧ zn = xn ∧ ZP = XP ∧ ZT = XT)) ∨ XP.toList.isEmpty = false ∨ (XP.toList.isEmpty = true ∧ (k != 5) = false) ∨ (XP.toList.isEmpty = true ∧ (k != 5) = true ∧ (k != 6) = false) := by
      cases hp : XP.toList.isEmpty with
      | false => exact Or.inr (Or.inl rfl)
      | true =>
        have hp2 := hpn.2 hp
        by_cases h5 : k = 5
        · exact Or.inr (Or.inr (Or.inl ⟨rfl, by subst h5; rfl⟩))
        · have f5 : (k != 5) = true := by unfold bne; rw [beq_eq_false_iff_ne.2 h5]; rfl
          by_cases h6 : k = 6
          · exact Or.inr (Or.inr (Or.inr ⟨rfl, f5, by subst h6; rfl⟩))
          · have f6 : (k != 6) = true := by unfold bne; rw [beq_eq_false_iff_ne.2 h6]; rfl
            refine Or.inl ⟨rfl, f5, f6, Lib.hid ?_⟩
            have hz := b7 hp2 h5 h6
            injection hz with _ g2 g3 g4 g5 g6
            exact ⟨by rw [← z1, ← h1, g2], by rw [← z2, ← h2, g3], g4, by rw [← z3, ← h3, g5], by rw [← z4, ← h4, g6]⟩
    have HPL := Lib.hid hplain
    have HZP := Lib.hid hZP
    have i0 : ¬ k < 0 := by omega
    have i7 : ¬ 7 < k := by omega
    have htt : (T.toList == T.toList) = true := by simp
    have hkk : (k == k) = true := by simp
    clear HBK HLN n1 n2 n3 n4 htl hpl b1 b2 b3 b4 b5 b7 hZP hT hTl CT CT2 hends hendz z1 z2 z3 z4 h1 h2 h3 h4 d1 d2 d3 d4 hv hpn hplain
    go_enter Tryz.func10, Tryz.ntmps10
    go_wp2_with fail
    refine HS.out.mono ?_
    rintro e w1 ⟨rfl, hb1⟩
    have hG1 := HG.out.below hb1
    go_wp2_with fail
    refine (HP.out _ hG1).mono ?_
    rintro e w2 ⟨he, hb2⟩
    obtain rfl := HEND.out e he
    have hbw2 := hb1.trans (hb2.mono hb1.size)
    clear HS hb1 hb2 hG1 he HP
    go_upto_region 4 with fail
    obtain ⟨w3, hw3⟩ : ∃ w3, w2.alloc (.cells #[.int .i64 k, .string XS, .string XH, .int .i64 xn, .string XP, .string XT] 24) = w3 := ⟨_, rfl⟩
    have hX3 : w3.heap[w2.heap.size]? = some (.cells #[.int .i64 k, .string XS, .string XH, .int .i64 xn, .string XP, .string XT] 24 (0, 0)) := by rw [← hw3]; exact heap_alloc_new _ _
    have hbw3 : Below w.heap.size w w3 := by rw [← hw3]; exact hbw2.alloc hbw2.size _
    rw [hw3]
    obtain ⟨bx, hbx⟩ : ∃ bx, w2.heap.size = bx := ⟨_, rfl⟩
    rw [hbx] at hX3 ⊢
    clear hw3 hbw2 hbx
    have hG3 := HG.out.below hbw3
    obtain ⟨c0, c1, c2, c3, c4, c5⟩ := six_cells hX3
    go_wp2_with fail
    refine (HCT.out _ hG3).mono ?_
    rintro e w4 ⟨rfl, hb4⟩
    have hX4 := block_past hX3 hb4
    have hbw4 := hbw3.trans (hb4.mono hbw3.size)
    have hG4 := HG.out.below hbw4
    clear hX3 hbw3 hb4 hG3 c0 c1 c2 c3 c4 c5
    go_wp2_with fail
    refine (HCT2.out _ hG4).mono ?_
    rintro e w5 ⟨he, hb5⟩
    obtain rfl := HEND.out e he
    have hX5 := block_past hX4 hb5
    have hbw5 := hbw4.trans (hb5.mono hbw4.size)
    clear hX4 hbw4 hb5 hG4 he
    go_upto_region 8 with fail
    obtain ⟨w6, hw6⟩ : ∃ w6, w5.alloc (.cells #[.int .i64 k, .string XS, .string XH, .int .i64 xn, .string XP, .string XT] 24) = w6 := ⟨_, rfl⟩
    have hY6 : w6.heap[w5.heap.size]? = some (.cells #[.int .i64 k, .string XS, .string XH, .int .i64 xn, .string XP, .string XT] 24 (0, 0)) := by rw [← hw6]; exact heap_alloc_new _ _
    have hX6 : w6.heap[bx]? = some (.cells #[.int .i64 k, .string XS, .string XH, .int .i64 xn, .string XP, .string XT] 24 (0, 0)) := by rw [← hw6]; exact (Below.heap_alloc _ _ _ (Array.getElem?_eq_some_iff.1 hX5).1).trans hX5
    have hbw6 : Below w.heap.size w w6 := by rw [← hw6]; exact hbw5.alloc hbw5.size _
    rw [hw6]
    obtain ⟨b_y, hby⟩ : ∃ b_y, w5.heap.size = b_y := ⟨_, rfl⟩
    rw [hby] at hY6 ⊢
    clear hw6 hbw5 hX5 hby
    have hG6 := HG.out.below hbw6
    obtain ⟨c0, c1, c2, c3, c4, c5⟩ := six_cells hX6
    obtain ⟨y0, y1, y2, y3, y4, y5⟩ := six_cells hY6
    go_wp2_with fail
    refine (HCT.out _ hG6).mono ?_
    rintro e w7 ⟨rfl, hb7⟩
    have hX7 := block_past hX6 hb7
    have hbw7 := hbw6.trans (hb7.mono hbw6.size)
    clear hX6 hY6 hbw6 hb7 hG6 c0 c1 c2 c3 c4 c5 y0 y1 y2 y3 y4 y5
    obtain ⟨c0, c1, c2, c3, c4, c5⟩ := six_cells hX7
    go_wp2_with fail
    go_loopw [9, 10] (fun vq vi wr => ∃ (i : Nat) (q : ByteArray), vq = .string q ∧ vi = .int .i64 i ∧ i ≤ S.size ∧ q.size ≤ i ∧ Below w7.heap.size w7 wr ∧ Hid (q = strOf ((l.take i).map upB))) (fun _ vi _ => S.size - (intOf vi).toNat)
    case atStart => exact ⟨0, ⟨#[]⟩, rfl, rfl, by omega, by decide, Below.refl _ _, Lib.hid rfl⟩
    case round =>
      obtain ⟨i, q, rfl, rfl, hi, hq, hbr, HI⟩ := hrel
      obtain ⟨wo, rfl⟩ : ∃ wo : World, wo = wr := ⟨_, rfl⟩
      by_cases hlt : i < S.size
      · have hget : l[i]? = some S[i] := by rw [← HL.out]; exact getI S i hlt
        obtain ⟨c, hc⟩ : ∃ c, S[i] = c := ⟨_, rfl⟩
        rw [hc] at hget
        have hc256 := c.toNat_lt
        have HN : Hid (q ++ strOf [upB c] = strOf ((l.take (i + 1)).map upB)) := by
          refine Lib.hid ?_
          rw [List.take_add_one, hget, List.map_append, strOf_append, ← HI.out]; rfl
        have hqz : (q ++ strOf [upB c]).size ≤ i + 1 := by rw [ByteArray.size_append, strOf_size]; simp; omega
        have hl1 : (strOf [upB c]).size ≤ 1 := by rw [strOf_size]; simp
        have huv := up_val c
        have hsz := hbr.size
        clear hget HI
        by_cases hup : 97 ≤ c.toNat ∧ c.toNat ≤ 122
        · rw [if_pos hup] at huv
          have hst := byte_str (upB c) ((c.toNat : Int) - 32) huv.symm wo wo.heap.size rfl
          have g1 : (97 : Int) ≤ c.toNat := by omega
          have g2 : (c.toNat : Int) ≤ 122 := by omega
          have g3 : IntKind.u8.wrap ((c.toNat : Int) - 32) = (c.toNat : Int) - 32 := u8_wrap_low _ (by omega) (by omega)
          clear huv hup
          go_wp2
          exact ⟨⟨i + 1, _, rfl, rfl, by omega, hqz, hbr.alloc hsz _, HN⟩, by simp [intOf]; omega⟩
        · rw [if_neg hup] at huv
          have hst := byte_str (upB c) (c.toNat : Int) huv.symm wo wo.heap.size rfl
          have hw : (c.toNat : Int) < 97 ∨ ((97 : Int) ≤ c.toNat ∧ (122 : Int) < c.toNat) := by omega
          clear huv hup
          rcases hw with g1 | ⟨g1, g2⟩
          · go_wp2
            exact ⟨⟨i + 1, _, rfl, rfl, by omega, hqz, hbr.alloc hsz _, HN⟩, by simp [intOf]; omega⟩
          · have g3 : decide ((c.toNat : Int) ≤ 122) = false := decide_eq_false (by omega)
            go_wp2
            exact ⟨⟨i + 1, _, rfl, rfl, by omega, hqz, hbr.alloc hsz _, HN⟩, by simp [intOf]; omega⟩
      · obtain rfl : i = S.size := by omega
        have hqf : q.data.toList = l.map upB := by
          have := HI.out
          rw [List.take_of_length_le (by rw [HLZ.out]; exact Nat.le_refl _)] at this
          rw [this, strOf_data]
        have CQ : ∀ w', GLS w' → Calls Tryz.prog 12 #[.string q] w' fun e w'' => SrcEnd (some ⟨k, zs, zh, zn, zp, zt⟩) e ∧ Below w'.heap.size w' w'' := fun w' hG' => by
          have := sourceParse_any q w' (by omega) hG'.toGL
          rw [hqf, HZP.out] at this
          exact this
        have HCQ := Lib.hid CQ
        have hX8 := block_past hX7 hbr
        have hbw8 := hbw7.trans (hbr.mono hbw7.size)
        have hG8 := HG.out.below hbw8
        clear hqf CQ HI hX7 hbw7 hbr
        go_wp2_with fail
        refine (HCQ.out _ hG8).mono ?_
        rintro e w9 ⟨he, hb9⟩
        obtain rfl := HENDZ.out e he
        have hX9 := block_past hX8 hb9
        have hbw9 := hbw8.trans (hb9.mono hbw8.size)
        clear hX8 hbw8 hb9 hG8 he
        go_upto_region 19 with fail
        obtain ⟨w10, hw10⟩ : ∃ w10, w9.alloc (.cells #[.int .i64 k, .string ZS, .string ZH, .int .i64 zn, .string ZP, .string ZT] 24) = w10 := ⟨_, rfl⟩
        have hZ10 : w10.heap[w9.heap.size]? = some (.cells #[.int .i64 k, .string ZS, .string ZH, .int .i64 zn, .string ZP, .string ZT] 24 (0, 0)) := by rw [← hw10]; exact heap_alloc_new _ _
        have hX10 : w10.heap[bx]? = some (.cells #[.int .i64 k, .string XS, .string XH, .int .i64 xn, .string XP, .string XT] 24 (0, 0)) := by rw [← hw10]; exact (Below.heap_alloc _ _ _ (Array.getElem?_eq_some_iff.1 hX9).1).trans hX9
        have hbw10 : Below w.heap.size w w10 := by rw [← hw10]; exact hbw9.alloc hbw9.size _
        rw [hw10]
        clear hw10 hbw9 hX9
        obtain ⟨y0, y1, y2, y3, y4, y5⟩ := six_cells hZ10
        obtain ⟨e0, e1, e2, e3, e4, e5⟩ := six_cells hX10
        clear c0 c1 c2 c3 c4 c5 hZ10 hX10
        rcases HPL.out with ⟨g1, g2, g3, g4⟩ | g1 | ⟨g1, g2⟩ | ⟨g1, g2, g3⟩
        · obtain ⟨rfl, rfl, rfl, rfl, rfl⟩ := g4.out
          clear HPL g4
          go_wp2
          go_ret
          exact ⟨rfl, hbw10⟩
        all_goals
          clear HPL
          go_wp2
          go_ret
          exact ⟨rfl, hbw10⟩
end Go.Proofs.YtmgkmpbblhkacaaGreatDoor
