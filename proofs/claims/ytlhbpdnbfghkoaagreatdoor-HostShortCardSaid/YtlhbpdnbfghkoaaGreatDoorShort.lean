/- HostShort: :: stands for noughts alone. The walk. -/
import Derived.Test.YtlhbpdnbfghkoaaGreatDoorRef07
import Derived.Test.YtlhbpdnbfghkoaaGreatDoorBits
namespace Go.Proofs.YtlhbpdnbfghkoaaGreatDoor
open Go.RowKit
set_option linter.unusedSimpArgs false
set_option linter.unusedVariables false

theorem IPv6_some (s : ByteArray) (L : List Nat) (w : World) (hs : s.size ≤ 1000000) (hG : GL w) (h : ip6 s.data.toList = some L) :
    Calls Tryz.prog 14 #[.string s] w fun e w' => e = .returned (.tuple #[agg8 L, .int .i64 0]) ∧ Below w.heap.size w w' := by
  have := IPv6_any s w hs hG
  rw [h] at this
  exact this
theorem IPv6_none (s : ByteArray) (w : World) (hs : s.size ≤ 1000000) (hG : GL w) (h : ip6 s.data.toList = none) :
    Calls Tryz.prog 14 #[.string s] w fun e w' => e = .returned (.tuple #[.agg #[.int .u16 0, .int .u16 0, .int .u16 0, .int .u16 0, .int .u16 0, .int .u16 0, .int .u16 0, .int .u16 0], .int .i64 7]) ∧ Below w.heap.size w w' := by
  have := IPv6_any s w hs hG
  rw [h] at this
  exact this
/-- Which of the pieces have been made noughts ahead of place i. -/
def Zt (L : List Nat) (f t i : Nat) (M : List Nat) : Prop := M.length = 8 ∧ ∀ j, M[j]? = if f ≤ j ∧ j < t ∧ j < i then some 0 else L[j]?
theorem zt_start (L : List Nat) (f t : Nat) (hl : L.length = 8) : Zt L f t 0 L := ⟨hl, fun j => by rw [if_neg (by omega)]⟩
theorem zt_set (L M : List Nat) (f t i : Nat) (h : Zt L f t i M) (h1 : f ≤ i) (h2 : i < t) (h3 : i < 8) : Zt L f t (i + 1) (M.set i 0) := by
  refine ⟨by rw [List.length_set]; exact h.1, fun j => ?_⟩
  rw [List.getElem?_set]
  by_cases hij : i = j
  · subst hij
    rw [if_pos rfl, if_pos (by rw [h.1]; exact h3), if_pos (by omega)]
  · rw [if_neg hij, h.2 j]
    by_cases hc : f ≤ j ∧ j < t ∧ j < i
    · rw [if_pos hc, if_pos (by omega)]
    · rw [if_neg hc, if_neg (by omega)]
theorem zt_keep (L M : List Nat) (f t i : Nat) (h : Zt L f t i M) (h1 : i < f ∨ t ≤ i) : Zt L f t (i + 1) M := by
  refine ⟨h.1, fun j => ?_⟩
  rw [h.2 j]
  by_cases hc : f ≤ j ∧ j < t ∧ j < i
  · rw [if_pos hc, if_pos (by omega)]
  · rw [if_neg hc, if_neg (by omega)]
theorem zt_at (L M : List Nat) (f t i : Nat) (h : Zt L f t i M) (h1 : i < f ∨ t ≤ i) : M[i]? = L[i]? := by
  rw [h.2 i, if_neg (by omega)]
theorem zt_end (L M : List Nat) (f t : Nat) (hl : L.length = 8) (h : Zt L f t 8 M) (h1 : f < t) (h2 : t ≤ 8) : M = zeroed L f t := by
  apply List.ext_getElem?
  intro j
  rw [h.2 j]
  unfold zeroed
  rw [List.append_assoc, List.getElem?_append, List.getElem?_append, List.length_take, List.length_replicate]
  by_cases hj : j < f
  · rw [if_neg (by omega), if_pos (by omega), List.getElem?_take, if_pos hj]
  · by_cases hj2 : j < t
    · rw [if_pos (by omega), if_neg (by omega), if_pos (by omega), List.getElem?_replicate, if_pos (by omega)]
    · rw [if_neg (by omega), if_neg (by omega), if_neg (by omega), List.getElem?_drop]
      congr 1; omega
theorem cells8_set (M : List Nat) (i : Nat) : (cells8 M).set! i (.int .u16 0) = cells8 (M.set i 0) := by
  unfold cells8
  apply Array.ext'
  simp [List.map_set]
theorem list8 (M : List Nat) (h : M.length = 8) : ∃ b0 b1 b2 b3 b4 b5 b6 b7, M = [b0, b1, b2, b3, b4, b5, b6, b7] := by
  match M, h with
  | [b0, b1, b2, b3, b4, b5, b6, b7], _ => exact ⟨b0, b1, b2, b3, b4, b5, b6, b7, rfl⟩
set_option maxRecDepth 1000000 in
set_option maxHeartbeats 8000000 in
theorem short_any (L : List Nat) (from_ n_ : Int) (w : World) (hl : L.length = 8) (hx : ∀ x ∈ L, x < 65536) (hG : GL w) :
    Calls Tryz.prog 5 #[agg8 L, .int .i64 from_, .int .i64 n_] w fun e w' => e = .returned (.bool true) ∧ Below w.heap.size w w' := by
  have HL := Lib.hid hl
  have HX := Lib.hid hx
  have CS := Lib.hid (fun w' hG' => shown_any w' hG')
  obtain ⟨p1, hp1, he1⟩ := i64_and7 from_
  obtain ⟨p2, hp2, he2⟩ := i64_and16 n_
  have hbox : (w.alloc (.cells (cells8 L) 39)).heap[w.heap.size]? = some (.cells (cells8 L) 39 (0, 0)) := heap_alloc_new w _
  have HBOX := Lib.hid hbox
  clear hx hbox
  match L, hl with
  | [a0, a1, a2, a3, a4, a5, a6, a7], hl =>
  unfold agg8 cells8 at *
  simp only [List.map_cons, List.map_nil] at HBOX ⊢
  clear hl
  go_enter Tryz.func5, Tryz.ntmps5
  go_wp2_with fail
  refine (CS.out _ (hG.alloc _)).mono ?_
  rintro e w1 ⟨rfl, hb1⟩
  have hb01 : Below w.heap.size w w1 := ((Below.refl _ w).alloc (Nat.le_refl _) _).trans (hb1.mono (by simp))
  have hh1 : Hid (w1.heap[w.heap.size]? = some (.cells #[.int .u16 (a0 : Int), .int .u16 (a1 : Int), .int .u16 (a2 : Int), .int .u16 (a3 : Int), .int .u16 (a4 : Int), .int .u16 (a5 : Int), .int .u16 (a6 : Int), .int .u16 (a7 : Int)] 39 (0, 0))) := by
    rw [hb1.block _ (by simp)]; exact HBOX
  clear CS hb1 HBOX
  go_wp2_with fail
  have hk : ((p2 : Int) % (8 - (p1 : Int))) = ((p2 % (8 - p1) : Nat) : Int) := by
    rw [show (8 : Int) - (p1 : Int) = ((8 - p1 : Nat) : Int) by omega]; rfl
  have hkl : p2 % (8 - p1) < 8 - p1 := Nat.mod_lt _ (by omega)
  rw [hk]
  generalize p2 % (8 - p1) = m at hkl ⊢
  have hwm : wrap64 (1 + (m : Int)) = ((m + 1 : Nat) : Int) := by unfold wrap64; omega
  rw [hwm]
  obtain ⟨nn, hnn⟩ : ∃ nn, m + 1 = nn := ⟨_, rfl⟩
  rw [hnn]
  have hn1 : 1 ≤ nn := by omega
  have hn2 : p1 + nn ≤ 8 := by omega
  clear hk hwm he1 he2 hp2 hnn hkl
  obtain ⟨Lz, hLz⟩ : ∃ Lz, [a0, a1, a2, a3, a4, a5, a6, a7] = Lz := ⟨_, rfl⟩
  have hh1' : w1.heap[w.heap.size]? = some (.cells (cells8 Lz) 39 (0, 0)) := by rw [← hLz]; exact hh1.out
  have HH := Lib.hid hh1'
  have HLE := Lib.hid hLz
  rw [hLz] at HL HX
  clear hh1 hh1' hLz
  obtain ⟨t, ht⟩ : ∃ t, p1 + nn = t := ⟨_, rfl⟩
  have HT := Lib.hid ht
  have hft : p1 < t := by omega
  have ht8 : t ≤ 8 := by omega
  have htI : (p1 : Int) + (nn : Int) = (t : Int) := by omega
  have HTI := Lib.hid htI
  have hB1 := hb01.size
  clear ht htI
  go_loopw [8, 9] (fun vs vi wr => ∃ (i : Nat) (q : ByteArray) (M : List Nat), vs = .string q ∧ vi = .int .i64 i ∧ i ≤ 8 ∧ q.size ≤ 100 ∧ Below w.heap.size w wr ∧ Hid (q = strOf (shB Lz p1 t i) ∧ wr.heap[w.heap.size]? = some (.cells (cells8 M) 39 (0, 0)) ∧ Zt Lz p1 t i M)) (fun _ vi _ => 8 - (intOf vi).toNat)
  case atStart => exact ⟨0, ⟨#[]⟩, Lz, rfl, rfl, by omega, by decide, hb01, Lib.hid ⟨by rw [shB_zero]; rfl, HH.out, zt_start _ _ _ HL.out⟩⟩
  case round =>
    obtain ⟨i, q, M, rfl, rfl, hi, hqz, hbr, HI⟩ := hrel
    obtain ⟨wo, rfl⟩ : ∃ wo : World, wo = wr := ⟨_, rfl⟩
    have hB := hbr.size
    by_cases hlt : i < 8
    · obtain ⟨x, hx⟩ : ∃ x, Lz[i]? = some x := ⟨_, List.getElem?_eq_getElem (by rw [HL.out]; exact hlt)⟩
      have hx16 : x < 65536 := HX.out x (List.mem_of_getElem? hx)
      obtain ⟨hq, hblk, hzt⟩ := HI.out
      have hlen := shB_len Lz HX.out p1 t (i + 1) HL.out (by omega)
      by_cases hzone : p1 ≤ i ∧ i < t
      · obtain ⟨hz1, hz2⟩ := hzone
        obtain ⟨y, hy⟩ : ∃ y, M[i]? = some y := ⟨_, List.getElem?_eq_getElem (by rw [hzt.1]; exact hlt)⟩
        have hcell : wo.cell? ⟨w.heap.size, i, none⟩ = some (.int .u16 (y : Int)) := by
          rw [cell_of_heap hblk]; simp [cells8, hy]
        have hfz : wo.frozen? ⟨w.heap.size, i, none⟩ = false := frozen_of_heap hblk i
        have hblk2 : (wo.setCell ⟨w.heap.size, i, none⟩ (.int .u16 0)).heap[w.heap.size]? = some (.cells (cells8 (M.set i 0)) 39 (0, 0)) := by
          rw [← cells8_set]; exact heap_setCell_at hblk i _
        have hbr2 : Below w.heap.size w (wo.setCell ⟨w.heap.size, i, none⟩ (.int .u16 0)) := hbr.setCell (Nat.le_refl _) _
        have hzt2 := zt_set Lz M p1 t i hzt hz1 hz2 hlt
        have hlo : (p1 : Int) ≤ (i : Int) := by omega
        have hhi : (i : Int) < (p1 : Int) + (nn : Int) := by rw [HTI.out]; omega
        by_cases hif : i = p1
        · have HN : Hid (q ++ (⟨#[58, 58]⟩ : ByteArray) = strOf (shB Lz p1 t (i + 1)) ∧ (wo.setCell ⟨w.heap.size, i, none⟩ (.int .u16 0)).heap[w.heap.size]? = some (.cells (cells8 (M.set i 0)) 39 (0, 0)) ∧ Zt Lz p1 t (i + 1) (M.set i 0)) := by
            refine Lib.hid ⟨?_, hblk2, hzt2⟩
            have e : ∀ j, j = p1 → shB Lz p1 t (j + 1) = shB Lz p1 t j ++ [58, 58] := fun j hj => by rw [hj]; exact shB_at _ _ _ hft
            rw [e i hif, strOf_append, ← hq]; rfl
          have hqz2 : (q ++ (⟨#[58, 58]⟩ : ByteArray)).size ≤ 100 := by rw [HN.out.1, strOf_size]; exact hlen
          have hib : ((i : Int) == (p1 : Int)) = true := by rw [hif]; simp
          clear hq hblk hzt hblk2 hzt2 hlen hx hy HI hif
          go_wp2
          exact ⟨⟨i + 1, _, _, rfl, rfl, by omega, hqz2, hbr2, HN⟩, by simp [intOf]; omega⟩
        · have HN : Hid (q = strOf (shB Lz p1 t (i + 1)) ∧ (wo.setCell ⟨w.heap.size, i, none⟩ (.int .u16 0)).heap[w.heap.size]? = some (.cells (cells8 (M.set i 0)) 39 (0, 0)) ∧ Zt Lz p1 t (i + 1) (M.set i 0)) := by
            refine Lib.hid ⟨?_, hblk2, hzt2⟩
            rw [shB_in _ _ _ _ (by omega) hz2, ← hq]
          have hib : ((i : Int) == (p1 : Int)) = false := beq_eq_false_iff_ne.2 (by omega)
          clear hq hblk hzt hblk2 hzt2 hlen hx hy HI hif
          go_wp2
          exact ⟨⟨i + 1, _, _, rfl, rfl, by omega, hqz, hbr2, HN⟩, by simp [intOf]; omega⟩
      · have hout : i < p1 ∨ t ≤ i := by omega
        have hcell : wo.cell? ⟨w.heap.size, i, none⟩ = some (.int .u16 (x : Int)) := by
          rw [cell_of_heap hblk]; simp [cells8, zt_at _ _ _ _ _ hzt hout, hx]
        have hblw : w.heap.size < wo.heap.size := (Array.getElem?_eq_some_iff.1 hblk).1
        have hkeep := zt_keep Lz M p1 t i hzt hout
        have KEEP : ∀ w' : World, Below wo.heap.size wo w' → w'.heap[w.heap.size]? = some (.cells (cells8 M) 39 (0, 0)) := fun w' hb => by rw [hb.block _ hblw]; exact hblk
        have HK := Lib.hid KEEP
        have HKZ := Lib.hid hkeep
        clear KEEP hkeep
        have C1 := Lib.hid (fun w' : World => show Calls Tryz.prog 9 #[.int .i64 (x : Int), .int .i64 16] w' fun e w'' => e = .returned (.string (strOf (hexDigits x))) ∧ Below w'.heap.size w' w'' by
          have := based_any x 16 w' (by omega) (by decide) (by decide)
          rw [digs16] at this
          exact this)
        have hxl := hexDigits_len x hx16
        have hways : ((i : Int) < (p1 : Int)) ∨ ((p1 : Int) ≤ (i : Int) ∧ (p1 : Int) + (nn : Int) ≤ (i : Int)) := by rw [HTI.out]; omega
        by_cases hfirst : (i < p1 ∧ i = 0) ∨ i = t
        · obtain ⟨h1, h2⟩ := shB_first Lz p1 t i x hx hft hfirst
          have HN : Hid (q ++ strOf (hexDigits x) = strOf (shB Lz p1 t (i + 1))) := by rw [h1, strOf_append, ← hq]; exact Lib.hid rfl
          have hqz2 : (q ++ strOf (hexDigits x)).size ≤ 100 := by rw [HN.out, strOf_size]; exact hlen
          have HH2 := Lib.hid h2
          have HQ := Lib.hid hq
          obtain ⟨d, hd⟩ : ∃ d, strOf (hexDigits x) = d := ⟨_, rfl⟩
          have hdz : d.size ≤ 4 := by rw [← hd, strOf_size]; exact hxl
          rw [hd] at C1 HN hqz2
          rcases HH2.out with h3 | ⟨u, h3⟩
          · have hemp : q.toList.isEmpty = true := by rw [HQ.out, h3, strOf_isEmpty]; rfl
            clear h1 h2 h3 HH2 hx hlen hxl HI hfirst hd hq hblk hzt HQ
            rcases hways with hwy | ⟨hwy, hwz⟩
            all_goals
              go_wp2_with (first | (go_at_call 9; refine (C1.out _).mono ?_; rintro e w4 ⟨rfl, hb4⟩))
              refine ⟨⟨i + 1, _, M, rfl, rfl, by omega, hqz2, hbr.trans (hb4.mono hB), Lib.hid ⟨HN.out, HK.out _ hb4, HKZ.out⟩⟩, by simp [intOf]; omega⟩
          · have hsz0 : 0 < q.size := by rw [HQ.out, strOf_size, h3]; simp
            have hlast : ((q[q.size - 1].toNat : Int) == 58) = true := by rw [last_at q u 58 (by rw [HQ.out, h3]) (by omega)]; rfl
            have hemp : q.toList.isEmpty = false := by rw [HQ.out, strOf_isEmpty, h3]; simp
            clear h1 h2 h3 HH2 hx hlen hxl HI hfirst hd hq hblk hzt HQ
            rcases hways with hwy | ⟨hwy, hwz⟩
            all_goals
              go_wp2_with (first | (go_at_call 9; refine (C1.out _).mono ?_; rintro e w4 ⟨rfl, hb4⟩))
              refine ⟨⟨i + 1, _, M, rfl, rfl, by omega, hqz2, hbr.trans (hb4.mono hB), Lib.hid ⟨HN.out, HK.out _ hb4, HKZ.out⟩⟩, by simp [intOf]; omega⟩
        · obtain ⟨h1, u, y, h2, hy⟩ := shB_next Lz p1 t i x hx hft (by omega)
          have HN : Hid (q ++ (⟨#[58]⟩ : ByteArray) ++ strOf (hexDigits x) = strOf (shB Lz p1 t (i + 1))) := by
            rw [h1, hq, show (⟨#[58]⟩ : ByteArray) = strOf [58] from rfl, ← strOf_append, ← strOf_append, List.append_assoc]; exact Lib.hid rfl
          have hqz2 : (q ++ (⟨#[58]⟩ : ByteArray) ++ strOf (hexDigits x)).size ≤ 100 := by rw [HN.out, strOf_size]; exact hlen
          have HQ := Lib.hid hq
          obtain ⟨d, hd⟩ : ∃ d, strOf (hexDigits x) = d := ⟨_, rfl⟩
          have hdz : d.size ≤ 4 := by rw [← hd, strOf_size]; exact hxl
          rw [hd] at C1 HN hqz2
          have hsz0 : 0 < q.size := by rw [HQ.out, strOf_size, h2]; simp
          have hlast : ((q[q.size - 1].toNat : Int) == 58) = false := by rw [last_at q u y (by rw [HQ.out, h2]) (by omega)]; exact u8_58 y hy
          have hemp : q.toList.isEmpty = false := by rw [HQ.out, strOf_isEmpty, h2]; simp
          clear h1 h2 hy hx hlen hxl HI hfirst hd hq hblk hzt HQ
          rcases hways with hwy | ⟨hwy, hwz⟩
          all_goals
            go_wp2_with (first | (go_at_call 9; refine (C1.out _).mono ?_; rintro e w4 ⟨rfl, hb4⟩))
            refine ⟨⟨i + 1, _, M, rfl, rfl, by omega, hqz2, hbr.trans (hb4.mono hB), Lib.hid ⟨HN.out, HK.out _ hb4, HKZ.out⟩⟩, by simp [intOf]; omega⟩
    · obtain rfl : i = 8 := by omega
      have h8 : ((8 : Nat) : Int) = 8 := rfl
      rw [h8]
      clear h8
      obtain ⟨hq, hblk, hzt⟩ := HI.out
      have hM : M = zeroed Lz p1 t := zt_end Lz M p1 t HL.out hzt hft ht8
      have hML : M.length = 8 := hzt.1
      have hMX : ∀ x ∈ M, x < 65536 := by rw [hM]; exact zeroed_lt Lz p1 t HX.out
      have i4 : ip6 q.data.toList = some M := by rw [hq, strOf_data, hM]; exact ip6_short Lz p1 t HL.out HX.out hft ht8
      have i6 : ip6 (q ++ (⟨#[58, 58]⟩ : ByteArray)).data.toList = none := by
        rw [hq, show (⟨#[58, 58]⟩ : ByteArray) = strOf [58, 58] from rfl, ← strOf_append, strOf_data]
        exact ip6_short_more Lz p1 t HL.out HX.out hft ht8
      have ip : parseP ((⟨#[91]⟩ : ByteArray) ++ q ++ ⟨#[93]⟩).data.toList = some (91 :: (text6 M ++ [93])) := by
        have e : (⟨#[91]⟩ : ByteArray) ++ q ++ ⟨#[93]⟩ = strOf (91 :: (shB Lz p1 t 8 ++ [93])) := by
          rw [hq, show (⟨#[91]⟩ : ByteArray) = strOf [91] from rfl, show (⟨#[93]⟩ : ByteArray) = strOf [93] from rfl, ← strOf_append, ← strOf_append]; rfl
        rw [e, strOf_data, hM]
        exact parse_short Lz p1 t HL.out HX.out hft ht8
      have hGo := hG.below hbr
      have hzp : ((⟨#[91]⟩ : ByteArray) ++ q ++ ⟨#[93]⟩).size ≤ 1000000 := by
        rw [ByteArray.size_append, ByteArray.size_append]
        have h1 : (⟨#[91]⟩ : ByteArray).size = 1 := rfl
        have h2 : (⟨#[93]⟩ : ByteArray).size = 1 := rfl
        omega
      have hzq : (q ++ (⟨#[58, 58]⟩ : ByteArray)).size ≤ 1000000 := by
        rw [ByteArray.size_append]
        have h1 : (⟨#[58, 58]⟩ : ByteArray).size = 2 := rfl
        omega
      have htl := text6_len M hML hMX
      have C4 := Lib.hid (fun (w' : World) (hb : Below wo.heap.size wo w') => IPv6_some q M w' (by omega) (hGo.below hb) i4)
      have C6 := Lib.hid (fun (w' : World) (hb : Below wo.heap.size wo w') => IPv6_none (q ++ (⟨#[58, 58]⟩ : ByteArray)) w' hzq (hGo.below hb) i6)
      have CP := Lib.hid (fun (w' : World) (hb : Below wo.heap.size wo w') => Parse_some _ _ w' hzp (hGo.below hb) ip)
      have CT := Lib.hid (fun (w' : World) => refText6_any M w' hML hMX)
      obtain ⟨tx, htx⟩ : ∃ tx, strOf (text6 M) = tx := ⟨_, rfl⟩
      have hS : strOf (91 :: (text6 M ++ [93])) = (⟨#[91]⟩ : ByteArray) ++ tx ++ ⟨#[93]⟩ := by
        rw [← htx, show (⟨#[91]⟩ : ByteArray) = strOf [91] from rfl, show (⟨#[93]⟩ : ByteArray) = strOf [93] from rfl, ← strOf_append, ← strOf_append]; rfl
      have htz : tx.size ≤ 100 := by rw [← htx, strOf_size]; exact htl
      rw [hS] at CP
      rw [htx] at CT
      obtain ⟨S, hSS⟩ : ∃ S, (⟨#[91]⟩ : ByteArray) ++ tx ++ ⟨#[93]⟩ = S := ⟨_, rfl⟩
      rw [hSS] at CP
      have HSS := Lib.hid hSS
      obtain ⟨b0, b1, b2, b3, b4, b5, b6, b7, hMe⟩ : ∃ b0 b1 b2 b3 b4 b5 b6 b7, M = [b0, b1, b2, b3, b4, b5, b6, b7] := list8 M hML
      rw [hMe, agg_eight] at C4 CT
      rw [hMe] at hblk
      have hblk' : wo.heap[w.heap.size]? = some (.cells #[.int .u16 (b0 : Int), .int .u16 (b1 : Int), .int .u16 (b2 : Int), .int .u16 (b3 : Int), .int .u16 (b4 : Int), .int .u16 (b5 : Int), .int .u16 (b6 : Int), .int .u16 (b7 : Int)] 39 (0, 0)) := hblk
      have HB0 := Lib.hid hblk'
      have hblw : w.heap.size < wo.heap.size := (Array.getElem?_eq_some_iff.1 hblk').1
      clear HI hq hblk hzt hM hML hMX i4 i6 ip hzp hzq htl hS htx hMe hblk' hSS
      go_wp2_with fail
      refine (C4.out _ (Below.refl _ _)).mono ?_
      rintro e w2 ⟨rfl, hb2⟩
      go_wp2_with fail
      have ho2 := hb2.alloc hb2.size (.cells #[.int .u16 (b0 : Int), .int .u16 (b1 : Int), .int .u16 (b2 : Int), .int .u16 (b3 : Int), .int .u16 (b4 : Int), .int .u16 (b5 : Int), .int .u16 (b6 : Int), .int .u16 (b7 : Int)] 39)
      have hh2 := heap_alloc_new w2 (.cells #[.int .u16 (b0 : Int), .int .u16 (b1 : Int), .int .u16 (b2 : Int), .int .u16 (b3 : Int), .int .u16 (b4 : Int), .int .u16 (b5 : Int), .int .u16 (b6 : Int), .int .u16 (b7 : Int)] 39)
      have hn2 : (w2.alloc (.cells #[.int .u16 (b0 : Int), .int .u16 (b1 : Int), .int .u16 (b2 : Int), .int .u16 (b3 : Int), .int .u16 (b4 : Int), .int .u16 (b5 : Int), .int .u16 (b6 : Int), .int .u16 (b7 : Int)] 39)).heap[w.heap.size]? = w2.heap[w.heap.size]? := ((Below.refl w2.heap.size w2).alloc (Nat.le_refl _) _).block _ (Nat.lt_of_lt_of_le hblw hb2.size)
      rw [hb2.block _ hblw, HB0.out] at hn2
      have hlt2 : w2.heap.size < (w2.alloc (.cells #[.int .u16 (b0 : Int), .int .u16 (b1 : Int), .int .u16 (b2 : Int), .int .u16 (b3 : Int), .int .u16 (b4 : Int), .int .u16 (b5 : Int), .int .u16 (b6 : Int), .int .u16 (b7 : Int)] 39)).heap.size := by simp
      generalize w2.alloc (.cells #[.int .u16 (b0 : Int), .int .u16 (b1 : Int), .int .u16 (b2 : Int), .int .u16 (b3 : Int), .int .u16 (b4 : Int), .int .u16 (b5 : Int), .int .u16 (b6 : Int), .int .u16 (b7 : Int)] 39) = W2 at ho2 hh2 hn2 hlt2 ⊢
      generalize w2.heap.size = k2 at hh2 hlt2 ⊢
      have HH2 := Lib.hid hh2
      have HN2 := Lib.hid hn2
      clear hh2 hn2 hb2
      refine (CP.out _ ho2).mono ?_
      rintro e w3 ⟨rfl, hb3⟩
      have ho3 := ho2.trans (hb3.mono ho2.size)
      go_wp2_with fail
      refine (C6.out _ ho3).mono ?_
      rintro e w4 ⟨rfl, hb4⟩
      have ho24 := hb3.trans (hb4.mono hb3.size)
      have hh24 : Hid (w4.heap[k2]? = some (.cells #[.int .u16 (b0 : Int), .int .u16 (b1 : Int), .int .u16 (b2 : Int), .int .u16 (b3 : Int), .int .u16 (b4 : Int), .int .u16 (b5 : Int), .int .u16 (b6 : Int), .int .u16 (b7 : Int)] 39 (0, 0))) := by rw [ho24.block _ hlt2]; exact HH2
      have hn24 : Hid (w4.heap[w.heap.size]? = some (.cells #[.int .u16 (b0 : Int), .int .u16 (b1 : Int), .int .u16 (b2 : Int), .int .u16 (b3 : Int), .int .u16 (b4 : Int), .int .u16 (b5 : Int), .int .u16 (b6 : Int), .int .u16 (b7 : Int)] 39 (0, 0))) := by rw [ho24.block _ (Nat.lt_of_lt_of_le hblw ho2.size)]; exact HN2
      have hl24 : k2 < w4.heap.size := Nat.lt_of_lt_of_le hlt2 ho24.size
      have hlw4 : w.heap.size < w4.heap.size := Nat.lt_of_lt_of_le hblw (Nat.le_trans ho2.size ho24.size)
      have ho4 := ho2.trans (ho24.mono ho2.size)
      obtain ⟨x0, x1, x2, x3, x4, x5, x6, x7⟩ := eight_all hn24.out
      obtain ⟨y0, y1, y2, y3, y4, y5, y6, y7⟩ := eight_all hh24.out
      have EQ := eq8 (b0 : Int) (b1 : Int) (b2 : Int) (b3 : Int) (b4 : Int) (b5 : Int) (b6 : Int) (b7 : Int)
      have hstr : (S.toList == ((⟨#[91]⟩ : ByteArray) ++ tx ++ ⟨#[93]⟩).toList) = true := by rw [HSS.out]; simp
      go_wp2_with (first | (go_at_call 16; refine (CT.out _).mono ?_; rintro e w5 ⟨rfl, hb5⟩))
      go_ret
      have hX := hbr.trans (ho4.mono hB)
      have hY := hX.alloc hX.size (.cells #[.int .u16 0, .int .u16 0, .int .u16 0, .int .u16 0, .int .u16 0, .int .u16 0, .int .u16 0, .int .u16 0] 39)
      exact ⟨rfl, hY.trans (hb5.mono hY.size)⟩
end Go.Proofs.YtlhbpdnbfghkoaaGreatDoor
