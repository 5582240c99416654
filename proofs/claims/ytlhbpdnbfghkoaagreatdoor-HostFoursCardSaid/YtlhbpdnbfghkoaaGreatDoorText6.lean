/- host.row and host.text6: an address of eight pieces as it is written. -/
import Derived.Test.YtlhbpdnbfghkoaaGreatDoorFmt
namespace Go.Proofs.YtlhbpdnbfghkoaaGreatDoor
open Go.RowKit
set_option linter.unusedSimpArgs false
set_option linter.unusedVariables false

set_option maxRecDepth 1000000 in
theorem iFormatUint16 (n : Nat) (w : World) (hn : n < 65536) (hG : GL w) :
    Calls Tryz.prog 63 #[.int .u64 n, .int .i64 16] w fun e w' => e = .returned (.string (strOf (hexDigits n))) ∧ Below w.heap.size w w' := by
  have CF := Lib.hid (formatBits16 n w hn hG)
  go_enter Tryz.func63, Tryz.ntmps63
  go_wp2_with (go_at_call 87; refine CF.out.mono ?_; rintro e w2 ⟨rfl, hb2⟩)
  go_ret
  exact ⟨rfl, hb2⟩
set_option maxRecDepth 1000000 in
theorem FormatUint16 (n : Nat) (w : World) (hn : n < 65536) (hG : GL w) :
    Calls Tryz.prog 44 #[.int .u64 n, .int .i64 16] w fun e w' => e = .returned (.string (strOf (hexDigits n))) ∧ Below w.heap.size w w' := by
  have CF := Lib.hid (iFormatUint16 n w hn hG)
  go_enter Tryz.func44, Tryz.ntmps44
  go_wp2_with (go_at_call 63; refine CF.out.mono ?_; rintro e w2 ⟨rfl, hb2⟩)
  go_ret
  exact ⟨rfl, hb2⟩

/-- How many noughts a row of pieces begins with. -/
def zrun : List Nat → Nat
  | [] => 0
  | x :: r => if x = 0 then zrun r + 1 else 0
theorem zrun_le (l : List Nat) : zrun l ≤ l.length := by
  induction l with
  | nil => simp [zrun]
  | cons x r ih => unfold zrun; split <;> simp <;> omega
/-- host.row, up to place i. -/
def rowTo (l : List Nat) : Nat → Nat × Nat
  | 0 => (0, 0)
  | i + 1 => if zrun (l.drop i) > max 1 ((rowTo l i).2 - (rowTo l i).1) then (i, i + zrun (l.drop i)) else rowTo l i
theorem rowTo_le (l : List Nat) (i : Nat) : (rowTo l i).1 ≤ (rowTo l i).2 ∧ (rowTo l i).2 ≤ max l.length i := by
  induction i with
  | zero => simp [rowTo]
  | succ i ih =>
    unfold rowTo
    split
    · have := zrun_le (l.drop i)
      rw [List.length_drop] at this
      simp only
      omega
    · omega

/-- Eight pieces, as a value; as cells. -/
def cells8 (l : List Nat) : Array Value := (l.map fun (x : Nat) => Value.int .u16 (x : Int)).toArray
def agg8 (l : List Nat) : Value := .agg (cells8 l)

theorem cells8_at (l : List Nat) (k : Nat) (h : k < l.length) : (cells8 l)[k]? = some (.int .u16 (l[k] : Int)) := by
  simp [cells8, List.getElem?_eq_getElem h]

theorem agg8_cells (l : List Nat) (w : World) (b : Nat) (hb : b = w.heap.size) (k x : Nat) (h : l[k]? = some x) : (w.alloc (.cells (cells8 l) 39)).cell? ⟨b, k, none⟩ = some (.int .u16 (x : Int)) := by
  subst hb
  rw [cells_alloc_new]
  simp [cells8, h]
theorem zrun_zero (l : List Nat) (k : Nat) (h : l[k]? = some 0) : zrun (l.drop k) = zrun (l.drop (k + 1)) + 1 := by
  obtain ⟨hk, hx⟩ := List.getElem?_eq_some_iff.1 h
  rw [List.drop_eq_getElem_cons hk, hx]
  rfl
theorem zrun_stop (l : List Nat) (k : Nat) (h : ∀ x, l[k]? = some x → x ≠ 0) : zrun (l.drop k) = 0 := by
  by_cases hk : k < l.length
  · rw [List.drop_eq_getElem_cons hk, zrun, if_neg (h _ (List.getElem?_eq_getElem hk))]
  · rw [List.drop_of_length_le (by omega)]; rfl

set_option maxRecDepth 1000000 in
set_option maxHeartbeats 8000000 in
theorem row_any (l : List Nat) (w : World) (hl : l.length = 8) :
    Calls Tryz.prog 42 #[agg8 l] w fun e w' => e = .returned (.tuple #[.int .i64 ((rowTo l 8).1 : Nat), .int .i64 ((rowTo l 8).2 : Nat)]) ∧ Below w.heap.size w w' := by
  match l, hl with
  | [a0, a1, a2, a3, a4, a5, a6, a7], hl =>
  have HC := Lib.hid (agg8_cells [a0, a1, a2, a3, a4, a5, a6, a7] w w.heap.size rfl)
  have hbw : Below w.heap.size w (w.alloc (.cells (cells8 [a0, a1, a2, a3, a4, a5, a6, a7]) 39)) := (Below.refl _ w).alloc (Nat.le_refl _) _
  have HBW := Lib.hid hbw
  clear hbw
  unfold agg8 cells8 at *
  simp only [List.map_cons, List.map_nil] at HC HBW ⊢
  go_enter Tryz.func42, Tryz.ntmps42
  go_wp2
  generalize w.alloc _ = w1 at HC HBW ⊢
  have hl8 : ([a0, a1, a2, a3, a4, a5, a6, a7] : List Nat).length = 8 := hl
  have HL := Lib.hid hl8
  have HR := Lib.hid (rowTo_le [a0, a1, a2, a3, a4, a5, a6, a7])
  clear hl hl8
  obtain ⟨l, hle⟩ : ∃ l, [a0, a1, a2, a3, a4, a5, a6, a7] = l := ⟨_, rfl⟩
  rw [hle] at HC HL HR
  go_loopw [2, 3, 4] (fun vf vt vi wr => ∃ i : Nat, vf = .int .i64 ((rowTo l i).1 : Nat) ∧ vt = .int .i64 ((rowTo l i).2 : Nat) ∧ vi = .int .i64 i ∧ i ≤ 8 ∧ w1 = wr) (fun _ _ vi _ => 8 - (intOf vi).toNat)
  case atStart => exact ⟨0, rfl, rfl, rfl, by omega, rfl⟩
  case round =>
    obtain ⟨i, rfl, rfl, rfl, hi, rfl⟩ := hrel
    by_cases hlt : i < 8
    · have hr := HR.out i
      rw [HL.out] at hr
      obtain ⟨f, hf⟩ : ∃ f, (rowTo l i).1 = f := ⟨_, rfl⟩
      obtain ⟨t, ht⟩ : ∃ t, (rowTo l i).2 = t := ⟨_, rfl⟩
      rw [hf, ht] at hr ⊢
      have HF := Lib.hid hf
      have HT := Lib.hid ht
      clear hf ht
      obtain ⟨hft, ht8⟩ := hr
      have ht9 : t ≤ 8 := by omega
      go_wp2
      go_loopw [5] (fun vk wr => ∃ k : Nat, vk = .int .i64 k ∧ i ≤ k ∧ k ≤ 8 ∧ w1 = wr ∧ Hid (i + zrun (l.drop i) = k + zrun (l.drop k))) (fun vk _ => 8 - (intOf vk).toNat)
      case atStart => exact ⟨i, rfl, Nat.le_refl _, by omega, rfl, Lib.hid rfl⟩
      case round =>
        obtain ⟨k, rfl, hik, hk8, rfl, hz⟩ := hrel
        by_cases hk : k < 8
        · have hki : (k : Int) < 8 := by omega
          obtain ⟨x, hx⟩ : ∃ x, l[k]? = some x := ⟨_, List.getElem?_eq_getElem (by rw [HL.out]; exact hk)⟩
          have hcell := HC.out k x hx
          have HX := Lib.hid hx
          clear hx
          by_cases hx0 : x = 0
          · subst hx0
            have hz2 : Hid (i + zrun (l.drop i) = k + 1 + zrun (l.drop (k + 1))) := by
              rw [hz.out, zrun_zero l k HX.out]; exact Lib.hid (by omega)
            clear hz
            go_wp2
            refine ⟨⟨k + 1, rfl, by omega, by omega, ?_, hz2⟩, by simp [intOf]; omega⟩
            trivial
          · have hxb : ((x : Int) == 0) = false := beq_eq_false_iff_ne.2 (by omega)
            have hz2 : Hid (i + zrun (l.drop i) = k) := by
              rw [hz.out, zrun_stop l k (fun y hy => by rw [HX.out] at hy; cases hy; exact hx0)]; exact Lib.hid rfl
            clear hz hx0
            go_wp2
            · have h2 : max 1 ((t : Int) - f) < (k : Int) - i := by assumption
              have hz3 := hz2.out
              have hn : rowTo l (i + 1) = (i, k) := by
                rw [rowTo, HF.out, HT.out, if_pos (by omega)]
                have : i + zrun (l.drop i) = k := hz3
                rw [this]
              refine ⟨⟨i + 1, ?_, ?_, ?_, by omega, trivial⟩, by simp [intOf]; omega⟩
              · rw [hn]
              · rw [hn]
              · congr 1
            · have h2 : (k : Int) - i ≤ max 1 ((t : Int) - f) := by assumption
              have hz3 := hz2.out
              have hn : rowTo l (i + 1) = (f, t) := by
                rw [rowTo, HF.out, HT.out, if_neg (by omega), ← HF.out, ← HT.out]
              refine ⟨⟨i + 1, ?_, ?_, ?_, by omega, trivial⟩, by simp [intOf]; omega⟩
              · rw [hn]
              · rw [hn]
              · congr 1
        · obtain rfl : k = 8 := by omega
          have hki : ¬ ((8 : Int) < 8) := by omega
          have hz2 : Hid (i + zrun (l.drop i) = 8) := by
            rw [hz.out, List.drop_of_length_le (by rw [HL.out]; omega)]; exact Lib.hid rfl
          clear hz
          go_wp2
          · have h2 : max 1 ((t : Int) - f) < (8 : Int) - i := by assumption
            have hz3 := hz2.out
            have hn : rowTo l (i + 1) = (i, 8) := by
              rw [rowTo, HF.out, HT.out, if_pos (by omega)]
              have : i + zrun (l.drop i) = 8 := hz3
              rw [this]
            refine ⟨⟨i + 1, ?_, ?_, ?_, by omega, trivial⟩, by simp [intOf]; omega⟩
            · rw [hn]
            · rw [hn]
            · congr 1
          · have h2 : (8 : Int) - i ≤ max 1 ((t : Int) - f) := by assumption
            have hz3 := hz2.out
            have hn : rowTo l (i + 1) = (f, t) := by
              rw [rowTo, HF.out, HT.out, if_neg (by omega), ← HF.out, ← HT.out]
            refine ⟨⟨i + 1, ?_, ?_, ?_, by omega, trivial⟩, by simp [intOf]; omega⟩
            · rw [hn]
            · rw [hn]
            · congr 1
    · obtain rfl : i = 8 := by omega
      go_wp2
      go_ret2
      exact ⟨by rw [hle]; rfl, HBW.out⟩

theorem hexDigits_len (n : Nat) (h : n < 65536) : (hexDigits n).length ≤ 4 := by
  rw [hexDigits]
  split
  · simp
  · rw [hexDigits]
    split
    · simp
    · rw [hexDigits]
      split
      · simp
      · rw [hexDigits, dif_pos (by omega)]
        simp
theorem joinB_len (sep : UInt8) (ps : List Bs) (k : Nat) (h : ∀ p ∈ ps, p.length ≤ k) : (joinB sep ps).length ≤ ps.length * (k + 1) := by
  unfold joinB
  induction ps with
  | nil => simp [List.intercalate]
  | cons p r ih =>
    cases r with
    | nil =>
      have := h p (by simp)
      simp [List.intercalate]
      omega
    | cons q r =>
      have h1 := h p (by simp)
      have h2 := ih (fun x hx => h x (by simp [hx]))
      have e : List.intercalate [sep] (p :: q :: r) = p ++ sep :: List.intercalate [sep] (q :: r) := by simp [List.intercalate, List.intersperse]
      rw [e]
      simp only [List.length_append, List.length_cons] at h2 ⊢
      have : (r.length + 1 + 1) * (k + 1) = (r.length + 1) * (k + 1) + (k + 1) := by rw [Nat.succ_mul]
      omega

set_option maxRecDepth 1000000 in
set_option maxHeartbeats 8000000 in
/-- host.text6's join: pieces, parted by colons. -/
theorem join_any (b o c : Nat) (xs : List Nat) (w : World) (hG : GL w) (hn : xs.length ≤ 8) (hx : ∀ x ∈ xs, x < 65536) (hb : b < w.heap.size)
    (hcell : ∀ (j x : Nat), xs[j]? = some x → w.cell? ⟨b, o + j, none⟩ = some (.int .u16 (x : Int))) :
    Calls Tryz.prog 43 #[.slice (some ⟨b, o, none⟩) xs.length c] w fun e w' => e = .returned (.string (strOf (joinB 58 (xs.map hexDigits)))) ∧ Below w.heap.size w w' := by
  obtain ⟨n, hnn⟩ : ∃ n, xs.length = n := ⟨_, rfl⟩
  rw [hnn] at hn ⊢
  have HN := Lib.hid hnn
  have HX := Lib.hid hx
  have HC := Lib.hid hcell
  clear hnn hx hcell
  go_enter Tryz.func43, Tryz.ntmps43
  go_wp2
  go_loopw [3, 8] (fun vs vi wr => ∃ k : Nat, vi = .int .i64 k ∧ k ≤ n ∧ OwnS wr w.heap.size vs ((xs.take k).map hexDigits) ∧ Below w.heap.size w wr) (fun _ vi _ => n - (intOf vi).toNat)
  case atStart => exact ⟨0, rfl, by omega, OwnS.nil _ _, Below.refl _ _⟩
  case round =>
    obtain ⟨k, rfl, hk, hown, hbw⟩ := hrel
    obtain ⟨wo, rfl⟩ : ∃ wo : World, wo = wr := ⟨_, rfl⟩
    have hB := hbw.size
    have HO := Lib.hid hown
    clear hown
    by_cases hlt : k < n
    · obtain ⟨x, hx⟩ : ∃ x, xs[k]? = some x := ⟨_, List.getElem?_eq_getElem (by rw [HN.out]; exact hlt)⟩
      have hc : wo.cell? ⟨b, o + k, none⟩ = some (.int .u16 (x : Int)) := by
        rw [hbw.cell (p := ⟨b, o + k, none⟩) hb]; exact HC.out k x hx
      have hx16 : x < 65536 := HX.out x (List.mem_of_getElem? hx)
      have htake : Hid ((xs.take (k + 1)).map hexDigits = (xs.take k).map hexDigits ++ [hexDigits x]) := by
        rw [List.take_add_one, hx]; exact Lib.hid (by simp)
      have hlen : ((xs.take k).map hexDigits).length ≤ 8 := by simp; omega
      have CF := Lib.hid (FormatUint16 x wo hx16 (hG.below hbw))
      clear hx
      go_wp2_with (first | (go_at_call 44; refine CF.out.mono ?_; rintro e w2 ⟨rfl, hb2⟩) | (at_builtin; refine app_str rfl _ _ rfl w.heap.size _ ((xs.take k).map hexDigits) (hexDigits x) rfl ((HO.out.below hb2).below ((Below.refl _ _).alloc (Nat.le_refl _) _)) ⟨w2.heap.size, 0, none⟩ 1 rfl (cells_alloc_new _ _ _ 0) (by omega) (by have h1 := hb2.size; simp; omega) ?_; intro v' w3 hown3 hg3))
      have hb3 : Below w.heap.size w w3 := ((hbw.trans (hb2.mono hB)).alloc (Nat.le_trans hB hb2.size) _).grown hg3 (by have h1 := hb2.size; simp; omega) HO.out.base
      refine ⟨⟨k + 1, ?_, by omega, ?_, hb3⟩, by simp [intOf]; omega⟩
      · congr 1
      · rw [htake.out]; exact hown3
    · obtain rfl : k = n := by omega
      have hl : (joinB 58 (xs.map hexDigits)).length ≤ 1000000000 := by
        have := joinB_len 58 (xs.map hexDigits) 4 (fun p hp => by
          obtain ⟨x, hx, rfl⟩ := List.mem_map.1 hp
          exact hexDigits_len x (HX.out x hx))
        rw [List.length_map] at this
        have h2 := HN.out
        omega
      have hown4 := HO.out
      rw [List.take_of_length_le (by rw [HN.out]; exact Nat.le_refl _)] at hown4
      have CJ := Lib.hid (lib_Join w.heap.size _ (xs.map hexDigits) 58 wo hown4 (by rw [List.length_map]; have h2 := HN.out; omega) hl)
      clear hown4
      go_wp2_with (go_at_call 45; refine CJ.out.mono ?_; rintro e w2 ⟨rfl, hb2⟩)
      go_ret
      exact ⟨rfl, hbw.trans (hb2.mono hB)⟩

theorem strOf_append (a b : Bs) : strOf (a ++ b) = strOf a ++ strOf b := by
  apply ByteArray.ext; apply Array.ext'; simp [strOf]
theorem arr8 : Tryz.prog.arrayLen 39 = 8 := by simp [Program.arrayLen, Tryz.underlying39]
theorem elem8 : Tryz.prog.elem 39 = 38 := by simp [Program.elem, Tryz.underlying39]
theorem und8 : Tryz.prog.underlying 39 = some (.array (Tryz.prog.arrayLen 39) (Tryz.prog.elem 39)) := by simp [Program.arrayLen, Program.elem, Tryz.underlying39]
theorem slice8_h (b f : Nat) (h : f ≤ 8) (W : World) : (Instr.sliceAt 39 (.pointer (some ⟨b, 0, none⟩)) none (some (.int .i64 (f : Int))) none).run Tryz.prog W = .ok (.slice (some ⟨b, 0, none⟩) f 8) W := by
  rw [run_sliceAt_array_h W 39 ⟨b, 0, none⟩ und8 .i64 f (by omega) (by rw [arr8]; omega), arr8, elem8, Tryz.sizeOf38]
  simp [slicedAt, Result.andThen, Addr.add_zero']
theorem slice8_l (b t : Nat) (h : t < 8) (W : World) : (Instr.sliceAt 39 (.pointer (some ⟨b, 0, none⟩)) (some (.int .i64 (t : Int))) none none).run Tryz.prog W = .ok (.slice (some ⟨b, t, none⟩) (8 - t) (8 - t)) W := by
  rw [run_sliceAt_array_l W 39 ⟨b, 0, none⟩ und8 .i64 t (by omega) (by rw [arr8]; omega), arr8, elem8, Tryz.sizeOf38]
  simp [slicedAt, Result.andThen, Addr.add_lit]
  omega
theorem slice8_l8 (b : Nat) (W : World) : (Instr.sliceAt 39 (.pointer (some ⟨b, 0, none⟩)) (some (.int .i64 8)) none none).run Tryz.prog W = .ok (.slice (some ⟨b, 0, none⟩) 0 0) W := by
  rw [run_sliceAt_array_l W 39 ⟨b, 0, none⟩ und8 .i64 8 (by omega) (by rw [arr8]; omega), arr8, elem8, Tryz.sizeOf38]
  simp [slicedAt, Result.andThen]

/-- host.text6. -/
def text6 (l : List Nat) : Bs :=
  if (rowTo l 8).2 = 0 then joinB 58 (l.map hexDigits)
  else joinB 58 ((l.take (rowTo l 8).1).map hexDigits) ++ [58, 58] ++ joinB 58 ((l.drop (rowTo l 8).2).map hexDigits)

set_option maxRecDepth 1000000 in
set_option maxHeartbeats 8000000 in
theorem text6_any (l : List Nat) (w : World) (hl : l.length = 8) (hx : ∀ x ∈ l, x < 65536) (hG : GL w) :
    Calls Tryz.prog 26 #[agg8 l] w fun e w' => e = .returned (.string (strOf (text6 l))) ∧ Below w.heap.size w w' := by
  match l, hl with
  | [a0, a1, a2, a3, a4, a5, a6, a7], hl =>
  have HC := Lib.hid (agg8_cells [a0, a1, a2, a3, a4, a5, a6, a7] w w.heap.size rfl)
  have hbw : Below w.heap.size w (w.alloc (.cells (cells8 [a0, a1, a2, a3, a4, a5, a6, a7]) 39)) := (Below.refl _ w).alloc (Nat.le_refl _) _
  have HBW := Lib.hid hbw
  have hsz : w.heap.size < (w.alloc (.cells (cells8 [a0, a1, a2, a3, a4, a5, a6, a7]) 39)).heap.size := by simp
  have HSZ := Lib.hid hsz
  have CR := Lib.hid (fun w' => row_any [a0, a1, a2, a3, a4, a5, a6, a7] w' hl)
  clear hbw hsz
  unfold agg8 cells8 at *
  simp only [List.map_cons, List.map_nil] at HC HBW CR HSZ ⊢
  have HR := Lib.hid (rowTo_le [a0, a1, a2, a3, a4, a5, a6, a7] 8)
  have HL := Lib.hid hl
  have HX := Lib.hid hx
  clear hl hx
  go_enter Tryz.func26, Tryz.ntmps26
  go_wp2_with fail
  obtain ⟨w1, hw1⟩ : ∃ w1, w1 = (w.alloc (.cells #[.int .u16 (a0 : Int), .int .u16 (a1 : Int), .int .u16 (a2 : Int), .int .u16 (a3 : Int), .int .u16 (a4 : Int), .int .u16 (a5 : Int), .int .u16 (a6 : Int), .int .u16 (a7 : Int)] 39)) := ⟨_, rfl⟩
  rw [← hw1] at HC HBW HSZ ⊢
  have hG1 := hG.below HBW.out
  refine (CR.out _).mono ?_
  rintro e w2 ⟨rfl, hb2⟩
  clear hw1 CR
  obtain ⟨l, hle⟩ : ∃ l, [a0, a1, a2, a3, a4, a5, a6, a7] = l := ⟨_, rfl⟩
  rw [hle] at HC HL HX HR ⊢
  have HLE := Lib.hid hle
  have hbw2 : Below w.heap.size w w2 := HBW.out.trans (hb2.mono (by have := HSZ.out; omega))
  have hG2 := hG1.below hb2
  have hlt2 : w.heap.size < w2.heap.size := Nat.lt_of_lt_of_le HSZ.out hb2.size
  have hr := HR.out
  rw [HL.out] at hr
  have J : ∀ (o k c : Nat) (xs : List Nat), o + k ≤ 8 → xs = (l.drop o).take k → ∀ w', Below w2.heap.size w2 w' → Calls Tryz.prog 43 #[.slice (some ⟨w.heap.size, o, none⟩) k c] w' fun e w'' => e = .returned (.string (strOf (joinB 58 (xs.map hexDigits)))) ∧ Below w2.heap.size w' w'' := by
    intro o k c xs hok hxs w' hb'
    have hk : xs.length = k := by rw [hxs, List.length_take, List.length_drop, HL.out]; omega
    have := join_any w.heap.size o c xs w' (hG2.below hb') (by omega) (fun x hx => HX.out x (by rw [hxs] at hx; exact List.mem_of_mem_drop (List.mem_of_mem_take hx))) (Nat.lt_of_lt_of_le hlt2 hb'.size) (by
      intro j x hj
      rw [hb'.cell (p := ⟨w.heap.size, o + j, none⟩) hlt2, hb2.cell (p := ⟨w.heap.size, o + j, none⟩) HSZ.out]
      refine HC.out (o + j) x ?_
      rw [hxs] at hj
      rw [List.getElem?_take] at hj
      split at hj
      · rw [List.getElem?_drop] at hj; exact hj
      · cases hj)
    rw [hk] at this
    exact this.mono fun _ _ ⟨h1, h2⟩ => ⟨h1, h2.mono hb'.size⟩
  obtain ⟨f, hf⟩ : ∃ f, (rowTo l 8).1 = f := ⟨_, rfl⟩
  obtain ⟨t, ht⟩ : ∃ t, (rowTo l 8).2 = t := ⟨_, rfl⟩
  have HT6 : Hid (text6 l = if t = 0 then joinB 58 (l.map hexDigits) else joinB 58 ((l.take f).map hexDigits) ++ [58, 58] ++ joinB 58 ((l.drop t).map hexDigits)) := by
    unfold text6; rw [hf, ht]; exact Lib.hid rfl
  rw [hf, ht] at hr ⊢
  clear hf ht HR HC HBW hb2 hG1 hG
  have hl8 : l.length = 8 := HL.out
  by_cases h0 : t = 0
  · subst h0
    have CJ := Lib.hid (J 0 8 8 l (by omega) (by rw [List.drop_zero, List.take_of_length_le (by omega)]) w2 (Below.refl _ _))
    clear J hl8 hle
    go_wp2_with (go_at_call 43; refine CJ.out.mono ?_; rintro e w3 ⟨rfl, hb3⟩)
    go_ret
    exact ⟨by rw [HLE.out, HT6.out]; rfl, hbw2.trans (hb3.mono hbw2.size)⟩
  · have htb : ((t : Int) == 0) = false := beq_eq_false_iff_ne.2 (by omega)
    have hres : Hid (text6 l = joinB 58 ((l.take f).map hexDigits) ++ [58, 58] ++ joinB 58 ((l.drop t).map hexDigits)) := by rw [HT6.out, if_neg h0]; exact Lib.hid rfl
    have hft : f ≤ t := hr.1
    have ht8 : t ≤ 8 := by omega
    have J1 := Lib.hid (J 0 f 8 (l.take f) (by omega) (by rw [List.drop_zero]))
    have J2 := Lib.hid (J t (8 - t) (8 - t) (l.drop t) (by omega) (by rw [List.take_of_length_le (by simp; omega)]))
    have J3 := Lib.hid (J 0 0 0 [] (by omega) (by simp))
    have hz1 : (strOf (joinB 58 ((l.take f).map hexDigits))).size ≤ 100 := by
      have := joinB_len 58 ((l.take f).map hexDigits) 4 (fun p hp => by
        obtain ⟨x, hx, rfl⟩ := List.mem_map.1 hp
        exact hexDigits_len x (HX.out x (List.mem_of_mem_take hx)))
      rw [List.length_map, List.length_take] at this
      rw [strOf_size]
      omega
    have hz2 : (strOf (joinB 58 ((l.drop t).map hexDigits))).size ≤ 100 := by
      have := joinB_len 58 ((l.drop t).map hexDigits) 4 (fun p hp => by
        obtain ⟨x, hx, rfl⟩ := List.mem_map.1 hp
        exact hexDigits_len x (HX.out x (List.mem_of_mem_drop hx)))
      rw [List.length_map, List.length_drop] at this
      rw [strOf_size]
      omega
    have HL2 := HL
    clear J hl8 hle HT6 HL hr h0 HX
    generalize joinB 58 ((l.take f).map hexDigits) = s1 at J1 hres hz1
    by_cases h8 : t = 8
    · subst h8
      have hd : l.drop 8 = [] := List.drop_of_length_le (by rw [HL2.out]; exact Nat.le_refl _)
      rw [hd] at hres hz2
      clear J2 hd ht8 HL2
      generalize joinB 58 (([] : List Nat).map hexDigits) = s2 at J3 hres hz2
      have hs1 := slice8_h w.heap.size f (by omega)
      have hs2 := slice8_l8 w.heap.size
      go_wp2_with fail
      go_region_with (first
        | (go_at_call_of 43 (Value.slice (some ⟨w.heap.size, 0, none⟩) f 8); refine (J1.out _ (by repeat (first | exact Below.refl _ _ | assumption | refine Below.drew ?_ | refine below_drewN2 ?_ _ | refine Below.trans ?_ hb3 | refine Below.trans ?_ hb4))).mono ?_; rintro e w3 ⟨rfl, hb3⟩)
        | (go_at_call 43; refine (J3.out _ (by repeat (first | exact Below.refl _ _ | assumption | refine Below.drew ?_ | refine below_drewN2 ?_ _ | refine Below.trans ?_ hb3 | refine Below.trans ?_ hb4))).mono ?_; rintro e w4 ⟨rfl, hb4⟩))
      all_goals go_wp2_with fail
      all_goals go_ret
      all_goals refine ⟨?_, hbw2.trans (Below.mono (B := w2.heap.size) (by repeat (first | exact Below.refl _ _ | assumption | refine Below.drew ?_ | refine below_drewN2 ?_ _ | refine Below.trans ?_ hb3 | refine Below.trans ?_ hb4)) hbw2.size)⟩
      all_goals (rw [HLE.out, hres.out, strOf_append, strOf_append]; rfl)
    · have ht8' : t < 8 := by omega
      clear h8 J3 HL2
      generalize joinB 58 ((l.drop t).map hexDigits) = s2 at J2 hres hz2
      have hs1 := slice8_h w.heap.size f (by omega)
      have hs2 := slice8_l w.heap.size t ht8'
      go_wp2_with fail
      go_region_with (first
        | (go_at_call_of 43 (Value.slice (some ⟨w.heap.size, 0, none⟩) f 8); refine (J1.out _ (by repeat (first | exact Below.refl _ _ | assumption | refine Below.drew ?_ | refine below_drewN2 ?_ _ | refine Below.trans ?_ hb3 | refine Below.trans ?_ hb4))).mono ?_; rintro e w3 ⟨rfl, hb3⟩)
        | (go_at_call 43; refine (J2.out _ (by repeat (first | exact Below.refl _ _ | assumption | refine Below.drew ?_ | refine below_drewN2 ?_ _ | refine Below.trans ?_ hb3 | refine Below.trans ?_ hb4))).mono ?_; rintro e w4 ⟨rfl, hb4⟩))
      all_goals go_wp2_with fail
      all_goals go_ret
      all_goals refine ⟨?_, hbw2.trans (Below.mono (B := w2.heap.size) (by repeat (first | exact Below.refl _ _ | assumption | refine Below.drew ?_ | refine below_drewN2 ?_ _ | refine Below.trans ?_ hb3 | refine Below.trans ?_ hb4)) hbw2.size)⟩
      all_goals (rw [HLE.out, hres.out, strOf_append, strOf_append]; rfl)
end Go.Proofs.YtlhbpdnbfghkoaaGreatDoor
