/- source.hasRune and source.of: a text of some bytes alone. source.lower, value, scheme, labels. source.value, scheme, labels. source.labels. source.port, source.path. -/
import Derived.Test.YtmgkmpbblhkacaaGreatDoorLib
import Derived.Test.YtmgkmpbblhkacaaGreatDoorSplit
import Derived.Lib.MapLaws
import Derived.Test.YtmgkmpbblhkacaaGreatDoorMgT
import Derived.Lib.SmallJoins
namespace Go.Proofs.YtmgkmpbblhkacaaGreatDoor
open Go.RowKit Go.Lib
set_option linter.unusedSimpArgs false
set_option linter.unusedVariables false

theorem anyIs_get (cl : List UInt8) (q : Nat) (r : Int) (h : q < cl.length) (he : r = (cl[q].toNat : Int)) : anyIs cl cl.length r = true := by
  unfold anyIs
  rw [List.take_length, List.any_eq_true]
  exact ⟨cl[q], List.getElem_mem h, by rw [he]; simp⟩
set_option maxRecDepth 1000000 in
set_option maxHeartbeats 2000000 in
theorem hasRune_any (set : ByteArray) (r : Int) (w : World) (hset : ∀ b ∈ set.data.toList, b.toNat < 128) (hss : set.size ≤ 1000) :
    Calls Tryz.prog 62 #[.string set, .int .i32 r] w fun e w' => e = .returned (.bool (anyIs set.data.toList set.data.toList.length r)) ∧ Below w.heap.size w w' := by
  have HS := Lib.hid hset
  clear hset
  go_enter Tryz.func62, Tryz.ntmps62
  go_wp2
  go_loopw [] (fun wi => ∃ q : Nat, Hid (anyIs set.data.toList q r = false) ∧ wi.heap[w.heap.size]? = some (.stringIter set q) ∧ Below w.heap.size w wi ∧ q ≤ set.size) (fun wi => set.size - wi.iterPos w.heap.size)
  case atStart => exact ⟨0, Lib.hid (by simp [anyIs]), World.iter_heap w set 0, (Below.refl _ w).alloc (Nat.le_refl _) _, Nat.zero_le _⟩
  case round =>
    obtain ⟨q, HA, hitq, hbq, hq⟩ := hrel
    obtain ⟨wi, rfl⟩ : ∃ wi : World, wi = wr := ⟨_, rfl⟩
    by_cases hql : q < set.size
    · have hqa : (set[q]'hql).toNat < 128 := HS.out _ (by rw [← data_get set q hql]; exact List.getElem_mem _)
      have hnq : ∀ ty, (Instr.next (.pointer (some ⟨w.heap.size, 0, none⟩)) true ty).run Tryz.prog wi = _ := fun ty => run_next_ascii_at wi w.heap.size set q ty hitq hql hqa
      have hitq2 := iterAt_heap wi w.heap.size set q (q + 1) hitq
      have hbq2 := below_iterAt hbq (Nat.le_refl _) set (q + 1)
      generalize wi.iterAt w.heap.size set (q + 1) = w3 at hnq hitq2 hbq2
      have hs1 := anyIs_succ set.data.toList q r (by simpa using hql)
      rw [data_get set q hql] at hs1
      have hm : set.size - w3.iterPos w.heap.size < set.size - wi.iterPos w.heap.size := by
        rw [iterPos_of hitq2, iterPos_of hitq]; omega
      by_cases he : ((set[q]'hql).toNat : Int) = r
      · have hres : Hid (anyIs set.data.toList set.data.toList.length r = true) := Lib.hid (anyIs_get _ q r (by simpa using hql) (by rw [data_get set q hql]; exact he.symm))
        have he' : (((set[q]'hql).toNat : Int) == r) = true := beq_iff_eq.2 he
        clear hs1 he HA
        go_wp2
        go_ret
        exact ⟨by rw [hres.out]; rfl, hbq2⟩
      · have he' : (((set[q]'hql).toNat : Int) == r) = false := beq_eq_false_iff_ne.2 he
        have HA2 : Hid (anyIs set.data.toList (q + 1) r = false) := Lib.hid (by rw [hs1, HA.out, beq_eq_false_iff_ne.2 (Ne.symm he)]; rfl)
        clear hs1 he HA
        go_wp2
        exact ⟨⟨q + 1, HA2, hitq2, hbq2, hql⟩, hm⟩
    · have hnq : ∀ ty, (Instr.next (.pointer (some ⟨w.heap.size, 0, none⟩)) true ty).run Tryz.prog wi = _ := fun ty => run_next_end_at wi w.heap.size set q ty hitq hql
      obtain rfl : q = set.data.toList.length := by simp; omega
      go_wp2
      go_ret
      exact ⟨by rw [HA.out]; rfl, hbq⟩
/-- Bytes of a set alone, one at least. -/
def ofP (s set : List UInt8) : Bool := (s != []) && s.all fun c => set.contains c
theorem all_take (s set : List UInt8) (n : Nat) (h : ∀ i (hi : i < s.length), i < n → set.contains s[i] = true) (hn : s.length ≤ n) : s.all (fun c => set.contains c) = true := by
  rw [List.all_eq_true]
  intro x hx
  obtain ⟨i, hi, rfl⟩ := List.getElem_of_mem hx
  exact h i hi (by omega)
theorem all_not (s set : List UInt8) (n : Nat) (hn : n < s.length) (h : set.contains s[n] = false) : s.all (fun c => set.contains c) = false := by
  rw [List.all_eq_false]
  exact ⟨s[n], List.getElem_mem hn, by rw [h]; simp⟩
set_option maxRecDepth 1000000 in
set_option maxHeartbeats 4000000 in
theorem of_any (s set : ByteArray) (w : World) (hs : s.size ≤ 140737488355328) (hset : ∀ b ∈ set.data.toList, b.toNat < 128) (hss : set.size ≤ 1000) :
    Calls Tryz.prog 34 #[.string s, .string set] w fun e w' => e = .returned (.bool (ofP s.data.toList set.data.toList)) ∧ Below w.heap.size w w' := by
  have HS := Lib.hid hset
  have CH := Lib.hid (fun r w' => hasRune_any set r w' hset hss)
  clear hset
  go_enter Tryz.func34, Tryz.ntmps34
  go_wp2
  go_loopw [] (fun wr => ∃ pos : Nat, wr.heap[w.heap.size]? = some (.stringIter s pos) ∧ Below w.heap.size w wr ∧ pos ≤ s.size ∧ Hid (∀ i (hi : i < s.data.toList.length), i < pos → set.data.toList.contains s.data.toList[i] = true)) (fun wr => s.size - wr.iterPos w.heap.size)
  case atStart =>
    refine ⟨0, ?_, ?_, Nat.zero_le _, Lib.hid (fun i _ hi => by omega)⟩
    · exact World.iter_heap w s 0
    · exact (Below.refl _ w).alloc (Nat.le_refl _) _
  case round =>
    obtain ⟨pos, hit, hbw, hp, hall⟩ := hrel
    obtain ⟨wo, rfl⟩ : ∃ wo : World, wo = wr := ⟨_, rfl⟩
    by_cases hlt : pos < s.size
    · have hnx : ∀ ty, (Instr.next (.pointer (some ⟨w.heap.size, 0, none⟩)) true ty).run Tryz.prog wo = _ := fun ty => run_next_any_at wo w.heap.size s pos ty hit hlt
      have hit2 := iterAt_heap wo w.heap.size s pos (pos + (Utf8.decode s pos).2) hit
      have hbw2 := below_iterAt hbw (Nat.le_refl _) s (pos + (Utf8.decode s pos).2)
      generalize wo.iterAt w.heap.size s (pos + (Utf8.decode s pos).2) = w2 at hnx hit2 hbw2
      have hz2 : w.heap.size < w2.heap.size := (Array.getElem?_eq_some_iff.1 hit2).1
      have hwd := width_pos s pos hlt
      have hin : anyIs set.data.toList set.data.toList.length ((Utf8.decode s pos).1 : Int) = set.data.toList.contains s.data.toList[pos] ∧ (set.data.toList.contains s.data.toList[pos] = true → (Utf8.decode s pos).2 = 1) := by
        by_cases ha : (s[pos]'hlt).toNat < 128
        · rw [decode_ascii s pos hlt ha, ← data_get s pos hlt]
          exact ⟨anyIs_all _ _, fun _ => rfl⟩
        · rw [anyIs_high _ _ HS.out (by have := (decode_high s pos hlt (by omega)).1; omega)]
          have : set.data.toList.contains s.data.toList[pos] = false := by
            rw [Bool.eq_false_iff]
            intro hc
            have := HS.out _ (List.contains_iff_mem.1 hc)
            rw [data_get s pos hlt] at this
            omega
          rw [this]
          exact ⟨rfl, fun h => by cases h⟩
      have HIN := Lib.hid hin
      clear hin
      generalize hpos2 : pos + (Utf8.decode s pos).2 = pos2 at hit2
      have HP2 := Lib.hid hpos2
      clear hpos2
      have C := CH.out ((Utf8.decode s pos).1 : Int)
      generalize hr : ((Utf8.decode s pos).1 : Int) = r at hnx HIN C
      clear hr
      have hpp : pos < pos2 := by have := HP2.out; omega
      rw [HIN.out.1] at C
      have CX := Lib.hid C
      clear C
      cases hb : set.data.toList.contains s.data.toList[pos] with
      | true =>
        rw [hb] at CX
        have hw1 := HIN.out.2 hb
        have hall2 : Hid (∀ i (hi : i < s.data.toList.length), i < pos2 → set.data.toList.contains s.data.toList[i] = true) := Lib.hid (fun i hi h => by
          by_cases e : i = pos
          · subst e; exact hb
          · exact hall.out i hi (by have := HP2.out; omega))
        have hpz : pos2 ≤ s.size := by have := HP2.out; omega
        clear hall HIN hb hw1
        go_wp2_with (go_at_call 62; refine (CX.out _).mono ?_; rintro e wi ⟨rfl, hbq⟩)
        have hitw : wi.heap[w.heap.size]? = some (.stringIter s pos2) := by rw [hbq.block _ hz2]; exact hit2
        have hbwi : Below w.heap.size w wi := hbw2.trans (hbq.mono (by omega))
        have hm : s.size - wi.iterPos w.heap.size < s.size - wo.iterPos w.heap.size := by
          rw [iterPos_of hitw, iterPos_of hit]; omega
        exact ⟨⟨pos2, hitw, hbwi, hpz, hall2⟩, hm⟩
      | false =>
        rw [hb] at CX
        have hr : Hid (ofP s.data.toList set.data.toList = false) := Lib.hid (by unfold ofP; rw [all_not _ _ pos (by simpa using hlt) hb, Bool.and_false])
        clear hall HIN hb
        go_wp2_with (go_at_call 62; refine (CX.out _).mono ?_; rintro e wi ⟨rfl, hbq⟩)
        go_ret
        exact ⟨by rw [hr.out]; rfl, hbw2.trans (hbq.mono (by omega))⟩
    · have hnx : ∀ ty, (Instr.next (.pointer (some ⟨w.heap.size, 0, none⟩)) true ty).run Tryz.prog wo = _ := fun ty => run_next_end_at wo w.heap.size s pos ty hit hlt
      have hal := all_take s.data.toList set.data.toList pos hall.out (by simp; omega)
      have hr : Hid (ofP s.data.toList set.data.toList = (s.data.toList != [])) := Lib.hid (by unfold ofP; rw [hal, Bool.and_true])
      clear hall hal
      go_wp2
      go_ret
      refine ⟨?_, hbw⟩
      rw [hr.out]
      simp [bne, isEmpty_data]
end Go.Proofs.YtmgkmpbblhkacaaGreatDoor
namespace Go.Proofs.YtmgkmpbblhkacaaGreatDoor
open Go.RowKit
set_option linter.unusedSimpArgs false
set_option linter.unusedVariables false

/-- A letter made lower case. -/
def lowR (r : Int) : Int := if 65 ≤ r ∧ r ≤ 90 then r + 32 else r
def lowS (l : Bs) : Bs := Lib.mapD lowR l
theorem encode_four (z : Int) : (Lib.encodeRune z).length ≤ 4 := by
  unfold Lib.encodeRune Lib.encodeRuneZ
  rw [List.length_map]
  repeat' split
  all_goals simp
theorem lowS_step (l : Bs) (hne : l ≠ []) : lowS l = (if 0 ≤ lowR (Lib.decodeL l).1 then Lib.encodeRune (lowR (Lib.decodeL l).1) else []) ++ lowS (l.drop (Lib.decodeL l).2) := Lib.mapD_step lowR l hne
theorem lowS_nil : lowS [] = [] := Lib.mapD_nil lowR
theorem lowS_len : ∀ (n : Nat) (l : Bs), l.length ≤ n → (lowS l).length ≤ 4 * l.length
  | 0, l, hn => by
    obtain rfl := List.eq_nil_of_length_eq_zero (Nat.le_zero.1 hn)
    rw [lowS_nil]; simp
  | n + 1, l, hn => by
    by_cases hne : l = []
    · subst hne
      rw [lowS_nil]; simp
    · have hw := Lib.decodeL_width l
      have hle := Lib.decodeL_le l hne
      have ih := lowS_len n (l.drop (Lib.decodeL l).2) (by rw [List.length_drop]; omega)
      rw [List.length_drop] at ih
      rw [lowS_step l hne, List.length_append]
      have hh : (if 0 ≤ lowR (Lib.decodeL l).1 then Lib.encodeRune (lowR (Lib.decodeL l).1) else []).length ≤ 4 := by
        split
        · exact encode_four _
        · simp
      omega
set_option maxRecDepth 1000000 in
theorem lower1_at (x : Nat) (W : World) : FnGives Tryz.prog 38 #[] #[encR x] (.int .i32 (lowR x)) W := by
  by_cases h1 : 65 ≤ x
  · by_cases h2 : x ≤ 90
    · have hr : lowR x = (x : Int) + 32 := by unfold lowR; rw [if_pos (by omega)]
      have m1 : IntKind.i32.wrap ((x : Int) + 32) = (x : Int) + 32 := IntWalk.i32_in _ (by omega) 
      have b1 : (65 : Int) ≤ (x : Int) := by omega
      have b2 : (x : Int) ≤ 90 := by omega
      rw [hr]
      unfold FnGives
      go_enter Tryz.func38, Tryz.ntmps38
      go_wp2
      go_ret
      exact ⟨rfl, 0, rfl⟩
    · have hr : lowR x = (x : Int) := by unfold lowR; rw [if_neg (by omega)]
      have b1 : (65 : Int) ≤ (x : Int) := by omega
      have b2 : ¬ (x : Int) ≤ 90 := by omega
      rw [hr]
      unfold FnGives
      go_enter Tryz.func38, Tryz.ntmps38
      go_wp2
      go_ret
      exact ⟨rfl, 0, rfl⟩
  · have hr : lowR x = (x : Int) := by unfold lowR; rw [if_neg (by omega)]
    have b1 : ¬ (65 : Int) ≤ (x : Int) := by omega
    rw [hr]
    unfold FnGives
    go_enter Tryz.func38, Tryz.ntmps38
    go_wp2
    go_ret
    exact ⟨rfl, 0, rfl⟩
theorem lib_Map (s : ByteArray) (w : World) (hs : s.size ≤ 1000000) (hG : GL w) :
    Calls Tryz.prog 37 #[.func (.func 38) #[] #[], .string s] w fun e w' => e = .returned (.string (strOf (lowS s.data.toList))) ∧ Below w.heap.size w w' :=
  Tryz.strings_Map_runes 38 #[] (enters_of Tryz.func38 (by kernel_rfl) rfl) lowR s w (by omega) (fun W x _ _ => lower1_at x W) (fun x hx => by unfold lowR; split <;> omega) hG.utf8
set_option maxRecDepth 1000000 in
theorem lower_any (s : ByteArray) (w : World) (hs : s.size ≤ 1000000) (hG : GL w) :
    Calls Tryz.prog 23 #[.string s] w fun e w' => e = .returned (.string (strOf (lowS s.data.toList))) ∧ Below w.heap.size w w' := by
  have C := Lib.hid (lib_Map s w hs hG)
  go_enter Tryz.func23, Tryz.ntmps23
  go_wp2_with (go_at_call 37; refine C.out.mono ?_; rintro e w1 ⟨rfl, hb⟩)
  go_ret
  exact ⟨rfl, hb⟩
end Go.Proofs.YtmgkmpbblhkacaaGreatDoor
namespace Go.Proofs.YtmgkmpbblhkacaaGreatDoor
open Go.RowKit
set_option linter.unusedSimpArgs false
set_option linter.unusedVariables false

def letterS : Bs := [97, 98, 99, 100, 101, 102, 103, 104, 105, 106, 107, 108, 109, 110, 111, 112, 113, 114, 115, 116, 117, 118, 119, 120, 121, 122, 65, 66, 67, 68, 69, 70, 71, 72, 73, 74, 75, 76, 77, 78, 79, 80, 81, 82, 83, 84, 85, 86, 87, 88, 89, 90]
def digitS : Bs := [48, 49, 50, 51, 52, 53, 54, 55, 56, 57]
def wordS : Bs := [97, 98, 99, 100, 101, 102, 103, 104, 105, 106, 107, 108, 109, 110, 111, 112, 113, 114, 115, 116, 117, 118, 119, 120, 121, 122, 65, 66, 67, 68, 69, 70, 71, 72, 73, 74, 75, 76, 77, 78, 79, 80, 81, 82, 83, 84, 85, 86, 87, 88, 89, 90, 48, 49, 50, 51, 52, 53, 54, 55, 56, 57, 45]
def nameS : Bs := [97, 98, 99, 100, 101, 102, 103, 104, 105, 106, 107, 108, 109, 110, 111, 112, 113, 114, 115, 116, 117, 118, 119, 120, 121, 122, 65, 66, 67, 68, 69, 70, 71, 72, 73, 74, 75, 76, 77, 78, 79, 80, 81, 82, 83, 84, 85, 86, 87, 88, 89, 90, 48, 49, 50, 51, 52, 53, 54, 55, 56, 57, 43, 45, 46]
def baseS : Bs := [97, 98, 99, 100, 101, 102, 103, 104, 105, 106, 107, 108, 109, 110, 111, 112, 113, 114, 115, 116, 117, 118, 119, 120, 121, 122, 65, 66, 67, 68, 69, 70, 71, 72, 73, 74, 75, 76, 77, 78, 79, 80, 81, 82, 83, 84, 85, 86, 87, 88, 89, 90, 48, 49, 50, 51, 52, 53, 54, 55, 56, 57, 43, 47, 45, 95]
theorem wordS_low : ∀ b ∈ (⟨wordS.toArray⟩ : ByteArray).data.toList, b.toNat < 128 := by decide
theorem nameS_low : ∀ b ∈ (⟨nameS.toArray⟩ : ByteArray).data.toList, b.toNat < 128 := by decide
theorem baseS_low : ∀ b ∈ (⟨baseS.toArray⟩ : ByteArray).data.toList, b.toNat < 128 := by decide
theorem digitS_low : ∀ b ∈ (⟨digitS.toArray⟩ : ByteArray).data.toList, b.toNat < 128 := by decide
theorem of_word (s : ByteArray) (w : World) (hs : s.size ≤ 1000000) :
    Calls Tryz.prog 34 #[.string s, .string ⟨wordS.toArray⟩] w fun e w' => e = .returned (.bool (ofP s.data.toList wordS)) ∧ Below w.heap.size w w' :=
  of_any s ⟨wordS.toArray⟩ w (by omega) wordS_low (by decide)
theorem of_name (s : ByteArray) (w : World) (hs : s.size ≤ 1000000) :
    Calls Tryz.prog 34 #[.string s, .string ⟨nameS.toArray⟩] w fun e w' => e = .returned (.bool (ofP s.data.toList nameS)) ∧ Below w.heap.size w w' :=
  of_any s ⟨nameS.toArray⟩ w (by omega) nameS_low (by decide)
theorem of_base (s : ByteArray) (w : World) (hs : s.size ≤ 1000000) :
    Calls Tryz.prog 34 #[.string s, .string ⟨baseS.toArray⟩] w fun e w' => e = .returned (.bool (ofP s.data.toList baseS)) ∧ Below w.heap.size w w' :=
  of_any s ⟨baseS.toArray⟩ w (by omega) baseS_low (by decide)
theorem of_digit (s : ByteArray) (w : World) (hs : s.size ≤ 1000000) :
    Calls Tryz.prog 34 #[.string s, .string ⟨digitS.toArray⟩] w fun e w' => e = .returned (.bool (ofP s.data.toList digitS)) ∧ Below w.heap.size w w' :=
  of_any s ⟨digitS.toArray⟩ w (by omega) digitS_low (by decide)
/-- Without a = at the end. -/
def trimE (l : Bs) : Bs := Lib.trimSuffix l [61]
def valueP (l : Bs) : Bool := ofP (trimE (trimE l)) baseS
theorem trimE_len (l : Bs) : (trimE l).length ≤ l.length := by
  unfold trimE Lib.trimSuffix
  split
  · simp
  · exact Nat.le_refl _
theorem lib_TrimEq (s : ByteArray) (w : World) (hs : s.size ≤ 1000000) :
    Calls Tryz.prog 61 #[.string s, .string ⟨#[61]⟩] w fun e w' => e = .returned (.string (strOf (trimE s.data.toList))) ∧ w = w' :=
  (Tryz.strings_TrimSuffix s ⟨#[61]⟩ w (by omega)).mono fun _ _ ⟨h, h2⟩ => ⟨h, h2.symm⟩
set_option maxRecDepth 1000000 in
set_option maxHeartbeats 1000000 in
theorem sourceValue_any (s : ByteArray) (w : World) (hs : s.size ≤ 1000000) :
    Calls Tryz.prog 33 #[.string s] w fun e w' => e = .returned (.bool (valueP s.data.toList)) ∧ Below w.heap.size w w' := by
  obtain ⟨l, hl⟩ : ∃ l, s.data.toList = l := ⟨_, rfl⟩
  obtain ⟨a, ha⟩ : ∃ a, strOf (trimE l) = a := ⟨_, rfl⟩
  obtain ⟨b, hb⟩ : ∃ b, strOf (trimE (trimE l)) = b := ⟨_, rfl⟩
  have z0 := trimE_len l
  have z1 := trimE_len (trimE l)
  have hlz : l.length = s.size := by rw [← hl, ← Lib.size_eq]
  have az : a.size ≤ 1000000 := by rw [← ha, strOf_size]; omega
  have bz : b.size ≤ 1000000 := by rw [← hb, strOf_size]; omega
  have C1 : ∀ w', Calls Tryz.prog 61 #[.string s, .string ⟨#[61]⟩] w' fun e w'' => e = .returned (.string a) ∧ w' = w'' := by
    intro w'; have := lib_TrimEq s w' hs; rw [hl, ha] at this; exact this
  have C2 : ∀ w', Calls Tryz.prog 61 #[.string a, .string ⟨#[61]⟩] w' fun e w'' => e = .returned (.string b) ∧ w' = w'' := by
    intro w'; have := lib_TrimEq a w' az; rw [← ha, strOf_data, hb, ha] at this; exact this
  have C3 : ∀ w', Calls Tryz.prog 34 #[.string b, .string ⟨baseS.toArray⟩] w' fun e w'' => e = .returned (.bool (valueP l)) ∧ Below w'.heap.size w' w'' := by
    intro w'; have := of_base b w' bz; rw [← hb, strOf_data, hb] at this; exact this
  have H1 := Lib.hid C1
  have H2 := Lib.hid C2
  have H3 := Lib.hid C3
  have HL := Lib.hid hl
  clear C1 C2 C3 ha hb hl hlz z0 z1
  rw [HL.out]
  go_enter Tryz.func33, Tryz.ntmps33
  go_wp2
  refine wp_loop_rounds 3 ?_
  rw [rounds_succ]
  go_wp2_with (go_at_call 61; with_reducible refine (H1.out _).mono ?_; rintro e w1 ⟨rfl, rfl⟩)
  rw [rounds_succ]
  go_wp2_with (go_at_call 61; with_reducible refine (H2.out _).mono ?_; rintro e w1 ⟨rfl, rfl⟩)
  rw [rounds_succ]
  go_wp2_with (go_at_call 34; refine (H3.out _).mono ?_; rintro e w1 ⟨rfl, hb1⟩)
  go_ret
  exact ⟨rfl, hb1⟩
/-- Is it a scheme? -/
def schemeP (l : Bs) : Bool := ofP l nameS && Lib.contains letterS (l.take 1)
set_option maxRecDepth 1000000 in
set_option maxHeartbeats 1000000 in
theorem sourceScheme_any (s : ByteArray) (w : World) (hs : s.size ≤ 1000000) (hG : GL w) :
    Calls Tryz.prog 22 #[.string s] w fun e w' => e = .returned (.bool (schemeP s.data.toList)) ∧ Below w.heap.size w w' := by
  have C1 : ∀ w', Calls Tryz.prog 34 #[.string s, .string ⟨nameS.toArray⟩] w' fun e w'' => e = .returned (.bool (ofP s.data.toList nameS)) ∧ Below w'.heap.size w' w'' := fun w' => of_name s w' hs
  have C2 : ∀ w', GL w' → Calls Tryz.prog 36 #[.string ⟨letterS.toArray⟩, .string (s.extract 0 1)] w' fun e w'' => e = .returned (.bool (Lib.contains letterS (s.data.toList.take 1))) ∧ w' = w'' := by
    intro w' hG'
    have := lib_Contains ⟨letterS.toArray⟩ (s.extract 0 1) w' hG' (by decide)
    have e1 : (s.extract 0 1).data.toList = s.data.toList.take 1 := by rw [extract_strOf, strOf_data]; simp
    rw [e1] at this
    exact this
  have H1 := Lib.hid C1
  have H2 := Lib.hid C2
  clear C1 C2
  have hGL := Lib.hid hG
  clear hG
  cases ho : ofP s.data.toList nameS with
  | false =>
    rw [ho] at H1
    have hr : Hid (schemeP s.data.toList = false) := Lib.hid (by unfold schemeP; rw [ho]; rfl)
    clear ho
    go_enter Tryz.func22, Tryz.ntmps22
    go_wp2_with (go_at_call 34; refine (H1.out _).mono ?_; rintro e w1 ⟨rfl, hb1⟩)
    go_ret
    exact ⟨by rw [hr.out]; rfl, hb1⟩
  | true =>
    rw [ho] at H1
    have hr : Hid (schemeP s.data.toList = Lib.contains letterS (s.data.toList.take 1)) := Lib.hid (by unfold schemeP; rw [ho]; rfl)
    have hz : 1 ≤ s.size := by
      rw [Lib.size_eq]
      refine List.length_pos_iff.2 ?_
      intro h
      rw [h] at ho
      exact absurd ho (by decide)
    have hz' : (1 : Int) ≤ (s.size : Int) := by omega
    clear ho
    go_enter Tryz.func22, Tryz.ntmps22
    go_wp2_with (first | (go_at_call 34; refine (H1.out _).mono ?_; rintro e w1 ⟨rfl, hb1⟩) | (go_at_call 36; refine (H2.out _ (hGL.out.below hb1)).mono ?_; rintro e w2 ⟨rfl, rfl⟩))
    go_ret
    exact ⟨by rw [hr.out]; rfl, hb1⟩
end Go.Proofs.YtmgkmpbblhkacaaGreatDoor
namespace Go.Proofs.YtmgkmpbblhkacaaGreatDoor
open Go.RowKit
set_option linter.unusedSimpArgs false
set_option linter.unusedVariables false

set_option maxRecDepth 1000000 in
theorem labels1_any (s : ByteArray) (w : World) (hs : s.size ≤ 1000000) :
    Calls Tryz.prog 78 #[.string s] w fun e w' => e = .returned (.bool (!ofP s.data.toList wordS)) ∧ Below w.heap.size w w' := by
  have C := Lib.hid (fun w' => of_word s w' hs)
  cases hb : ofP s.data.toList wordS with
  | true =>
    rw [hb] at C
    clear hb
    go_enter Tryz.func78, Tryz.ntmps78
    go_wp2_with (go_at_call 34; refine (C.out _).mono ?_; rintro e w1 ⟨rfl, hb⟩)
    go_ret
    exact ⟨rfl, hb⟩
  | false =>
    rw [hb] at C
    clear hb
    go_enter Tryz.func78, Tryz.ntmps78
    go_wp2_with (go_at_call 34; refine (C.out _).mono ?_; rintro e w1 ⟨rfl, hb⟩)
    go_ret
    exact ⟨rfl, hb⟩
theorem all_of_get (ps : List Bs) (f : Bs → Bool) (n : Nat) (h : ∀ i (hi : i < ps.length), i < n → f ps[i] = true) (hn : ps.length ≤ n) : ps.all f = true := by
  rw [List.all_eq_true]
  intro x hx
  obtain ⟨i, hi, rfl⟩ := List.getElem_of_mem hx
  exact h i hi (by omega)
theorem not_all_get (ps : List Bs) (f : Bs → Bool) (n : Nat) (hn : n < ps.length) (h : f ps[n] = false) : ps.all f = false := by
  rw [List.all_eq_false]
  exact ⟨ps[n], List.getElem_mem hn, by rw [h]; simp⟩
set_option maxRecDepth 1000000 in
set_option maxHeartbeats 2000000 in
theorem indexFunc_labels (ps : List Bs) (b : Nat) (w : World) (hS : Strs w b ps) (hps : ∀ p ∈ ps, p.length ≤ 1000000) (hl : ps.length ≤ 1000001) :
    Calls Tryz.prog 108 #[.slice (some ⟨b, 0, none⟩) ps.length ps.length, .func (.func 78) #[] #[]] w fun e w' => (∃ z : Int, e = .returned (.int .i64 z) ∧ -1 ≤ z ∧ decide (0 ≤ z) = !(ps.all fun p => ofP p wordS)) ∧ Below w.heap.size w w' := by
  have HS := Lib.hid hS
  have HP := Lib.hid hps
  clear hS hps
  go_enter Tryz.func108, Tryz.ntmps108
  go_wp2
  go_loopw [8] (fun v wr => ∃ i : Nat, v = .int .i64 i ∧ i ≤ ps.length ∧ Below w.heap.size w wr ∧ Hid (∀ j (hj : j < ps.length), j < i → ofP ps[j] wordS = true)) (fun v _ => ps.length - (intOf v).toNat)
  case atStart => exact ⟨0, rfl, by omega, Below.refl _ _, Lib.hid (fun j _ hj => by omega)⟩
  case round =>
    obtain ⟨i, rfl, hi, hbw, hall⟩ := hrel
    obtain ⟨wo, rfl⟩ : ∃ wo : World, wo = wr := ⟨_, rfl⟩
    by_cases hlt : i < ps.length
    · have hc := ((HS.out.below hbw).cell i ps[i] (List.getElem?_eq_getElem hlt))
      have hpz := HP.out ps[i] (List.getElem_mem hlt)
      have C := fun w' => labels1_any (strOf ps[i]) w' (by rw [strOf_size]; exact hpz)
      rw [strOf_data] at C
      have m1 : IntKind.i64.wrap ((i : Int) + 1) = (i : Int) + 1 := IntWalk.i64_in _ (by omega)
      cases hb : ofP ps[i] wordS with
      | true =>
        rw [hb] at C
        have HC := Lib.hid C
        have hall2 : Hid (∀ j (hj : j < ps.length), j < i + 1 → ofP ps[j] wordS = true) := Lib.hid (fun j hj h => by
          by_cases e : j = i
          · subst e; exact hb
          · exact hall.out j hj (by omega))
        clear hb C hall
        go_wp2_with (go_at_call 78; refine (HC.out _).mono ?_; rintro e w1 ⟨rfl, hb1⟩)
        exact ⟨⟨i + 1, rfl, by omega, hbw.trans (hb1.mono hbw.size), hall2⟩, by simp [intOf]; omega⟩
      | false =>
        rw [hb] at C
        have HC := Lib.hid C
        have hr : Hid (ps.all (fun p => ofP p wordS) = false) := Lib.hid (not_all_get _ _ i hlt hb)
        clear hb C hall
        go_wp2_with (go_at_call 78; refine (HC.out _).mono ?_; rintro e w1 ⟨rfl, hb1⟩)
        go_ret
        exact ⟨⟨(i : Int), rfl, by omega, by rw [hr.out]; simp⟩, hbw.trans (hb1.mono hbw.size)⟩
    · have hr : Hid (ps.all (fun p => ofP p wordS) = true) := Lib.hid (all_of_get _ _ i hall.out (by omega))
      have hge : (ps.length : Int) ≤ (i : Int) := by omega
      clear hall
      go_wp2
      go_ret
      exact ⟨⟨-1, rfl, by omega, by rw [hr.out]; rfl⟩, hbw⟩
/-- Some, parted by dots. -/
def labelsP (l : Bs) : Bool := (split1 46 l).all fun p => ofP p wordS
set_option maxRecDepth 1000000 in
set_option maxHeartbeats 1000000 in
theorem labels_any (s : ByteArray) (w : World) (hs : s.size ≤ 1000000) (hG : GL w) :
    Calls Tryz.prog 43 #[.string s] w fun e w' => e = .returned (.bool (labelsP s.data.toList)) ∧ Below w.heap.size w w' := by
  have C1 := lib_Split1 s 46 w hs hG
  obtain ⟨ps, hps⟩ : ∃ ps, split1 46 s.data.toList = ps := ⟨_, rfl⟩
  have hle := split1_len_le 46 s.data.toList
  have hmem := split1_mem_le 46 s.data.toList
  rw [hps] at C1 hle hmem
  rw [← Lib.size_eq] at hle
  have hl : ps.length ≤ 1000001 := by omega
  have hmem' : ∀ p ∈ ps, p.length ≤ 1000000 := fun p hp => by have := hmem p hp; rw [← Lib.size_eq] at this; omega
  have hr : Hid (labelsP s.data.toList = ps.all fun p => ofP p wordS) := Lib.hid (by unfold labelsP; rw [hps])
  have H1 := Lib.hid C1
  have HM := Lib.hid hmem'
  clear hps hle hmem C1 hmem'
  have C2 : Hid (∀ w', Strs w' w.heap.size ps → Calls Tryz.prog 76 #[.slice (some ⟨w.heap.size, 0, none⟩) ps.length ps.length, .func (.func 78) #[] #[]] w' fun e w'' => e = .returned (.bool (!(ps.all fun p => ofP p wordS))) ∧ Below w'.heap.size w' w'') := by
    refine Lib.hid fun w' hS => ?_
    have HI := Lib.hid (indexFunc_labels ps w.heap.size w' hS HM.out hl)
    clear hr H1
    go_enter Tryz.func76, Tryz.ntmps76
    go_wp2_with (go_at_call 108; refine HI.out.mono ?_; rintro e w1 ⟨⟨z, rfl, hz, hzb⟩, hb1⟩)
    go_ret
    refine ⟨?_, hb1⟩
    rw [← hzb]
    rfl
  cases hb : ps.all (fun p => ofP p wordS) with
  | true =>
    rw [hb] at C2 hr
    clear hb
    go_enter Tryz.func43, Tryz.ntmps43
    go_wp2_with (first | (go_at_call 77; refine H1.out.mono ?_; rintro e w1 ⟨rfl, hS1, hb1⟩) | (go_at_call 76; refine (C2.out _ hS1).mono ?_; rintro e w2 ⟨rfl, hb2⟩))
    go_ret
    exact ⟨by rw [hr.out]; rfl, hb1.trans (hb2.mono hb1.size)⟩
  | false =>
    rw [hb] at C2 hr
    clear hb
    go_enter Tryz.func43, Tryz.ntmps43
    go_wp2_with (first | (go_at_call 77; refine H1.out.mono ?_; rintro e w1 ⟨rfl, hS1, hb1⟩) | (go_at_call 76; refine (C2.out _ hS1).mono ?_; rintro e w2 ⟨rfl, hb2⟩))
    go_ret
    exact ⟨by rw [hr.out]; rfl, hb1.trans (hb2.mono hb1.size)⟩
end Go.Proofs.YtmgkmpbblhkacaaGreatDoor
namespace Go.Proofs.YtmgkmpbblhkacaaGreatDoor
open Go.RowKit
set_option linter.unusedSimpArgs false
set_option linter.unusedVariables false

/-- What strconv.Atoi makes of a text. -/
def atoiO (l : Bs) : Option Int := match Lib.atoiAll l with | .ok v => some v | _ => none
def AtoiEnd (l : Bs) (e : Ending) : Prop := (∃ n, atoiO l = some n ∧ e = .returned (.tuple #[.int .i64 n, .nilIface])) ∨ (atoiO l = none ∧ ∃ n T p, e = .returned (.tuple #[.int .i64 n, .iface T p]))
theorem lib_Atoi (s : ByteArray) (w : World) (hs : s.size ≤ 1000000) (hG : GL w) :
    Calls Tryz.prog 75 #[.string s] w fun e w' => AtoiEnd s.data.toList e ∧ Below w.heap.size w w' := by
  obtain ⟨te, pe, he1⟩ := hG.esyn
  obtain ⟨tf, pf, he2⟩ := hG.eran
  rcases hx : Lib.atoiAll s.data.toList with v | _ | _
  · refine (Tryz.strconv_Atoi_ok s (by omega) v hx w).mono fun e w' ⟨h1, h2⟩ => ⟨Or.inl ⟨v, by unfold atoiO; rw [hx], h1⟩, ?_⟩
    rcases h2 with rfl | ⟨t, rfl⟩
    · exact Below.refl _ _
    · exact Lib.bytesWorld_below _ _ _
  · refine (Any.strconv_Atoi_syntax Tryz.laysC172 s (by omega) hx _ w he1 (Or.inr ⟨te, pe, rfl⟩)).mono fun e w' ⟨N, h1, _, _, hb⟩ => ⟨Or.inr ⟨by unfold atoiO; rw [hx], _, _, _, h1⟩, hb⟩
  · refine (Any.strconv_Atoi_range Tryz.laysC172 s (by omega) hx _ w he2 (Or.inr ⟨tf, pf, rfl⟩)).mono fun e w' ⟨N, h1, _, _, hb⟩ => ⟨Or.inr ⟨by unfold atoiO; rw [hx], _, _, _, h1⟩, hb⟩
/-- A source's port: none: it is no port. -/
def portS (l : Bs) : Option Int :=
  if l = [42] then some (-2)
  else match atoiO l with
    | some n => if ofP l digitS = true ∧ l.length ≤ 5 ∧ n ≤ 65535 then some n else none
    | none => none
def PortEnd (r : Option Int) (e : Ending) : Prop :=
  match r with
  | some n => e = .returned (.tuple #[.int .i64 n, .bool true])
  | none => ∃ n, e = .returned (.tuple #[.int .i64 n, .bool false])
set_option maxRecDepth 1000000 in
set_option maxHeartbeats 1000000 in
theorem sourcePort_any (s : ByteArray) (w : World) (hs : s.size ≤ 1000000) (hG : GL w) :
    Calls Tryz.prog 42 #[.string s] w fun e w' => PortEnd (portS s.data.toList) e ∧ Below w.heap.size w w' := by
  by_cases h1 : s.data.toList = [42]
  · have hr : Hid (portS s.data.toList = some (-2)) := Lib.hid (by unfold portS; rw [if_pos h1])
    have hs2 : s = ⟨#[42]⟩ := str_of s [42] h1
    subst hs2
    clear h1
    go_enter Tryz.func42, Tryz.ntmps42
    go_wp2
    exact bodyPost_ret (v := .tuple #[.int .i64 (-2), .bool true]) (by simp [results, Tryz.results42, go_sem]) rfl ⟨by rw [hr.out]; exact rfl, Below.refl _ _⟩
  · have hne := str_ne s [42] h1
    have CA := Lib.hid (lib_Atoi s w hs hG)
    have CO := Lib.hid (fun w' => of_digit s w' hs)
    have hlen := Lib.size_eq s
    cases ha : atoiO s.data.toList with
    | none =>
      have hr : Hid (portS s.data.toList = none) := Lib.hid (by unfold portS; rw [if_neg h1, ha])
      have CA2 : Hid (Calls Tryz.prog 75 #[.string s] w fun e w' => (∃ n T p, e = .returned (.tuple #[.int .i64 n, .iface T p])) ∧ Below w.heap.size w w') := by
        refine Lib.hid (CA.out.mono ?_)
        rintro e w' ⟨h, hb⟩
        rcases h with ⟨n, h2, _⟩ | ⟨_, h2⟩
        · rw [ha] at h2; cases h2
        · exact ⟨h2, hb⟩
      clear h1 ha hlen CA
      go_enter Tryz.func42, Tryz.ntmps42
      go_wp2_with (first | (go_at_call 75; refine CA2.out.mono ?_; rintro e w1 ⟨⟨n, T, p, rfl⟩, hb1⟩))
      exact bodyPost_ret (v := .tuple #[.int .i64 n, .bool false]) (by simp [results, Tryz.results42, go_sem]) rfl ⟨by rw [hr.out]; exact ⟨_, rfl⟩, hb1⟩
    | some n =>
      have CA2 : Hid (Calls Tryz.prog 75 #[.string s] w fun e w' => e = .returned (.tuple #[.int .i64 n, .nilIface]) ∧ Below w.heap.size w w') := by
        refine Lib.hid (CA.out.mono ?_)
        rintro e w' ⟨h, hb⟩
        rcases h with ⟨m, h2, h3⟩ | ⟨h2, _⟩
        · rw [ha] at h2; cases h2; exact ⟨h3, hb⟩
        · rw [ha] at h2; cases h2
      have hp : Hid (portS s.data.toList = if ofP s.data.toList digitS = true ∧ s.size ≤ 5 ∧ n ≤ 65535 then some n else none) := Lib.hid (by unfold portS; rw [if_neg h1, ha, hlen])
      clear h1 ha hlen CA
      cases hd : ofP s.data.toList digitS with
      | false =>
        have hr : Hid (portS s.data.toList = none) := Lib.hid (by rw [hp.out, hd, if_neg (by simp)])
        rw [hd] at CO
        clear hd hp
        go_enter Tryz.func42, Tryz.ntmps42
        go_wp2_with (first | (go_at_call 75; refine CA2.out.mono ?_; rintro e w1 ⟨rfl, hb1⟩) | (go_at_call 34; refine (CO.out _).mono ?_; rintro e w2 ⟨rfl, hb2⟩))
        exact bodyPost_ret (v := .tuple #[.int .i64 n, .bool false]) (by simp [results, Tryz.results42, go_sem]) rfl ⟨by rw [hr.out]; exact ⟨_, rfl⟩, hb1.trans (hb2.mono hb1.size)⟩
      | true =>
        rw [hd] at CO
        by_cases h5 : s.size ≤ 5
        · have h5' : (s.size : Int) ≤ 5 := by omega
          by_cases h6 : n ≤ 65535
          · have hr : Hid (portS s.data.toList = some n) := Lib.hid (by rw [hp.out, hd, if_pos ⟨rfl, h5, h6⟩])
            clear hd hp
            go_enter Tryz.func42, Tryz.ntmps42
            go_wp2_with (first | (go_at_call 75; refine CA2.out.mono ?_; rintro e w1 ⟨rfl, hb1⟩) | (go_at_call 34; refine (CO.out _).mono ?_; rintro e w2 ⟨rfl, hb2⟩))
            exact bodyPost_ret (v := .tuple #[.int .i64 n, .bool true]) (by simp [results, Tryz.results42, go_sem]) rfl ⟨by rw [hr.out]; exact rfl, hb1.trans (hb2.mono hb1.size)⟩
          · have hr : Hid (portS s.data.toList = none) := Lib.hid (by rw [hp.out, if_neg (by rintro ⟨_, _, h⟩; exact h6 h)])
            clear hd hp
            go_enter Tryz.func42, Tryz.ntmps42
            go_wp2_with (first | (go_at_call 75; refine CA2.out.mono ?_; rintro e w1 ⟨rfl, hb1⟩) | (go_at_call 34; refine (CO.out _).mono ?_; rintro e w2 ⟨rfl, hb2⟩))
            exact bodyPost_ret (v := .tuple #[.int .i64 n, .bool false]) (by simp [results, Tryz.results42, go_sem]; omega) rfl ⟨by rw [hr.out]; exact ⟨_, rfl⟩, hb1.trans (hb2.mono hb1.size)⟩
        · have h5' : ¬ (s.size : Int) ≤ 5 := by omega
          have hr : Hid (portS s.data.toList = none) := Lib.hid (by rw [hp.out, if_neg (by rintro ⟨_, h, _⟩; exact h5 h)])
          clear hd hp
          go_enter Tryz.func42, Tryz.ntmps42
          go_wp2_with (first | (go_at_call 75; refine CA2.out.mono ?_; rintro e w1 ⟨rfl, hb1⟩) | (go_at_call 34; refine (CO.out _).mono ?_; rintro e w2 ⟨rfl, hb2⟩))
          exact bodyPost_ret (v := .tuple #[.int .i64 n, .bool false]) (by simp [results, Tryz.results42, go_sem]) rfl ⟨by rw [hr.out]; exact ⟨_, rfl⟩, hb1.trans (hb2.mono hb1.size)⟩
/-- May a rune not be in a path? -/
def badR (r : Nat) : Bool := decide (r ≤ 32) || decide (127 ≤ r) || [63, 35, 59, 44].contains (UInt8.ofNat r)
theorem lib_ContainsRune (s : ByteArray) (r : Nat) (w : World) (h1 : r < 128) :
    Calls Tryz.prog 74 #[.string s, .int .i32 r] w fun e w' => e = .returned (.bool (decide (0 ≤ Lib.indexByte s.data.toList r.toUInt8))) ∧ w = w' :=
  (Tryz.strings_ContainsRune_ascii s r w (by omega) (by omega)).mono fun _ _ ⟨h, h2⟩ => ⟨by rw [h]; rfl, h2.symm⟩
theorem four_idx : ∀ r : Fin 128, decide (0 ≤ Lib.indexByte [63, 35, 59, 44] r.val.toUInt8) = [63, 35, 59, 44].contains (UInt8.ofNat r.val) := by decide
set_option maxRecDepth 1000000 in
theorem sourcePath_at (x : Nat) (W : World) : FnGives Tryz.prog 41 #[] #[encR x] (.bool (badR x)) W := by
  by_cases h1 : x ≤ 32
  · have hr : badR x = true := by unfold badR; rw [decide_eq_true h1]; rfl
    have b1 : (x : Int) ≤ 32 := by omega
    rw [hr]
    unfold FnGives
    go_enter Tryz.func41, Tryz.ntmps41
    go_wp2
    go_ret
    exact ⟨rfl, 0, rfl⟩
  · have b1 : ¬ (x : Int) ≤ 32 := by omega
    by_cases h2 : 127 ≤ x
    · have hr : badR x = true := by unfold badR; rw [decide_eq_true h2]; simp
      have b2 : (127 : Int) ≤ (x : Int) := by omega
      rw [hr]
      unfold FnGives
      go_enter Tryz.func41, Tryz.ntmps41
      go_wp2
      go_ret
      exact ⟨rfl, 0, rfl⟩
    · have hr : badR x = decide (0 ≤ Lib.indexByte [63, 35, 59, 44] x.toUInt8) := by
        unfold badR; rw [decide_eq_false h1, decide_eq_false h2, four_idx ⟨x, by omega⟩]; rfl
      have b2 : ¬ (127 : Int) ≤ (x : Int) := by omega
      have C := Lib.hid (fun w' => lib_ContainsRune ⟨#[63, 35, 59, 44]⟩ x w' (by omega))
      rw [hr]
      unfold FnGives
      go_enter Tryz.func41, Tryz.ntmps41
      go_wp2_with (first | (go_at_call 74; refine (C.out _).mono ?_; rintro e w2 ⟨rfl, rfl⟩))
      go_ret
      exact ⟨rfl, 0, rfl⟩
/-- Has a path such? -/
def badP (s : ByteArray) : Bool := decide (0 ≤ Lib.idxFunc badR true s)
theorem lib_ContainsPath (s : ByteArray) (w : World) :
    Calls Tryz.prog 40 #[.string s, .func (.func 41) #[] #[]] w fun e w' => e = .returned (.bool (badP s)) ∧ Below w.heap.size w w' :=
  Tryz.strings_ContainsFunc 41 #[] (enters_of Tryz.func41 (by kernel_rfl) rfl) badR s w (fun W x _ => sourcePath_at x W)
end Go.Proofs.YtmgkmpbblhkacaaGreatDoor
