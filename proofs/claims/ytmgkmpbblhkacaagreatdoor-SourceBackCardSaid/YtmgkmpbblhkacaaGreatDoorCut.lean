/- host.cutLeft, cutRight, only: what they do, for every text and every set of ASCII bytes. -/
import Derived.Test.YtmgkmpbblhkacaaGreatDoorBase
namespace Go.Proofs.YtmgkmpbblhkacaaGreatDoor
open Go.RowKit Go.Lib
set_option linter.unusedSimpArgs false
set_option linter.unusedVariables false

/-- A text without the bytes of a set at its begin. -/
def cutL (s : List UInt8) (set : List UInt8) : List UInt8 := s.dropWhile (fun c => set.contains c)

def strOf (l : List UInt8) : ByteArray := ⟨l.toArray⟩
theorem strOf_data (l : List UInt8) : (strOf l).data.toList = l := by simp [strOf]
theorem strOf_toList (s : ByteArray) : strOf s.data.toList = s := rfl
theorem strOf_size (l : List UInt8) : (strOf l).size = l.length := by simp [strOf, ByteArray.size]
theorem extract_strOf (s : ByteArray) (a b : Nat) : s.extract a b = strOf ((s.data.toList.take b).drop a) := by
  apply ByteArray.ext
  apply Array.ext'
  rw [ByteArray.data_extract, strOf_data, Array.toList_extract, List.extract_eq_take_drop, List.drop_take]

theorem strOf_eq_empty (l : List UInt8) : strOf l = ⟨#[]⟩ ↔ l = [] := by
  constructor
  · intro h
    have := congrArg (fun b : ByteArray => b.data.toList) h
    simpa [strOf] using this
  · rintro rfl; rfl
theorem strOf_isEmpty (l : List UInt8) : (strOf l).toList.isEmpty = (l == []) := by
  rw [← decide_eq_emptyBytes, Bool.eq_iff_iff, decide_eq_true_iff, beq_iff_eq]
  exact strOf_eq_empty l
theorem isEmpty_data (s : ByteArray) : s.toList.isEmpty = (s.data.toList == []) := strOf_isEmpty s.data.toList
theorem strOf_inj {a b : List UInt8} (h : strOf a = strOf b) : a = b := by
  have := congrArg (fun b : ByteArray => b.data.toList) h
  simpa [strOf] using this

theorem width_pos (s : ByteArray) (pos : Nat) (h : pos < s.size) : 1 ≤ (Utf8.decode s pos).2 := by
  by_cases ha : (s[pos]'h).toNat < 128
  · rw [decode_ascii s pos h ha]
    exact Nat.le_refl _
  · exact (decode_high s pos h (by omega)).2

theorem data_get (s : ByteArray) (i : Nat) (h : i < s.size) : s.data.toList[i]'(by simpa using h) = s[i]'h := by
  simp [ByteArray.getElem_eq_getElem_data]

theorem dropWhile_at (p : UInt8 → Bool) (l : List UInt8) (n : Nat) (h : ∀ i (hi : i < l.length), i < n → p l[i] = true) (hn : n ≤ l.length) (hs : ∀ (hi : n < l.length), p l[n] = false) : l.dropWhile p = l.drop n := by
  induction n generalizing l with
  | zero =>
    cases l with
    | nil => rfl
    | cons a l => have := hs (by simp); simp at this; simp [List.dropWhile_cons, this]
  | succ n ih =>
    cases l with
    | nil => simp at hn
    | cons a l =>
      have h0 := h 0 (by simp) (by omega)
      simp at h0
      rw [List.dropWhile_cons, if_pos h0, List.drop_succ_cons]
      exact ih l (fun i hi hin => by have := h (i + 1) (by simp; omega) (by omega); simpa using this) (by simp at hn; omega) (fun hi => by have := hs (by simp; omega); simpa using this)

/-- Is a rune one of a set's bytes? (up to the q-th) -/
def anyIs (cl : List UInt8) (q : Nat) (r : Int) : Bool := (cl.take q).any (fun b => r == (b.toNat : Int))
theorem anyIs_succ (cl : List UInt8) (q : Nat) (r : Int) (h : q < cl.length) : anyIs cl (q + 1) r = (anyIs cl q r || (r == (cl[q].toNat : Int))) := by
  unfold anyIs
  rw [List.take_succ_eq_append_getElem h, List.any_append]
  simp
theorem anyIs_all (cl : List UInt8) (c : UInt8) : anyIs cl cl.length (c.toNat : Int) = cl.contains c := by
  unfold anyIs
  rw [List.take_length, Bool.eq_iff_iff]
  simp only [List.any_eq_true, beq_iff_eq, List.contains_iff_mem]
  constructor
  · rintro ⟨b, hb, e⟩
    have : c = b := UInt8.toNat_inj.1 (by omega)
    exact this ▸ hb
  · intro h
    exact ⟨c, h, rfl⟩
theorem anyIs_high (cl : List UInt8) (r : Int) (hcl : ∀ b ∈ cl, b.toNat < 128) (hr : 128 ≤ r) : anyIs cl cl.length r = false := by
  unfold anyIs
  rw [List.take_length, Bool.eq_false_iff]
  intro h
  simp only [List.any_eq_true, beq_iff_eq] at h
  obtain ⟨b, hb, e⟩ := h
  have := hcl b hb
  omega

set_option maxRecDepth 1000000 in
set_option maxHeartbeats 4000000 in
theorem cutLeft_any (s set : ByteArray) (w : World) (hs : s.size ≤ 140737488355328) (hset : ∀ b ∈ set.data.toList, b.toNat < 128) (hss : set.size ≤ 1000) :
    Calls Tryz.prog 168 #[.string s, .string set] w fun e w' => e = .returned (.string (strOf (cutL s.data.toList set.data.toList))) ∧ Below w.heap.size w w' := by
  have HS := Lib.hid hset
  clear hset
  go_enter Tryz.func168, Tryz.ntmps168
  go_wp2
  go_loopw [] (fun wr => ∃ pos : Nat, wr.heap[w.heap.size]? = some (.stringIter s pos) ∧ Below w.heap.size w wr ∧ pos ≤ s.size ∧ Hid (∀ i (hi : i < s.data.toList.length), i < pos → set.data.toList.contains s.data.toList[i] = true)) (fun wr => s.size - wr.iterPos w.heap.size)
  case atStart =>
    refine ⟨0, ?_, ?_, Nat.zero_le _, Lib.hid (fun i _ hi => by omega)⟩
    · exact World.iter_heap w s 0
    · exact (Below.refl _ w).alloc (Nat.le_refl _) _
  case round =>
    obtain ⟨pos, hit, hbw, hp, hall⟩ := hrel
    obtain ⟨wo, rfl⟩ : ∃ wo : World, wo = wr := ⟨_, rfl⟩
    by_cases hlt : pos < s.size
    · have hnx : ∀ ty, (Instr.next (.pointer (some ⟨w.heap.size, 0, none⟩)) true ty).run Tryz.prog wo = _ := fun ty => run_next_any_at wo w.heap.size s pos ty hit hlt
      have hit2 := iterAt_heap wo w.heap.size s pos (pos + (Utf8.decode s pos).2) hit
      have hbw2 := below_iterAt hbw (Nat.le_refl _) s (pos + (Utf8.decode s pos).2)
      generalize wo.iterAt w.heap.size s (pos + (Utf8.decode s pos).2) = w2 at hnx hit2 hbw2
      have hz2 : w.heap.size < w2.heap.size := (Array.getElem?_eq_some_iff.1 hit2).1
      have hwd := width_pos s pos hlt
      have hin : anyIs set.data.toList set.data.toList.length ((Utf8.decode s pos).1 : Int) = set.data.toList.contains s.data.toList[pos] ∧ (set.data.toList.contains s.data.toList[pos] = true → (Utf8.decode s pos).2 = 1) := by
        by_cases ha : (s[pos]'hlt).toNat < 128
        · rw [decode_ascii s pos hlt ha, ← data_get s pos hlt]
          exact ⟨anyIs_all _ _, fun _ => rfl⟩
        · rw [anyIs_high _ _ HS.out (by have := (decode_high s pos hlt (by omega)).1; omega)]
          have : set.data.toList.contains s.data.toList[pos] = false := by
            rw [Bool.eq_false_iff]
            intro hc
            have := HS.out _ (List.contains_iff_mem.1 hc)
            rw [data_get s pos hlt] at this
            omega
          rw [this]
          exact ⟨rfl, fun h => by cases h⟩
      have HIN := Lib.hid hin
      clear hin
      generalize hpos2 : pos + (Utf8.decode s pos).2 = pos2 at hit2
      have HP2 := Lib.hid hpos2
      clear hpos2
      generalize hr : ((Utf8.decode s pos).1 : Int) = r at hnx HIN
      clear hr
      have hpp : pos < pos2 := by have := HP2.out; omega
      go_wp2
      go_loopw [7] (fun vin wi => ∃ q : Nat, vin = .bool (anyIs set.data.toList q r) ∧ wi.heap[w2.heap.size]? = some (.stringIter set q) ∧ Below w2.heap.size w2 wi ∧ q ≤ set.size) (fun _ wi => set.size - wi.iterPos w2.heap.size)
      case atStart =>
        refine ⟨0, by simp [anyIs], World.iter_heap w2 set 0, (Below.refl _ w2).alloc (Nat.le_refl _) _, Nat.zero_le _⟩
      case round =>
        obtain ⟨q, rfl, hitq, hbq, hq⟩ := hrel
        obtain ⟨wi, rfl⟩ : ∃ wi : World, wi = wr := ⟨_, rfl⟩
        by_cases hql : q < set.size
        · have hqa : (set[q]'hql).toNat < 128 := HS.out _ (by rw [← data_get set q hql]; exact List.getElem_mem _)
          have hnq : ∀ ty, (Instr.next (.pointer (some ⟨w2.heap.size, 0, none⟩)) true ty).run Tryz.prog wi = _ := fun ty => run_next_ascii_at wi w2.heap.size set q ty hitq hql hqa
          have hitq2 := iterAt_heap wi w2.heap.size set q (q + 1) hitq
          have hbq2 := below_iterAt hbq (Nat.le_refl _) set (q + 1)
          generalize wi.iterAt w2.heap.size set (q + 1) = w3 at hnq hitq2 hbq2
          have hs1 := anyIs_succ set.data.toList q r (by simpa using hql)
          rw [data_get set q hql] at hs1
          have HS1 := Lib.hid hs1
          clear hs1
          have hm : set.size - w3.iterPos w2.heap.size < set.size - wi.iterPos w2.heap.size := by
            rw [iterPos_of hitq2, iterPos_of hitq]; omega
          go_wp2
          · refine ⟨⟨q + 1, ?_, hitq2, hbq2, hql⟩, hm⟩
            rw [HS1.out, ‹anyIs set.data.toList q r = true›, Bool.true_or]
          · refine ⟨⟨q + 1, ?_, hitq2, hbq2, hql⟩, hm⟩
            rw [HS1.out, Bool.eq_false_iff.2 ‹¬ anyIs set.data.toList q r = true›, Bool.false_or]
        · have hnq : ∀ ty, (Instr.next (.pointer (some ⟨w2.heap.size, 0, none⟩)) true ty).run Tryz.prog wi = _ := fun ty => run_next_end_at wi w2.heap.size set q ty hitq hql
          obtain rfl : q = set.data.toList.length := by simp; omega
          have hitw : wi.heap[w.heap.size]? = some (.stringIter s pos2) := by rw [hbq.block _ hz2]; exact hit2
          have hbwi : Below w.heap.size w wi := hbw2.trans (hbq.mono (by omega))
          have hm : s.size - wi.iterPos w.heap.size < s.size - wo.iterPos w.heap.size := by
            rw [iterPos_of hitw, iterPos_of hit]; omega
          cases hb : set.data.toList.contains s.data.toList[pos] with
          | true =>
            rw [HIN.out.1, hb]
            have hw1 := HIN.out.2 hb
            have hall2 : Hid (∀ i (hi : i < s.data.toList.length), i < pos2 → set.data.toList.contains s.data.toList[i] = true) := Lib.hid (fun i hi h => by
              by_cases e : i = pos
              · subst e; exact hb
              · exact hall.out i hi (by have := HP2.out; omega))
            have hpz : pos2 ≤ s.size := by have := HP2.out; omega
            clear hall HIN hb hbw hbw2 hbq hit hit2 hw1
            go_wp2
            exact ⟨⟨pos2, hitw, hbwi, hpz, hall2⟩, hm⟩
          | false =>
            rw [HIN.out.1, hb]
            have hres : s.extract pos s.size = strOf (cutL s.data.toList set.data.toList) := by
              rw [extract_strOf, cutL, dropWhile_at (fun c => set.data.toList.contains c) s.data.toList pos (fun i hi h => hall.out i hi h) (by simpa using hp) (fun hi => hb)]
              congr 2
              exact List.take_of_length_le (by simp)
            have HR := Lib.hid hres
            clear hres hall HIN hb hbw hbw2 hbq hit hit2
            go_wp2
            go_ret
            exact ⟨by rw [← HR.out]; rfl, hbwi⟩
    · have hnx : ∀ ty, (Instr.next (.pointer (some ⟨w.heap.size, 0, none⟩)) true ty).run Tryz.prog wo = _ := fun ty => run_next_end_at wo w.heap.size s pos ty hit hlt
      go_wp2
      go_ret
      obtain rfl : pos = s.size := by omega
      refine ⟨?_, hbw⟩
      have := dropWhile_at (fun c => set.data.toList.contains c) s.data.toList s.size (fun i hi h => hall.out i hi h) (by simp) (by simp)
      rw [cutL, this]
      simp [strOf]
end Go.Proofs.YtmgkmpbblhkacaaGreatDoor
