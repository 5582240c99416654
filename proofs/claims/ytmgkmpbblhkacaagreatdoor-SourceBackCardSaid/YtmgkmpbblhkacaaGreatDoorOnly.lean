/- host.cutRight and host.only: a text of some bytes alone. -/
import Derived.Test.YtmgkmpbblhkacaaGreatDoorLib
import Derived.Lib.TrimU
namespace Go.Proofs.YtmgkmpbblhkacaaGreatDoor
open Go.RowKit
set_option linter.unusedSimpArgs false
set_option linter.unusedVariables false

theorem decodeLast_low (l : Bs) (h : l ≠ []) (ha : (l.getD (l.length - 1) 0).toNat < 128) : Lib.decodeLastL l = ((l.getD (l.length - 1) 0).toNat, 1) := by
  unfold Lib.decodeLastL
  rw [if_neg h, if_pos ha]
theorem decodeLast_high (l : Bs) (h : l ≠ []) (ha : 128 ≤ (l.getD (l.length - 1) 0).toNat) : 128 ≤ (Lib.decodeLastL l).1 := by
  unfold Lib.decodeLastL
  rw [if_neg h, if_neg (by omega)]
  have hlen : 0 < l.length := List.length_pos_iff.2 h
  have hls : Lib.lastStart l < l.length := by
    unfold Lib.lastStart
    simp only
    repeat' split
    all_goals omega
  dsimp only
  split
  · rename_i hd
    unfold Lib.decodeL at hd ⊢
    by_cases hb : (l[Lib.lastStart l]).toNat < 128
    · exfalso
      have hx : (⟨(l.drop (Lib.lastStart l)).toArray⟩ : ByteArray).size > 0 := by simp [ByteArray.size]; omega
      have hg : ((⟨(l.drop (Lib.lastStart l)).toArray⟩ : ByteArray)[0]'hx) = l[Lib.lastStart l] := by
        simp [ByteArray.getElem_eq_getElem_data]
      rw [decode_ascii _ 0 hx (by rw [hg]; exact hb)] at hd
      have e : Lib.lastStart l = l.length - 1 := by simp at hd; omega
      have : l.getD (l.length - 1) 0 = l[Lib.lastStart l] := by
        rw [List.getD_eq_getElem?_getD, List.getElem?_eq_getElem (by omega)]
        simp [e]
      rw [this] at ha
      omega
    · have hx : (⟨(l.drop (Lib.lastStart l)).toArray⟩ : ByteArray).size > 0 := by simp [ByteArray.size]; omega
      have hg : ((⟨(l.drop (Lib.lastStart l)).toArray⟩ : ByteArray)[0]'hx) = l[Lib.lastStart l] := by
        simp [ByteArray.getElem_eq_getElem_data]
      exact (decode_high _ 0 hx (by rw [hg]; omega)).1
  · decide

/-- A text without the bytes of a set at its end. -/
def cutR (s set : Bs) : Bs := (s.reverse.dropWhile (fun c => set.contains c)).reverse
theorem cutR_nil (set : Bs) : cutR [] set = [] := rfl
theorem cutR_snoc (l : Bs) (c : UInt8) (set : Bs) : cutR (l ++ [c]) set = if set.contains c then cutR l set else l ++ [c] := by
  unfold cutR
  rw [List.reverse_append]
  simp only [List.reverse_cons, List.reverse_nil, List.nil_append, List.singleton_append, List.dropWhile_cons]
  split <;> simp

/-- How long the text in a slot is. -/
def strLen : Value → Nat | .string s => s.size | _ => 0

set_option maxRecDepth 1000000 in
set_option maxHeartbeats 8000000 in
theorem cutRight_any (s set : ByteArray) (w : World) (hs : s.size ≤ 1000000) (hG : GL w) (hset : ∀ b ∈ set.data.toList, b.toNat < 128) (hss : set.size ≤ 1000) :
    Calls Tryz.prog 167 #[.string s, .string set] w fun e w' => e = .returned (.string (strOf (cutR s.data.toList set.data.toList))) ∧ Below w.heap.size w w' := by
  have HS := Lib.hid hset
  clear hset
  go_enter Tryz.func167, Tryz.ntmps167
  go_wp2
  go_loopw [0] (fun v wr => ∃ t : ByteArray, v = .string t ∧ t.size ≤ s.size ∧ Below w.heap.size w wr ∧ Hid (cutR t.data.toList set.data.toList = cutR s.data.toList set.data.toList)) (fun v _ => strLen v)
  case atStart => exact ⟨s, rfl, Nat.le_refl _, Below.refl _ _, Lib.hid rfl⟩
  case round =>
    obtain ⟨t, rfl, hts, hbw, hall⟩ := hrel
    obtain ⟨wo, rfl⟩ : ∃ wo : World, wo = wr := ⟨_, rfl⟩
    by_cases hlt : 0 < t.size
    · have hne : t.data.toList ≠ [] := by intro h; rw [Lib.size_eq, h] at hlt; simp at hlt
      obtain ⟨c, hc⟩ : ∃ c, t.data.toList.getD (t.data.toList.length - 1) 0 = c := ⟨_, rfl⟩
      have htl : t.data.toList = t.data.toList.dropLast ++ [c] := by
        conv => lhs; rw [← List.dropLast_concat_getLast hne]
        congr 2
        rw [← hc, List.getLast_eq_getElem, List.getD_eq_getElem?_getD, List.getElem?_eq_getElem (by have := List.length_pos_iff.2 hne; omega)]
        rfl
      have hcut : cutR t.data.toList set.data.toList = if set.data.toList.contains c then cutR t.data.toList.dropLast set.data.toList else t.data.toList := by
        rw [htl, cutR_snoc]; simp
      obtain ⟨r, hr⟩ : ∃ r, Lib.decodeLastL t.data.toList = r := ⟨_, rfl⟩
      have hin : anyIs set.data.toList set.data.toList.length (r.1 : Int) = set.data.toList.contains c ∧ (set.data.toList.contains c = true → r.2 = 1) := by
        by_cases ha : c.toNat < 128
        · rw [← hr, decodeLast_low _ hne (by rw [hc]; exact ha), hc]
          exact ⟨anyIs_all _ _, fun _ => rfl⟩
        · have h2 := decodeLast_high _ hne (by rw [hc]; omega)
          rw [hr] at h2
          rw [anyIs_high _ _ HS.out (by omega)]
          have : set.data.toList.contains c = false := by
            rw [Bool.eq_false_iff]
            intro hcc
            have := HS.out _ (List.contains_iff_mem.1 hcc)
            omega
          rw [this]
          exact ⟨rfl, fun h => by cases h⟩
      have HIN := Lib.hid hin
      have HCUT := Lib.hid hcut
      have HTL := Lib.hid htl
      have hdec := lib_DecodeLast t wo (hG.below hbw) (by omega)
      rw [hr] at hdec
      obtain ⟨r1, r2⟩ := r
      have HDEC := Lib.hid hdec
      clear hin hcut htl hc hr hdec
      dsimp only at HIN
      generalize hri : (r1 : Int) = ri at HIN HDEC
      clear hri
      go_wp2_with (go_at_call 177; refine HDEC.out.mono ?_; rintro e w2 ⟨rfl, hb2⟩)
      have hbw2 : Below w.heap.size w w2 := hbw.trans (hb2.mono hbw.size)
      clear hb2
      go_loopw [7] (fun vin wi => ∃ q : Nat, vin = .bool (anyIs set.data.toList q ri) ∧ wi.heap[w2.heap.size]? = some (.stringIter set q) ∧ Below w2.heap.size w2 wi ∧ q ≤ set.size) (fun _ wi => set.size - wi.iterPos w2.heap.size)
      case atStart =>
        refine ⟨0, by simp [anyIs], World.iter_heap w2 set 0, (Below.refl _ w2).alloc (Nat.le_refl _) _, Nat.zero_le _⟩
      case round =>
        obtain ⟨q, rfl, hitq, hbq, hq⟩ := hrel
        obtain ⟨wi, rfl⟩ : ∃ wi : World, wi = wr := ⟨_, rfl⟩
        by_cases hql : q < set.size
        · have hqa : (set[q]'hql).toNat < 128 := HS.out _ (by rw [← data_get set q hql]; exact List.getElem_mem _)
          have hnq : ∀ ty, (Instr.next (.pointer (some ⟨w2.heap.size, 0, none⟩)) true ty).run Tryz.prog wi = _ := fun ty => Lib.run_next_ascii_at wi w2.heap.size set q ty hitq hql hqa
          have hitq2 := Lib.iterAt_heap wi w2.heap.size set q (q + 1) hitq
          have hbq2 := Lib.below_iterAt hbq (Nat.le_refl _) set (q + 1)
          generalize wi.iterAt w2.heap.size set (q + 1) = w3 at hnq hitq2 hbq2
          have hs1 := anyIs_succ set.data.toList q ri (by simpa using hql)
          rw [data_get set q hql] at hs1
          have HS1 := Lib.hid hs1
          clear hs1
          have hm : set.size - w3.iterPos w2.heap.size < set.size - wi.iterPos w2.heap.size := by
            rw [iterPos_of hitq2, iterPos_of hitq]; omega
          go_wp2
          · refine ⟨⟨q + 1, ?_, hitq2, hbq2, hql⟩, hm⟩
            rw [HS1.out, ‹anyIs set.data.toList q ri = true›, Bool.true_or]
          · refine ⟨⟨q + 1, ?_, hitq2, hbq2, hql⟩, hm⟩
            rw [HS1.out, Bool.eq_false_iff.2 ‹¬ anyIs set.data.toList q ri = true›, Bool.false_or]
        · have hnq : ∀ ty, (Instr.next (.pointer (some ⟨w2.heap.size, 0, none⟩)) true ty).run Tryz.prog wi = _ := fun ty => Lib.run_next_end_at wi w2.heap.size set q ty hitq hql
          obtain rfl : q = set.data.toList.length := by simp; omega
          have hbwi : Below w.heap.size w wi := hbw2.trans (hbq.mono hbw2.size)
          cases hb : set.data.toList.contains c with
          | true =>
            rw [HIN.out.1, hb]
            obtain rfl := HIN.out.2 hb
            have hnew : Hid (t.extract 0 (t.size - 1) = strOf t.data.toList.dropLast) := by
              refine Lib.hid ?_
              rw [extract_strOf, List.drop_zero, List.dropLast_eq_take]; simp
            have hall2 : Hid (cutR t.data.toList.dropLast set.data.toList = cutR s.data.toList set.data.toList) := by
              refine Lib.hid ?_
              rw [← hall.out, HCUT.out, hb, if_pos rfl]
            clear hall HIN hb hbw hbw2 hbq HCUT HTL HDEC
            go_wp2
            refine ⟨⟨_, rfl, ?_, hbwi, ?_⟩, ?_⟩
            · simp; omega
            · rw [hnew.out, strOf_data]; exact hall2
            · simp [strLen]; omega
          | false =>
            rw [HIN.out.1, hb]
            have hres : Hid (cutR s.data.toList set.data.toList = t.data.toList) := by
              refine Lib.hid ?_
              rw [← hall.out, HCUT.out, hb]; rfl
            clear hall HIN hb hbw hbw2 hbq HCUT HTL HDEC
            go_wp2
            go_ret
            exact ⟨by rw [hres.out]; rfl, hbwi⟩
    · have hres : Hid (strOf (cutR s.data.toList set.data.toList) = t) := by
        refine Lib.hid ?_
        have : t.data.toList = [] := List.eq_nil_of_length_eq_zero (by rw [← Lib.size_eq]; omega)
        rw [← hall.out, this, cutR_nil]
        apply ByteArray.ext; apply Array.ext'; rw [this]; rfl
      clear hall
      go_wp2
      go_ret
      exact ⟨by rw [hres.out]; rfl, hbw⟩

theorem dropWhile_nil_iff (p : UInt8 → Bool) (l : Bs) : l.dropWhile p = [] ↔ l.all p = true := by
  induction l with
  | nil => simp
  | cons a l ih => rw [List.dropWhile_cons]; cases h : p a <;> simp [h, ih]
theorem only_spec (l set : Bs) : (cutR (cutL l set) set == []) = onlyB l set := by
  rw [Bool.eq_iff_iff, beq_iff_eq]
  unfold onlyB cutR
  rw [List.reverse_eq_nil_iff, dropWhile_nil_iff]
  unfold cutL
  rw [List.all_reverse]
  constructor
  · intro h
    rw [← dropWhile_nil_iff]
    cases hd : l.dropWhile (fun c => set.contains c) with
    | nil => rfl
    | cons a r =>
      exfalso
      have h1 : ¬ (set.contains a = true) := by
        have := List.head?_dropWhile_not (fun c => set.contains c) l
        rw [hd] at this
        simpa using this
      rw [hd] at h
      simp at h
      exact h1 (by simpa using h.1)
  · intro h
    rw [← dropWhile_nil_iff] at h
    rw [h]; rfl

set_option maxRecDepth 1000000 in
set_option maxHeartbeats 1000000 in
theorem only_any (s set : ByteArray) (w : World) (hs : s.size ≤ 1000000) (hG : GL w) (hset : ∀ b ∈ set.data.toList, b.toNat < 128) (hss : set.size ≤ 1000) :
    Calls Tryz.prog 149 #[.string s, .string set] w fun e w' => e = .returned (.bool (onlyB s.data.toList set.data.toList)) ∧ Below w.heap.size w w' := by
  have c1 := cutLeft_any s set w (by omega) hset hss
  have hlen : (strOf (cutL s.data.toList set.data.toList)).size ≤ 1000000 := by
    rw [strOf_size]
    have : (cutL s.data.toList set.data.toList).length ≤ s.data.toList.length := (List.dropWhile_sublist _).length_le
    simp at this
    omega
  have H := only_spec s.data.toList set.data.toList
  have c2 := fun w' (hb : Below w.heap.size w w') => cutRight_any (strOf (cutL s.data.toList set.data.toList)) set w' hlen (hG.below hb) hset hss
  simp only [strOf_data] at c2
  have HS := Lib.hid hset
  have C1 := Lib.hid c1
  have C2 := Lib.hid c2
  have HH := Lib.hid H
  clear hset c1 c2 H
  go_enter Tryz.func149, Tryz.ntmps149
  go_wp2_with (first | (go_at_call 168; refine C1.out.mono ?_; rintro e w2 ⟨rfl, hb2⟩) | (go_at_call 167; refine (C2.out _ (by assumption)).mono ?_; rintro e w3 ⟨rfl, hb3⟩))
  go_ret
  refine ⟨?_, hb2.trans (hb3.mono hb2.size)⟩
  rw [← HH.out, ← strOf_isEmpty]
  rfl
end Go.Proofs.YtmgkmpbblhkacaaGreatDoor
