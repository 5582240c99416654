/- The reference's piece, four, row. The reference's row. The reference's address of eight pieces: plain. -/
import Derived.Test.YtmgkmpbblhkacaaGreatDoorMgV
import Derived.Test.YtmgkmpbblhkacaaGreatDoorMgP
namespace Go.Proofs.YtmgkmpbblhkacaaGreatDoor
open Go.RowKit
set_option linter.unusedSimpArgs false
set_option linter.unusedVariables false

/-- transeptref07.piece. -/
def pieceP (s : Bs) : Option Nat := match basedL 16 0 s with | none => none | some n => if 1 ≤ s.length ∧ s.length ≤ 4 then some (n % 65536) else none
theorem ret_u16b {a b : Int} {x y : Bool} (h : a = b) (h2 : x = y) : Ending.returned (.tuple #[.int .u16 a, .bool x]) = Ending.returned (.tuple #[.int .u16 b, .bool y]) := by rw [h, h2]
set_option maxRecDepth 1000000 in
set_option maxHeartbeats 1000000 in
theorem refPiece_any (s : ByteArray) (w : World) (hs : s.size ≤ 1000000) (r : Option Nat) (hr : pieceP s.data.toList = r) :
    Calls Tryz.prog 161 #[.string s] w fun e w' => (∃ x : Nat, e = .returned (.tuple #[.int .u16 (x : Int), .bool r.isSome]) ∧ ∀ n, r = some n → x = n) ∧ w = w' := by
  obtain ⟨b, hb⟩ : ∃ b, basedL 16 0 s.data.toList = b := ⟨_, rfl⟩
  have C := Lib.hid (refBased_at s 16 w hs (by decide) (by decide) b hb)
  have hp : r = match (generalizing := false) b with | none => none | some n => if 1 ≤ s.size ∧ s.size ≤ 4 then some (n % 65536) else none := by
    rw [← hr]; unfold pieceP; rw [hb, ← Lib.size_eq]
  clear hr
  cases b with
  | none =>
    obtain rfl : r = none := hp
    clear hb
    go_enter Tryz.func161, Tryz.ntmps161
    go_wp2_with (first | (go_at_call 57; refine C.out.mono ?_; rintro e w2 ⟨rfl, rfl⟩))
    go_ret2
    exact ⟨⟨0, rfl, fun n h => by cases h⟩, rfl⟩
  | some n =>
    have hn := basedL_le _ _ 0 n (by omega) hb
    by_cases h1 : 1 ≤ s.size
    · by_cases h4 : s.size ≤ 4
      · obtain rfl : r = some (n % 65536) := by rw [hp]; simp only; rw [if_pos ⟨h1, h4⟩]
        have i1 : (1 : Int) ≤ (s.size : Int) := by omega
        have i4 : (s.size : Int) ≤ 4 := by omega
        clear hb hp h1 h4
        go_enter Tryz.func161, Tryz.ntmps161
        go_wp2_with (first | (go_at_call 57; refine C.out.mono ?_; rintro e w2 ⟨rfl, rfl⟩))
        go_ret2
        refine ⟨⟨n % 65536, ret_u16b ?_ rfl, fun m h => by cases h; rfl⟩, rfl⟩
        first | rfl | omega
      · obtain rfl : r = none := by rw [hp]; simp only; rw [if_neg (fun h => h4 h.2)]
        have i1 : (1 : Int) ≤ (s.size : Int) := by omega
        have i4 : (4 : Int) < (s.size : Int) := by omega
        have d4 : decide ((s.size : Int) ≤ 4) = false := decide_eq_false (by omega)
        clear hb hp h1 h4
        go_enter Tryz.func161, Tryz.ntmps161
        go_wp2_with (first | (go_at_call 57; refine C.out.mono ?_; rintro e w2 ⟨rfl, rfl⟩))
        go_ret2
        refine ⟨⟨n % 65536, ret_u16b ?_ rfl, fun m h => by cases h⟩, rfl⟩
        first | rfl | omega
    · obtain rfl : r = none := by rw [hp]; simp only; rw [if_neg (fun h => h1 h.1)]
      have i1 : (s.size : Int) < 1 := by omega
      have d4 : decide ((1 : Int) ≤ (s.size : Int)) = false := decide_eq_false (by omega)
      clear hb hp h1
      go_enter Tryz.func161, Tryz.ntmps161
      go_wp2_with (first | (go_at_call 57; refine C.out.mono ?_; rintro e w2 ⟨rfl, rfl⟩))
      go_ret2
      refine ⟨⟨n % 65536, ret_u16b ?_ rfl, fun m h => by cases h⟩, rfl⟩
      first | rfl | omega
/-- A number of an address's last part: at most 255, no nought ahead. -/
def octR (p : Bs) : Option Nat := match basedL 10 0 p with | none => none | some n => if p = [] ∨ 255 < n ∨ (1 < p.length ∧ p.headD 0 = 48) then none else some n
def octs : List Bs → Option (List Nat)
  | [] => some []
  | p :: r => match octR p with | none => none | some n => match octs r with | none => none | some l => some (n :: l)
/-- transeptref07.four. -/
def fourP (s : Bs) : Option (Nat × Nat) :=
  if (split1 46 s).length = 4 then (match octs (split1 46 s) with | some [a, b, c, d] => some (a * 256 + b, c * 256 + d) | _ => none) else none
theorem octR_le (p : Bs) (n : Nat) (h : octR p = some n) : n ≤ 255 := by
  unfold octR at h
  split at h
  · cases h
  · split at h
    · cases h
    · cases h; omega
theorem octs_app (l r : List Bs) : octs (l ++ r) = match octs l with | none => none | some a => match octs r with | none => none | some b => some (a ++ b) := by
  induction l with
  | nil => simp only [List.nil_append, octs]; cases octs r <;> rfl
  | cons p l ih =>
    rw [List.cons_append, octs, octs, ih]
    cases octR p with
    | none => rfl
    | some n => cases octs l with
      | none => rfl
      | some a => cases octs r <;> rfl
theorem OwnU.new (w : World) (B : Nat) (hB : B ≤ w.heap.size) : OwnU (w.alloc (.cells #[] 114)) B (.slice (some ⟨w.heap.size, 0, none⟩) 0 0) [] := by
  refine ⟨rfl, Or.inr ⟨w.heap.size, 0, #[], rfl, hB, heap_alloc_new w _, ?_⟩⟩
  simp
theorem one_newU (x : Nat) (w : World) : ∀ (j q : Nat), [x][j]? = some q → (w.alloc (.cells #[.int .u16 (x : Int)] 114)).cell? ((⟨w.heap.size, 0, none⟩ : Addr).add j) = some (.int .u16 (q : Int)) := by
  intro j q h
  rw [add_zero_off, cells_alloc_new]
  match j, h with
  | 0, h => simp at h; subst h; rfl
  | j + 1, h => simp at h
theorem u16_wrap_low (x : Int) (h0 : 0 ≤ x) (h1 : x < 65536) : IntKind.u16.wrap x = x := by
  simp [IntKind.wrap, IntKind.bits, IntKind.signed]
  omega
theorem four_list (xs : List Nat) (h : xs.length = 4) : ∃ a b c d, xs = [a, b, c, d] := by
  match xs, h with
  | [a, b, c, d], _ => exact ⟨a, b, c, d, rfl⟩
theorem head_str (T : ByteArray) (p : Bs) (hT : strOf p = T) (h : 0 < T.size) : T[0] = p.headD 0 := by
  rw [← head_get T h, ← hT, strOf_data]
/-- What transeptref07.four hands back. -/
def FourEnd (r : Option (Nat × Nat)) (w' : World) (e : Ending) : Prop :=
  match r with
  | none => e = .returned (.tuple #[.slice none 0 0, .bool false])
  | some (a, b) => ∃ g : Nat, e = .returned (.tuple #[.slice (some ⟨g, 0, none⟩) 2 2, .bool true]) ∧ g < w'.heap.size ∧ w'.cell? ⟨g, 0, none⟩ = some (.int .u16 (a : Int)) ∧ w'.cell? ⟨g, 1, none⟩ = some (.int .u16 (b : Int))
theorem fourP_bad (s : Bs) (ps : List Bs) (i : Nat) (p : Bs) (hps : split1 46 s = ps) (hp : ps[i]? = some p) (h : octR p = none ∨ ps.length ≠ 4) : fourP s = none := by
  unfold fourP
  rw [hps]
  by_cases h4 : ps.length = 4
  · rw [if_pos h4]
    have ho : octR p = none := h.resolve_right (fun hh => hh h4)
    have e : ps = ps.take i ++ p :: ps.drop (i + 1) := by
      obtain ⟨h1, h2⟩ := List.getElem?_eq_some_iff.1 hp
      rw [← h2, ← List.drop_eq_getElem_cons h1, List.take_append_drop]
    have : octs ps = none := by
      rw [e, octs_app]
      cases octs (ps.take i) with
      | none => rfl
      | some a => simp only [octs, ho]
    rw [this]
  · rw [if_neg h4]
theorem octs_len (l : List Bs) : ∀ xs, octs l = some xs → xs.length = l.length ∧ ∀ x ∈ xs, x ≤ 255 := by
  induction l with
  | nil => intro xs h; simp [octs] at h; subst h; simp
  | cons p r ih =>
    intro xs h
    unfold octs at h
    cases ho : octR p with
    | none => rw [ho] at h; cases h
    | some n =>
      rw [ho] at h
      simp only at h
      cases hr : octs r with
      | none => rw [hr] at h; cases h
      | some l =>
        rw [hr] at h
        simp only [Option.some.injEq] at h
        subst h
        obtain ⟨h1, h2⟩ := ih l hr
        refine ⟨by simp [h1], ?_⟩
        intro x hx
        rcases List.mem_cons.1 hx with rfl | hx
        · exact octR_le p _ ho
        · exact h2 x hx
set_option maxRecDepth 1000000 in
set_option maxHeartbeats 8000000 in
theorem refFour_any (s : ByteArray) (w : World) (hs : s.size ≤ 1000000) :
    Calls Tryz.prog 162 #[.string s] w fun e w' => FourEnd (fourP s.data.toList) w' e ∧ Below w.heap.size w w' := by
  have C := Lib.hid (refSplit_any s 46 w hs)
  have hmem := split1_mem_le 46 s.data.toList
  have hlen := split1_len_le 46 s.data.toList
  rw [(Lib.size_eq s).symm] at hmem hlen
  obtain ⟨ps, hps⟩ : ∃ ps, split1 46 s.data.toList = ps := ⟨_, rfl⟩
  have HBAD := Lib.hid (fun i p => fourP_bad s.data.toList ps i p hps)
  have HF : Hid (fourP s.data.toList = if ps.length = 4 then (match octs ps with | some [a, b, c, d] => some (a * 256 + b, c * 256 + d) | _ => none) else none) := Lib.hid (by unfold fourP; rw [hps])
  have hpos : 0 < ps.length := by rw [← hps]; exact split1_pos 46 _
  rw [hps] at C hmem hlen
  have HMEM := Lib.hid hmem
  clear hps hmem
  go_enter Tryz.func162, Tryz.ntmps162
  go_wp2_with fail
  refine C.out.mono ?_
  rintro e w1 ⟨g, cp, rfl, hown, hb1⟩
  clear C
  obtain ⟨m, hm⟩ : ∃ m, ps.length = m := ⟨_, rfl⟩
  obtain ⟨hv, _⟩ | ⟨g', cp', hv, hgB, hgc, hglt, hgcell⟩ := OwnS.form hown
  · cases hv
  · injection hv with hv1 hv2 hv3
    injection hv1 with hv1
    injection hv1 with hv1
    subst hv1; subst hv3
    have HCELL := Lib.hid hgcell
    have HM := Lib.hid hm
    rw [hm] at hlen hgc hpos ⊢
    clear hgcell hown hm hv2
    have hB1 := hb1.size
    go_wp2
    have hown0 := Lib.hid (OwnU.new w1 w1.heap.size (Nat.le_refl _))
    have hb0 : Below w1.heap.size w1 (w1.alloc (.cells #[] 114)) := (Below.refl _ w1).alloc (Nat.le_refl _) _
    go_loopw [5, 6] (fun v vi wr => ∃ (i : Nat) (xs : List Nat) (k c : Nat), v = .slice (some ⟨k, 0, none⟩) xs.length c ∧ vi = .int .i64 i ∧ i ≤ m ∧ xs.length ≤ i ∧ Below w1.heap.size w1 wr ∧ Hid (OwnU wr w1.heap.size (.slice (some ⟨k, 0, none⟩) xs.length c) xs ∧ octs (ps.take i) = some xs ∧ (0 < i → m = 4))) (fun _ vi _ => m - (intOf vi).toNat)
    case atStart => exact ⟨0, [], w1.heap.size, 0, rfl, rfl, by omega, by simp, hb0, Lib.hid ⟨hown0.out, rfl, fun h => by omega⟩⟩
    case round =>
      obtain ⟨i, xs, k, c, rfl, rfl, hi, hxl, hbw, HI⟩ := hrel
      obtain ⟨wo, rfl⟩ : ∃ wo : World, wo = wr := ⟨_, rfl⟩
      have hB := hbw.size
      have HO := Lib.hid HI.out.1
      have hbb : Below w.heap.size w wo := hb1.trans (hbw.mono hB1)
      by_cases hlt : i < m
      · obtain ⟨p, hp⟩ : ∃ p, ps[i]? = some p := ⟨_, List.getElem?_eq_getElem (by rw [HM.out]; exact hlt)⟩
        have hcell : wo.cell? ⟨g, i, none⟩ = some (.string (strOf p)) := by
          rw [hbw.cell (p := ⟨g, i, none⟩) hglt]; exact HCELL.out i p hp
        have hzp : (strOf p).size ≤ 1000000 := by rw [strOf_size]; have := HMEM.out p (List.mem_of_getElem? hp); omega
        obtain ⟨b, hb⟩ : ∃ b, basedL 10 0 p = b := ⟨_, rfl⟩
        have CN := Lib.hid (fun w' => refBased_at (strOf p) 10 w' hzp (by decide) (by decide) b (by rw [strOf_data]; exact hb))
        have hemp : (strOf p).toList.isEmpty = decide (p = []) := by rw [strOf_isEmpty, Bool.eq_iff_iff]; simp
        have hTz : (strOf p).size = p.length := strOf_size p
        have hbad := HBAD.out i p hp
        rw [HM.out] at hbad
        have hO : octR p = match (generalizing := false) b with | none => none | some n => if p = [] ∨ 255 < n ∨ (1 < p.length ∧ p.headD 0 = 48) then none else some n := by unfold octR; rw [hb]
        have htk : octs (ps.take (i + 1)) = match (generalizing := false) octR p with | none => none | some n => some (xs ++ [n]) := by
          rw [List.take_add_one, hp, octs_app, HI.out.2.1]
          simp only [Option.toList_some, octs]
          cases octR p <;> rfl
        obtain ⟨T, hT⟩ : ∃ T, strOf p = T := ⟨_, rfl⟩
        rw [hT] at CN hcell hemp hTz
        have hhead : ∀ h : 0 < T.size, T[0] = p.headD 0 := fun h => head_str T p hT h
        have HTZ := Lib.hid hTz
        have HEMP := Lib.hid hemp
        have HHEAD := Lib.hid hhead
        have HBAD2 := Lib.hid hbad
        have HO2 := Lib.hid hO
        have HTK := Lib.hid htk
        have HI2 := Lib.hid HI.out.2.2
        clear hp hzp hb hT hemp hTz hhead hbad hO htk HI
        have hways : b = none ∨ ∃ n, b = some n ∧ (p = [] ∨ (p ≠ [] ∧ 255 < n) ∨ (p ≠ [] ∧ n ≤ 255 ∧ 1 < p.length ∧ p.headD 0 = 48) ∨ (p ≠ [] ∧ n ≤ 255 ∧ (p.length ≤ 1 ∨ (1 < p.length ∧ p.headD 0 ≠ 48)))) := by
          cases b with
          | none => exact Or.inl rfl
          | some n =>
            refine Or.inr ⟨n, rfl, ?_⟩
            by_cases h1 : p = []
            · exact Or.inl h1
            · by_cases h2 : 255 < n
              · exact Or.inr (Or.inl ⟨h1, h2⟩)
              · by_cases h3 : p.length ≤ 1
                · exact Or.inr (Or.inr (Or.inr ⟨h1, by omega, Or.inl h3⟩))
                · by_cases h4 : p.headD 0 = 48
                  · exact Or.inr (Or.inr (Or.inl ⟨h1, by omega, by omega, h4⟩))
                  · exact Or.inr (Or.inr (Or.inr ⟨h1, by omega, Or.inr ⟨by omega, h4⟩⟩))
        have HW := Lib.hid hways
        clear hways
        rcases HW.out with h | ⟨n, hbn, hcase⟩
        · have hr : Hid (fourP s.data.toList = none) := Lib.hid (HBAD2.out (Or.inl (by rw [HO2.out, h])))
          subst h
          clear HW
          go_wp2_with (first | (go_at_call 57; refine (CN.out _).mono ?_; rintro e w9 ⟨rfl, rfl⟩))
          go_ret2
          exact ⟨by rw [hr.out]; exact rfl, hbb⟩
        · subst hbn
          have hnle : n ≤ 1099511627776 ∨ True := Or.inr trivial
          clear hnle HW
          rcases hcase with h | ⟨h1, h2⟩ | ⟨h1, h2, h3, h4⟩ | ⟨h1, h2, h3⟩
          · have hr : Hid (fourP s.data.toList = none) := Lib.hid (HBAD2.out (Or.inl (by rw [HO2.out]; simp only; rw [if_pos (Or.inl h)])))
            have he : T.toList.isEmpty = true := by rw [HEMP.out]; simp [h]
            clear h
            go_wp2_with (first | (go_at_call 57; refine (CN.out _).mono ?_; rintro e w9 ⟨rfl, rfl⟩))
            go_ret2
            exact ⟨by rw [hr.out]; exact rfl, hbb⟩
          · have hr : Hid (fourP s.data.toList = none) := Lib.hid (HBAD2.out (Or.inl (by rw [HO2.out]; simp only; rw [if_pos (Or.inr (Or.inl h2))])))
            have he : T.toList.isEmpty = false := by rw [HEMP.out]; simp [h1]
            clear h1
            go_wp2_with (first | (go_at_call 57; refine (CN.out _).mono ?_; rintro e w9 ⟨rfl, rfl⟩))
            go_ret2
            exact ⟨by rw [hr.out]; exact rfl, hbb⟩
          · have hr : Hid (fourP s.data.toList = none) := Lib.hid (HBAD2.out (Or.inl (by rw [HO2.out]; simp only; rw [if_pos (Or.inr (Or.inr ⟨h3, h4⟩))])))
            have he : T.toList.isEmpty = false := by rw [HEMP.out]; simp [h1]
            have ht1 : (1 : Int) < (T.size : Int) := by rw [HTZ.out]; omega
            have ht0 : 0 < T.size := by rw [HTZ.out]; omega
            have hb48 := u8_eqL T[0] 48 48 rfl (by rw [HHEAD.out ht0]; exact h4)
            clear h1 h3 h4
            go_wp2_with (first | (go_at_call 57; refine (CN.out _).mono ?_; rintro e w9 ⟨rfl, rfl⟩))
            go_ret2
            exact ⟨by rw [hr.out]; exact rfl, hbb⟩
          · have he : T.toList.isEmpty = false := by rw [HEMP.out]; simp [h1]
            have hok : octR p = some n := by
              rw [HO2.out]; simp only; rw [if_neg]
              rintro (h | h | h)
              · exact h1 h
              · omega
              · rcases h3 with h3 | h3
                · omega
                · exact h3.2 h.2
            have HOK := Lib.hid hok
            have hw2 : (T.size : Int) ≤ 1 ∨ ((1 : Int) < (T.size : Int) ∧ ∃ ht0 : 0 < T.size, ((T[0].toNat : Int) == 48) = false) := by
              rcases h3 with h3 | ⟨h3, h4⟩
              · exact Or.inl (by rw [HTZ.out]; omega)
              · have ht0 : 0 < T.size := by rw [HTZ.out]; omega
                exact Or.inr ⟨by rw [HTZ.out]; omega, ht0, u8_neL T[0] 48 48 rfl (by rw [HHEAD.out ht0]; exact h4)⟩
            clear h1 h3 hok
            by_cases h4 : m = 4
            · subst h4
              have hnew : Hid (octs (ps.take (i + 1)) = some (xs ++ [n])) := by rw [HTK.out, HOK.out]; exact Lib.hid rfl
              have hwr : IntKind.u16.wrap (n : Int) = (n : Int) := u16_wrap_low _ (by omega) (by omega)
              rcases hw2 with hw2 | ⟨hw2, ht0, hw3⟩
              all_goals
                go_wp2_with (first | (go_at_call 57; refine (CN.out _).mono ?_; rintro e w9 ⟨rfl, rfl⟩) | (at_builtin; refine app_u16 (qs := [n]) rfl _ _ rfl w1.heap.size _ xs rfl (HO.out.below ((Below.refl _ _).alloc (Nat.le_refl _) _)) ⟨wo.heap.size, 0, none⟩ 1 rfl (one_newU n wo) (by omega) (by simp) (by simp; omega) ?_; intro v2 w3 hown3 hg3))
                rcases OwnU.form hown3 with ⟨_, h⟩ | ⟨g2, cp2, rfl, _⟩
                · simp at h
                · have hb3 : Below w1.heap.size w1 w3 := (hbw.alloc hB _).grown hg3 (by simp; omega) HO.out.base
                  exact ⟨⟨i + 1, xs ++ [n], g2, cp2, by first | rfl | simp, rfl, by omega, by simp; omega, hb3, Lib.hid ⟨hown3, hnew.out, fun _ => trivial⟩⟩, by simp [intOf]; omega⟩
            · have hr : Hid (fourP s.data.toList = none) := Lib.hid (HBAD2.out (Or.inr h4))
              have hb4 : ((m : Int) == 4) = false := beq_eq_false_iff_ne.2 (by omega)
              have hb4' : ((m : Int) != 4) = true := by unfold bne; rw [hb4]; rfl
              clear h4
              rcases hw2 with hw2 | ⟨hw2, ht0, hw3⟩
              all_goals
                go_wp2_with (first | (go_at_call 57; refine (CN.out _).mono ?_; rintro e w9 ⟨rfl, rfl⟩))
                go_ret2
                exact ⟨by rw [hr.out]; exact rfl, hbb⟩
      · obtain rfl : i = m := by omega
        have h4 : i = 4 := HI.out.2.2 hpos
        have hoct : octs ps = some xs := by
          have := HI.out.2.1
          rw [List.take_of_length_le (by rw [HM.out]; exact Nat.le_refl _)] at this
          exact this
        obtain ⟨hxl2, hx255⟩ := octs_len ps xs hoct
        have hxl4 : xs.length = 4 := by rw [hxl2, HM.out]; exact h4
        obtain ⟨a, b, c', d, rfl⟩ := four_list xs hxl4
        have hf := OwnU.form HO.out
        rcases hf with ⟨hv, _⟩ | ⟨k', cp', hv, hkB, hkc, hklt, hkcell⟩
        · cases hv
        · injection hv with hv1 hv2 hv3
          injection hv1 with hv1
          injection hv1 with hv1
          subst hv1; subst hv3
          have c0 := hkcell 0 a rfl
          have c1 := hkcell 1 b rfl
          have c2 := hkcell 2 c' rfl
          have c3 := hkcell 3 d rfl
          have ha := hx255 a (by simp)
          have hb := hx255 b (by simp)
          have hc := hx255 c' (by simp)
          have hd := hx255 d (by simp)
          have a1 : IntKind.u16.wrap ((a : Int) * 256) = (a : Int) * 256 := u16_wrap_low _ (by omega) (by omega)
          have a2 : IntKind.u16.wrap ((a : Int) * 256 + (b : Int)) = (a : Int) * 256 + (b : Int) := u16_wrap_low _ (by omega) (by omega)
          have a3 : IntKind.u16.wrap ((c' : Int) * 256) = (c' : Int) * 256 := u16_wrap_low _ (by omega) (by omega)
          have a4 : IntKind.u16.wrap ((c' : Int) * 256 + (d : Int)) = (c' : Int) * 256 + (d : Int) := u16_wrap_low _ (by omega) (by omega)
          have hl4 : ([a, b, c', d] : List Nat).length = 4 := rfl
          have HR : Hid (fourP s.data.toList = some (a * 256 + b, c' * 256 + d)) := by rw [HF.out, if_pos (by rw [HM.out]; exact h4), hoct]; exact Lib.hid rfl
          subst h4
          rw [hl4]
          clear HI hoct hxl2 hx255 hxl hxl4 hkcell hv2 hl4 hkc
          go_wp2_with fail
          go_region
          all_goals
            go_wp2
            go_ret2
            refine ⟨?_, Below.drew (hbb.alloc hbb.size _)⟩
            rw [HR.out]
            refine ⟨_, rfl, ?_, ?_, ?_⟩
            · show wo.heap.size < (wo.alloc _).heap.size
              simp
            · show (wo.alloc (.cells #[.int .u16 ((a : Int) * 256 + (b : Int)), .int .u16 ((c' : Int) * 256 + (d : Int))] 114)).cell? ⟨wo.heap.size, 0, none⟩ = _
              rw [cells_alloc_new]; simp
            · show (wo.alloc (.cells #[.int .u16 ((a : Int) * 256 + (b : Int)), .int .u16 ((c' : Int) * 256 + (d : Int))] 114)).cell? ⟨wo.heap.size, 1, none⟩ = _
              rw [cells_alloc_new]; simp
end Go.Proofs.YtmgkmpbblhkacaaGreatDoor
namespace Go.Proofs.YtmgkmpbblhkacaaGreatDoor
open Go.RowKit
set_option linter.unusedSimpArgs false
set_option linter.unusedVariables false

/-- transeptref07.row. -/
def rowR (e : Bool) : List Bs → Option (List Nat)
  | [] => some []
  | p :: r => match pieceP p with
    | some n => (rowR e r).map (n :: ·)
    | none => if e = false ∨ r ≠ [] then none else match fourP p with | none => none | some (a, b) => some [a, b]
def RowEnd (r : Option (List Nat)) (B : Nat) (w' : World) (e : Ending) : Prop :=
  match r with
  | none => e = .returned (.tuple #[.slice none 0 0, .bool false])
  | some L => ∃ k c : Nat, e = .returned (.tuple #[.slice (some ⟨k, 0, none⟩) L.length c, .bool true]) ∧ OwnU w' B (.slice (some ⟨k, 0, none⟩) L.length c) L
theorem two_cells_at (w : World) (g a b : Nat) (h0 : w.cell? ⟨g, 0, none⟩ = some (.int .u16 (a : Int))) (h1 : w.cell? ⟨g, 1, none⟩ = some (.int .u16 (b : Int))) : ∀ (j q : Nat), [a, b][j]? = some q → w.cell? ((⟨g, 0, none⟩ : Addr).add j) = some (.int .u16 (q : Int)) := by
  intro j q h
  rw [add_zero_off]
  match j, h with
  | 0, h => simp at h; subst h; exact h0
  | 1, h => simp at h; subst h; exact h1
  | j + 2, h => simp at h
set_option maxRecDepth 1000000 in
set_option maxHeartbeats 8000000 in
theorem refRow_any (ps : List Bs) (en : Bool) (g cp : Nat) (w : World) (hg : g < w.heap.size) (hc : ∀ (j : Nat) (p : Bs), ps[j]? = some p → w.cell? ⟨g, j, none⟩ = some (.string (strOf p))) (hn : ps.length ≤ 2000000) (hcp : ps.length ≤ cp) (hz : ∀ p ∈ ps, p.length ≤ 1000000) :
    Calls Tryz.prog 143 #[.slice (some ⟨g, 0, none⟩) ps.length cp, .bool en] w fun e w' => RowEnd (rowR en ps) w.heap.size w' e ∧ Below w.heap.size w w' := by
  have HCELL := Lib.hid hc
  have HZ := Lib.hid hz
  obtain ⟨m, hm⟩ : ∃ m, ps.length = m := ⟨_, rfl⟩
  have HM := Lib.hid hm
  rw [hm] at hn hcp ⊢
  clear hc hz hm
  go_enter Tryz.func143, Tryz.ntmps143
  go_wp2
  have hown0 := Lib.hid (OwnU.new w w.heap.size (Nat.le_refl _))
  have hb0 : Below w.heap.size w (w.alloc (.cells #[] 114)) := (Below.refl _ w).alloc (Nat.le_refl _) _
  go_loopw [6, 7] (fun v vi wr => ∃ (i : Nat) (xs : List Nat) (k c : Nat), v = .slice (some ⟨k, 0, none⟩) xs.length c ∧ vi = .int .i64 i ∧ i ≤ m ∧ xs.length ≤ 2 * i ∧ Below w.heap.size w wr ∧ Hid (OwnU wr w.heap.size (.slice (some ⟨k, 0, none⟩) xs.length c) xs ∧ rowR en ps = (rowR en (ps.drop i)).map (xs ++ ·))) (fun _ vi _ => m - (intOf vi).toNat)
  case atStart => exact ⟨0, [], w.heap.size, 0, rfl, rfl, by omega, by simp, hb0, Lib.hid ⟨hown0.out, by simp⟩⟩
  case round =>
    obtain ⟨i, xs, k, c, rfl, rfl, hi, hxl, hbw, HI⟩ := hrel
    obtain ⟨wo, rfl⟩ : ∃ wo : World, wo = wr := ⟨_, rfl⟩
    have hB := hbw.size
    have HO := Lib.hid HI.out.1
    by_cases hlt : i < m
    · obtain ⟨p, hp⟩ : ∃ p, ps[i]? = some p := ⟨_, List.getElem?_eq_getElem (by rw [HM.out]; exact hlt)⟩
      have hcell : wo.cell? ⟨g, i, none⟩ = some (.string (strOf p)) := by
        rw [hbw.cell (p := ⟨g, i, none⟩) hg]; exact HCELL.out i p hp
      have hzp : (strOf p).size ≤ 1000000 := by rw [strOf_size]; exact HZ.out p (List.mem_of_getElem? hp)
      have hdrop : ps.drop i = p :: ps.drop (i + 1) := by
        obtain ⟨h1, h2⟩ := List.getElem?_eq_some_iff.1 hp
        rw [List.drop_eq_getElem_cons h1, h2]
      obtain ⟨rp, hrp⟩ : ∃ rp, pieceP p = rp := ⟨_, rfl⟩
      obtain ⟨rf, hrf⟩ : ∃ rf, fourP p = rf := ⟨_, rfl⟩
      have CP := Lib.hid (fun w' => refPiece_any (strOf p) w' hzp rp (by rw [strOf_data]; exact hrp))
      have CF : Hid (∀ w' : World, Calls Tryz.prog 162 #[.string (strOf p)] w' fun e w'' => FourEnd rf w'' e ∧ Below w'.heap.size w' w'') := Lib.hid (fun w' => by
        have := refFour_any (strOf p) w' hzp
        rw [strOf_data, hrf] at this
        exact this)
      have hR : rowR en (ps.drop i) = match (generalizing := false) rp with
        | some n => (rowR en (ps.drop (i + 1))).map (n :: ·)
        | none => if en = false ∨ ps.drop (i + 1) ≠ [] then none else match (generalizing := false) rf with | none => none | some (a, b) => some [a, b] := by
        rw [hdrop, rowR, hrp, hrf]
      have hdl : ps.drop (i + 1) = [] ↔ m ≤ i + 1 := by rw [List.drop_eq_nil_iff, HM.out]
      obtain ⟨T, hT⟩ : ∃ T, strOf p = T := ⟨_, rfl⟩
      rw [hT] at CP CF hcell
      have HR := Lib.hid hR
      have HDL := Lib.hid hdl
      have HI2 := Lib.hid HI.out.2
      clear hp hzp hdrop hrp hrf hR hdl hT HI
      cases rp with
      | some n =>
        have HN : Hid (rowR en ps = (rowR en (ps.drop (i + 1))).map ((xs ++ [n]) ++ ·)) := by
          rw [HI2.out, HR.out]
          refine Lib.hid ?_
          simp only
          rw [Option.map_map]
          congr 1
          funext l
          simp
        have hx : ∃ x : Nat, True := ⟨0, trivial⟩
        clear hx
        go_wp2_with (first | (go_at_call 161; refine (CP.out _).mono ?_; rintro e w9 ⟨⟨x, rfl, hx⟩, rfl⟩; obtain rfl : n = x := (hx n rfl).symm; clear hx) | (at_builtin; refine app_u16 (qs := [n]) rfl _ _ rfl w.heap.size _ xs rfl (HO.out.below ((Below.refl _ _).alloc (Nat.le_refl _) _)) ⟨wo.heap.size, 0, none⟩ 1 rfl (one_newU n wo) (by omega) (by simp) (by simp; omega) ?_; intro v2 w3 hown3 hg3))
        rcases OwnU.form hown3 with ⟨_, h⟩ | ⟨g2, cp2, rfl, _⟩
        · simp at h
        · have hb3 : Below w.heap.size w w3 := (hbw.alloc hB _).grown hg3 (by simp; omega) HO.out.base
          exact ⟨⟨i + 1, xs ++ [n], g2, cp2, by first | rfl | simp, rfl, by omega, by simp; omega, hb3, Lib.hid ⟨hown3, HN.out⟩⟩, by simp [intOf]; omega⟩
      | none =>
        cases en with
        | false =>
          have hr : Hid (rowR false ps = none) := by rw [HI2.out, HR.out]; simp only; rw [if_pos (Or.inl trivial)]; exact Lib.hid rfl
          go_wp2_with (first | (go_at_call 161; refine (CP.out _).mono ?_; rintro e w9 ⟨⟨x, rfl, hx⟩, rfl⟩; clear hx))
          go_ret2
          exact ⟨by rw [hr.out]; exact rfl, hbw⟩
        | true =>
          by_cases hlast : m ≤ i + 1
          · have hnil := HDL.out.2 hlast
            have hge : (m : Int) ≤ (i : Int) + 1 := by omega
            cases rf with
            | none =>
              have hr : Hid (rowR true ps = none) := by rw [HI2.out, HR.out]; simp only; rw [if_neg (by rw [hnil]; simp)]; exact Lib.hid rfl
              clear hnil
              go_wp2_with (first | (go_at_call 161; refine (CP.out _).mono ?_; rintro e w9 ⟨⟨x, rfl, hx⟩, rfl⟩; clear hx) | (go_at_call 162; refine (CF.out _).mono ?_; rintro e w4 ⟨he, hb4⟩; obtain rfl : e = Ending.returned (.tuple #[.slice none 0 0, .bool false]) := he))
              go_ret2
              exact ⟨by rw [hr.out]; exact rfl, hbw.trans (hb4.mono hB)⟩
            | some ab =>
              obtain ⟨a, b⟩ := ab
              have HN : Hid (rowR true ps = (rowR true (ps.drop (i + 1))).map ((xs ++ [a, b]) ++ ·)) := by
                rw [HI2.out, HR.out, hnil]; simp only; rw [if_neg (by simp)]
                exact Lib.hid (by simp [rowR])
              clear hnil
              go_wp2_with (first | (go_at_call 161; refine (CP.out _).mono ?_; rintro e w9 ⟨⟨x, rfl, hx⟩, rfl⟩; clear hx) | (go_at_call 162; refine (CF.out _).mono ?_; rintro e w4 ⟨he, hb4⟩; obtain ⟨g4, rfl, hg4, hc40, hc41⟩ := he; have HO4 := Lib.hid (HO.out.below hb4); have hb4w := hbw.trans (hb4.mono hB); have hB4 := hb4w.size; have HQ := Lib.hid (two_cells_at w4 g4 a b hc40 hc41); clear hc40 hc41) | (at_builtin; refine app_u16 (qs := [a, b]) rfl _ _ rfl w.heap.size _ xs rfl HO4.out ⟨g4, 0, none⟩ 2 rfl HQ.out (by omega) (by simp) hB4 ?_; intro v2 w5 hown5 hg5))
              rcases OwnU.form hown5 with ⟨_, h⟩ | ⟨g2, cp2, rfl, _⟩
              · simp at h
              · have hb5 : Below w.heap.size w w5 := hb4w.grown hg5 hB4 HO.out.base
                exact ⟨⟨i + 1, xs ++ [a, b], g2, cp2, by first | rfl | simp, rfl, by omega, by simp; omega, hb5, Lib.hid ⟨hown5, HN.out⟩⟩, by simp [intOf]; omega⟩
          · have hr : Hid (rowR true ps = none) := by rw [HI2.out, HR.out]; simp only; rw [if_pos (Or.inr (fun h => hlast (HDL.out.1 h)))]; exact Lib.hid rfl
            have hlt2 : (i : Int) + 1 < (m : Int) := by omega
            clear hlast
            go_wp2_with (first | (go_at_call 161; refine (CP.out _).mono ?_; rintro e w9 ⟨⟨x, rfl, hx⟩, rfl⟩; clear hx))
            go_ret2
            exact ⟨by rw [hr.out]; exact rfl, hbw⟩
    · obtain rfl : i = m := by omega
      have hr : Hid (rowR en ps = some xs) := by
        rw [HI.out.2, List.drop_of_length_le (by rw [HM.out]; exact Nat.le_refl _)]
        exact Lib.hid (by simp [rowR])
      clear HI
      go_wp2
      go_ret2
      exact ⟨by rw [hr.out]; exact ⟨k, c, rfl, HO.out⟩, hbw⟩
end Go.Proofs.YtmgkmpbblhkacaaGreatDoor
namespace Go.Proofs.YtmgkmpbblhkacaaGreatDoor
open Go.RowKit
set_option linter.unusedSimpArgs false
set_option linter.unusedVariables false

/-- Where the first two colons stand. -/
def dcolP : Bs → Option Nat
  | [] => none
  | a :: r => if a = 58 ∧ r.headD 0 = 58 then some 0 else (dcolP r).map (· + 1)
theorem dcol_short (l : Bs) (h : l.length ≤ 1) : dcolP l = none := by
  match l, h with
  | [], _ => rfl
  | [a], _ => unfold dcolP; rw [if_neg (fun h => absurd h.2 (by decide))]; rfl
theorem dcol_le (l : Bs) : ∀ a, dcolP l = some a → a + 2 ≤ l.length := by
  induction l with
  | nil => intro a h; cases h
  | cons x r ih =>
    intro a h
    unfold dcolP at h
    split at h
    · rename_i h2
      cases h
      cases r with
      | nil => exact absurd h2.2 (by decide)
      | cons y t => simp
    · cases hr : dcolP r with
      | none => rw [hr] at h; cases h
      | some b =>
        rw [hr] at h
        cases h
        have := ih b hr
        simp only [List.length_cons]
        omega
/-- The place of the first two colons, from a place on; -1: none. -/
def atR (s : Bs) (k : Nat) : Int := match dcolP (s.drop k) with | none => -1 | some j => ((k + j : Nat) : Int)
theorem atR_end (s : Bs) (k : Nat) (h : s.length ≤ k + 1) : atR s k = -1 := by
  unfold atR; rw [dcol_short _ (by rw [List.length_drop]; omega)]
theorem atR_step (s : Bs) (j : Nat) (x y : UInt8) (hx : s[j]? = some x) (hy : s[j + 1]? = some y) : atR s j = if x = 58 ∧ y = 58 then (j : Int) else atR s (j + 1) := by
  obtain ⟨h1, h2⟩ := List.getElem?_eq_some_iff.1 hx
  obtain ⟨h3, h4⟩ := List.getElem?_eq_some_iff.1 hy
  have e : s.drop j = x :: s.drop (j + 1) := by rw [List.drop_eq_getElem_cons h1, h2]
  have e2 : (s.drop (j + 1)).headD 0 = y := by rw [List.drop_eq_getElem_cons h3, h4]; rfl
  unfold atR
  rw [e, dcolP, e2]
  by_cases h : x = 58 ∧ y = 58
  · rw [if_pos h, if_pos h]; rfl
  · rw [if_neg h, if_neg h]
    cases dcolP (s.drop (j + 1)) with
    | none => rfl
    | some b => show ((j + (b + 1) : Nat) : Int) = ((j + 1 + b : Nat) : Int); omega
/-- Of the pieces ahead and behind. -/
def ip6F (short : Bool) (rp rq : Option (List Nat)) : Option (List Nat) :=
  match rp with
  | none => none
  | some p => match rq with
    | none => none
    | some q => if (short = false ∧ p.length + q.length ≠ 8) ∨ (short = true ∧ 7 < p.length + q.length) then none else some (p ++ List.replicate (8 - p.length - q.length) 0 ++ q)
def ip6X (short : Bool) (xs ys : List Bs) : Option (List Nat) := ip6F short (rowR false xs) (rowR true ys)
def aheadR (s : Bs) : List Bs := match dcolP s with | none => [] | some a => if a = 0 then [] else split1 58 (s.take a)
def behindR (s : Bs) : List Bs := match dcolP s with | none => split1 58 s | some a => if a + 2 < s.length then split1 58 (s.drop (a + 2)) else []
/-- transeptref07.IPv6. -/
def ip6R (s : Bs) : Option (List Nat) := ip6X (dcolP s).isSome (aheadR s) (behindR s)
theorem pieceP_lt (s : Bs) (n : Nat) (h : pieceP s = some n) : n < 65536 := by
  unfold pieceP at h
  split at h
  · cases h
  · split at h
    · cases h; omega
    · cases h
theorem fourP_lt (s : Bs) (a b : Nat) (h : fourP s = some (a, b)) : a < 65536 ∧ b < 65536 := by
  unfold fourP at h
  split at h
  · cases ho : octs (split1 46 s) with
    | none => rw [ho] at h; cases h
    | some l =>
      rw [ho] at h
      obtain ⟨_, h2⟩ := octs_len _ _ ho
      match l, h, h2 with
      | [x, y, z, t], h, h2 =>
        cases h
        have := h2 x (by simp)
        have := h2 y (by simp)
        have := h2 z (by simp)
        have := h2 t (by simp)
        omega
  · cases h
theorem rowR_lt (e : Bool) (l : List Bs) : ∀ r, rowR e l = some r → (∀ x ∈ r, x < 65536) ∧ r.length ≤ l.length + 1 := by
  induction l with
  | nil => intro r h; unfold rowR at h; cases h; exact ⟨fun x hx => absurd hx (by simp), by simp⟩
  | cons p t ih =>
    intro r h
    unfold rowR at h
    cases hp : pieceP p with
    | some n =>
      rw [hp] at h
      simp only at h
      cases hr : rowR e t with
      | none => rw [hr] at h; cases h
      | some q =>
        rw [hr] at h
        cases h
        obtain ⟨h1, h2⟩ := ih q hr
        refine ⟨fun x hx => ?_, by simp only [List.length_cons]; omega⟩
        rcases List.mem_cons.1 hx with rfl | hx
        · exact pieceP_lt p _ hp
        · exact h1 x hx
    | none =>
      rw [hp] at h
      simp only at h
      split at h
      · cases h
      · cases hf : fourP p with
        | none => rw [hf] at h; cases h
        | some ab =>
          obtain ⟨a, b⟩ := ab
          rw [hf] at h
          cases h
          obtain ⟨h1, h2⟩ := fourP_lt p a b hf
          refine ⟨fun x hx => ?_, by simp⟩
          simp only [List.mem_cons, List.not_mem_nil, or_false] at hx
          rcases hx with rfl | rfl <;> assumption
theorem ip6R_ok (s : Bs) (L : List Nat) (h : ip6R s = some L) : L.length = 8 ∧ ∀ x ∈ L, x < 65536 := by
  unfold ip6R ip6X ip6F at h
  cases hp : rowR false (aheadR s) with
  | none => rw [hp] at h; cases h
  | some p =>
    rw [hp] at h
    simp only at h
    cases hq : rowR true (behindR s) with
    | none => rw [hq] at h; cases h
    | some q =>
      rw [hq] at h
      simp only at h
      split at h
      · cases h
      · rename_i hn
        cases h
        rw [not_or] at hn
        obtain ⟨n1, n2⟩ := hn
        have h8 : p.length + q.length ≤ 8 := by
          cases hd : (dcolP s).isSome with
          | false => exact Nat.le_of_eq (Classical.byContradiction fun h => n1 ⟨hd, h⟩)
          | true => exact Nat.le_of_lt_succ (Nat.lt_succ_of_le (Nat.le_succ_of_le (Nat.le_of_not_lt fun h => n2 ⟨hd, h⟩)))
        refine ⟨by simp; omega, fun x hx => ?_⟩
        rcases List.mem_append.1 hx with hx | hx
        · rcases List.mem_append.1 hx with hx | hx
          · exact (rowR_lt _ _ _ hp).1 x hx
          · rw [List.mem_replicate] at hx; omega
        · exact (rowR_lt _ _ _ hq).1 x hx
/-- A cell of eight is set. -/
theorem cells8_set (L : List Nat) (k x : Nat) (hk : k < L.length) : (cells8 L).setIfInBounds k (.int .u16 (x : Int)) = cells8 (L.set k x) := by
  unfold cells8
  apply Array.ext_getElem?
  intro i
  rw [Array.getElem?_setIfInBounds]
  simp only [List.getElem?_toArray, List.getElem?_map, List.size_toArray, List.length_map, List.getElem?_set]
  by_cases h : k = i
  · subst h
    rw [if_pos rfl, if_pos rfl, if_pos hk, if_pos hk]; rfl
  · rw [if_neg h, if_neg h]
theorem heap_set8 {w : World} {b : Nat} {L : List Nat} {T : TypeId} (h : w.heap[b]? = some (.cells (cells8 L) T (0, 0))) (k x : Nat) (hk : k < L.length) : (w.setCell ⟨b, k, none⟩ (.int .u16 (x : Int))).heap[b]? = some (.cells (cells8 (L.set k x)) T (0, 0)) := by
  rw [heap_setCell_at h k _, cells8_set L k x hk]
theorem set_next (p : List Nat) (r : List Nat) (k x y : Nat) (hx : p[k]? = some x) : (p.take k ++ y :: r).set k x = p.take (k + 1) ++ r := by
  have hk := (List.getElem?_eq_some_iff.1 hx).1
  have hl : (p.take k).length = k := by rw [List.length_take]; omega
  rw [List.set_append, if_neg (by omega), hl, Nat.sub_self, List.set_cons_zero, List.take_add_one, hx]
  simp
theorem free8 {w : World} {b : Nat} {L : List Nat} {T : TypeId} (h : w.heap[b]? = some (.cells (cells8 L) T (0, 0))) (k : Nat) : w.frozen? ⟨b, k, none⟩ = false := frozen_of_heap h k
end Go.Proofs.YtmgkmpbblhkacaaGreatDoor
