/- host.number for every text; host.IPv4. -/
import Derived.Test.YtmgkmpbblhkacaaGreatDoorNum
import Derived.Test.YtmgkmpbblhkacaaGreatDoorSplit
import Derived.Laws.BitsAllLaws
namespace Go.Proofs.YtmgkmpbblhkacaaGreatDoor
open Go.RowKit
set_option linter.unusedSimpArgs false
set_option linter.unusedVariables false

set_option maxRecDepth 1000000 in
theorem number_empty (s : ByteArray) (w : World) (h0 : s.data.toList = []) :
    Calls Tryz.prog 148 #[.string s] w fun e w' => e = .returned (numRes none) ∧ Below w.heap.size w w' := by
  have hemp : s.toList.isEmpty = true := by rw [isEmpty_data, h0]; rfl
  clear h0
  go_enter Tryz.func148, Tryz.ntmps148
  go_wp2
  go_ret2
  exact ⟨rfl, Below.refl _ _⟩

theorem headD_get (l : Bs) (h : 0 < l.length) : l.headD 0 = l[0] := by cases l with | nil => simp at h | cons a l => rfl

theorem number_any (s : ByteArray) (w : World) (hs : s.size ≤ 1000000) (hG : GL w) :
    Calls Tryz.prog 148 #[.string s] w fun e w' => e = .returned (numRes (numP s.data.toList)) ∧ Below w.heap.size w w' := by
  by_cases h0 : s.data.toList = []
  · have e : numP s.data.toList = none := by unfold numP; rw [if_pos h0]
    rw [e]
    exact number_empty s w h0
  · cases hp : ([48, 120] : Bs).isPrefixOf s.data.toList with
    | true =>
      have e : numP s.data.toList = numB 16 hexa (s.data.toList.drop 2) := by unfold numP; rw [if_neg h0, hp]; rfl
      rw [e]
      exact number_hexA s w hs hG h0 hp
    | false =>
      cases hq : ([48, 88] : Bs).isPrefixOf s.data.toList with
      | true =>
        have e : numP s.data.toList = numB 16 hexa (s.data.toList.drop 2) := by unfold numP; rw [if_neg h0, hp, hq]; rfl
        rw [e]
        exact number_hexB s w hs hG h0 hp hq
      | false =>
        have e : numP s.data.toList = if 1 < s.data.toList.length ∧ s.data.toList.headD 0 = 48 then numB 8 octal (s.data.toList.drop 1) else numB 10 decimal s.data.toList := by
          unfold numP; rw [if_neg h0, hp, hq]; rfl
        by_cases hl : 1 < s.size
        · have hh : s.data.toList.headD 0 = s[0] := by
            rw [← data_get s 0 (by omega)]
            exact headD_get _ _
          by_cases hc : s[0] = 48
          · rw [e, if_pos ⟨by rw [← Lib.size_eq]; exact hl, by rw [hh]; exact hc⟩]
            exact number_oct s w hs hG h0 hp hq hl hc
          · rw [e, if_neg (fun h => hc (by rw [← hh]; exact h.2))]
            exact number_dec2 s w hs hG h0 hp hq hl hc
        · rw [e, if_neg (fun h => hl (by rw [Lib.size_eq]; exact h.1))]
          exact number_dec1 s w hs hG h0 hp hq hl

theorem numP_le (l : Bs) (n : Nat) (h : numP l = some n) : n ≤ 1099511627776 := by
  have hpu : ∀ b M l acc n, acc ≤ M → pu b M acc l = some n → n ≤ M := by
    intro b M l
    induction l with
    | nil => intro acc n ha h; simp [pu] at h; omega
    | cons c r ih =>
      intro acc n ha h
      unfold pu at h
      split at h
      · rename_i hc; exact ih _ _ hc.2 h
      · cases h
  have hB : ∀ b d l n, numB b d l = some n → n ≤ 1099511627776 := by
    intro b d l n h
    unfold numB at h
    split at h
    · split at h
      · cases h; omega
      · cases hp : parseU b 1099511627775 (l.dropWhile (· == 48)) with
        | none => rw [hp] at h; simp at h; omega
        | some m =>
          rw [hp] at h
          simp at h
          subst h
          unfold parseU at hp
          split at hp
          · cases hp
          · have := hpu _ _ _ _ _ (Nat.zero_le _) hp; omega
    · cases h
  unfold numP at h
  split at h
  · cases h
  · split at h
    · exact hB _ _ _ _ h
    · split at h
      · exact hB _ _ _ _ h
      · exact hB _ _ _ _ h

theorem getLastD_at (ps : List Bs) (h : ps ≠ []) : ps[ps.length - 1]? = some (ps.getLastD []) := by
  have hl := List.length_pos_iff.2 h
  rw [List.getElem?_eq_getElem (by omega), List.getLastD_eq_getLast?, List.getLast?_eq_some_getLast h]
  simp [List.getLast_eq_getElem]

theorem ip4_eq (l : Bs) (ps : List Bs) (m : Nat) (h : ip4parts l = ps) (hm : ps.length = m) : ip4 l = (if (numP (ps.getLastD [])).isNone ∧ (ps.getLastD [] = [] ∨ onlyB (ps.getLastD []) decimal = false) then (0, false, 0)
    else if 4 < m then (0, true, 7)
    else match ip4loop m 0 0 ps with
      | none => (0, true, 7)
      | some a => (a, true, 0) : Nat × Bool × Int) := by subst hm; subst h; rfl
/-- The bytes that a part's number may take. -/
theorem ip4loop_step (n i all : Nat) (p : Bs) (r : List Bs) (x : Nat) (h : numP p = some x) (hx : x < 2 ^ (if i + 1 = n then 8 * (4 - i) else 8)) :
    ip4loop n i all (p :: r) = ip4loop n (i + 1) (all * 2 ^ (if i + 1 = n then 8 * (4 - i) else 8) + x) r := by
  rw [ip4loop, h]
  simp only
  rw [if_neg (by rw [Nat.div_eq_of_lt hx]; omega)]
theorem ip4loop_big (n i all : Nat) (p : Bs) (r : List Bs) (x : Nat) (h : numP p = some x) (hx : ¬ x < 2 ^ (if i + 1 = n then 8 * (4 - i) else 8)) :
    ip4loop n i all (p :: r) = none := by
  rw [ip4loop, h]
  simp only
  rw [if_pos (Nat.div_pos (by omega) (Nat.two_pow_pos _))]
theorem ip4loop_none (n i all : Nat) (p : Bs) (r : List Bs) (h : numP p = none) : ip4loop n i all (p :: r) = none := by
  rw [ip4loop, h]

theorem ip4_or (a x k : Nat) (hx : x < 2 ^ k) (ha : a * 2 ^ k + x < 18446744073709551616) : bits .or .u64 ((a : Int) * ((2 ^ k : Nat) : Int)) (x : Int) = ((a * 2 ^ k + x : Nat) : Int) := by
  have e : ((a : Int) * ((2 ^ k : Nat) : Int)) = ((a * 2 ^ k : Nat) : Int) := by simp
  rw [e, u64_or_nat _ _ (by omega) (by omega)]
  congr 1
  have := Nat.shiftLeft_add_eq_or_of_lt hx a
  rw [Nat.shiftLeft_eq] at this
  exact this.symm

set_option maxRecDepth 1000000 in
set_option maxHeartbeats 8000000 in
theorem IPv4_any (s : ByteArray) (w : World) (hs : s.size ≤ 1000000) (hG : GL w) :
    Calls Tryz.prog 122 #[.string s] w fun e w' => e = .returned (.tuple #[.int .u32 (ip4 s.data.toList).1, .bool (ip4 s.data.toList).2.1, .int .i64 (ip4 s.data.toList).2.2]) ∧ Below w.heap.size w w' := by
  have CS := Lib.hid (lib_Split1 s 46 w hs hG)
  go_enter Tryz.func122, Tryz.ntmps122
  go_wp2_with fail
  refine CS.out.mono ?_
  rintro e w1 ⟨rfl, hst, hb1⟩
  have hG1 := hG.below hb1
  obtain ⟨ps0, hps0⟩ : ∃ ps0, split1 46 s.data.toList = ps0 := ⟨_, rfl⟩
  have hpos := split1_pos 46 s.data.toList
  have hlen := split1_len_le 46 s.data.toList
  have hmem := split1_mem_le 46 s.data.toList
  have hpr : ip4parts s.data.toList = if 1 < ps0.length ∧ ps0.getLastD [] = [] then ps0.dropLast else ps0 := by unfold ip4parts; rw [hps0]
  rw [hps0] at hst hpos hlen hmem ⊢
  have hln : s.data.toList.length = s.size := (Lib.size_eq s).symm
  rw [hln] at hlen hmem
  obtain ⟨b1, hb⟩ : ∃ b1, b1 = w.heap.size := ⟨_, rfl⟩
  rw [← hb] at hst ⊢
  have hne : ps0 ≠ [] := List.length_pos_iff.1 hpos
  have hlast0 := hst.cell _ _ (getLastD_at ps0 hne)
  have HPR := Lib.hid hpr
  have HMEM := Lib.hid hmem
  have HST := Lib.hid hst
  obtain ⟨n, hn⟩ : ∃ n, ps0.length = n := ⟨_, rfl⟩
  rw [hn] at hlast0 hpos hlen ⊢
  have HN := Lib.hid hn
  clear hps0 hpr hmem hne CS hst hn hln hb
  go_upto_region 2 with fail
  obtain ⟨bA, hbA⟩ : ∃ bA, decide (1 < n ∧ ps0.getLastD [] = []) = bA := ⟨_, rfl⟩
  have HBA := Lib.hid hbA
  clear hbA
  go_cut [28] (fun s28 wx => s28 = .bool bA ∧ w1 = wx)
  case first =>
    by_cases h1 : 1 < n
    · have hl : w1.cell? ⟨b1, n - 1, none⟩ = some (.string (strOf (ps0.getLastD []))) := hlast0
      have hr : (strOf (ps0.getLastD [])).toList.isEmpty = bA := by
        rw [strOf_isEmpty, ← HBA.out, Bool.eq_iff_iff]; simp [h1]
      generalize strOf (ps0.getLastD []) = lst at hl hr
      clear hlast0
      have h1i : (1 : Int) < (n : Int) := by omega
      go_wp2
      go_meet
      exact ⟨rfl, rfl⟩
    · have hb : bA = false := by rw [← HBA.out]; exact decide_eq_false (fun h => h1 h.1)
      subst hb
      have h1i : ¬ ((1 : Int) < (n : Int)) := by omega
      have h1d : decide ((1 : Int) < (n : Int)) = false := decide_eq_false h1i
      clear hlast0
      go_wp2
      go_meet
      exact ⟨rfl, rfl⟩
  case rest =>
    obtain ⟨rfl, rfl⟩ := hcut
    go_upto_if 28 with fail
    clear hlast0
    go_cut [5] (fun s5 wx => w1 = wx ∧ ∃ m : Nat, s5 = .slice (some ⟨b1, 0, none⟩) m n ∧ 1 ≤ m ∧ m ≤ n ∧ Hid ((ip4parts s.data.toList).length = m ∧ Strs w1 b1 (ip4parts s.data.toList) ∧ ∀ p ∈ ip4parts s.data.toList, p.length ≤ s.size))
    case first =>
      cases bA with
      | true =>
        have h1 := of_decide_eq_true HBA.out
        have hn1 := h1.1
        have hm : Hid ((ip4parts s.data.toList).length = n - 1 ∧ Strs w1 b1 (ip4parts s.data.toList) ∧ ∀ p ∈ ip4parts s.data.toList, p.length ≤ s.size) := by
          rw [HPR.out, if_pos (by rw [HN.out]; exact h1)]
          refine Lib.hid ⟨by rw [List.length_dropLast, HN.out], ⟨HST.out.lt, fun j p hp => HST.out.cell j p ?_⟩, fun p hp => HMEM.out p (List.dropLast_subset _ hp)⟩
          rw [List.getElem?_dropLast] at hp
          split at hp
          · exact hp
          · cases hp
        have hn2 : 1 ≤ n - 1 := by omega
        clear h1
        go_wp2
        go_meet
        exact ⟨rfl, n - 1, rfl, hn2, by omega, hm⟩
      | false =>
        have h1 := of_decide_eq_false HBA.out
        have hm : Hid ((ip4parts s.data.toList).length = n ∧ Strs w1 b1 (ip4parts s.data.toList) ∧ ∀ p ∈ ip4parts s.data.toList, p.length ≤ s.size) := by
          rw [HPR.out, if_neg (by rw [HN.out]; exact h1)]
          exact Lib.hid ⟨HN.out, HST.out, HMEM.out⟩
        clear h1
        go_wp2
        go_meet
        exact ⟨rfl, n, rfl, by omega, Nat.le_refl _, hm⟩
    case rest =>
      obtain ⟨rfl, m, rfl, hm1, hmn, HM⟩ := hcut
      clear HBA HPR HMEM HST HN
      obtain ⟨ps, hps⟩ : ∃ ps, ip4parts s.data.toList = ps := ⟨_, rfl⟩
      have HIP : Hid (ip4 s.data.toList = (if (numP (ps.getLastD [])).isNone ∧ (ps.getLastD [] = [] ∨ onlyB (ps.getLastD []) decimal = false) then (0, false, 0)
          else if 4 < m then (0, true, 7)
          else match ip4loop m 0 0 ps with
            | none => (0, true, 7)
            | some a => (a, true, 0) : Nat × Bool × Int)) := by
        have h := HM.out
        rw [hps] at h
        exact Lib.hid (ip4_eq _ _ _ hps h.1)
      have HM2 : Hid (ps.length = m ∧ Strs w1 b1 ps ∧ ∀ p ∈ ps, p.length ≤ s.size) := by rw [← hps]; exact HM
      clear hps HM
      have hne : ps ≠ [] := List.length_pos_iff.1 (by have := HM2.out.1; omega)
      have hl := HM2.out.2.1.cell _ _ (getLastD_at ps hne)
      rw [HM2.out.1] at hl
      obtain ⟨la, hla⟩ : ∃ la, ps.getLastD [] = la := ⟨_, rfl⟩
      have hlas : la.length ≤ s.size := by
        have h2 : ps.getLastD [] ∈ ps := by rw [List.getLastD_eq_getLast?, List.getLast?_eq_some_getLast hne]; exact List.getLast_mem hne
        rw [hla] at h2
        exact HM2.out.2.2 _ h2
      rw [hla] at hl
      have HIP2 : Hid (ip4 s.data.toList = (if (numP la).isNone ∧ (la = [] ∨ onlyB la decimal = false) then (0, false, 0)
          else if 4 < m then (0, true, 7)
          else match ip4loop m 0 0 ps with
            | none => (0, true, 7)
            | some a => (a, true, 0) : Nat × Bool × Int)) := by rw [← hla]; exact HIP
      clear HIP hla hne
      have hle : (strOf la).toList.isEmpty = (la == []) := strOf_isEmpty la
      have hlsz : (strOf la).size ≤ 1000000 := by rw [strOf_size]; omega
      obtain ⟨bS, hbS⟩ : ∃ bS, (numP la).isSome = bS := ⟨_, rfl⟩
      obtain ⟨x0, hx0⟩ : ∃ x0, (((numP la).getD 0 : Nat) : Int) = x0 := ⟨_, rfl⟩
      have CN : ∀ w', GL w' → Calls Tryz.prog 148 #[.string (strOf la)] w' fun e w2 => e = .returned (.tuple #[.int .u64 x0, .bool bS]) ∧ Below w'.heap.size w' w2 := fun w' hG => by
        have := number_any (strOf la) w' hlsz hG
        rw [strOf_data, numRes, hbS, hx0] at this
        exact this
      have HBS := Lib.hid hbS
      clear hbS hx0
      have CO : ∀ w', GL w' → Calls Tryz.prog 149 #[.string (strOf la), .string ⟨#[48, 49, 50, 51, 52, 53, 54, 55, 56, 57]⟩] w' fun e w2 => e = .returned (.bool (onlyB la decimal)) ∧ Below w'.heap.size w' w2 := fun w' hG => by
        have := only_dec (strOf la) w' hlsz hG
        rw [strOf_data] at this
        exact this
      generalize strOf la = las at hl hle CN CO
      have CN' := Lib.hid CN
      have CO' := Lib.hid CO
      clear CN CO
      go_upto_region 6 with (go_at_call 148; refine (CN'.out _ hG1).mono ?_; rintro e w2 ⟨rfl, hb2⟩)
      have hG2 := hG1.below hb2
      have hb12 : Below w.heap.size w w2 := hb1.trans (hb2.mono hb1.size)
      obtain ⟨bN, hbN⟩ : ∃ bN, decide ((numP la).isNone ∧ (la = [] ∨ onlyB la decimal = false)) = bN := ⟨_, rfl⟩
      have HBN := Lib.hid hbN
      clear hbN hl
      go_cut [55] (fun s55 wx => s55 = .bool bN ∧ Below w2.heap.size w2 wx)
      case first =>
        cases bS with
        | true =>
          have hb : bN = false := by rw [← HBN.out]; exact decide_eq_false (fun h => by have h1 := HBS.out; have h2 := h.1; rw [Option.isNone_iff_eq_none] at h2; rw [h2] at h1; cases h1)
          subst hb
          go_wp2
          go_meet
          exact ⟨rfl, Below.refl _ _⟩
        | false =>
          have hN : (numP la).isNone = true := by have h1 := HBS.out; cases h : numP la with | none => rfl | some x => rw [h] at h1; cases h1
          cases hE : (la == []) with
          | true =>
            have hb : bN = true := by rw [← HBN.out]; exact decide_eq_true ⟨hN, Or.inl (by simpa using hE)⟩
            subst hb
            rw [hE] at hle
            clear hN
            go_wp2
            go_meet
            exact ⟨rfl, Below.refl _ _⟩
          | false =>
            have hb : bN = !onlyB la decimal := by
              rw [← HBN.out, Bool.eq_iff_iff, decide_eq_true_iff, hN]
              have : la ≠ [] := by simpa using hE
              simp [this]
            subst hb
            rw [hE] at hle
            clear hN
            go_wp2_with (go_at_call 149; refine (CO'.out _ hG2).mono ?_; rintro e w3 ⟨rfl, hb3⟩)
            go_meet
            exact ⟨rfl, hb3⟩
      case rest =>
        obtain ⟨rfl, hb3⟩ := hcut
        have hb13 : Below w.heap.size w wc := hb12.trans (hb3.mono hb12.size)
        have hG3 := hG.below hb13
        have HS3 : Hid (Strs wc b1 ps) := Lib.hid ((HM2.out.2.1.below hb2).below hb3)
        have HL : Hid (ps.length = m ∧ ∀ p ∈ ps, p.length ≤ s.size) := Lib.hid ⟨HM2.out.1, HM2.out.2.2⟩
        clear HM2 hb3 hb12 hb2 hG2 hle CN' CO' hb1 hG1
        cases bN with
        | true =>
          have hr : Hid (ip4 s.data.toList = (0, false, 0)) := by
            rw [HIP2.out, if_pos (of_decide_eq_true HBN.out)]; exact Lib.hid rfl
          go_wp2
          go_outline
          go_ret3
          exact ⟨by rw [hr.out]; rfl, hb13⟩
        | false =>
          by_cases hm4 : 4 < m
          · have hr : Hid (ip4 s.data.toList = (0, true, 7)) := by
              rw [HIP2.out, if_neg (of_decide_eq_false HBN.out), if_pos hm4]; exact Lib.hid rfl
            have hm4i : (4 : Int) < (m : Int) := by omega
            go_wp2
            go_ret3
            exact ⟨by rw [hr.out]; rfl, hb13⟩
          · have hr : Hid (ip4 s.data.toList = (match ip4loop m 0 0 ps with
              | none => (0, true, 7)
              | some a => (a, true, 0))) := by
              rw [HIP2.out, if_neg (of_decide_eq_false HBN.out), if_neg hm4]; exact Lib.hid rfl
            have hm4i : ¬ ((4 : Int) < (m : Int)) := by omega
            clear HIP2 HBN
            go_wp2
            go_loopw [9, 61] (fun va vi wr => ∃ (i a : Nat), va = .int .u64 a ∧ vi = .int .i64 i ∧ i ≤ m ∧ a < 4294967296 ∧ Below wc.heap.size wc wr ∧ Hid ((i < m → a < 2 ^ (8 * i)) ∧ ip4loop m 0 0 ps = ip4loop m i a (ps.drop i))) (fun _ vi _ => m - (intOf vi).toNat)
            case atStart => exact ⟨0, 0, rfl, rfl, by omega, by omega, Below.refl _ _, Lib.hid ⟨fun _ => by decide, rfl⟩⟩
            case round =>
              obtain ⟨i, a, rfl, rfl, hi, ha, hbw, hinv⟩ := hrel
              obtain ⟨wo, rfl⟩ : ∃ wo : World, wo = wr := ⟨_, rfl⟩
              have hbo : Below w.heap.size w wo := hb13.trans (hbw.mono hb13.size)
              by_cases hlt : i < m
              · have hip : i < ps.length := by rw [HL.out.1]; exact hlt
                obtain ⟨p, hp⟩ : ∃ p, ps[i] = p := ⟨_, rfl⟩
                have hc : wo.cell? ⟨b1, i, none⟩ = some (.string (strOf p)) := (HS3.out.below hbw).cell i p (by rw [List.getElem?_eq_getElem hip, hp])
                have hpl : p.length ≤ s.size := HL.out.2 _ (by rw [← hp]; exact List.getElem_mem hip)
                have hdrop : ps.drop i = p :: ps.drop (i + 1) := by rw [← hp]; exact List.drop_eq_getElem_cons hip
                have CN := number_any (strOf p) wo (by rw [strOf_size]; omega) (hG.below hbo)
                rw [strOf_data] at CN
                have hinv2 := hinv.out
                rw [hdrop] at hinv2
                have HI := Lib.hid hinv2
                clear hinv hinv2 hdrop hp
                generalize strOf p = sp at hc CN
                cases hN : numP p with
                | none =>
                  rw [hN] at CN
                  have hr2 : Hid (ip4 s.data.toList = (0, true, 7)) := by
                    rw [hr.out, HI.out.2, ip4loop_none _ _ _ _ _ hN]; exact Lib.hid rfl
                  have CN' : Hid (Calls Tryz.prog 148 #[.string sp] wo fun e w2 => e = .returned (.tuple #[.int .u64 0, .bool false]) ∧ Below wo.heap.size wo w2) := Lib.hid CN
                  clear CN hN HI hr
                  go_wp2_with (go_at_call 148; refine CN'.out.mono ?_; rintro e w2 ⟨rfl, hb2⟩)
                  all_goals go_ret3
                  all_goals exact ⟨by rw [hr2.out]; rfl, hbo.trans (hb2.mono hbo.size)⟩
                | some x =>
                  rw [hN] at CN
                  have hx40 := numP_le _ _ hN
                  have CN' : Hid (Calls Tryz.prog 148 #[.string sp] wo fun e w2 => e = .returned (.tuple #[.int .u64 x, .bool true]) ∧ Below wo.heap.size wo w2) := Lib.hid CN
                  have HN := Lib.hid hN
                  clear CN hN
                  have hi4 : i = 0 ∨ i = 1 ∨ i = 2 ∨ i = 3 := by omega
                  rcases hi4 with rfl | rfl | rfl | rfl
                  · go_wp2_with (go_at_call 148; refine CN'.out.mono ?_; rintro e w2 ⟨rfl, hb2⟩)
                    ·
                      have hx : ¬ x < 2 ^ 32 := by
                        have h2 : 0 < (x : Int) / 4294967296 := by assumption
                        omega
                      have hr2 : Hid (ip4 s.data.toList = (0, true, 7)) := by
                        rw [hr.out, HI.out.2, ip4loop_big m 0 a p (ps.drop (0 + 1)) x HN.out (by rw [if_pos (show 0 + 1 = m by (have h1 : ((0 : Int) == (m : Int) - 1) = true := by assumption); (have := beq_iff_eq.1 h1); omega)]; exact hx)]; exact Lib.hid rfl
                      go_ret3
                      exact ⟨by rw [hr2.out]; rfl, hbo.trans (hb2.mono hbo.size)⟩
                    ·
                      have hx : x < 2 ^ 32 := by
                        have h2 : (x : Int) / 4294967296 ≤ 0 := by assumption
                        omega
                      have hkm : 0 + 1 = m := by (have h1 : ((0 : Int) == (m : Int) - 1) = true := by assumption); (have := beq_iff_eq.1 h1; omega)
                      have hst := ip4loop_step m 0 a p (ps.drop (0 + 1)) x HN.out (by rw [if_pos (show 0 + 1 = m by (have h1 : ((0 : Int) == (m : Int) - 1) = true := by assumption); (have := beq_iff_eq.1 h1); omega)]; exact hx)
                      rw [if_pos (show 0 + 1 = m by (have h1 : ((0 : Int) == (m : Int) - 1) = true := by assumption); (have := beq_iff_eq.1 h1); omega)] at hst
                      have hab := HI.out.1 (by omega)
                      have hab2 : a * 4294967296 + x < 4294967296 := by simp at hab hx; omega
                      have hor := ip4_or a x 32 hx (by simp; omega)
                      refine ⟨⟨0 + 1, a * 4294967296 + x, ?_, rfl, by omega, hab2, hbw.trans (hb2.mono hbw.size), Lib.hid ⟨fun hm => by simp at hab hx ⊢; omega, ?_⟩⟩, by simp [intOf]; omega⟩
                      · congr 1
                      · rw [HI.out.2, hst]
                    ·
                      have hx : ¬ x < 2 ^ 8 := by
                        have h2 : 0 < (x : Int) / 256 := by assumption
                        omega
                      have hr2 : Hid (ip4 s.data.toList = (0, true, 7)) := by
                        rw [hr.out, HI.out.2, ip4loop_big m 0 a p (ps.drop (0 + 1)) x HN.out (by rw [if_neg (show ¬ 0 + 1 = m by (have h1 : ((0 : Int) == (m : Int) - 1) = false := by assumption); (have := beq_eq_false_iff_ne.1 h1); omega)]; exact hx)]; exact Lib.hid rfl
                      go_ret3
                      exact ⟨by rw [hr2.out]; rfl, hbo.trans (hb2.mono hbo.size)⟩
                    ·
                      have hx : x < 2 ^ 8 := by
                        have h2 : (x : Int) / 256 ≤ 0 := by assumption
                        omega
                      have hst := ip4loop_step m 0 a p (ps.drop (0 + 1)) x HN.out (by rw [if_neg (show ¬ 0 + 1 = m by (have h1 : ((0 : Int) == (m : Int) - 1) = false := by assumption); (have := beq_eq_false_iff_ne.1 h1); omega)]; exact hx)
                      rw [if_neg (show ¬ 0 + 1 = m by (have h1 : ((0 : Int) == (m : Int) - 1) = false := by assumption); (have := beq_eq_false_iff_ne.1 h1); omega)] at hst
                      have hab := HI.out.1 (by omega)
                      have hab2 : a * 256 + x < 4294967296 := by simp at hab hx; omega
                      have hor := ip4_or a x 8 hx (by simp; omega)
                      refine ⟨⟨0 + 1, a * 256 + x, ?_, rfl, by omega, hab2, hbw.trans (hb2.mono hbw.size), Lib.hid ⟨fun hm => by simp at hab hx ⊢; omega, ?_⟩⟩, by simp [intOf]; omega⟩
                      · congr 1
                      · rw [HI.out.2, hst]
                  · go_wp2_with (go_at_call 148; refine CN'.out.mono ?_; rintro e w2 ⟨rfl, hb2⟩)
                    ·
                      have hx : ¬ x < 2 ^ 24 := by
                        have h2 : 0 < (x : Int) / 16777216 := by assumption
                        omega
                      have hr2 : Hid (ip4 s.data.toList = (0, true, 7)) := by
                        rw [hr.out, HI.out.2, ip4loop_big m 1 a p (ps.drop (1 + 1)) x HN.out (by rw [if_pos (show 1 + 1 = m by (have h1 : ((1 : Int) == (m : Int) - 1) = true := by assumption); (have := beq_iff_eq.1 h1); omega)]; exact hx)]; exact Lib.hid rfl
                      go_ret3
                      exact ⟨by rw [hr2.out]; rfl, hbo.trans (hb2.mono hbo.size)⟩
                    ·
                      have hx : x < 2 ^ 24 := by
                        have h2 : (x : Int) / 16777216 ≤ 0 := by assumption
                        omega
                      have hkm : 1 + 1 = m := by (have h1 : ((1 : Int) == (m : Int) - 1) = true := by assumption); (have := beq_iff_eq.1 h1; omega)
                      have hst := ip4loop_step m 1 a p (ps.drop (1 + 1)) x HN.out (by rw [if_pos (show 1 + 1 = m by (have h1 : ((1 : Int) == (m : Int) - 1) = true := by assumption); (have := beq_iff_eq.1 h1); omega)]; exact hx)
                      rw [if_pos (show 1 + 1 = m by (have h1 : ((1 : Int) == (m : Int) - 1) = true := by assumption); (have := beq_iff_eq.1 h1); omega)] at hst
                      have hab := HI.out.1 (by omega)
                      have hab2 : a * 16777216 + x < 4294967296 := by simp at hab hx; omega
                      have hor := ip4_or a x 24 hx (by simp; omega)
                      refine ⟨⟨1 + 1, a * 16777216 + x, ?_, rfl, by omega, hab2, hbw.trans (hb2.mono hbw.size), Lib.hid ⟨fun hm => by simp at hab hx ⊢; omega, ?_⟩⟩, by simp [intOf]; omega⟩
                      · congr 1
                      · rw [HI.out.2, hst]
                    ·
                      have hx : ¬ x < 2 ^ 8 := by
                        have h2 : 0 < (x : Int) / 256 := by assumption
                        omega
                      have hr2 : Hid (ip4 s.data.toList = (0, true, 7)) := by
                        rw [hr.out, HI.out.2, ip4loop_big m 1 a p (ps.drop (1 + 1)) x HN.out (by rw [if_neg (show ¬ 1 + 1 = m by (have h1 : ((1 : Int) == (m : Int) - 1) = false := by assumption); (have := beq_eq_false_iff_ne.1 h1); omega)]; exact hx)]; exact Lib.hid rfl
                      go_ret3
                      exact ⟨by rw [hr2.out]; rfl, hbo.trans (hb2.mono hbo.size)⟩
                    ·
                      have hx : x < 2 ^ 8 := by
                        have h2 : (x : Int) / 256 ≤ 0 := by assumption
                        omega
                      have hst := ip4loop_step m 1 a p (ps.drop (1 + 1)) x HN.out (by rw [if_neg (show ¬ 1 + 1 = m by (have h1 : ((1 : Int) == (m : Int) - 1) = false := by assumption); (have := beq_eq_false_iff_ne.1 h1); omega)]; exact hx)
                      rw [if_neg (show ¬ 1 + 1 = m by (have h1 : ((1 : Int) == (m : Int) - 1) = false := by assumption); (have := beq_eq_false_iff_ne.1 h1); omega)] at hst
                      have hab := HI.out.1 (by omega)
                      have hab2 : a * 256 + x < 4294967296 := by simp at hab hx; omega
                      have hor := ip4_or a x 8 hx (by simp; omega)
                      refine ⟨⟨1 + 1, a * 256 + x, ?_, rfl, by omega, hab2, hbw.trans (hb2.mono hbw.size), Lib.hid ⟨fun hm => by simp at hab hx ⊢; omega, ?_⟩⟩, by simp [intOf]; omega⟩
                      · congr 1
                      · rw [HI.out.2, hst]
                  · go_wp2_with (go_at_call 148; refine CN'.out.mono ?_; rintro e w2 ⟨rfl, hb2⟩)
                    ·
                      have hx : ¬ x < 2 ^ 16 := by
                        have h2 : 0 < (x : Int) / 65536 := by assumption
                        omega
                      have hr2 : Hid (ip4 s.data.toList = (0, true, 7)) := by
                        rw [hr.out, HI.out.2, ip4loop_big m 2 a p (ps.drop (2 + 1)) x HN.out (by rw [if_pos (show 2 + 1 = m by (have h1 : ((2 : Int) == (m : Int) - 1) = true := by assumption); (have := beq_iff_eq.1 h1); omega)]; exact hx)]; exact Lib.hid rfl
                      go_ret3
                      exact ⟨by rw [hr2.out]; rfl, hbo.trans (hb2.mono hbo.size)⟩
                    ·
                      have hx : x < 2 ^ 16 := by
                        have h2 : (x : Int) / 65536 ≤ 0 := by assumption
                        omega
                      have hkm : 2 + 1 = m := by (have h1 : ((2 : Int) == (m : Int) - 1) = true := by assumption); (have := beq_iff_eq.1 h1; omega)
                      have hst := ip4loop_step m 2 a p (ps.drop (2 + 1)) x HN.out (by rw [if_pos (show 2 + 1 = m by (have h1 : ((2 : Int) == (m : Int) - 1) = true := by assumption); (have := beq_iff_eq.1 h1); omega)]; exact hx)
                      rw [if_pos (show 2 + 1 = m by (have h1 : ((2 : Int) == (m : Int) - 1) = true := by assumption); (have := beq_iff_eq.1 h1); omega)] at hst
                      have hab := HI.out.1 (by omega)
                      have hab2 : a * 65536 + x < 4294967296 := by simp at hab hx; omega
                      have hor := ip4_or a x 16 hx (by simp; omega)
                      refine ⟨⟨2 + 1, a * 65536 + x, ?_, rfl, by omega, hab2, hbw.trans (hb2.mono hbw.size), Lib.hid ⟨fun hm => by simp at hab hx ⊢; omega, ?_⟩⟩, by simp [intOf]; omega⟩
                      · congr 1
                      · rw [HI.out.2, hst]
                    ·
                      have hx : ¬ x < 2 ^ 8 := by
                        have h2 : 0 < (x : Int) / 256 := by assumption
                        omega
                      have hr2 : Hid (ip4 s.data.toList = (0, true, 7)) := by
                        rw [hr.out, HI.out.2, ip4loop_big m 2 a p (ps.drop (2 + 1)) x HN.out (by rw [if_neg (show ¬ 2 + 1 = m by (have h1 : ((2 : Int) == (m : Int) - 1) = false := by assumption); (have := beq_eq_false_iff_ne.1 h1); omega)]; exact hx)]; exact Lib.hid rfl
                      go_ret3
                      exact ⟨by rw [hr2.out]; rfl, hbo.trans (hb2.mono hbo.size)⟩
                    ·
                      have hx : x < 2 ^ 8 := by
                        have h2 : (x : Int) / 256 ≤ 0 := by assumption
                        omega
                      have hst := ip4loop_step m 2 a p (ps.drop (2 + 1)) x HN.out (by rw [if_neg (show ¬ 2 + 1 = m by (have h1 : ((2 : Int) == (m : Int) - 1) = false := by assumption); (have := beq_eq_false_iff_ne.1 h1); omega)]; exact hx)
                      rw [if_neg (show ¬ 2 + 1 = m by (have h1 : ((2 : Int) == (m : Int) - 1) = false := by assumption); (have := beq_eq_false_iff_ne.1 h1); omega)] at hst
                      have hab := HI.out.1 (by omega)
                      have hab2 : a * 256 + x < 4294967296 := by simp at hab hx; omega
                      have hor := ip4_or a x 8 hx (by simp; omega)
                      refine ⟨⟨2 + 1, a * 256 + x, ?_, rfl, by omega, hab2, hbw.trans (hb2.mono hbw.size), Lib.hid ⟨fun hm => by simp at hab hx ⊢; omega, ?_⟩⟩, by simp [intOf]; omega⟩
                      · congr 1
                      · rw [HI.out.2, hst]
                  · go_wp2_with (go_at_call 148; refine CN'.out.mono ?_; rintro e w2 ⟨rfl, hb2⟩)
                    ·
                      have hx : ¬ x < 2 ^ 8 := by
                        have h2 : 0 < (x : Int) / 256 := by assumption
                        omega
                      have hr2 : Hid (ip4 s.data.toList = (0, true, 7)) := by
                        rw [hr.out, HI.out.2, ip4loop_big m 3 a p (ps.drop (3 + 1)) x HN.out (by rw [if_pos (show 3 + 1 = m by omega)]; exact hx)]; exact Lib.hid rfl
                      go_ret3
                      exact ⟨by rw [hr2.out]; rfl, hbo.trans (hb2.mono hbo.size)⟩
                    ·
                      have hx : x < 2 ^ 8 := by
                        have h2 : (x : Int) / 256 ≤ 0 := by assumption
                        omega
                      have hst := ip4loop_step m 3 a p (ps.drop (3 + 1)) x HN.out (by rw [if_pos (show 3 + 1 = m by omega)]; exact hx)
                      rw [if_pos (show 3 + 1 = m by omega)] at hst
                      have hab := HI.out.1 (by omega)
                      have hab2 : a * 256 + x < 4294967296 := by simp at hab hx; omega
                      have hor := ip4_or a x 8 hx (by simp; omega)
                      refine ⟨⟨3 + 1, a * 256 + x, ?_, rfl, by omega, hab2, hbw.trans (hb2.mono hbw.size), Lib.hid ⟨fun hm => by simp at hab hx ⊢; omega, ?_⟩⟩, by simp [intOf]; omega⟩
                      · congr 1
                      · rw [HI.out.2, hst]
              · obtain rfl : i = m := by omega
                have hr2 : Hid (ip4 s.data.toList = (a, true, 0)) := by
                  rw [hr.out, hinv.out.2, List.drop_of_length_le (by rw [HL.out.1]; omega)]; exact Lib.hid rfl
                clear hinv hr
                have hai : (a : Int) < 4294967296 := by omega
                go_wp2
                go_ret3
                exact ⟨by rw [hr2.out]; rfl, hbo⟩
end Go.Proofs.YtmgkmpbblhkacaaGreatDoor
