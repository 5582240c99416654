/- The reference's sets of bytes, and Encode. -/
import Derived.Test.YtmgkmpbblhkacaaGreatDoorRef06
namespace Go.Proofs.YtmgkmpbblhkacaaGreatDoor
open Go.RowKit
set_option linter.unusedSimpArgs false
set_option linter.unusedVariables false

theorem drop_at (s : ByteArray) (i : Nat) (h : i < s.size) : s.data.toList.drop i = s[i] :: s.data.toList.drop (i + 1) := by
  rw [← data_get s i h]
  exact List.drop_eq_getElem_cons (by simpa using h)
theorem drop_end (s : ByteArray) : s.data.toList.drop s.size = [] := List.drop_of_length_le (by rw [← Lib.size_eq]; exact Nat.le_refl _)
theorem u8_ne (c d : UInt8) (h : c ≠ d) : ((c.toNat : Int) == (d.toNat : Int)) = false := by
  refine beq_eq_false_iff_ne.2 (fun hh => h (UInt8.toNat_inj.1 ?_))
  omega
theorem u8_eq (c d : UInt8) (h : c = d) : ((c.toNat : Int) == (d.toNat : Int)) = true := by rw [h]; simp
/-- Is a byte in a text? -/
def hasP (s : Bs) (c : UInt8) : Bool := s.contains c
set_option maxRecDepth 1000000 in
theorem has_any (s : ByteArray) (c : UInt8) (w : World) (hs : s.size ≤ 1000000) :
    Calls Tryz.prog 111 #[.string s, .int .u8 c.toNat] w fun e w' => e = .returned (.bool (hasP s.data.toList c)) ∧ w = w' := by
  go_enter Tryz.func111, Tryz.ntmps111
  go_wp2
  go_loop [5] (fun vi => ∃ i : Nat, vi = .int .i64 i ∧ i ≤ s.size ∧ Hid (hasP s.data.toList c = hasP (s.data.toList.drop i) c)) (fun vi => s.size - (intOf vi).toNat)
  case atStart => exact ⟨0, rfl, by omega, Lib.hid (by simp)⟩
  case round =>
    obtain ⟨i, rfl, hi, HI⟩ := hrel
    by_cases hlt : i < s.size
    · have hd := drop_at s i hlt
      by_cases hc : s[i] = c
      · have hr : Hid (hasP s.data.toList c = true) := by rw [HI.out, hd, hc]; exact Lib.hid (by simp [hasP])
        have hb := u8_eq _ _ hc
        clear hd hc HI
        go_wp2
        go_ret
        exact ⟨by rw [hr.out]; exact rfl, rfl⟩
      · have hr : Hid (hasP s.data.toList c = hasP (s.data.toList.drop (i + 1)) c) := by
          rw [HI.out, hd]
          refine Lib.hid ?_
          have e : (c == s[i]) = false := by simpa using fun h : c = s[i] => hc h.symm
          unfold hasP
          rw [List.contains_cons, e, Bool.false_or]
        have hb := u8_ne _ _ hc
        clear hd hc HI
        go_wp2
        go_round
        case rel => exact ⟨i + 1, by go_num, by omega, hr⟩
        case measure => simp [intOf]; omega
    · obtain rfl : i = s.size := by omega
      have hr : Hid (hasP s.data.toList c = false) := by rw [HI.out, drop_end]; exact Lib.hid rfl
      clear HI
      go_wp2
      go_ret
      exact ⟨by rw [hr.out]; exact rfl, rfl⟩
/-- The bytes that a set has beside what no set lacks. -/
def moreP : Nat → Bs
  | 2 => [32, 34, 60, 62, 96]
  | 3 => [32, 34, 35, 60, 62]
  | 4 => [32, 34, 35, 60, 62, 39]
  | 5 => [32, 34, 35, 60, 62, 63, 94, 96, 123, 125]
  | _ => []
/-- transeptref06.In. -/
def inP (k : Nat) (c : UInt8) : Bool := decide (c.toNat < 32) || decide (126 < c.toNat) || hasP (moreP k) c
theorem ret_bool {a b : Bool} (h : a = b) : Ending.returned (.bool a) = Ending.returned (.bool b) := by rw [h]
set_option maxRecDepth 1000000 in
set_option maxHeartbeats 1000000 in
theorem In_any (k : Nat) (c : UInt8) (w : World) (h1 : 1 ≤ k) (h5 : k ≤ 5) :
    Calls Tryz.prog 80 #[.int .i64 k, .int .u8 c.toNat] w fun e w' => e = .returned (.bool (inP k c)) ∧ Below w.heap.size w w' := by
  have hc := c.toNat_lt
  have C := fun (s : ByteArray) (w' : World) (hs : s.size ≤ 1000000) => has_any s c w' hs
  have C' := Lib.hid C
  clear C
  by_cases hlo : c.toNat < 32
  · have hr : Hid (inP k c = true) := Lib.hid (by unfold inP; simp [hlo])
    have hl : (c.toNat : Int) < 32 := by omega
    have hk1 : ¬ ((k : Int) < 1) := by omega
    have hk2 : ¬ ((5 : Int) < (k : Int)) := by omega
    go_enter Tryz.func80, Tryz.ntmps80
    go_wp2
    go_ret
    exact ⟨by rw [hr.out]; exact rfl, Below.refl _ _⟩
  · by_cases hhi : 126 < c.toNat
    · have hr : Hid (inP k c = true) := Lib.hid (by unfold inP; simp [hhi])
      have hl : (126 : Int) < c.toNat := by omega
      have hl2 : (32 : Int) ≤ c.toNat := by omega
      have hk1 : ¬ ((k : Int) < 1) := by omega
      have hk2 : ¬ ((5 : Int) < (k : Int)) := by omega
      go_enter Tryz.func80, Tryz.ntmps80
      go_wp2
      go_ret
      exact ⟨by rw [hr.out]; exact rfl, Below.refl _ _⟩
    · have hl1 : (32 : Int) ≤ c.toNat := by omega
      have hl2 : (c.toNat : Int) ≤ 126 := by omega
      have hr : Hid (inP k c = hasP (moreP k) c) := Lib.hid (by unfold inP; simp [hlo, hhi])
      clear hlo hhi
      have hk : k = 1 ∨ k = 2 ∨ k = 3 ∨ k = 4 ∨ k = 5 := by omega
      rcases hk with rfl | rfl | rfl | rfl | rfl
      all_goals
        go_enter Tryz.func80, Tryz.ntmps80
        go_wp2_with (first | (go_at_call 111; refine (C'.out _ _ (by decide)).mono ?_; rintro e w2 ⟨rfl, rfl⟩))
        go_ret
        exact ⟨by rw [hr.out]; exact rfl, (Below.refl _ w).alloc (Nat.le_refl _) _⟩
/-- A digit in upper case. -/
def hexU (n : Nat) : UInt8 := if n < 10 then UInt8.ofNat (48 + n) else UInt8.ofNat (55 + n)
theorem hexU_val (n : Nat) (h : n < 16) : ((hexU n).toNat : Int) = if n < 10 then 48 + (n : Int) else 65 + (n : Int) - 10 := by
  have : ∀ n : Fin 16, ((hexU n.val).toNat : Int) = if n.val < 10 then 48 + (n.val : Int) else 65 + (n.val : Int) - 10 := by decide
  exact this ⟨n, h⟩
theorem ret_u8 {a b : Int} (h : a = b) : Ending.returned (.int .u8 a) = Ending.returned (.int .u8 b) := by rw [h]
theorem digit_any (x : Int) (w : World) (h0 : 0 ≤ x) (h : x < 16) :
    Calls Tryz.prog 81 #[.int .u8 x] w fun e w' => e = .returned (.int .u8 ((hexU x.toNat).toNat : Int)) ∧ w = w' := by
  obtain ⟨n, rfl⟩ : ∃ n : Nat, x = n := ⟨x.toNat, by omega⟩
  have hv := Lib.hid (hexU_val n (by omega))
  by_cases h10 : n < 10
  · have h10' : (n : Int) < 10 := by omega
    go_enter Tryz.func81, Tryz.ntmps81
    go_wp2
    go_ret
    exact ⟨ret_u8 (by rw [Int.toNat_natCast, hv.out, if_pos h10]), rfl⟩
  · have h10' : (10 : Int) ≤ (n : Int) := by omega
    go_enter Tryz.func81, Tryz.ntmps81
    go_wp2
    go_ret
    exact ⟨ret_u8 (by rw [Int.toNat_natCast, hv.out, if_neg h10]), rfl⟩
theorem digit_nat (n : Nat) (w : World) (h : n < 16) :
    Calls Tryz.prog 81 #[.int .u8 (n : Int)] w fun e w' => e = .returned (.int .u8 ((hexU n).toNat : Int)) ∧ w = w' := digit_any (n : Int) w (by omega) (by omega)
/-- A byte, encoded or as it is. -/
def enc1 (k : Nat) (c : UInt8) : Bs := if inP k c = true then [37, hexU (c.toNat / 16), hexU (c.toNat % 16)] else [c]
/-- transeptref06.Encode. -/
def encP (k : Nat) (s : Bs) : Bs := s.flatMap (enc1 k)
theorem enc1_len (k : Nat) (c : UInt8) : (enc1 k c).length ≤ 3 := by unfold enc1; split <;> simp
theorem encP_len (k : Nat) (s : Bs) : (encP k s).length ≤ 3 * s.length := by
  induction s with
  | nil => simp [encP]
  | cons c r ih =>
    have := enc1_len k c
    simp only [encP, List.flatMap_cons, List.length_append, List.length_cons] at ih ⊢
    omega
/-- 's = append(s, x, y ..)', bytes, as one step of a region that draws. -/
theorem step_u8s {w : World} {ops : Array Oper} {o : Oper} {a : Act} {K : Act → World → Prop} {Q : Exit → Act → World → Prop} {E : Prop} (hgd : o.guard = none) (s x : Operand)
    (ho : o.op = .call { callee := .builtin .append, args := #[s, x], argTypes := #[43, 43] }) (B : Nat) (v : Value) (ps qs : Bs) (hs : a.eval s = v) (hown : OwnY w B v ps)
    (ad : Addr) (m c : Nat) (hm : qs.length = m) (h0 : 0 < m) (h1 : m ≤ 1000000) (hx : a.eval x = .slice (some ad) m c) (hc : ∀ (j : Nat) (p : UInt8), qs[j]? = some p → w.cell? (ad.add j) = some (.int .u8 (p.toNat : Int))) (hn : ps.length ≤ 1000000000) (hB : B ≤ w.heap.size)
    (h : ∀ v' w', OwnY w' B v' (ps ++ qs) → w.grownBy w' v.ownBlock → K (a.put o.dst v') w') :
    if Region.wanted o (yielded ops a.tmps) = true then Oper.wp Tryz.prog o a w K Q else E := by
  obtain ⟨i0, hi, hz0, hz1, hz2⟩ := info_parts infoY
  subst hm
  refine step_append_lies w hgd s x 43 ho B 5 i0 (.int .u8 0) 1 1 Tryz.underlying43 hi hz0 hz1 hz2 rfl (by decide) v ps.length _ hs hown ad qs.length c (qs.map fun (x : UInt8) => Value.int .u8 (x.toNat : Int)) hx (by simp) ?_ ?_ h0 ?_ ?_ hB _ rfl ?_
  · intro j u hu
    rw [List.getElem?_map] at hu
    cases hq : qs[j]? with
    | none => rw [hq] at hu; simp at hu
    | some q => rw [hq] at hu; simp at hu; subst hu; exact hc j q hq
  · intro u hu; simp at hu; obtain ⟨q, _, rfl⟩ := hu; rfl
  · unfold maxLen; omega
  · omega
  · intro g cap w' h1 h2 _ _
    refine h _ w' ?_ h2
    unfold OwnY
    simpa using h1
theorem three_newY (a b c : UInt8) (x y z : Int) (hx : x = (a.toNat : Int)) (hy : y = (b.toNat : Int)) (hz : z = (c.toNat : Int)) (w : World) : ∀ (j : Nat) (q : UInt8), [a, b, c][j]? = some q → (w.alloc (.cells #[.int .u8 x, .int .u8 y, .int .u8 z] 5)).cell? ((⟨w.heap.size, 0, none⟩ : Addr).add j) = some (.int .u8 (q.toNat : Int)) := by
  intro j q h
  subst hx; subst hy; subst hz
  rw [add_zero_off, cells_alloc_new]
  match j, h with
  | 0, h => simp at h; subst h; rfl
  | 1, h => simp at h; subst h; rfl
  | 2, h => simp at h; subst h; rfl
  | j + 3, h => simp at h
set_option maxRecDepth 1000000 in
set_option maxHeartbeats 3000000 in
theorem Encode_any (k : Nat) (s : ByteArray) (w : World) (hs : s.size ≤ 1000000) (h1 : 1 ≤ k) (h5 : k ≤ 5) :
    Calls Tryz.prog 49 #[.int .i64 k, .string s] w fun e w' => e = .returned (.string (strOf (encP k s.data.toList))) ∧ Below w.heap.size w w' := by
  have CI := Lib.hid (fun (c : UInt8) (w' : World) => In_any k c w' h1 h5)
  clear h1 h5
  go_enter Tryz.func49, Tryz.ntmps49
  go_wp2
  have hown0 := Lib.hid (OwnY.new w w.heap.size (Nat.le_refl _))
  have hb0 : Below w.heap.size w (w.alloc (.cells #[] 5)) := (Below.refl _ w).alloc (Nat.le_refl _) _
  have HS := Lib.hid hs
  go_loopw [5, 6] (fun v vi wr => ∃ (i : Nat) (xs : Bs) (g c : Nat), v = .slice (some ⟨g, 0, none⟩) xs.length c ∧ vi = .int .i64 i ∧ i ≤ s.size ∧ xs.length ≤ 3 * i ∧ Below w.heap.size w wr ∧ Hid (OwnY wr w.heap.size (.slice (some ⟨g, 0, none⟩) xs.length c) xs ∧ encP k s.data.toList = xs ++ encP k (s.data.toList.drop i))) (fun _ vi _ => s.size - (intOf vi).toNat)
  case atStart => exact ⟨0, [], w.heap.size, 0, rfl, rfl, by omega, by simp, hb0, Lib.hid ⟨hown0.out, by simp⟩⟩
  case round =>
    obtain ⟨i, xs, g, cp, rfl, rfl, hi, hxl, hbw, HI⟩ := hrel
    obtain ⟨wo, rfl⟩ : ∃ wo : World, wo = wr := ⟨_, rfl⟩
    have hB := hbw.size
    by_cases hlt : i < s.size
    · have hd := drop_at s i hlt
      have HO := Lib.hid HI.out.1
      have hst : encP k s.data.toList = (xs ++ enc1 k s[i]) ++ encP k (s.data.toList.drop (i + 1)) := by
        rw [HI.out.2, hd]; simp [encP]
      have HST := Lib.hid hst
      have hc256 := s[i].toNat_lt
      clear hst hd HI
      cases hin : inP k s[i] with
      | true =>
        have HE : Hid (enc1 k s[i] = [37, hexU (s[i].toNat / 16), hexU (s[i].toNat % 16)]) := Lib.hid (by unfold enc1; rw [hin]; rfl)
        have CI2 : Hid (∀ w' : World, Calls Tryz.prog 80 #[.int .i64 k, .int .u8 s[i].toNat] w' fun e w'' => e = .returned (.bool true) ∧ Below w'.heap.size w' w'') := Lib.hid (fun w' => by have := CI.out s[i] w'; rw [hin] at this; exact this)
        clear hin
        go_wp2_with (first | (go_at_call 80; refine (CI2.out _).mono ?_; rintro e w2 ⟨rfl, hb2⟩))
        have hb2w := hbw.trans (hb2.mono hB)
        have HO2 := Lib.hid (HO.out.below hb2)
        have hB2 := hb2w.size
        obtain ⟨hi', hhi⟩ : ∃ hi' : Int, (s[i].toNat : Int) / 16 = hi' := ⟨_, rfl⟩
        obtain ⟨lo', hlo⟩ : ∃ lo' : Int, (s[i].toNat : Int) % 16 = lo' := ⟨_, rfl⟩
        have hi0 : 0 ≤ hi' := by omega
        have hi16 : hi' < 16 := by omega
        have lo0 : 0 ≤ lo' := by omega
        have lo16 : lo' < 16 := by omega
        have HE2 : Hid (enc1 k s[i] = [37, hexU hi'.toNat, hexU lo'.toNat]) := Lib.hid (by rw [HE.out, ← hhi, ← hlo]; rfl)
        have hw1 : IntKind.u8.wrap hi' = hi' := u8_wrap_low hi' hi0 (by omega)
        have hw2 : IntKind.u8.wrap lo' = lo' := u8_wrap_low lo' lo0 (by omega)
        have htd : Int.tdiv (s[i].toNat : Int) 16 = hi' := hhi
        have htm : Int.tmod (s[i].toNat : Int) 16 = lo' := hlo
        go_region_law (first | (refine step_u8s rfl _ _ rfl w.heap.size _ xs [37, hexU hi'.toNat, hexU lo'.toNat] rfl (HO2.out.below (by first | exact (Below.refl _ _).alloc (Nat.le_refl _) _ | exact Below.drew ((Below.refl _ _).alloc (Nat.le_refl _) _))) ⟨w2.heap.size, 0, none⟩ 3 3 rfl (by decide) (by decide) rfl (by first | exact three_newY _ _ _ _ _ _ rfl rfl rfl w2) (by omega) (by simp; omega) ?_; intro v2 w3 hown3 hg3) | (go_simp; go_at_call 81; refine (digit_any _ _ (by assumption) (by assumption)).mono ?_; rintro e w9 ⟨rfl, rfl⟩))
        all_goals
          rcases OwnY.form hown3 with ⟨_, h⟩ | ⟨g2, cp2, rfl, _⟩
          · simp at h
          · have hb3 : Below w.heap.size w w3 := by
              first
              | exact (hb2w.alloc hB2 _).grown hg3 (by simp; omega) HO.out.base
              | exact (Below.drew (hb2w.alloc hB2 _)).grown hg3 (by simp; omega) HO.out.base
            clear hg3
            go_wp2
            exact ⟨⟨i + 1, _, g2, cp2, by first | rfl | simp, by go_num, by omega, by simp; omega, hb3, Lib.hid ⟨hown3, by rw [HST.out, HE2.out]⟩⟩, by simp [intOf]; omega⟩
      | false =>
        have HE : Hid (enc1 k s[i] = [s[i]]) := Lib.hid (by unfold enc1; rw [hin]; rfl)
        have CI2 : Hid (∀ w' : World, Calls Tryz.prog 80 #[.int .i64 k, .int .u8 s[i].toNat] w' fun e w'' => e = .returned (.bool false) ∧ Below w'.heap.size w' w'') := Lib.hid (fun w' => by have := CI.out s[i] w'; rw [hin] at this; exact this)
        clear hin
        go_wp2_with (first | (go_at_call 80; refine (CI2.out _).mono ?_; rintro e w2 ⟨rfl, hb2⟩; have HO2 := Lib.hid (HO.out.below hb2)) | (at_builtin; refine app_u8 (qs := [s[i]]) rfl _ _ rfl w.heap.size _ xs rfl (HO2.out.below ((Below.refl _ _).alloc (Nat.le_refl _) _)) ⟨w2.heap.size, 0, none⟩ 1 rfl (one_newY _ _ rfl w2) (by omega) (by simp) (by have := (hbw.trans (hb2.mono hB)).size; simp; omega) ?_; intro v2 w3 hown3 hg3))
        rcases OwnY.form hown3 with ⟨_, h⟩ | ⟨g2, cp2, rfl, _⟩
        · simp at h
        · have hb2w := hbw.trans (hb2.mono hB)
          have hb3 : Below w.heap.size w w3 := (hb2w.alloc hb2w.size _).grown hg3 (by have := hb2w.size; simp; omega) HO.out.base
          exact ⟨⟨i + 1, _, g2, cp2, rfl, rfl, by omega, by simp; omega, hb3, Lib.hid ⟨hown3, by rw [HST.out, HE.out]⟩⟩, by simp [intOf]; omega⟩
    · obtain rfl : i = s.size := by omega
      have hv : (Value.slice (some ⟨g, 0, none⟩) xs.length cp) ≠ .slice none 0 0 := by intro h; cases h
      have hend : Hid (xs = encP k s.data.toList) := by
        rw [HI.out.2, drop_end]
        exact Lib.hid (by simp [encP])
      have hst := own_str HI.out.1 hv
      clear HI hv
      go_wp2
      go_ret
      exact ⟨by rw [← hend.out]; exact rfl, hbw⟩
end Go.Proofs.YtmgkmpbblhkacaaGreatDoor
