/- host.Parse. -/
import Derived.Test.YtlhbpdnbfghkoaaGreatDoorIp6
import Derived.Test.YtlhbpdnbfghkoaaGreatDoorIp4
import Derived.Test.YtlhbpdnbfghkoaaGreatDoorDec
import Derived.Test.YtlhbpdnbfghkoaaGreatDoorText4
import Derived.Laws.IdiomStrings
namespace Go.Proofs.YtlhbpdnbfghkoaaGreatDoor
open Go.RowKit
set_option linter.unusedSimpArgs false
set_option linter.unusedVariables false

def lowB (c : UInt8) : UInt8 := if 65 ≤ c.toNat ∧ c.toNat ≤ 90 then c + 32 else c
/-- host.Parse: the host as it is written; none: it is none. -/
def parseP (s : Bs) : Option Bs :=
  if ([91] : Bs).isPrefixOf s = true then
    (if Lib.hasSuffix (Lib.trimPrefix s [91]) [93] = true then
      (match ip6 (Lib.trimSuffix (Lib.trimPrefix s [91]) [93]) with | some a => some (91 :: (text6 a ++ [93])) | none => none) else none)
  else if pdec s = [] then none
  else if (pdec s).any forbB = true then none
  else if (ip4 ((pdec s).map lowB)).2.2 ≠ 0 then none
  else if (ip4 ((pdec s).map lowB)).2.1 = true then some (text4 (ip4 ((pdec s).map lowB)).1)
  else some ((pdec s).map lowB)
def ParseEnd (r : Option Bs) (e : Ending) : Prop :=
  match r with
  | some l => e = .returned (.tuple #[.string (strOf l), .int .i64 0])
  | none => e = .returned (.tuple #[.string ⟨#[]⟩, .int .i64 7])

theorem hex16_lt (p : Bs) (n : Nat) (h : hex16 p = some n) : n < 65536 := by
  unfold hex16 at h
  split at h
  · cases h
  · rename_i m hm
    split at h
    · cases h
    · cases h; have := parseU_le _ _ _ _ hm; omega
theorem tf_lt (l : List Bs) : ∀ (i x y a b : Nat), i + l.length ≤ 4 → x < 256 ^ (min i 2) → y < 256 ^ (i - 2) → tf i x y l = some (a, b) → a < 65536 ∧ b < 65536 := by
  induction l with
  | nil =>
    intro i x y a b hi hx hy h
    simp [tf] at h
    obtain ⟨rfl, rfl⟩ := h
    simp at hi
    have h1 : (256 : Nat) ^ (min i 2) ≤ 256 ^ 2 := Nat.pow_le_pow_right (by decide) (by omega)
    have h2 : (256 : Nat) ^ (i - 2) ≤ 256 ^ 2 := Nat.pow_le_pow_right (by decide) (by omega)
    omega
  | cons p r ih =>
    intro i x y a b hi hx hy h
    simp only [List.length_cons] at hi
    unfold tf at h
    split at h
    · cases h
    · rename_i n hn
      have h255 := octet_le _ _ hn
      split at h
      · rename_i h2
        refine ih (i + 1) _ _ a b (by omega) ?_ ?_ h
        · rw [show min (i + 1) 2 = min i 2 + 1 by omega, Nat.pow_succ]; omega
        · rw [show i + 1 - 2 = 0 by omega]; rw [show i - 2 = 0 by omega] at hy; exact hy
      · rename_i h2
        refine ih (i + 1) _ _ a b (by omega) ?_ ?_ h
        · rw [show min (i + 1) 2 = min i 2 by omega]; exact hx
        · rw [show i + 1 - 2 = (i - 2) + 1 by omega, Nat.pow_succ]; omega
theorem tailP_lt (s : Bs) (a b : Nat) (h : tailP s = some (a, b)) : a < 65536 ∧ b < 65536 := by
  unfold tailP at h
  split at h
  · rename_i h4
    exact tf_lt _ 0 0 0 a b (by omega) (by decide) (by decide) h
  · cases h
theorem pcs_lt (e : Bool) (l : List Bs) : ∀ r, pcs e l = some r → ∀ x ∈ r, x < 65536 := by
  induction l with
  | nil => intro r h; simp [pcs] at h; subst h; simp
  | cons p q ih =>
    intro r h
    unfold pcs at h
    split at h
    · split at h
      · cases h
      · rename_i a b hab
        cases h
        have := tailP_lt _ _ _ hab
        intro x hx
        simp at hx
        rcases hx with rfl | rfl
        · exact this.1
        · exact this.2
    · split at h
      · cases h
      · rename_i n hn
        split at h
        · cases h
        · rename_i l hl
          cases h
          intro x hx
          rcases List.mem_cons.1 hx with rfl | hx
          · exact hex16_lt _ _ hn
          · exact ih _ hl x hx
theorem piecesP_lt (e : Bool) (s : Bs) (r : List Nat) (h : piecesP e s = some r) : ∀ x ∈ r, x < 65536 := by
  unfold piecesP at h
  split at h
  · cases h; simp
  · exact pcs_lt _ _ _ h
theorem ip6_ok (s : Bs) (l : List Nat) (h : ip6 s = some l) : l.length = 8 ∧ ∀ x ∈ l, x < 65536 := by
  unfold ip6 at h
  split at h
  · rename_i x y hx hy
    rw [Option.ite_none_right_eq_some] at h
    obtain ⟨hn, h⟩ := h
    cases h
    have hn8 : x.length + y.length ≤ 8 := by
      split at hn <;> omega
    refine ⟨?_, ?_⟩
    · simp only [List.length_append, List.length_replicate]
      omega
    · intro z hz
      rcases List.mem_append.1 hz with hz | hz
      · rcases List.mem_append.1 hz with hz | hz
        · exact piecesP_lt _ _ _ hx z hz
        · have := List.eq_of_mem_replicate hz; omega
      · exact piecesP_lt _ _ _ hy z hz
  · cases h
theorem text6_len (l : List Nat) (hl : l.length = 8) (hx : ∀ x ∈ l, x < 65536) : (text6 l).length ≤ 100 := by
  have hj : ∀ m : List Nat, m.length ≤ 8 → (∀ x ∈ m, x < 65536) → (joinB 58 (m.map hexDigits)).length ≤ 40 := by
    intro m hm hx
    have := joinB_len 58 (m.map hexDigits) 4 (fun p hp => by
      obtain ⟨x, hx2, rfl⟩ := List.mem_map.1 hp
      exact hexDigits_len x (hx x hx2))
    rw [List.length_map] at this
    omega
  unfold text6
  split
  · have := hj l (by omega) hx; omega
  · have h1 := hj (l.take (rowTo l 8).1) (by simp; omega) (fun x h => hx x (List.mem_of_mem_take h))
    have h2 := hj (l.drop (rowTo l 8).2) (by simp; omega) (fun x h => hx x (List.mem_of_mem_drop h))
    simp only [List.length_append, List.length_cons, List.length_nil]
    omega

/-- A row of bytes. -/
def Bytes (w : World) (b : Nat) (l : Bs) : Prop := ∃ (cur : Array Value) (f0 f1 : Nat), w.heap[b]? = some (.cells cur 5 (f0, f1)) ∧ l.length ≤ f0 ∧ ∀ (j : Nat) (c : UInt8), l[j]? = some c → cur[j]? = some (.int .u8 (c.toNat : Int))
theorem Bytes.lt {w : World} {b : Nat} {l : Bs} (h : Bytes w b l) : b < w.heap.size := by
  obtain ⟨cur, f0, f1, h, _⟩ := h
  exact (Array.getElem?_eq_some_iff.1 h).1
theorem Bytes.below {w w' : World} {b : Nat} {l : Bs} (h : Bytes w b l) (hb : Below w.heap.size w w') : Bytes w' b l := by
  have hlt := h.lt
  obtain ⟨cur, f0, f1, h, r⟩ := h
  exact ⟨cur, f0, f1, by rw [hb.block b hlt]; exact h, r⟩
theorem Bytes.cell {w : World} {b : Nat} {l : Bs} (h : Bytes w b l) (j : Nat) (c : UInt8) (hc : l[j]? = some c) : w.cell? ⟨b, j, none⟩ = some (.int .u8 (c.toNat : Int)) := by
  obtain ⟨cur, f0, f1, h, _, r⟩ := h
  rw [cell_of_heap h]; exact r j c hc
theorem Bytes.frozen {w : World} {b : Nat} {l : Bs} (h : Bytes w b l) (j : Nat) (hj : j < l.length) : w.frozen? ⟨b, j, none⟩ = false := by
  obtain ⟨cur, f0, f1, h, hf, _⟩ := h
  unfold World.frozen?
  rw [show w.heap[(⟨b, j, none⟩ : Addr).block]? = some (.cells cur 5 (f0, f1)) from h]
  have : ¬ (f0 ≤ j) := by omega
  simp [this]
theorem Bytes.set {w : World} {b : Nat} {l : Bs} (h : Bytes w b l) (j : Nat) (c : UInt8) (hj : j < l.length) : Bytes (w.setCell ⟨b, j, none⟩ (.int .u8 (c.toNat : Int))) b (l.set j c) := by
  obtain ⟨cur, f0, f1, h, hf, r⟩ := h
  refine ⟨_, f0, f1, heap_setCell_at h j _, by simpa using hf, fun i d hd => ?_⟩
  rw [List.getElem?_set] at hd
  have hjc : j < cur.size := by
    have := r j l[j] (List.getElem?_eq_getElem hj)
    exact (Array.getElem?_eq_some_iff.1 this).1
  rw [Array.getElem?_setIfInBounds]
  by_cases hij : j = i
  · subst hij
    rw [if_pos rfl, if_pos hj] at hd
    cases hd
    rw [if_pos rfl, if_pos hjc]
  · rw [if_neg hij] at hd ⊢
    exact r i d hd
theorem bytes_conv (l : Bs) (W : World) : ∃ (w3 : World) (cap : Nat), (convert 9 35 (.string (strOf l))).run Tryz.prog W = .ok (.slice (some ⟨W.heap.size, 0, none⟩) l.length cap) w3 ∧ Below W.heap.size W w3 ∧ Bytes w3 W.heap.size l := by
  have e := run_bytes_of_string W 9 35 5 (strOf l) Tryz.underlying9 Tryz.underlying35 Tryz.underlying5
  have hsz : (bytesRow (strOf l) (grownCap W (strOf l).size 0 5)).size ≥ l.length := by simp [bytesRow, strOf_size, strOf]
  generalize hN : (bytesRow (strOf l) (grownCap W (strOf l).size 0 5)).size = N at e hsz
  refine ⟨_, _, by rw [e, strOf_size], (Below.drew (Below.refl _ _)).alloc (Nat.le_refl _) _, ?_⟩
  refine ⟨bytesRow (strOf l) (grownCap W (strOf l).size 0 5), N, N + 1, ?_, hsz, ?_⟩
  · show (W.heap.push _)[W.heap.size]? = _
    simp [strOf_size]
  · intro j c hc
    have hj : j < l.length := (List.getElem?_eq_some_iff.1 hc).1
    unfold bytesRow
    rw [Array.getElem?_append_left (by simp [strOf]; exact hj)]
    simp [strOf, hc]
theorem bytes_back (l : Bs) (b cap : Nat) (W : World) (h : Bytes W b l) : (convert 35 9 (.slice (some ⟨b, 0, none⟩) l.length cap)).run Tryz.prog W = .ok (.string (strOf l)) W := by
  refine run_convert_bytes_back _ _ _ 5 _ _ l Tryz.underlying35 Tryz.underlying5 Tryz.underlying9 ?_
  intro j hj
  rw [add_zero_off]
  exact h.cell j l[j] (List.getElem?_eq_getElem hj)
theorem trimPrefix_le (s p : Bs) : (Lib.trimPrefix s p).length ≤ s.length := by
  unfold Lib.trimPrefix; split <;> simp
theorem trimSuffix_le (s p : Bs) : (Lib.trimSuffix s p).length ≤ s.length := by
  unfold Lib.trimSuffix; split <;> simp
theorem ip4loop_lt (l : List Bs) : ∀ (n i all a : Nat), i + l.length = n → n ≤ 4 → l ≠ [] → all < 2 ^ (8 * i) → ip4loop n i all l = some a → a < 4294967296 := by
  induction l with
  | nil => intro n i all a _ _ h; exact absurd rfl h
  | cons p r ih =>
    intro n i all a hi hn _ ha h
    simp only [List.length_cons] at hi
    cases hx : numP p with
    | none => rw [ip4loop_none _ _ _ _ _ hx] at h; cases h
    | some x =>
      by_cases hlt : x < 2 ^ (if i + 1 = n then 8 * (4 - i) else 8)
      · rw [ip4loop_step _ _ _ _ _ _ hx hlt] at h
        have h3 : i = 0 ∨ i = 1 ∨ i = 2 ∨ i = 3 := by omega
        by_cases hl : i + 1 = n
        · obtain rfl : r = [] := List.eq_nil_of_length_eq_zero (by omega)
          rw [if_pos hl] at hlt h
          simp only [ip4loop, Option.some.injEq] at h
          subst h
          rcases h3 with rfl | rfl | rfl | rfl <;> simp at ha hlt ⊢ <;> omega
        · rw [if_neg hl] at hlt h
          refine ih n (i + 1) _ a (by omega) hn (fun hr => by subst hr; simp at hi; omega) ?_ h
          rcases h3 with rfl | rfl | rfl | rfl <;> simp at ha hlt ⊢ <;> omega
      · rw [ip4loop_big _ _ _ _ _ _ hx hlt] at h; cases h
theorem ip4_form (l : Bs) : (ip4 l).2.2 = 0 ∨ (ip4 l).2.2 = 7 := by
  unfold ip4
  simp only
  split
  · exact Or.inl rfl
  · split
    · exact Or.inr rfl
    · split
      · exact Or.inr rfl
      · exact Or.inl rfl
theorem ip4_lt (l : Bs) : (ip4 l).1 < 4294967296 := by
  unfold ip4
  simp only
  split
  · decide
  · split
    · decide
    · split
      · decide
      · rename_i a ha
        by_cases h0 : ip4parts l = []
        · rw [h0] at ha; simp [ip4loop] at ha; omega
        · exact ip4loop_lt _ _ 0 0 a (by simp) (by omega) h0 (by decide) ha
theorem pdec_len (s : Bs) : (pdec s).length ≤ s.length := by
  fun_induction pdec s <;> simp_all <;> omega
theorem low_step (l : Bs) (k : Nat) (c : UInt8) (h : l[k]? = some c) : (l.take (k + 1)).map lowB ++ l.drop (k + 1) = ((l.take k).map lowB ++ l.drop k).set k (lowB c) := by
  obtain ⟨hk, hc⟩ := List.getElem?_eq_some_iff.1 h
  have hd : l.drop k = c :: l.drop (k + 1) := by rw [← hc]; exact List.drop_eq_getElem_cons hk
  rw [hd, List.take_add_one, h, List.set_append_right _ _ (by simp; omega)]
  have : k - ((l.take k).map lowB).length = 0 := by simp; omega
  rw [this]
  simp
theorem low_stay (l : Bs) (k : Nat) (c : UInt8) (h : l[k]? = some c) (hl : lowB c = c) : (l.take (k + 1)).map lowB ++ l.drop (k + 1) = (l.take k).map lowB ++ l.drop k := by
  obtain ⟨hk, hc⟩ := List.getElem?_eq_some_iff.1 h
  have hd : l.drop k = c :: l.drop (k + 1) := by rw [← hc]; exact List.drop_eq_getElem_cons hk
  rw [hd, List.take_add_one, h]
  simp [hl]
theorem agg_eight (a0 a1 a2 a3 a4 a5 a6 a7 : Nat) : agg8 [a0, a1, a2, a3, a4, a5, a6, a7] = .agg #[.int .u16 (a0 : Int), .int .u16 (a1 : Int), .int .u16 (a2 : Int), .int .u16 (a3 : Int), .int .u16 (a4 : Int), .int .u16 (a5 : Int), .int .u16 (a6 : Int), .int .u16 (a7 : Int)] := rfl

set_option maxRecDepth 1000000 in
set_option maxHeartbeats 8000000 in
theorem Parse_any (s : ByteArray) (w : World) (hs : s.size ≤ 1000000) (hG : GL w) :
    Calls Tryz.prog 15 #[.string s] w fun e w' => ParseEnd (parseP s.data.toList) e ∧ Below w.heap.size w w' := by
  have CP := Lib.hid (lib_CutPrefix s ⟨#[91]⟩ w)
  have hln : s.data.toList.length = s.size := (Lib.size_eq s).symm
  have hpd := trimPrefix_le s.data.toList [91]
  rw [hln] at hpd
  go_enter Tryz.func15, Tryz.ntmps15
  go_wp2_with fail
  refine CP.out.mono ?_
  rintro e w1 ⟨rfl, rfl⟩
  clear CP
  obtain ⟨pr, hpr⟩ : ∃ pr, ([91] : Bs).isPrefixOf s.data.toList = pr := ⟨_, rfl⟩
  have hpr' : ((⟨#[91]⟩ : ByteArray).data.toList).isPrefixOf s.data.toList = pr := hpr
  rw [hpr']
  cases pr with
  | true =>
    obtain ⟨inn, hinn⟩ : ∃ inn, Lib.trimPrefix s.data.toList [91] = inn := ⟨_, rfl⟩
    have hinn' : Lib.trimPrefix s.data.toList ((⟨#[91]⟩ : ByteArray).data.toList) = inn := hinn
    rw [hinn']
    rw [hinn] at hpd
    have hdef : Hid (parseP s.data.toList = if Lib.hasSuffix inn [93] = true then (match ip6 (Lib.trimSuffix inn [93]) with | some a => some (91 :: (text6 a ++ [93])) | none => none) else none) := by
      unfold parseP; rw [if_pos hpr, hinn]; exact Lib.hid rfl
    have hsd := trimSuffix_le inn [93]
    have CS := lib_CutSuffix (strOf inn) ⟨#[93]⟩ w (by rw [strOf_size]; omega)
    rw [strOf_data] at CS
    have CS' := Lib.hid CS
    have CI := IPv6_any (strOf (Lib.trimSuffix inn [93])) w (by rw [strOf_size]; omega) hG
    rw [strOf_data] at CI
    have CI' := Lib.hid CI
    clear CS CI hpr hpr' hinn hinn'
    go_wp2_with fail
    refine CS'.out.mono ?_
    rintro e w1 ⟨rfl, rfl⟩
    have e1 : Lib.trimSuffix inn ((⟨#[93]⟩ : ByteArray).data.toList) = Lib.trimSuffix inn [93] := rfl
    have e2 : Lib.hasSuffix inn ((⟨#[93]⟩ : ByteArray).data.toList) = Lib.hasSuffix inn [93] := rfl
    rw [e1, e2]
    generalize Lib.trimSuffix inn [93] = core at hdef CI' hsd ⊢
    generalize Lib.hasSuffix inn [93] = sf at hdef ⊢
    clear CS' e1 e2
    go_wp2_with fail
    refine CI'.out.mono ?_
    rintro e w1 ⟨h6, hb1⟩
    clear CI'
    obtain ⟨r6, hr6⟩ : ∃ r6, ip6 core = r6 := ⟨_, rfl⟩
    have h6ok := ip6_ok core
    rw [hr6] at h6 h6ok hdef
    cases r6 with
    | none =>
      obtain rfl := h6
      have hr : Hid (parseP s.data.toList = none) := by rw [hdef.out]; exact Lib.hid (by split <;> rfl)
      rw [agg_eight]
      clear hdef h6ok hr6
      cases sf
      all_goals
        go_wp2_with fail
        go_ret2
        exact ⟨by rw [hr.out]; exact rfl, hb1.alloc hb1.size _⟩
    | some L =>
      obtain rfl := h6
      obtain ⟨hL8, hLx⟩ := h6ok L rfl
      cases sf with
      | false =>
        have hr : Hid (parseP s.data.toList = none) := by rw [hdef.out]; exact Lib.hid rfl
        clear hdef h6ok hr6
        match L, hL8 with
        | [a0, a1, a2, a3, a4, a5, a6, a7], hL8 =>
        rw [agg_eight]
        go_wp2_with fail
        go_ret2
        exact ⟨by rw [hr.out]; exact rfl, hb1.alloc hb1.size _⟩
      | true =>
        have hr : Hid (parseP s.data.toList = some (91 :: (text6 L ++ [93]))) := by rw [hdef.out]; exact Lib.hid rfl
        have CT := Lib.hid (fun w' hG' => text6_any L w' hL8 hLx hG')
        have htl := text6_len L hL8 hLx
        have hG1 := hG.below hb1
        clear hdef h6ok hr6
        match L, hL8 with
        | [a0, a1, a2, a3, a4, a5, a6, a7], hL8 =>
        rw [agg_eight] at CT ⊢
        obtain ⟨tx, htx⟩ : ∃ tx, text6 [a0, a1, a2, a3, a4, a5, a6, a7] = tx := ⟨_, rfl⟩
        rw [htx] at CT htl hr
        have htz : (strOf tx).size ≤ 100 := by rw [strOf_size]; exact htl
        clear htx hLx hL8
        go_wp2_with (first | (go_at_call 26; refine (CT.out _ (hG1.alloc _)).mono ?_; rintro e w2 ⟨rfl, hb2⟩))
        go_ret2
        refine ⟨?_, ((hb1.alloc hb1.size _).trans (hb2.mono (by have := hb1.size; simp; omega)))⟩
        rw [hr.out]
        have e3 : strOf (91 :: (tx ++ [93])) = (⟨#[91]⟩ ++ strOf tx) ++ ⟨#[93]⟩ := by
          apply ByteArray.ext; apply Array.ext'; simp [strOf]
        show _ = Ending.returned (.tuple #[.string (strOf (91 :: (tx ++ [93]))), .int .i64 0])
        rw [e3]
        exact rfl
  | false =>
    have hdef : Hid (parseP s.data.toList = if pdec s.data.toList = [] then none
  else if (pdec s.data.toList).any forbB = true then none
  else if (ip4 ((pdec s.data.toList).map lowB)).2.2 ≠ 0 then none
  else if (ip4 ((pdec s.data.toList).map lowB)).2.1 = true then some (text4 (ip4 ((pdec s.data.toList).map lowB)).1)
  else some ((pdec s.data.toList).map lowB)) := by
      unfold parseP; rw [if_neg (by rw [hpr]; decide)]; exact Lib.hid rfl
    have hdl := pdec_len s.data.toList
    rw [hln] at hdl
    have CD := Lib.hid (Decode_any s w hs)
    clear hpr hpr' hpd
    generalize pdec s.data.toList = l at hdef hdl CD
    obtain ⟨n, hn⟩ : ∃ n, l.length = n := ⟨_, rfl⟩
    rw [hn] at hdl
    have HN := Lib.hid hn
    go_wp2_with fail
    refine CD.out.mono ?_
    rintro e w1 ⟨rfl, hb1⟩
    obtain ⟨w2, cap, hcv, hb2, hby⟩ := bytes_conv l w1
    rw [hn] at hcv
    have hbw : Below w.heap.size w w2 := hb1.trans (hb2.mono hb1.size)
    have HBY := Lib.hid hby
    have hB : w.heap.size ≤ w1.heap.size := hb1.size
    have HB := Lib.hid hB
    obtain ⟨b, hbe⟩ : ∃ b, w1.heap.size = b := ⟨_, rfl⟩
    rw [hbe] at hcv HBY HB
    clear hn CD hb1 hb2 hby hB
    by_cases h0 : n = 0
    · subst h0
      have hr : Hid (parseP s.data.toList = none) := by
        rw [hdef.out, if_pos (List.eq_nil_of_length_eq_zero HN.out)]; exact Lib.hid rfl
      go_wp2_with fail
      go_ret2
      exact ⟨by rw [hr.out]; exact rfl, hbw⟩
    · have hdef2 : Hid (parseP s.data.toList = if l.any forbB = true then none
  else if (ip4 (l.map lowB)).2.2 ≠ 0 then none
  else if (ip4 (l.map lowB)).2.1 = true then some (text4 (ip4 (l.map lowB)).1)
  else some (l.map lowB)) := by
        rw [hdef.out, if_neg (fun h => h0 (by rw [← HN.out, h]; rfl))]; exact Lib.hid rfl
      have h0b : ((n : Int) == 0) = false := beq_eq_false_iff_ne.2 (by omega)
      clear hdef h0
      go_wp2_with fail
      have hidx : ∀ k, k ≤ n → ∀ c, l[k]? = some c → ((l.take k).map lowB ++ l.drop k)[k]? = some c := by
        intro k hk c hc
        rw [List.getElem?_append_right (by simp; omega)]
        have : k - ((l.take k).map lowB).length = 0 := by simp; have := HN.out; omega
        rw [this, List.getElem?_drop]
        exact hc
      have HIDX := Lib.hid hidx
      clear hidx
      go_loopw [50] (fun vi wr => ∃ k : Nat, vi = .int .i64 k ∧ k ≤ n ∧ Below w.heap.size w wr ∧ Hid (Bytes wr b ((l.take k).map lowB ++ l.drop k) ∧ (l.take k).any forbB = false)) (fun vi _ => n - (intOf vi).toNat)
      case atStart => exact ⟨0, rfl, by omega, hbw, Lib.hid ⟨by simpa using HBY.out, rfl⟩⟩
      case round =>
        obtain ⟨k, rfl, hk, hbr, HI⟩ := hrel
        obtain ⟨wo, rfl⟩ : ∃ wo : World, wo = wr := ⟨_, rfl⟩
        have hBo := hbr.size
        clear hbw
        by_cases hlt : k < n
        · obtain ⟨c, hc⟩ : ∃ c, l[k]? = some c := ⟨_, List.getElem?_eq_getElem (by rw [HN.out]; exact hlt)⟩
          have hcell := HI.out.1.cell k c (HIDX.out k hk c hc)
          have hfro := HI.out.1.frozen k (by simp; have := HN.out; omega)
          have CF := forbidden_any c wo
          obtain ⟨fb, hfb⟩ : ∃ fb, forbB c = fb := ⟨_, rfl⟩
          rw [hfb] at CF
          have hany : (l.take (k + 1)).any forbB = fb := by
            rw [List.take_add_one, hc, List.any_append, HI.out.2, ← hfb]; simp
          have HANY := Lib.hid hany
          have HC := Lib.hid hc
          have CF' := Lib.hid CF
          clear CF hany hc
          cases fb with
          | true =>
            have hr : Hid (parseP s.data.toList = none) := by
              rw [hdef2.out, if_pos]
              · exact Lib.hid rfl
              · have h1 := HANY.out
                rw [List.any_eq_true] at h1
                obtain ⟨x, hx, hx2⟩ := h1
                exact List.any_eq_true.2 ⟨x, List.mem_of_mem_take hx, hx2⟩
            clear hdef2 hfb
            go_wp2_with (first | (go_at_call 28; refine CF'.out.mono ?_; rintro e w9 ⟨rfl, rfl⟩))
            go_ret2
            exact ⟨by rw [hr.out]; exact rfl, hbr⟩
          | false =>
            have hc256 := c.toNat_lt
            clear hdef2 hfb
            by_cases hup : 65 ≤ c.toNat ∧ c.toNat ≤ 90
            · have hset := HI.out.1.set k (lowB c) (by simp; have := HN.out; omega)
              rw [← low_step l k c HC.out] at hset
              have hlow : (lowB c).toNat = c.toNat + 32 := by
                unfold lowB; rw [if_pos hup, UInt8.toNat_add]; show (c.toNat + 32) % 256 = _; omega
              rw [hlow] at hset
              have HSET := Lib.hid hset
              obtain ⟨h65, h90⟩ := hup
              clear hset hlow
              generalize c.toNat = cn at h65 h90 hcell CF' HSET hc256
              go_wp2_with (first | (go_at_call 28; refine CF'.out.mono ?_; rintro e w9 ⟨rfl, rfl⟩))
              refine ⟨⟨k + 1, rfl, by omega, hbr.setCell HB.out _, Lib.hid ⟨HSET.out, HANY.out⟩⟩, by simp [intOf]; omega⟩
            · have hst := low_stay l k c HC.out (by unfold lowB; rw [if_neg hup])
              have HST := Lib.hid hst
              have hup' : (c.toNat : Int) < 65 ∨ ((65 : Int) ≤ c.toNat ∧ (90 : Int) < c.toNat) := by omega
              clear hst hup
              generalize c.toNat = cn at hup' hcell CF' hc256
              rcases hup' with hu | ⟨hu, hv⟩
              all_goals
                go_wp2_with (first | (go_at_call 28; refine CF'.out.mono ?_; rintro e w9 ⟨rfl, rfl⟩))
                refine ⟨⟨k + 1, rfl, by omega, hbr, Lib.hid ⟨?_, HANY.out⟩⟩, by simp [intOf]; omega⟩
                rw [HST.out]
                exact HI.out.1
        · obtain rfl : k = n := by omega
          have hI := HI.out
          rw [List.drop_of_length_le (by rw [HN.out]; exact Nat.le_refl _), List.append_nil, List.take_of_length_le (by rw [HN.out]; exact Nat.le_refl _)] at hI
          obtain ⟨m, hm⟩ : ∃ m, l.map lowB = m := ⟨_, rfl⟩
          have hml : m.length = k := by rw [← hm, List.length_map, HN.out]
          rw [hm] at hI
          have hdef3 : Hid (parseP s.data.toList = if (ip4 m).2.2 ≠ 0 then none else if (ip4 m).2.1 = true then some (text4 (ip4 m).1) else some m) := by
            rw [hdef2.out, if_neg (by rw [hI.2]; decide), hm]; exact Lib.hid rfl
          have hcv1 := bytes_back m b cap wo hI.1
          have hcv2 := Lib.hid (fun w' (hb : Below wo.heap.size wo w') => bytes_back m b cap w' (hI.1.below hb))
          rw [hml] at hcv1 hcv2
          have hGo := hG.below hbr
          have C4 := IPv4_any (strOf m) wo (by rw [strOf_size]; omega) hGo
          rw [strOf_data] at C4
          have h4 := ip4_form m
          have hlt32 := ip4_lt m
          generalize ip4 m = t at hdef3 C4 h4 hlt32
          obtain ⟨a, is, er⟩ := t
          simp only at hdef3 C4 h4 hlt32
          have HD := hdef3
          have C4' := Lib.hid C4
          clear hdef2 HIDX HI hI hm C4 hdef3 hcv HBY
          rcases h4 with rfl | rfl
          · have CT := Lib.hid (fun (w' : World) (hb : Below wo.heap.size wo w') => text4_any a w' hlt32 (hGo.below hb))
            cases is with
            | true =>
              have hr : Hid (parseP s.data.toList = some (text4 a)) := by rw [HD.out, if_neg (by decide), if_pos rfl]; exact Lib.hid rfl
              clear HD hcv2
              go_wp2_with (first | (go_at_call 10; refine C4'.out.mono ?_; rintro e w3 ⟨rfl, hb3⟩) | (go_at_call 29; refine (CT.out _ hb3).mono ?_; rintro e w4 ⟨rfl, hb4⟩))
              go_ret2
              exact ⟨by rw [hr.out]; exact rfl, (hbr.trans (hb3.mono hBo)).trans (hb4.mono (Nat.le_trans hBo hb3.size))⟩
            | false =>
              have hr : Hid (parseP s.data.toList = some m) := by rw [HD.out, if_neg (by decide), if_neg (by decide)]; exact Lib.hid rfl
              clear HD
              go_wp2_with (first | (go_at_call 10; refine C4'.out.mono ?_; rintro e w3 ⟨rfl, hb3⟩; have hcv3 := hcv2.out _ hb3))
              go_ret2
              exact ⟨by rw [hr.out]; exact rfl, hbr.trans (hb3.mono hBo)⟩
          · have hr : Hid (parseP s.data.toList = none) := by rw [HD.out, if_pos (by decide)]; exact Lib.hid rfl
            clear HD
            go_wp2_with (first | (go_at_call 10; refine C4'.out.mono ?_; rintro e w3 ⟨rfl, hb3⟩))
            go_ret2
            exact ⟨by rw [hr.out]; exact rfl, hbr.trans (hb3.mono hBo)⟩
end Go.Proofs.YtlhbpdnbfghkoaaGreatDoor
