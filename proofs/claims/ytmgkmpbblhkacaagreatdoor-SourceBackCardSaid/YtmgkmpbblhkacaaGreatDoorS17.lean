/- source.Parse. -/
import Derived.Test.YtmgkmpbblhkacaaGreatDoorS7
namespace Go.Proofs.YtmgkmpbblhkacaaGreatDoor
open Go.RowKit
set_option linter.unusedSimpArgs false
set_option linter.unusedVariables false

/-- Is a text in quotes? -/
def quoteB (s : Bs) : Bool := decide (1 < s.length ∧ s[0]? = some 39 ∧ s[s.length - 1]? = some 39)
def schemeB (s : Bs) : Bool := Lib.hasSuffix s [58] && schemeP (s.take (s.length - 1))
def pairO (q : SrcL × Bool) : Option SrcL := if q.2 = true then some q.1 else none
/-- source.Parse. -/
def srcP (s : Bs) : Option SrcL :=
  if s = [42] then some ⟨1, [], [], -1, [], []⟩
  else if quoteB s = true then pairO (quotedS ((s.take (s.length - 1)).drop 1))
  else if schemeB s = true then some ⟨2, lowS (s.take (s.length - 1)), [], -1, [], []⟩
  else hostedS s
def srcNone : Value := .agg #[.int .i64 0, .string ⟨#[]⟩, .string ⟨#[]⟩, .int .i64 0, .string ⟨#[]⟩, .string ⟨#[]⟩]
def SrcEnd (r : Option SrcL) (e : Ending) : Prop :=
  match r with
  | some x => e = .returned (.tuple #[srcVal x, .bool true])
  | none => e = .returned (.tuple #[srcNone, .bool false])
theorem colon_suffix (s : ByteArray) (w : World) (hs : s.size ≤ 1000000) :
    Calls Tryz.prog 21 #[.string s, .string ⟨#[58]⟩] w fun e w' => e = .returned (.bool (Lib.hasSuffix s.data.toList [58])) ∧ w = w' :=
  (Tryz.strings_HasSuffix s ⟨#[58]⟩ w (by omega)).mono fun _ _ ⟨h, h2⟩ => ⟨h, h2.symm⟩
set_option maxRecDepth 1000000 in
set_option maxHeartbeats 20000000 in
theorem sourceParse_any (s : ByteArray) (w : World) (hs : s.size ≤ 100000) (hG : GL w) :
    Calls Tryz.prog 12 #[.string s] w fun e w' => SrcEnd (srcP s.data.toList) e ∧ Below w.heap.size w w' := by
  by_cases h42 : s.data.toList = [42]
  · have hr : Hid (srcP s.data.toList = some ⟨1, [], [], -1, [], []⟩) := Lib.hid (by unfold srcP; rw [if_pos h42])
    obtain rfl : s = ⟨#[42]⟩ := str_of s [42] h42
    clear h42
    go_enter Tryz.func12, Tryz.ntmps12
    go_wp2
    exact bodyPost_ret (v := .tuple #[.agg #[.int .i64 1, .string ⟨#[]⟩, .string ⟨#[]⟩, .int .i64 (-1), .string ⟨#[]⟩, .string ⟨#[]⟩], .bool true]) (by simp [results, Tryz.results12, go_sem]) rfl ⟨by rw [hr.out]; exact rfl, (Below.refl _ w).alloc (Nat.le_refl _) _⟩
  · have hne := str_ne s [42] h42
    have hlen : s.data.toList.length = s.size := (Lib.size_eq s).symm
    obtain ⟨qb, hqb⟩ : ∃ qb, quoteB s.data.toList = qb := ⟨_, rfl⟩
    have hP : srcP s.data.toList = if qb = true then pairO (quotedS ((s.data.toList.take (s.size - 1)).drop 1)) else if schemeB s.data.toList = true then some ⟨2, lowS (s.data.toList.take (s.size - 1)), [], -1, [], []⟩ else hostedS s.data.toList := by
      unfold srcP; rw [if_neg h42, hqb, hlen]
    have hways : (qb = true ∧ 1 < s.size ∧ (∀ h : 0 < s.size, ((s[0].toNat : Int) == 39) = true) ∧ (∀ h : s.size - 1 < s.size, ((s[s.size - 1].toNat : Int) == 39) = true)) ∨ (qb = false ∧ s.size ≤ 1) ∨ (qb = false ∧ 1 < s.size ∧ (∀ h : 0 < s.size, ((s[0].toNat : Int) == 39) = false)) ∨ (qb = false ∧ 1 < s.size ∧ (∀ h : 0 < s.size, ((s[0].toNat : Int) == 39) = true) ∧ (∀ h : s.size - 1 < s.size, ((s[s.size - 1].toNat : Int) == 39) = false)) := by
      unfold quoteB at hqb
      rw [hlen] at hqb
      by_cases c1 : 1 < s.size
      · have g0 := getI s 0 (by omega)
        have g1 := getI s (s.size - 1) (by omega)
        rw [g0, g1] at hqb
        by_cases c2 : s[0] = 39
        · by_cases c3 : s[s.size - 1] = 39
          · exact Or.inl ⟨by rw [← hqb, c2, c3]; exact decide_eq_true ⟨c1, rfl, rfl⟩, c1, fun h => u8_eqL _ 39 39 rfl c2, fun h => u8_eqL _ 39 39 rfl c3⟩
          · exact Or.inr (Or.inr (Or.inr ⟨by rw [← hqb]; exact decide_eq_false (by rintro ⟨_, _, h⟩; exact c3 (Option.some.inj h)), c1, fun h => u8_eqL _ 39 39 rfl c2, fun h => u8_neL _ 39 39 rfl c3⟩))
        · exact Or.inr (Or.inr (Or.inl ⟨by rw [← hqb]; exact decide_eq_false (by rintro ⟨_, h, _⟩; exact c2 (Option.some.inj h)), c1, fun h => u8_neL _ 39 39 rfl c2⟩))
      · exact Or.inr (Or.inl ⟨by rw [← hqb]; exact decide_eq_false (by rintro ⟨h, _⟩; exact c1 h), by omega⟩)
    obtain ⟨sb, hsb⟩ : ∃ sb, schemeB s.data.toList = sb := ⟨_, rfl⟩
    rw [hsb] at hP
    have hq1 : qb = true → 1 < s.size := fun h => by
      rcases hways with h' | h' | h' | h'
      · exact h'.2.1
      · rw [h] at h'; cases h'.1
      · rw [h] at h'; cases h'.1
      · rw [h] at h'; cases h'.1
    have CQ : ∀ w', GL w' → Calls Tryz.prog 20 #[.string (s.extract 1 (s.size - 1))] w' fun e w'' => e = .returned (.tuple #[srcVal (quotedS ((s.data.toList.take (s.size - 1)).drop 1)).1, .bool (quotedS ((s.data.toList.take (s.size - 1)).drop 1)).2]) ∧ Below w'.heap.size w' w'' := by
      intro w' hG'
      have := quoted_any (s.extract 1 (s.size - 1)) w' (by rw [ByteArray.size_extract]; omega) hG'
      rw [extract_strOf, strOf_data] at this
      rw [extract_strOf]
      exact this
    have CH : ∀ w', GL w' → Calls Tryz.prog 24 #[.string s] w' fun e w'' => HostedEnd (hostedS s.data.toList) e ∧ Below w'.heap.size w' w'' := fun w' hG' => hosted_any s w' hs hG'
    have e1 : (s.extract 0 (s.size - 1)).data.toList = s.data.toList.take (s.size - 1) := by rw [extract_strOf, strOf_data]; simp
    have z1 : (s.extract 0 (s.size - 1)).size ≤ 1000000 := by rw [ByteArray.size_extract]; omega
    have CS : ∀ w', GL w' → Calls Tryz.prog 22 #[.string (s.extract 0 (s.size - 1))] w' fun e w'' => e = .returned (.bool (schemeP (s.data.toList.take (s.size - 1)))) ∧ Below w'.heap.size w' w'' := by
      intro w' hG'
      have := sourceScheme_any (s.extract 0 (s.size - 1)) w' z1 hG'
      rw [e1] at this
      exact this
    have CL : ∀ w', GL w' → Calls Tryz.prog 23 #[.string (s.extract 0 (s.size - 1))] w' fun e w'' => e = .returned (.string (strOf (lowS (s.data.toList.take (s.size - 1))))) ∧ Below w'.heap.size w' w'' := by
      intro w' hG'
      have := lower_any (s.extract 0 (s.size - 1)) w' z1 hG'
      rw [e1] at this
      exact this
    have CX : ∀ w', Calls Tryz.prog 21 #[.string s, .string ⟨#[58]⟩] w' fun e w'' => e = .returned (.bool (Lib.hasSuffix s.data.toList [58])) ∧ w' = w'' := fun w' => colon_suffix s w' (by omega)
    have hSB : sb = (Lib.hasSuffix s.data.toList [58] && schemeP (s.data.toList.take (s.size - 1))) := by rw [← hsb]; unfold schemeB; rw [hlen]
    obtain ⟨q, hq⟩ : ∃ q, quotedS ((s.data.toList.take (s.size - 1)).drop 1) = q := ⟨_, rfl⟩
    obtain ⟨hx, hhx⟩ : ∃ hx, Lib.hasSuffix s.data.toList [58] = hx := ⟨_, rfl⟩
    obtain ⟨sp, hsp⟩ : ∃ sp, schemeP (s.data.toList.take (s.size - 1)) = sp := ⟨_, rfl⟩
    obtain ⟨ho, hho⟩ : ∃ ho, hostedS s.data.toList = ho := ⟨_, rfl⟩
    obtain ⟨l2, hl2⟩ : ∃ l2, lowS (s.data.toList.take (s.size - 1)) = l2 := ⟨_, rfl⟩
    have hpos : hx = true → 1 ≤ s.size := fun h => by
      rw [← hhx] at h
      rw [Lib.size_eq]
      refine List.length_pos_iff.2 ?_
      intro e
      rw [e] at h
      exact absurd h (by decide)
    rw [hq] at CQ hP
    rw [hhx] at CX hSB
    rw [hsp] at CS hSB
    rw [hl2] at CL hP
    rw [hho] at CH hP
    have HP := Lib.hid hP
    have HQ := Lib.hid CQ
    have HX := Lib.hid CX
    have HS := Lib.hid CS
    have HL := Lib.hid CL
    have HH := Lib.hid CH
    have HGL := Lib.hid hG
    have HSB := Lib.hid hSB
    have HPOS := Lib.hid hpos
    have HQ1 := Lib.hid hq1
    have HW := Lib.hid hways
    clear hP CQ CX CS CL CH hG hSB hpos hways hq hhx hsp hho hl2 hsb hqb h42 hlen e1 z1 hq1
    have m1 : IntKind.i64.wrap ((s.size : Int) - 1) = (s.size : Int) - 1 := IntWalk.i64_in _ (by omega)
    have t1 : ((s.size : Int) - 1).toNat = s.size - 1 := by omega
    go_enter Tryz.func12, Tryz.ntmps12
    go_upto_region 4 with fail
    go_cut [13] (fun v wc => v = .bool qb ∧ wc = w.alloc (.cells #[.int .i64 0, .string ⟨#[]⟩, .string ⟨#[]⟩, .int .i64 0, .string ⟨#[]⟩, .string ⟨#[]⟩] 24))
    case first =>
      rcases HW.out with ⟨rfl, c1, c2, c3⟩ | ⟨rfl, c1⟩ | ⟨rfl, c1, c2⟩ | ⟨rfl, c1, c2, c3⟩
      · have b0 := c2 (by omega)
        have b1 := c3 (by omega)
        have l1 : (1 : Int) < (s.size : Int) := by omega
        clear c2 c3 HW
        go_wp2_with fail
        go_meet
        exact ⟨rfl, rfl⟩
      · have l1 : ¬ (1 : Int) < (s.size : Int) := by omega
        clear HW
        go_wp2_with fail
        go_meet
        exact ⟨rfl, rfl⟩
      · have b0 := c2 (by omega)
        have l1 : (1 : Int) < (s.size : Int) := by omega
        clear c2 HW
        go_wp2_with fail
        go_meet
        exact ⟨rfl, rfl⟩
      · have b0 := c2 (by omega)
        have b1 := c3 (by omega)
        have l1 : (1 : Int) < (s.size : Int) := by omega
        clear c2 c3 HW
        go_wp2_with fail
        go_meet
        exact ⟨rfl, rfl⟩
    case rest =>
    obtain ⟨rfl, rfl⟩ := hcut
    clear HW
    have hA0 : (w.alloc (.cells #[.int .i64 0, .string ⟨#[]⟩, .string ⟨#[]⟩, .int .i64 0, .string ⟨#[]⟩, .string ⟨#[]⟩] 24)).heap[w.heap.size]? = some (.cells #[.int .i64 0, .string ⟨#[]⟩, .string ⟨#[]⟩, .int .i64 0, .string ⟨#[]⟩, .string ⟨#[]⟩] 24 (0, 0)) := heap_alloc_new w _
    cases qb with
    | true =>
      have hsz := HQ1.out rfl
      have hr : Hid (srcP s.data.toList = pairO q) := by rw [HP.out, if_pos rfl]; exact Lib.hid rfl
      have i1 : (1 : Int) ≤ (s.size : Int) - 1 := by omega
      have i2 : (s.size : Int) - 1 ≤ (s.size : Int) := by omega
      obtain ⟨⟨k, xs, xh, xn, xp, xt⟩, ok⟩ := q
      obtain ⟨XS, h1⟩ : ∃ b, strOf xs = b := ⟨_, rfl⟩
      obtain ⟨XH, h2⟩ : ∃ b, strOf xh = b := ⟨_, rfl⟩
      obtain ⟨XP, h3⟩ : ∃ b, strOf xp = b := ⟨_, rfl⟩
      obtain ⟨XT, h4⟩ : ∃ b, strOf xt = b := ⟨_, rfl⟩
      have hv : srcVal ⟨k, xs, xh, xn, xp, xt⟩ = .agg #[.int .i64 k, .string XS, .string XH, .int .i64 xn, .string XP, .string XT] := by
        unfold srcVal; rw [h1, h2, h3, h4]
      simp only at HQ
      rw [hv] at HQ
      have HV := Lib.hid hv
      clear hv h1 h2 h3 h4 HP HS HL HH HX
      cases ok with
      | true =>
        have hfin : Hid (SrcEnd (srcP s.data.toList) (.returned (.tuple #[.agg #[.int .i64 k, .string XS, .string XH, .int .i64 xn, .string XP, .string XT], .bool true]))) := by
          refine Lib.hid ?_
          rw [hr.out, ← HV.out]; exact rfl
        go_wp2_with fail
        refine (HQ.out _ (HGL.out.alloc _)).mono ?_
        rintro e w1 ⟨rfl, hb1⟩
        have hA2 := block_new_past hb1
        have hbw2 := below_past_alloc hb1
        obtain ⟨x0, x1, x2, x3, x4, x5⟩ := six_cells hA2
        obtain ⟨f0, f1, f2, f3, f4, f5⟩ := six_free hA2
        clear hb1 hA0
        have hF : ((((((((((((w1.setCell ⟨w.heap.size, 0, none⟩ (.int .i64 k)).setCell ⟨w.heap.size, 1, none⟩ (.string XS)).setCell ⟨w.heap.size, 2, none⟩ (.string XH)).setCell ⟨w.heap.size, 3, none⟩ (.int .i64 xn)).setCell ⟨w.heap.size, 4, none⟩ (.string XP)).setCell ⟨w.heap.size, 5, none⟩ (.string XT)).setCell ⟨w.heap.size, 0, none⟩ (.int .i64 k)).setCell ⟨w.heap.size, 1, none⟩ (.string XS)).setCell ⟨w.heap.size, 2, none⟩ (.string XH)).setCell ⟨w.heap.size, 3, none⟩ (.int .i64 xn)).setCell ⟨w.heap.size, 4, none⟩ (.string XP)).setCell ⟨w.heap.size, 5, none⟩ (.string XT)).heap[w.heap.size]? = some (.cells #[.int .i64 k, .string XS, .string XH, .int .i64 xn, .string XP, .string XT] 24 (0, 0)) := six_sets (six_sets hA2 _ _ _ _ _ _) _ _ _ _ _ _
        have hbF : Below w.heap.size w ((((((((((((w1.setCell ⟨w.heap.size, 0, none⟩ (.int .i64 k)).setCell ⟨w.heap.size, 1, none⟩ (.string XS)).setCell ⟨w.heap.size, 2, none⟩ (.string XH)).setCell ⟨w.heap.size, 3, none⟩ (.int .i64 xn)).setCell ⟨w.heap.size, 4, none⟩ (.string XP)).setCell ⟨w.heap.size, 5, none⟩ (.string XT)).setCell ⟨w.heap.size, 0, none⟩ (.int .i64 k)).setCell ⟨w.heap.size, 1, none⟩ (.string XS)).setCell ⟨w.heap.size, 2, none⟩ (.string XH)).setCell ⟨w.heap.size, 3, none⟩ (.int .i64 xn)).setCell ⟨w.heap.size, 4, none⟩ (.string XP)).setCell ⟨w.heap.size, 5, none⟩ (.string XT)) := six_below (six_below hbw2 (Nat.le_refl _) _ _ _ _ _ _) (Nat.le_refl _) _ _ _ _ _ _
        go_wp2
        clear x0 x1 x2 x3 x4 x5 f0 f1 f2 f3 f4 f5 hA2
        generalize ((((((((((((w1.setCell ⟨w.heap.size, 0, none⟩ (.int .i64 k)).setCell ⟨w.heap.size, 1, none⟩ (.string XS)).setCell ⟨w.heap.size, 2, none⟩ (.string XH)).setCell ⟨w.heap.size, 3, none⟩ (.int .i64 xn)).setCell ⟨w.heap.size, 4, none⟩ (.string XP)).setCell ⟨w.heap.size, 5, none⟩ (.string XT)).setCell ⟨w.heap.size, 0, none⟩ (.int .i64 k)).setCell ⟨w.heap.size, 1, none⟩ (.string XS)).setCell ⟨w.heap.size, 2, none⟩ (.string XH)).setCell ⟨w.heap.size, 3, none⟩ (.int .i64 xn)).setCell ⟨w.heap.size, 4, none⟩ (.string XP)).setCell ⟨w.heap.size, 5, none⟩ (.string XT)) = W at hF hbF ⊢
        obtain ⟨x0, x1, x2, x3, x4, x5⟩ := six_cells hF
        clear hF
        exact bodyPost_ret (v := .tuple #[.agg #[.int .i64 k, .string XS, .string XH, .int .i64 xn, .string XP, .string XT], .bool true]) (by simp [results, Tryz.results12, go_sem, x0, x1, x2, x3, x4, x5]) rfl ⟨hfin.out, hbF⟩
      | false =>
        have hfin : Hid (SrcEnd (srcP s.data.toList) (.returned (.tuple #[.agg #[.int .i64 0, .string ⟨#[]⟩, .string ⟨#[]⟩, .int .i64 0, .string ⟨#[]⟩, .string ⟨#[]⟩], .bool false]))) := by
          refine Lib.hid ?_
          rw [hr.out]; exact rfl
        go_wp2_with fail
        refine (HQ.out _ (HGL.out.alloc _)).mono ?_
        rintro e w1 ⟨rfl, hb1⟩
        have hA2 := block_new_past hb1
        have hbw2 := below_past_alloc hb1
        obtain ⟨x0, x1, x2, x3, x4, x5⟩ := six_cells hA2
        obtain ⟨f0, f1, f2, f3, f4, f5⟩ := six_free hA2
        clear hb1 hA0
        have hF : ((((((((((((w1.setCell ⟨w.heap.size, 0, none⟩ (.int .i64 k)).setCell ⟨w.heap.size, 1, none⟩ (.string XS)).setCell ⟨w.heap.size, 2, none⟩ (.string XH)).setCell ⟨w.heap.size, 3, none⟩ (.int .i64 xn)).setCell ⟨w.heap.size, 4, none⟩ (.string XP)).setCell ⟨w.heap.size, 5, none⟩ (.string XT)).setCell ⟨w.heap.size, 0, none⟩ (.int .i64 0)).setCell ⟨w.heap.size, 1, none⟩ (.string ⟨#[]⟩)).setCell ⟨w.heap.size, 2, none⟩ (.string ⟨#[]⟩)).setCell ⟨w.heap.size, 3, none⟩ (.int .i64 0)).setCell ⟨w.heap.size, 4, none⟩ (.string ⟨#[]⟩)).setCell ⟨w.heap.size, 5, none⟩ (.string ⟨#[]⟩)).heap[w.heap.size]? = some (.cells #[.int .i64 0, .string ⟨#[]⟩, .string ⟨#[]⟩, .int .i64 0, .string ⟨#[]⟩, .string ⟨#[]⟩] 24 (0, 0)) := six_sets (six_sets hA2 _ _ _ _ _ _) _ _ _ _ _ _
        have hbF : Below w.heap.size w ((((((((((((w1.setCell ⟨w.heap.size, 0, none⟩ (.int .i64 k)).setCell ⟨w.heap.size, 1, none⟩ (.string XS)).setCell ⟨w.heap.size, 2, none⟩ (.string XH)).setCell ⟨w.heap.size, 3, none⟩ (.int .i64 xn)).setCell ⟨w.heap.size, 4, none⟩ (.string XP)).setCell ⟨w.heap.size, 5, none⟩ (.string XT)).setCell ⟨w.heap.size, 0, none⟩ (.int .i64 0)).setCell ⟨w.heap.size, 1, none⟩ (.string ⟨#[]⟩)).setCell ⟨w.heap.size, 2, none⟩ (.string ⟨#[]⟩)).setCell ⟨w.heap.size, 3, none⟩ (.int .i64 0)).setCell ⟨w.heap.size, 4, none⟩ (.string ⟨#[]⟩)).setCell ⟨w.heap.size, 5, none⟩ (.string ⟨#[]⟩)) := six_below (six_below hbw2 (Nat.le_refl _) _ _ _ _ _ _) (Nat.le_refl _) _ _ _ _ _ _
        go_wp2
        clear x0 x1 x2 x3 x4 x5 f0 f1 f2 f3 f4 f5 hA2
        generalize ((((((((((((w1.setCell ⟨w.heap.size, 0, none⟩ (.int .i64 k)).setCell ⟨w.heap.size, 1, none⟩ (.string XS)).setCell ⟨w.heap.size, 2, none⟩ (.string XH)).setCell ⟨w.heap.size, 3, none⟩ (.int .i64 xn)).setCell ⟨w.heap.size, 4, none⟩ (.string XP)).setCell ⟨w.heap.size, 5, none⟩ (.string XT)).setCell ⟨w.heap.size, 0, none⟩ (.int .i64 0)).setCell ⟨w.heap.size, 1, none⟩ (.string ⟨#[]⟩)).setCell ⟨w.heap.size, 2, none⟩ (.string ⟨#[]⟩)).setCell ⟨w.heap.size, 3, none⟩ (.int .i64 0)).setCell ⟨w.heap.size, 4, none⟩ (.string ⟨#[]⟩)).setCell ⟨w.heap.size, 5, none⟩ (.string ⟨#[]⟩)) = W at hF hbF ⊢
        obtain ⟨x0, x1, x2, x3, x4, x5⟩ := six_cells hF
        clear hF
        exact bodyPost_ret (v := .tuple #[.agg #[.int .i64 0, .string ⟨#[]⟩, .string ⟨#[]⟩, .int .i64 0, .string ⟨#[]⟩, .string ⟨#[]⟩], .bool false]) (by simp [results, Tryz.results12, go_sem, x0, x1, x2, x3, x4, x5]) rfl ⟨hfin.out, hbF⟩
    | false =>
      clear HQ HQ1
      go_upto_region 6 with fail
      obtain ⟨w0, hw0⟩ : ∃ w0, w.alloc (.cells #[.int .i64 0, .string ⟨#[]⟩, .string ⟨#[]⟩, .int .i64 0, .string ⟨#[]⟩, .string ⟨#[]⟩] 24) = w0 := ⟨_, rfl⟩
      have hb0 : Below w.heap.size w w0 := by rw [← hw0]; exact (Below.refl _ w).alloc (Nat.le_refl _) _
      have hs0 : w.heap.size + 1 ≤ w0.heap.size := by rw [← hw0]; show _ ≤ (w.heap.push _).size; rw [Array.size_push]; exact Nat.le_refl _
      rw [hw0] at hA0 ⊢
      have hG0 := HGL.out.below hb0
      clear hw0
      go_cut [39] (fun v wc => v = .bool sb ∧ Below w0.heap.size w0 wc)
      case first =>
        cases hx with
        | false =>
          obtain rfl : sb = false := HSB.out
          clear HSB
          go_wp2_with (go_at_call 21; refine (HX.out _).mono ?_; rintro e w1 ⟨rfl, rfl⟩)
          go_meet
          exact ⟨rfl, Below.refl _ _⟩
        | true =>
          have h1 := HPOS.out rfl
          have i1 : (0 : Int) ≤ (s.size : Int) - 1 := by omega
          have i2 : (s.size : Int) - 1 ≤ (s.size : Int) := by omega
          obtain rfl : sb = sp := HSB.out
          clear HSB HPOS
          go_wp2_with (first | (go_at_call 21; refine (HX.out _).mono ?_; rintro e w1 ⟨rfl, rfl⟩) | (go_at_call 22; refine (HS.out _ hG0).mono ?_; rintro e w2 ⟨rfl, hb2⟩))
          go_meet
          exact ⟨rfl, hb2⟩
      case rest =>
      obtain ⟨rfl, hbc⟩ := hcut
      obtain ⟨w1, rfl⟩ : ∃ w1 : World, w1 = wc := ⟨_, rfl⟩
      have hA1 := block_past hA0 hbc
      have hbw1 := hb0.trans (hbc.mono hb0.size)
      have hs1 := hbc.size
      have hG1 := HGL.out.below hbw1
      clear hA0 hbc hb0 HX HS hG0
      cases sb with
      | true =>
        have hr : Hid (srcP s.data.toList = some ⟨2, l2, [], -1, [], []⟩) := by rw [HP.out, if_neg (by simp), if_pos rfl]; exact Lib.hid rfl
        have hx1 : hx = true := by
          have := HSB.out
          cases hx with
          | true => rfl
          | false => cases this
        have h1 := HPOS.out hx1
        have i1 : (0 : Int) ≤ (s.size : Int) - 1 := by omega
        have i2 : (s.size : Int) - 1 ≤ (s.size : Int) := by omega
        obtain ⟨L2, hL2⟩ : ∃ L2, strOf l2 = L2 := ⟨_, rfl⟩
        rw [hL2] at HL
        have hfin : Hid (SrcEnd (srcP s.data.toList) (.returned (.tuple #[.agg #[.int .i64 2, .string L2, .string ⟨#[]⟩, .int .i64 (-1), .string ⟨#[]⟩, .string ⟨#[]⟩], .bool true]))) := by
          refine Lib.hid ?_
          rw [hr.out, ← hL2]; exact rfl
        clear HSB HPOS hx1 hL2 HP HH
        go_wp2_with fail
        refine (HL.out _ hG1).mono ?_
        rintro e w2 ⟨rfl, hb2⟩
        have hA2 := block_past hA1 hb2
        have hbw2 := hbw1.trans (hb2.mono hbw1.size)
        obtain ⟨x0, x1, x2, x3, x4, x5⟩ := six_cells hA2
        obtain ⟨f0, f1, f2, f3, f4, f5⟩ := six_free hA2
        clear hb2 hA1
        have hF : ((((((((((((w2.setCell ⟨w.heap.size, 0, none⟩ (.int .i64 2)).setCell ⟨w.heap.size, 1, none⟩ (.string L2)).setCell ⟨w.heap.size, 2, none⟩ (.string ⟨#[]⟩)).setCell ⟨w.heap.size, 3, none⟩ (.int .i64 (-1))).setCell ⟨w.heap.size, 4, none⟩ (.string ⟨#[]⟩)).setCell ⟨w.heap.size, 5, none⟩ (.string ⟨#[]⟩)).setCell ⟨w.heap.size, 0, none⟩ (.int .i64 2)).setCell ⟨w.heap.size, 1, none⟩ (.string L2)).setCell ⟨w.heap.size, 2, none⟩ (.string ⟨#[]⟩)).setCell ⟨w.heap.size, 3, none⟩ (.int .i64 (-1))).setCell ⟨w.heap.size, 4, none⟩ (.string ⟨#[]⟩)).setCell ⟨w.heap.size, 5, none⟩ (.string ⟨#[]⟩)).heap[w.heap.size]? = some (.cells #[.int .i64 2, .string L2, .string ⟨#[]⟩, .int .i64 (-1), .string ⟨#[]⟩, .string ⟨#[]⟩] 24 (0, 0)) := six_sets (six_sets hA2 _ _ _ _ _ _) _ _ _ _ _ _
        have hbF : Below w.heap.size w ((((((((((((w2.setCell ⟨w.heap.size, 0, none⟩ (.int .i64 2)).setCell ⟨w.heap.size, 1, none⟩ (.string L2)).setCell ⟨w.heap.size, 2, none⟩ (.string ⟨#[]⟩)).setCell ⟨w.heap.size, 3, none⟩ (.int .i64 (-1))).setCell ⟨w.heap.size, 4, none⟩ (.string ⟨#[]⟩)).setCell ⟨w.heap.size, 5, none⟩ (.string ⟨#[]⟩)).setCell ⟨w.heap.size, 0, none⟩ (.int .i64 2)).setCell ⟨w.heap.size, 1, none⟩ (.string L2)).setCell ⟨w.heap.size, 2, none⟩ (.string ⟨#[]⟩)).setCell ⟨w.heap.size, 3, none⟩ (.int .i64 (-1))).setCell ⟨w.heap.size, 4, none⟩ (.string ⟨#[]⟩)).setCell ⟨w.heap.size, 5, none⟩ (.string ⟨#[]⟩)) := six_below (six_below hbw2 (Nat.le_refl _) _ _ _ _ _ _) (Nat.le_refl _) _ _ _ _ _ _
        go_wp2
        clear x0 x1 x2 x3 x4 x5 f0 f1 f2 f3 f4 f5 hA2
        generalize ((((((((((((w2.setCell ⟨w.heap.size, 0, none⟩ (.int .i64 2)).setCell ⟨w.heap.size, 1, none⟩ (.string L2)).setCell ⟨w.heap.size, 2, none⟩ (.string ⟨#[]⟩)).setCell ⟨w.heap.size, 3, none⟩ (.int .i64 (-1))).setCell ⟨w.heap.size, 4, none⟩ (.string ⟨#[]⟩)).setCell ⟨w.heap.size, 5, none⟩ (.string ⟨#[]⟩)).setCell ⟨w.heap.size, 0, none⟩ (.int .i64 2)).setCell ⟨w.heap.size, 1, none⟩ (.string L2)).setCell ⟨w.heap.size, 2, none⟩ (.string ⟨#[]⟩)).setCell ⟨w.heap.size, 3, none⟩ (.int .i64 (-1))).setCell ⟨w.heap.size, 4, none⟩ (.string ⟨#[]⟩)).setCell ⟨w.heap.size, 5, none⟩ (.string ⟨#[]⟩)) = W at hF hbF ⊢
        obtain ⟨x0, x1, x2, x3, x4, x5⟩ := six_cells hF
        clear hF
        exact bodyPost_ret (v := .tuple #[.agg #[.int .i64 2, .string L2, .string ⟨#[]⟩, .int .i64 (-1), .string ⟨#[]⟩, .string ⟨#[]⟩], .bool true]) (by simp [results, Tryz.results12, go_sem, x0, x1, x2, x3, x4, x5]) rfl ⟨hfin.out, hbF⟩
      | false =>
        have hr : Hid (srcP s.data.toList = ho) := by rw [HP.out, if_neg (by simp), if_neg (by simp)]; exact Lib.hid rfl
        clear HSB HPOS HL HP
        cases ho with
        | none =>
          have hfin : Hid (SrcEnd (srcP s.data.toList) (.returned (.tuple #[.agg #[.int .i64 0, .string ⟨#[]⟩, .string ⟨#[]⟩, .int .i64 0, .string ⟨#[]⟩, .string ⟨#[]⟩], .bool false]))) := by
            refine Lib.hid ?_
            rw [hr.out]; exact rfl
          go_wp2_with fail
          refine (HH.out _ hG1).mono ?_
          rintro e w2 ⟨⟨ya, yb, yc, yd, ye, yf, rfl⟩, hb2⟩
          have hA2 := block_past hA1 hb2
          have hbw2 := hbw1.trans (hb2.mono hbw1.size)
          obtain ⟨x0, x1, x2, x3, x4, x5⟩ := six_cells hA2
          obtain ⟨f0, f1, f2, f3, f4, f5⟩ := six_free hA2
          clear hb2 hA1
          have hF : ((((((((((((w2.setCell ⟨w.heap.size, 0, none⟩ (.int .i64 ya)).setCell ⟨w.heap.size, 1, none⟩ (.string yb)).setCell ⟨w.heap.size, 2, none⟩ (.string yc)).setCell ⟨w.heap.size, 3, none⟩ (.int .i64 yd)).setCell ⟨w.heap.size, 4, none⟩ (.string ye)).setCell ⟨w.heap.size, 5, none⟩ (.string yf)).setCell ⟨w.heap.size, 0, none⟩ (.int .i64 0)).setCell ⟨w.heap.size, 1, none⟩ (.string ⟨#[]⟩)).setCell ⟨w.heap.size, 2, none⟩ (.string ⟨#[]⟩)).setCell ⟨w.heap.size, 3, none⟩ (.int .i64 0)).setCell ⟨w.heap.size, 4, none⟩ (.string ⟨#[]⟩)).setCell ⟨w.heap.size, 5, none⟩ (.string ⟨#[]⟩)).heap[w.heap.size]? = some (.cells #[.int .i64 0, .string ⟨#[]⟩, .string ⟨#[]⟩, .int .i64 0, .string ⟨#[]⟩, .string ⟨#[]⟩] 24 (0, 0)) := six_sets (six_sets hA2 _ _ _ _ _ _) _ _ _ _ _ _
          have hbF : Below w.heap.size w ((((((((((((w2.setCell ⟨w.heap.size, 0, none⟩ (.int .i64 ya)).setCell ⟨w.heap.size, 1, none⟩ (.string yb)).setCell ⟨w.heap.size, 2, none⟩ (.string yc)).setCell ⟨w.heap.size, 3, none⟩ (.int .i64 yd)).setCell ⟨w.heap.size, 4, none⟩ (.string ye)).setCell ⟨w.heap.size, 5, none⟩ (.string yf)).setCell ⟨w.heap.size, 0, none⟩ (.int .i64 0)).setCell ⟨w.heap.size, 1, none⟩ (.string ⟨#[]⟩)).setCell ⟨w.heap.size, 2, none⟩ (.string ⟨#[]⟩)).setCell ⟨w.heap.size, 3, none⟩ (.int .i64 0)).setCell ⟨w.heap.size, 4, none⟩ (.string ⟨#[]⟩)).setCell ⟨w.heap.size, 5, none⟩ (.string ⟨#[]⟩)) := six_below (six_below hbw2 (Nat.le_refl _) _ _ _ _ _ _) (Nat.le_refl _) _ _ _ _ _ _
          go_wp2
          clear x0 x1 x2 x3 x4 x5 f0 f1 f2 f3 f4 f5 hA2
          generalize ((((((((((((w2.setCell ⟨w.heap.size, 0, none⟩ (.int .i64 ya)).setCell ⟨w.heap.size, 1, none⟩ (.string yb)).setCell ⟨w.heap.size, 2, none⟩ (.string yc)).setCell ⟨w.heap.size, 3, none⟩ (.int .i64 yd)).setCell ⟨w.heap.size, 4, none⟩ (.string ye)).setCell ⟨w.heap.size, 5, none⟩ (.string yf)).setCell ⟨w.heap.size, 0, none⟩ (.int .i64 0)).setCell ⟨w.heap.size, 1, none⟩ (.string ⟨#[]⟩)).setCell ⟨w.heap.size, 2, none⟩ (.string ⟨#[]⟩)).setCell ⟨w.heap.size, 3, none⟩ (.int .i64 0)).setCell ⟨w.heap.size, 4, none⟩ (.string ⟨#[]⟩)).setCell ⟨w.heap.size, 5, none⟩ (.string ⟨#[]⟩)) = W at hF hbF ⊢
          obtain ⟨x0, x1, x2, x3, x4, x5⟩ := six_cells hF
          clear hF
          exact bodyPost_ret (v := .tuple #[.agg #[.int .i64 0, .string ⟨#[]⟩, .string ⟨#[]⟩, .int .i64 0, .string ⟨#[]⟩, .string ⟨#[]⟩], .bool false]) (by simp [results, Tryz.results12, go_sem, x0, x1, x2, x3, x4, x5]) rfl ⟨hfin.out, hbF⟩
        | some x =>
          obtain ⟨k, xs, xh, xn, xp, xt⟩ := x
          obtain ⟨XS, h1⟩ : ∃ b, strOf xs = b := ⟨_, rfl⟩
          obtain ⟨XH, h2⟩ : ∃ b, strOf xh = b := ⟨_, rfl⟩
          obtain ⟨XP, h3⟩ : ∃ b, strOf xp = b := ⟨_, rfl⟩
          obtain ⟨XT, h4⟩ : ∃ b, strOf xt = b := ⟨_, rfl⟩
          have hv : srcVal ⟨k, xs, xh, xn, xp, xt⟩ = .agg #[.int .i64 k, .string XS, .string XH, .int .i64 xn, .string XP, .string XT] := by
            unfold srcVal; rw [h1, h2, h3, h4]
          have hfin : Hid (SrcEnd (srcP s.data.toList) (.returned (.tuple #[.agg #[.int .i64 k, .string XS, .string XH, .int .i64 xn, .string XP, .string XT], .bool true]))) := by
            refine Lib.hid ?_
            rw [hr.out, ← hv]; exact rfl
          have CH : Hid (∀ w', GL w' → Calls Tryz.prog 24 #[.string s] w' fun e w'' => e = .returned (.tuple #[.agg #[.int .i64 k, .string XS, .string XH, .int .i64 xn, .string XP, .string XT], .bool true]) ∧ Below w'.heap.size w' w'') := by
            rw [← hv]; exact HH
          clear HH hv h1 h2 h3 h4
          go_wp2_with fail
          refine (CH.out _ hG1).mono ?_
          rintro e w2 ⟨rfl, hb2⟩
          have hA2 := block_past hA1 hb2
          have hbw2 := hbw1.trans (hb2.mono hbw1.size)
          obtain ⟨x0, x1, x2, x3, x4, x5⟩ := six_cells hA2
          obtain ⟨f0, f1, f2, f3, f4, f5⟩ := six_free hA2
          clear hb2 hA1
          have hF : ((((((((((((w2.setCell ⟨w.heap.size, 0, none⟩ (.int .i64 k)).setCell ⟨w.heap.size, 1, none⟩ (.string XS)).setCell ⟨w.heap.size, 2, none⟩ (.string XH)).setCell ⟨w.heap.size, 3, none⟩ (.int .i64 xn)).setCell ⟨w.heap.size, 4, none⟩ (.string XP)).setCell ⟨w.heap.size, 5, none⟩ (.string XT)).setCell ⟨w.heap.size, 0, none⟩ (.int .i64 k)).setCell ⟨w.heap.size, 1, none⟩ (.string XS)).setCell ⟨w.heap.size, 2, none⟩ (.string XH)).setCell ⟨w.heap.size, 3, none⟩ (.int .i64 xn)).setCell ⟨w.heap.size, 4, none⟩ (.string XP)).setCell ⟨w.heap.size, 5, none⟩ (.string XT)).heap[w.heap.size]? = some (.cells #[.int .i64 k, .string XS, .string XH, .int .i64 xn, .string XP, .string XT] 24 (0, 0)) := six_sets (six_sets hA2 _ _ _ _ _ _) _ _ _ _ _ _
          have hbF : Below w.heap.size w ((((((((((((w2.setCell ⟨w.heap.size, 0, none⟩ (.int .i64 k)).setCell ⟨w.heap.size, 1, none⟩ (.string XS)).setCell ⟨w.heap.size, 2, none⟩ (.string XH)).setCell ⟨w.heap.size, 3, none⟩ (.int .i64 xn)).setCell ⟨w.heap.size, 4, none⟩ (.string XP)).setCell ⟨w.heap.size, 5, none⟩ (.string XT)).setCell ⟨w.heap.size, 0, none⟩ (.int .i64 k)).setCell ⟨w.heap.size, 1, none⟩ (.string XS)).setCell ⟨w.heap.size, 2, none⟩ (.string XH)).setCell ⟨w.heap.size, 3, none⟩ (.int .i64 xn)).setCell ⟨w.heap.size, 4, none⟩ (.string XP)).setCell ⟨w.heap.size, 5, none⟩ (.string XT)) := six_below (six_below hbw2 (Nat.le_refl _) _ _ _ _ _ _) (Nat.le_refl _) _ _ _ _ _ _
          go_wp2
          clear x0 x1 x2 x3 x4 x5 f0 f1 f2 f3 f4 f5 hA2
          generalize ((((((((((((w2.setCell ⟨w.heap.size, 0, none⟩ (.int .i64 k)).setCell ⟨w.heap.size, 1, none⟩ (.string XS)).setCell ⟨w.heap.size, 2, none⟩ (.string XH)).setCell ⟨w.heap.size, 3, none⟩ (.int .i64 xn)).setCell ⟨w.heap.size, 4, none⟩ (.string XP)).setCell ⟨w.heap.size, 5, none⟩ (.string XT)).setCell ⟨w.heap.size, 0, none⟩ (.int .i64 k)).setCell ⟨w.heap.size, 1, none⟩ (.string XS)).setCell ⟨w.heap.size, 2, none⟩ (.string XH)).setCell ⟨w.heap.size, 3, none⟩ (.int .i64 xn)).setCell ⟨w.heap.size, 4, none⟩ (.string XP)).setCell ⟨w.heap.size, 5, none⟩ (.string XT)) = W at hF hbF ⊢
          obtain ⟨x0, x1, x2, x3, x4, x5⟩ := six_cells hF
          clear hF
          exact bodyPost_ret (v := .tuple #[.agg #[.int .i64 k, .string XS, .string XH, .int .i64 xn, .string XP, .string XT], .bool true]) (by simp [results, Tryz.results12, go_sem, x0, x1, x2, x3, x4, x5]) rfl ⟨hfin.out, hbF⟩
end Go.Proofs.YtmgkmpbblhkacaaGreatDoor
