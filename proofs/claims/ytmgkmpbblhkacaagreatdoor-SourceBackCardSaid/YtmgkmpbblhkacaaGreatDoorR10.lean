/- The reference's special. -/
import Derived.Test.YtmgkmpbblhkacaaGreatDoorR9
namespace Go.Proofs.YtmgkmpbblhkacaaGreatDoor
open Go.RowKit
set_option linter.unusedSimpArgs false
set_option linter.unusedVariables false

/-- A URL as the program holds it. -/
def urlV (sc ho : ByteArray) (po : Int) (pa qu fr : ByteArray) : Value := .agg #[.string sc, .string ho, .int .i64 po, .string pa, .string qu, .string fr]
/-- transeptref08.special's back-slashes. -/
def slashB (c : UInt8) : UInt8 := if c = 92 then 47 else c
/-- Where the host of an authority ends; are we still within brackets? -/
def atL : Bool → Bs → Nat × Bool
  | wi, [] => (0, wi)
  | wi, c :: r => if wi = false ∧ c = 58 then (0, wi) else ((atL (if c = 93 then false else wi) r).1 + 1, (atL (if c = 93 then false else wi) r).2)
/-- The end of the host, of an authority. -/
def atP (a : Bs) : Nat := if (atL (decide (a.headD 0 = 91)) a).2 then findP 58 a else (atL (decide (a.headD 0 = 91)) a).1
/-- The port: none: it is not one. -/
def spPort (sc : Bs) (po : Int) (a : Bs) (n : Nat) : Option Int :=
  if n + 1 < a.length then
    if (portP (a.drop (n + 1))).2 = false then none
    else some (if ((portP (a.drop (n + 1))).1 : Int) ≠ defP sc then ((portP (a.drop (n + 1))).1 : Int) else po)
  else some po
def spFin (q : Option Int) (h : Option Bs) (p : Bs) : Option (Bs × Int × Bs) :=
  match q with
  | none => none
  | some q => match h with
    | none => none
    | some h => some (h, q, p)
/-- Of an authority and a path. -/
def spAuth (PR : Bs → Option Bs) (sc : Bs) (po : Int) (a r : Bs) : Option (Bs × Int × Bs) :=
  if findP 64 a < a.length then none
  else spFin (spPort sc po a (atP a)) (PR (a.take (atP a))) (pathP r)
def spAt (t : Bs) : Bs := (t.drop 2).take (findP 47 (t.drop 2))
/-- transeptref08.special: host, port, path. -/
def specP (PR : Bs → Option Bs) (sc : Bs) (po : Int) (s : Bs) : Option (Bs × Int × Bs) :=
  if (s.map slashB).length < 2 then none
  else if (s.map slashB)[0]? ≠ some 47 then none
  else if (s.map slashB)[1]? ≠ some 47 then none
  else spAuth PR sc po (spAt (s.map slashB)) (((s.map slashB).drop 2).drop (findP 47 ((s.map slashB).drop 2)))
def SpEnd (sc qu fr : ByteArray) (r : Option (Bs × Int × Bs)) (e : Ending) : Prop :=
  match r with
  | some (h, q, p) => e = .returned (.tuple #[.agg #[.string sc, .string (strOf h), .int .i64 q, .string (strOf p), .string qu, .string fr], .bool true])
  | none => ∃ (a b : ByteArray) (c : Int) (d f g : ByteArray), e = .returned (.tuple #[.agg #[.string a, .string b, .int .i64 c, .string d, .string f, .string g], .bool false])
theorem spEnd_none (sc qu fr : ByteArray) {a b : ByteArray} {c : Int} {d f g : ByteArray} : SpEnd sc qu fr none (.returned (.tuple #[.agg #[.string a, .string b, .int .i64 c, .string d, .string f, .string g], .bool false])) := ⟨a, b, c, d, f, g, rfl⟩
theorem spEnd_some (sc qu fr H : ByteArray) (q : Int) (PB : Bs) (r : Option Bs) (h : r = some H.data.toList) :
    SpEnd sc qu fr (spFin (some q) r PB) (.returned (.tuple #[.agg #[.string sc, .string H, .int .i64 q, .string (strOf PB), .string qu, .string fr], .bool true])) := by
  subst h
  show _ = _
  rw [← str_of H _ rfl]
theorem spEnd_all (sc qu fr H : ByteArray) (q ev : Int) (PB : Bs) (r : Option Bs) (h : r = if ev = 0 then some H.data.toList else none) :
    SpEnd sc qu fr (spFin (some q) r PB) (.returned (.tuple #[.agg #[.string sc, .string H, .int .i64 q, .string (strOf PB), .string qu, .string fr], .bool (ev == 0)])) := by
  by_cases he : ev = 0
  · rw [if_pos he] at h
    rw [show (ev == 0) = true from beq_iff_eq.2 he]
    exact spEnd_some sc qu fr H q PB r h
  · rw [if_neg he] at h
    subst h
    exact ⟨_, _, _, _, _, _, by rw [show (ev == 0) = false from beq_eq_false_iff_ne.2 he]⟩
/-- Two blocks that a walk has laid, behind a quiet call. -/
theorem two_blocks {w w1 : World} {a b : Array Value} {T U : TypeId} (hb : Below ((w.alloc (.cells a T)).alloc (.cells b U)).heap.size ((w.alloc (.cells a T)).alloc (.cells b U)) w1) :
    w1.heap[w.heap.size]? = some (.cells a T (0, 0)) ∧ w1.heap[w.heap.size + 1]? = some (.cells b U (0, 0)) ∧ w.heap.size + 2 ≤ w1.heap.size ∧ Below w.heap.size w w1 := by
  have s1 : (w.alloc (.cells a T)).heap.size = w.heap.size + 1 := by show (w.heap.push _).size = _; rw [Array.size_push]
  have s2 : ((w.alloc (.cells a T)).alloc (.cells b U)).heap.size = w.heap.size + 2 := by show ((w.alloc (.cells a T)).heap.push _).size = _; rw [Array.size_push, s1]
  have hsz := hb.size
  rw [s2] at hb hsz
  refine ⟨?_, ?_, hsz, ?_⟩
  · rw [hb.block _ (by omega), Below.heap_alloc _ _ _ (by omega)]
    exact heap_alloc_new w _
  · rw [hb.block _ (by omega), ← s1]
    exact heap_alloc_new _ _
  · exact (((Below.refl _ w).alloc (Nat.le_refl _) _).alloc (by omega) _).trans (hb.mono (by omega))
set_option maxRecDepth 1000000 in
set_option maxHeartbeats 4000000 in
theorem refSpecial_any (PR : Bs → Option Bs) (s sc ho pa qu fr : ByteArray) (po : Int) (w : World) (hs : s.size ≤ 300000)
    (HPR : ∀ (X : ByteArray) (w' : World), X.size ≤ 1000000 → X.data.toList = (spAt (s.data.toList.map slashB)).take (atP (spAt (s.data.toList.map slashB))) → Calls Tryz.prog 83 #[.string X] w' fun e w'' => ParseREnd (PR X.data.toList) e ∧ Below w'.heap.size w' w'') :
    Calls Tryz.prog 50 #[.agg #[.string sc, .string ho, .int .i64 po, .string pa, .string qu, .string fr], .string s] w fun e w' => SpEnd sc qu fr (specP PR sc.data.toList po s.data.toList) e ∧ Below w.heap.size w w' := by
  go_enter Tryz.func50, Tryz.ntmps50
  go_wp2
  obtain ⟨t, ht⟩ : ∃ t, s.data.toList.map slashB = t := ⟨_, rfl⟩
  have hspec : specP PR sc.data.toList po s.data.toList = if t.length < 2 then none else if t[0]? ≠ some 47 then none else if t[1]? ≠ some 47 then none else spAuth PR sc.data.toList po (spAt t) ((t.drop 2).drop (findP 47 (t.drop 2))) := by unfold specP; rw [ht]
  rw [ht] at HPR
  have HT := Lib.hid ht
  have HSP := Lib.hid hspec
  have HPP := Lib.hid HPR
  clear ht hspec HPR
  go_loop [6, 7] (fun vt vi => ∃ (i : Nat) (q : ByteArray), vt = .string q ∧ vi = .int .i64 i ∧ i ≤ s.size ∧ q.size = i ∧ Hid (q = strOf (t.take i))) (fun _ vi => s.size - (intOf vi).toNat)
  case atStart => exact ⟨0, ⟨#[]⟩, rfl, rfl, by omega, rfl, Lib.hid (by simp [strOf])⟩
  case round =>
    obtain ⟨i, q, rfl, rfl, hi, hq, HI⟩ := hrel
    have hqle : q.size ≤ 300000 := by omega
    have HQ := Lib.hid hq
    clear hq
    by_cases hlt : i < s.size
    · have hget := getI s i hlt
      have hti : t[i]? = some (slashB s[i]) := by rw [← HT.out, List.getElem?_map, hget]; rfl
      have hN : ∀ X : ByteArray, X = strOf [slashB s[i]] → Hid (q ++ X = strOf (t.take (i + 1)) ∧ (q ++ X).size = i + 1) := by
        intro X hX
        refine Lib.hid ⟨?_, ?_⟩
        · rw [HI.out, hX, List.take_add_one, hti, strOf_append]; rfl
        · rw [ByteArray.size_append, HQ.out, hX]; rfl
      by_cases hc : s[i] = 92
      · have hb := u8_eqL _ 92 92 rfl hc
        have HN := hN ⟨#[47]⟩ (by rw [hc]; rfl)
        have hs1 : ¬ 9223372036854775807 < q.size + 1 := by omega
        clear hget hti hN HI HQ hc
        go_wp2
        exact ⟨⟨i + 1, _, rfl, rfl, by omega, HN.out.2, Lib.hid HN.out.1⟩, by simp [intOf]; omega⟩
      · have hb := u8_neL _ 92 92 rfl hc
        have hx : s.extract i (i + 1) = strOf [slashB s[i]] := by
          rw [extract_strOf, List.drop_take, show i + 1 - i = 1 by omega, drop_at s i hlt]
          unfold slashB; rw [if_neg hc]; rfl
        have HN := hN _ hx
        have hxz : (s.extract i (i + 1)).size = 1 := by rw [hx]; rfl
        obtain ⟨X, hX⟩ : ∃ X, s.extract i (i + 1) = X := ⟨_, rfl⟩
        rw [hX] at HN hxz
        have hxz1 : X.size ≤ 1 := by omega
        have hs1 : ¬ 9223372036854775807 < q.size + X.size := by omega
        have m1 : IntKind.i64.wrap ((i : Int) + 1) = (i : Int) + 1 := IntWalk.i64_in _ (by omega)
        have t1 : ((i : Int) + 1).toNat = i + 1 := by omega
        clear hget hti hN HI HQ hc hx hxz
        go_wp2
        exact ⟨⟨i + 1, _, rfl, rfl, by omega, HN.out.2, Lib.hid HN.out.1⟩, by simp [intOf]; omega⟩
    · have HZ : Hid (q.data.toList = t) := by
        rw [HI.out, strOf_data, List.take_of_length_le (by rw [← HT.out, List.length_map, ← Lib.size_eq]; omega)]; exact Lib.hid rfl
      clear HI
      have hzt : q.size = t.length := by rw [Lib.size_eq, HZ.out]
      have hways : q.size < 2 ∨ (2 ≤ q.size ∧ t[0]? ≠ some 47) ∨ (2 ≤ q.size ∧ t[0]? = some 47 ∧ t[1]? ≠ some 47) ∨ (2 ≤ q.size ∧ t[0]? = some 47 ∧ t[1]? = some 47) := by
        by_cases k1 : q.size < 2
        · exact Or.inl k1
        · by_cases k2 : t[0]? = some 47
          · by_cases k3 : t[1]? = some 47
            · exact Or.inr (Or.inr (Or.inr ⟨by omega, k2, k3⟩))
            · exact Or.inr (Or.inr (Or.inl ⟨by omega, k2, k3⟩))
          · exact Or.inr (Or.inl ⟨by omega, k2⟩)
      rcases hways with h2 | ⟨h2, k0⟩ | ⟨h2, k0, k1⟩ | ⟨h2, k0, k1⟩
      · have hr : Hid (specP PR sc.data.toList po s.data.toList = none) := by rw [HSP.out, if_pos (by omega)]; exact Lib.hid rfl
        have h2' : (q.size : Int) < 2 := by omega
        clear hzt
        go_wp2
        exact bodyPost_ret (v := .tuple #[.agg #[.string sc, .string ho, .int .i64 po, .string pa, .string qu, .string fr], .bool false]) (by simp [results, Tryz.results50, go_sem]) rfl ⟨by rw [hr.out]; exact spEnd_none _ _ _, ((Below.refl _ w).alloc (Nat.le_refl _) _).alloc (by show w.heap.size ≤ (w.heap.push _).size; rw [Array.size_push]; omega) _⟩
      · have hr : Hid (specP PR sc.data.toList po s.data.toList = none) := by rw [HSP.out, if_neg (by omega), if_pos k0]; exact Lib.hid rfl
        have z0 : 0 < q.size := by omega
        have g0 := getI q 0 z0
        rw [HZ.out] at g0
        have b0 := u8_neL q[0] 47 47 rfl (fun h => k0 (by rw [g0, h]))
        have b0' : ((q[0].toNat : Int) != 47) = true := by unfold bne; rw [b0]; rfl
        clear hzt g0 k0
        go_wp2
        exact bodyPost_ret (v := .tuple #[.agg #[.string sc, .string ho, .int .i64 po, .string pa, .string qu, .string fr], .bool false]) (by simp [results, Tryz.results50, go_sem]) rfl ⟨by rw [hr.out]; exact spEnd_none _ _ _, ((Below.refl _ w).alloc (Nat.le_refl _) _).alloc (by show w.heap.size ≤ (w.heap.push _).size; rw [Array.size_push]; omega) _⟩
      · have hr : Hid (specP PR sc.data.toList po s.data.toList = none) := by rw [HSP.out, if_neg (by omega), if_neg (by simp [k0]), if_pos k1]; exact Lib.hid rfl
        have z0 : 0 < q.size := by omega
        have z1 : 1 < q.size := by omega
        have g0 := getI q 0 z0
        have g1 := getI q 1 z1
        rw [HZ.out] at g0 g1
        have b0 := u8_eqL q[0] 47 47 rfl (Option.some.inj (g0.symm.trans k0))
        have b1 := u8_neL q[1] 47 47 rfl (fun h => k1 (by rw [g1, h]))
        have b0' : ((q[0].toNat : Int) != 47) = false := by unfold bne; rw [b0]; rfl
        have b1' : ((q[1].toNat : Int) != 47) = true := by unfold bne; rw [b1]; rfl
        clear hzt g0 k0 g1 k1
        go_wp2
        exact bodyPost_ret (v := .tuple #[.agg #[.string sc, .string ho, .int .i64 po, .string pa, .string qu, .string fr], .bool false]) (by simp [results, Tryz.results50, go_sem]) rfl ⟨by rw [hr.out]; exact spEnd_none _ _ _, ((Below.refl _ w).alloc (Nat.le_refl _) _).alloc (by show w.heap.size ≤ (w.heap.push _).size; rw [Array.size_push]; omega) _⟩
      · have HS2 : Hid (specP PR sc.data.toList po s.data.toList = spAuth PR sc.data.toList po (spAt t) ((t.drop 2).drop (findP 47 (t.drop 2)))) := by rw [HSP.out, if_neg (by omega), if_neg (by simp [k0]), if_neg (by simp [k1])]; exact Lib.hid rfl
        have z0 : 0 < q.size := by omega
        have z1 : 1 < q.size := by omega
        have g0 := getI q 0 z0
        have g1 := getI q 1 z1
        rw [HZ.out] at g0 g1
        have b0 := u8_eqL q[0] 47 47 rfl (Option.some.inj (g0.symm.trans k0))
        have b1 := u8_eqL q[1] 47 47 rfl (Option.some.inj (g1.symm.trans k1))
        have b0' : ((q[0].toNat : Int) != 47) = false := by unfold bne; rw [b0]; rfl
        have b1' : ((q[1].toNat : Int) != 47) = false := by unfold bne; rw [b1]; rfl
        have hl2 : (2 : Int) ≤ (q.size : Int) := by omega
        clear hzt g0 k0 g1 k1
        obtain ⟨T2, hT2⟩ : ∃ T2, q.extract 2 q.size = T2 := ⟨_, rfl⟩
        have hT2l : T2.data.toList = t.drop 2 := by rw [← hT2, extract_from, strOf_data, HZ.out]
        have hT2z : T2.size ≤ 300000 := by rw [← hT2, ByteArray.size_extract]; omega
        have hT2e := Lib.hid hT2l
        obtain ⟨en, hen⟩ : ∃ en, findP 47 (t.drop 2) = en := ⟨_, rfl⟩
        have hel : en ≤ T2.size := by rw [← hen, Lib.size_eq, hT2l]; exact findP_le _ _
        have CF1 : ∀ w', Calls Tryz.prog 46 #[.string T2, .int .u8 47] w' fun e w'' => e = .returned (.int .i64 (en : Nat)) ∧ w' = w'' := by
          intro w'
          have := refFind_any T2 47 w' (by omega)
          rw [hT2l, hen] at this
          exact this
        have HCF1 := Lib.hid CF1
        obtain ⟨A, hA⟩ : ∃ A, T2.extract 0 en = A := ⟨_, rfl⟩
        have hAl : A.data.toList = spAt t := by
          rw [← hA, extract_strOf, strOf_data, hT2l]; unfold spAt; rw [hen]; simp
        have hAz : A.size ≤ 300000 := by rw [← hA, ByteArray.size_extract]; omega
        have HAL := Lib.hid hAl
        obtain ⟨fa, hfa⟩ : ∃ fa, findP 64 (spAt t) = fa := ⟨_, rfl⟩
        have CF2 : ∀ w', Calls Tryz.prog 46 #[.string A, .int .u8 64] w' fun e w'' => e = .returned (.int .i64 (fa : Nat)) ∧ w' = w'' := by
          intro w'
          have := refFind_any A 64 w' (by omega)
          rw [hAl, hfa] at this
          exact this
        have HCF2 := Lib.hid CF2
        rw [hen] at HS2
        have HFA := Lib.hid hfa
        clear CF1 CF2 hT2l hen hAl hfa HSP
        by_cases hat : fa < A.size
        · have hr : Hid (specP PR sc.data.toList po s.data.toList = none) := by rw [HS2.out]; unfold spAuth; rw [HFA.out, if_pos (by rw [← HAL.out, ← Lib.size_eq]; exact hat)]; exact Lib.hid rfl
          go_wp2_with (first | (go_at_call 46; first | (with_reducible refine (HCF1.out _).mono ?_; rintro e w1 ⟨rfl, rfl⟩) | (with_reducible refine (HCF2.out _).mono ?_; rintro e w1 ⟨rfl, rfl⟩)))
          exact bodyPost_ret (v := .tuple #[.agg #[.string sc, .string ho, .int .i64 po, .string pa, .string qu, .string fr], .bool false]) (by simp [results, Tryz.results50, go_sem]) rfl ⟨by rw [hr.out]; exact spEnd_none _ _ _, ((Below.refl _ w).alloc (Nat.le_refl _) _).alloc (by show w.heap.size ≤ (w.heap.push _).size; rw [Array.size_push]; omega) _⟩
        · have hr : Hid (specP PR sc.data.toList po s.data.toList = spFin (spPort sc.data.toList po (spAt t) (atP (spAt t))) (PR ((spAt t).take (atP (spAt t)))) (pathP ((t.drop 2).drop en))) := by rw [HS2.out]; unfold spAuth; rw [HFA.out, if_neg (by rw [← HAL.out, ← Lib.size_eq]; exact hat)]; exact Lib.hid rfl
          have hat' : (A.size : Int) ≤ (fa : Int) := by omega
          have hwi : ∃ w0 : Bool, (decide (A.data.toList.headD 0 = 91) = w0) := ⟨_, rfl⟩
          obtain ⟨w0, hw0⟩ := hwi
          have hfirst : (A.toList.isEmpty = true ∧ w0 = false ∧ A.size = 0) ∨ (A.toList.isEmpty = false ∧ 0 < A.size ∧ ∀ h : 0 < A.size, ((A[0].toNat : Int) == 91) = w0) := by
            by_cases h0 : A.data.toList = []
            · exact Or.inl ⟨by rw [isEmpty_data, h0]; rfl, by rw [← hw0, h0]; rfl, by rw [Lib.size_eq, h0]; rfl⟩
            · refine Or.inr ⟨by rw [isEmpty_data]; exact beq_eq_false_iff_ne.2 h0, by rw [Lib.size_eq]; exact List.length_pos_iff.2 h0, fun h => ?_⟩
              by_cases hc : A[0] = 91
              · rw [← hw0, head_get A h, hc]; rfl
              · rw [← hw0, head_get A h, u8_neL _ 91 91 rfl hc, decide_eq_false hc]
          have HW0 := Lib.hid hw0
          clear hw0 hat
          rcases hfirst with ⟨hemp, hwf, hA0⟩ | ⟨hemp, hz0, hb91⟩
          all_goals
            try subst hwf
            try (have hbq := hb91 hz0)
            try clear hb91
            go_wp2_with (first | (go_at_call 46; first | (with_reducible refine (HCF1.out _).mono ?_; rintro e w1 ⟨rfl, rfl⟩) | (with_reducible refine (HCF2.out _).mono ?_; rintro e w1 ⟨rfl, rfl⟩)))
            go_loop [10, 11] (fun va vw => ∃ (j : Nat) (wi : Bool), va = .int .i64 j ∧ vw = .bool wi ∧ j ≤ A.size ∧ Hid (atL (decide (A.data.toList.headD 0 = 91)) A.data.toList = ((atL wi (A.data.toList.drop j)).1 + j, (atL wi (A.data.toList.drop j)).2))) (fun va _ => A.size - (intOf va).toNat)
            case atStart => exact ⟨0, _, rfl, rfl, by omega, by rw [HW0.out]; exact Lib.hid (by simp)⟩
            case round =>
              obtain ⟨j, wi, rfl, rfl, hj, HI⟩ := hrel
              by_cases hgo : j < A.size ∧ ∀ h : j < A.size, ¬ (wi = false ∧ A[j] = 58)
              · obtain ⟨hlt, hns⟩ := hgo
                try (exfalso; omega)
                all_goals
                  have hns := hns hlt
                  have hd := drop_at A j hlt
                  have HN : Hid (atL (decide (A.data.toList.headD 0 = 91)) A.data.toList = ((atL (if A[j] = 93 then false else wi) (A.data.toList.drop (j + 1))).1 + (j + 1), (atL (if A[j] = 93 then false else wi) (A.data.toList.drop (j + 1))).2)) := by
                    rw [HI.out, hd, atL, if_neg hns]
                    refine Lib.hid ?_
                    simp only [Prod.mk.injEq, and_true]; omega
                  have m1 : IntKind.i64.wrap ((j : Int) + 1) = (j : Int) + 1 := IntWalk.i64_in _ (by omega)
                  clear hd HI
                  by_cases h93 : A[j] = 93
                  · have b93 := u8_eqL A[j] 93 93 rfl h93
                    have b58 := u8_neL A[j] 58 58 rfl (by rw [h93]; decide)
                    have b58' : ((A[j].toNat : Int) != 58) = true := by unfold bne; rw [b58]; rfl
                    rw [if_pos h93] at HN
                    clear hns h93
                    cases wi
                    all_goals
                      go_wp2
                      exact ⟨⟨j + 1, false, rfl, rfl, by omega, HN⟩, by simp [intOf]; omega⟩
                  · have b93 := u8_neL A[j] 93 93 rfl h93
                    rw [if_neg h93] at HN
                    clear h93
                    cases wi
                    · have b58 := u8_neL A[j] 58 58 rfl (fun h => hns ⟨rfl, h⟩)
                      have b58' : ((A[j].toNat : Int) != 58) = true := by unfold bne; rw [b58]; rfl
                      clear hns
                      go_wp2
                      exact ⟨⟨j + 1, false, rfl, rfl, by omega, HN⟩, by simp [intOf]; omega⟩
                    · clear hns
                      go_wp2
                      exact ⟨⟨j + 1, true, rfl, rfl, by omega, HN⟩, by simp [intOf]; omega⟩
              · have HE : Hid (atL (decide (A.data.toList.headD 0 = 91)) A.data.toList = (j, wi)) := by
                  by_cases hlt : j < A.size
                  · have hs : wi = false ∧ A[j] = 58 := Classical.byContradiction fun h => hgo ⟨hlt, fun _ => h⟩
                    rw [HI.out, drop_at A j hlt, atL, if_pos hs]; exact Lib.hid (by simp)
                  · obtain rfl : j = A.size := by omega
                    rw [HI.out, drop_end]; exact Lib.hid (by simp [atL])
                have hways : (j < A.size ∧ wi = false ∧ ∀ h : j < A.size, ((A[j].toNat : Int) == 58) = true) ∨ (j = A.size ∧ wi = false) ∨ (j = A.size ∧ wi = true) := by
                  by_cases hlt : j < A.size
                  · have hs : wi = false ∧ A[j] = 58 := Classical.byContradiction fun h => hgo ⟨hlt, fun _ => h⟩
                    exact Or.inl ⟨hlt, hs.1, fun h => u8_eqL A[j] 58 58 rfl hs.2⟩
                  · cases wi
                    · exact Or.inr (Or.inl ⟨by omega, rfl⟩)
                    · exact Or.inr (Or.inr ⟨by omega, rfl⟩)
                clear hgo HI
                obtain ⟨fc, hfc⟩ : ∃ fc, findP 58 (spAt t) = fc := ⟨_, rfl⟩
                have hfcl : fc ≤ A.size := by rw [← hfc, ← HAL.out, Lib.size_eq]; exact findP_le _ _
                have CF3 : ∀ w', Calls Tryz.prog 46 #[.string A, .int .u8 58] w' fun e w'' => e = .returned (.int .i64 (fc : Nat)) ∧ w' = w'' := by
                  intro w'
                  have := refFind_any A 58 w' (by omega)
                  rw [HAL.out, hfc] at this
                  exact this
                have HCF3 := Lib.hid CF3
                obtain ⟨n, hn⟩ : ∃ n, atP (spAt t) = n := ⟨_, rfl⟩
                have hn2 : n = if wi = true then fc else j := by
                  rw [← hn, ← hfc]; unfold atP; rw [← HAL.out, HE.out]
                rw [hn] at hr HPP
                have hnz : n ≤ A.size := by rw [hn2]; split <;> omega
                obtain ⟨pr, hpr⟩ : ∃ pr, portP ((spAt t).drop (n + 1)) = pr := ⟨_, rfl⟩
                obtain ⟨dv, hdv⟩ : ∃ dv, defP sc.data.toList = dv := ⟨_, rfl⟩
                have CP : ∀ w', Calls Tryz.prog 82 #[.string (A.extract (n + 1) A.size)] w' fun e w'' => e = .returned (.tuple #[.int .i64 (pr.1 : Nat), .bool pr.2]) ∧ w' = w'' := by
                  intro w'
                  have := refPort_any (A.extract (n + 1) A.size) w' (by rw [ByteArray.size_extract]; omega)
                  rw [extract_from, strOf_data, HAL.out, hpr] at this
                  rw [extract_from, HAL.out]
                  exact this
                have HCP := Lib.hid CP
                have CDf : ∀ w', Calls Tryz.prog 17 #[.string sc] w' fun e w'' => e = .returned (.int .i64 dv) ∧ w' = w'' := by
                  intro w'
                  have := refDefault_any sc w'
                  rw [hdv] at this
                  exact this
                have HCD := Lib.hid CDf
                have HSPP : Hid (spPort sc.data.toList po (spAt t) n = if n + 1 < A.size then (if pr.2 = false then none else some (if (pr.1 : Int) ≠ dv then (pr.1 : Int) else po)) else some po) := by
                  unfold spPort; rw [hpr, hdv, ← HAL.out, ← Lib.size_eq]; exact Lib.hid rfl
                have hHE : ∃ (H : ByteArray) (ev : Int), Hid (PR ((spAt t).take n) = if ev = 0 then some H.data.toList else none) ∧ (ev = 0 ∨ ev = 7) ∧ Hid (∀ w', Calls Tryz.prog 83 #[.string (A.extract 0 n)] w' fun e w'' => e = .returned (.tuple #[.string H, .int .i64 ev]) ∧ Below w'.heap.size w' w'') := by
                  have e1 : (A.extract 0 n).data.toList = (spAt t).take n := by rw [extract_strOf, strOf_data, HAL.out]; simp
                  have CX := fun w' => HPP.out (A.extract 0 n) w' (by rw [ByteArray.size_extract]; omega) e1
                  rw [e1] at CX
                  cases hP : PR ((spAt t).take n) with
                  | none =>
                    refine ⟨⟨#[]⟩, 7, Lib.hid rfl, Or.inr rfl, Lib.hid fun w' => (CX w').mono ?_⟩
                    rintro e w2 ⟨h1, h2⟩
                    rw [hP] at h1
                    exact ⟨h1, h2⟩
                  | some l =>
                    refine ⟨strOf l, 0, Lib.hid (by simp [strOf_data]), Or.inl rfl, Lib.hid fun w' => (CX w').mono ?_⟩
                    rintro e w2 ⟨h1, h2⟩
                    rw [hP] at h1
                    exact ⟨h1, h2⟩
                obtain ⟨H, ev, HEV, hev, HPX⟩ := hHE
                obtain ⟨PB, hPB⟩ : ∃ PB, pathP ((t.drop 2).drop en) = PB := ⟨_, rfl⟩
                have CPT : ∀ w', Calls Tryz.prog 84 #[.string (T2.extract en T2.size)] w' fun e w'' => e = .returned (.string (strOf PB)) ∧ Below w'.heap.size w' w'' := by
                  intro w'
                  have := refPath_any (T2.extract en T2.size) w' (by rw [ByteArray.size_extract]; omega)
                  rw [extract_from, strOf_data, hT2e.out, hPB] at this
                  rw [extract_from, hT2e.out]
                  exact this
                have HPT := Lib.hid CPT
                rw [hPB] at hr
                clear CPT hPB
                clear CP CDf CF3 hpr hdv hfc hn HE HPP
                have hport : (A.size ≤ n + 1) ∨ (n + 1 < A.size ∧ pr.2 = false) ∨ (n + 1 < A.size ∧ pr.2 = true ∧ (pr.1 : Int) ≠ dv) ∨ (n + 1 < A.size ∧ pr.2 = true ∧ (pr.1 : Int) = dv) := by
                  by_cases k1 : n + 1 < A.size
                  · cases k2 : pr.2
                    · exact Or.inr (Or.inl ⟨k1, rfl⟩)
                    · by_cases k3 : (pr.1 : Int) = dv
                      · exact Or.inr (Or.inr (Or.inr ⟨k1, rfl, k3⟩))
                      · exact Or.inr (Or.inr (Or.inl ⟨k1, rfl, k3⟩))
                  · exact Or.inl (by omega)
                obtain ⟨pn, pok⟩ := pr
                simp only at hport
                rcases hways with ⟨q1, rfl, q2⟩ | ⟨q1, rfl⟩ | ⟨q1, rfl⟩
                · have hnj : j = n := by rw [hn2, if_neg (by decide)]
                  subst hnj
                  try (exfalso; omega)
                  all_goals
                    have b58 := q2 q1
                    have b58' : ((A[j].toNat : Int) != 58) = false := by unfold bne; rw [b58]; rfl
                    have m1 : IntKind.i64.wrap ((j : Int) + 1) = (j : Int) + 1 := IntWalk.i64_in _ (by omega)
                    have t1 : ((j : Int) + 1).toNat = j + 1 := by omega
                    clear q2 hn2
                    rcases hport with p0 | ⟨p1, rfl⟩ | ⟨p1, rfl, p2⟩ | ⟨p1, rfl, p2⟩
                    · have HSQ : Hid (spPort sc.data.toList po (spAt t) j = some po) := by rw [HSPP.out, if_neg (by omega)]; exact Lib.hid rfl
                      clear HSPP
                      go_wp2_with fail
                      refine (HPX.out _).mono ?_
                      rintro e w1 ⟨rfl, hb1⟩
                      obtain ⟨hblk, hblr, hsz1, hbw1⟩ := two_blocks hb1
                      have f1 := frozen_of_heap hblk 1
                      have z1 := cell_of_heap hblk 1
                      all_goals
                        go_wp2_with fail
                        refine (HPT.out _).mono ?_
                        rintro e w2 ⟨rfl, hb2⟩
                        have hs3 := hb2.size
                        have hs4 : (w1.setCell ⟨w.heap.size, 1, none⟩ (.string H)).heap.size = w1.heap.size := by simp [World.setCell]
                        have hblk2 : w2.heap[w.heap.size]? = some (.cells #[.string sc, .string H, .int .i64 po, .string pa, .string qu, .string fr] 28 (0, 0)) := by
                          rw [hb2.block _ (by omega), heap_setCell_at hblk 1 _]; rfl
                        have hblr2 : w2.heap[w.heap.size + 1]? = some (.cells #[.string ⟨#[]⟩, .string ⟨#[]⟩, .int .i64 0, .string ⟨#[]⟩, .string ⟨#[]⟩, .string ⟨#[]⟩] 28 (0, 0)) := by
                          rw [hb2.block _ (by omega), Below.heap_setCell _ _ _ _ (by show w.heap.size + 1 ≠ w.heap.size; omega)]; exact hblr
                        have f3 := frozen_of_heap hblk2 3
                        have y0 := cell_of_heap hblk2 0
                        have y1 := cell_of_heap hblk2 1
                        have y2 := cell_of_heap hblk2 2
                        have y3 := cell_of_heap hblk2 3
                        have y4 := cell_of_heap hblk2 4
                        have y5 := cell_of_heap hblk2 5
                        have r0 := frozen_of_heap hblr2 0
                        have r1 := frozen_of_heap hblr2 1
                        have r2 := frozen_of_heap hblr2 2
                        have r3 := frozen_of_heap hblr2 3
                        have r4 := frozen_of_heap hblr2 4
                        have r5 := frozen_of_heap hblr2 5
                        have x0 := cell_of_heap hblr2 0
                        have x1 := cell_of_heap hblr2 1
                        have x2 := cell_of_heap hblr2 2
                        have x3 := cell_of_heap hblr2 3
                        have x4 := cell_of_heap hblr2 4
                        have x5 := cell_of_heap hblr2 5
                        have hbz : Below w.heap.size w w2 := (hbw1.setCell (Nat.le_refl _) _).trans (hb2.mono (by omega))
                        go_wp2
                        exact bodyPost_ret (v := .tuple #[.agg #[.string sc, .string H, .int .i64 po, .string (strOf PB), .string qu, .string fr], .bool (ev == 0)]) (by simp [results, Tryz.results50, go_sem, x0, x1, x2, x3, x4, x5]) rfl ⟨by rw [hr.out, HSQ.out]; exact spEnd_all sc qu fr H po ev PB (PR ((spAt t).take j)) HEV.out, ((((((hbz.setCell (Nat.le_refl _) _).setCell (Nat.le_succ _) _).setCell (Nat.le_succ _) _).setCell (Nat.le_succ _) _).setCell (Nat.le_succ _) _).setCell (Nat.le_succ _) _).setCell (Nat.le_succ _) _⟩
                    · have hr2 : Hid (specP PR sc.data.toList po s.data.toList = none) := by rw [hr.out, HSPP.out, if_pos p1, if_pos rfl]; exact Lib.hid rfl
                      have p1' : (j : Int) + 1 ≤ (A.size : Int) := by omega
                      clear hr HSPP
                      go_wp2_with (first | (go_at_call 82; refine (HCP.out _).mono ?_; rintro e w1 ⟨rfl, rfl⟩))
                      exact bodyPost_ret (v := .tuple #[.agg #[.string sc, .string ho, .int .i64 po, .string pa, .string qu, .string fr], .bool false]) (by simp [results, Tryz.results50, go_sem]) rfl ⟨by rw [hr2.out]; exact spEnd_none _ _ _, ((Below.refl _ w).alloc (Nat.le_refl _) _).alloc (by show w.heap.size ≤ (w.heap.push _).size; rw [Array.size_push]; omega) _⟩
                    · have HSQ : Hid (spPort sc.data.toList po (spAt t) j = some (pn : Int)) := by rw [HSPP.out, if_pos p1, if_neg (by simp), if_pos p2]; exact Lib.hid rfl
                      have p1' : (j : Int) + 1 ≤ (A.size : Int) := by omega
                      have p2b : ((pn : Int) != dv) = true := by simpa using p2
                      clear HSPP p2
                      go_wp2_with (first | (go_at_call 82; refine (HCP.out _).mono ?_; rintro e w1 ⟨rfl, rfl⟩) | (go_at_call 17; refine (HCD.out _).mono ?_; rintro e w1 ⟨rfl, rfl⟩))
                      refine (HPX.out _).mono ?_
                      rintro e w1 ⟨rfl, hb1⟩
                      obtain ⟨hblk, hblr, hsz1, hbw1⟩ := two_blocks hb1
                      have f1 := frozen_of_heap hblk 1
                      have z1 := cell_of_heap hblk 1
                      all_goals
                        go_wp2_with fail
                        refine (HPT.out _).mono ?_
                        rintro e w2 ⟨rfl, hb2⟩
                        have hs3 := hb2.size
                        have hs4 : (w1.setCell ⟨w.heap.size, 1, none⟩ (.string H)).heap.size = w1.heap.size := by simp [World.setCell]
                        have hblk2 : w2.heap[w.heap.size]? = some (.cells #[.string sc, .string H, .int .i64 pn, .string pa, .string qu, .string fr] 28 (0, 0)) := by
                          rw [hb2.block _ (by omega), heap_setCell_at hblk 1 _]; rfl
                        have hblr2 : w2.heap[w.heap.size + 1]? = some (.cells #[.string ⟨#[]⟩, .string ⟨#[]⟩, .int .i64 0, .string ⟨#[]⟩, .string ⟨#[]⟩, .string ⟨#[]⟩] 28 (0, 0)) := by
                          rw [hb2.block _ (by omega), Below.heap_setCell _ _ _ _ (by show w.heap.size + 1 ≠ w.heap.size; omega)]; exact hblr
                        have f3 := frozen_of_heap hblk2 3
                        have y0 := cell_of_heap hblk2 0
                        have y1 := cell_of_heap hblk2 1
                        have y2 := cell_of_heap hblk2 2
                        have y3 := cell_of_heap hblk2 3
                        have y4 := cell_of_heap hblk2 4
                        have y5 := cell_of_heap hblk2 5
                        have r0 := frozen_of_heap hblr2 0
                        have r1 := frozen_of_heap hblr2 1
                        have r2 := frozen_of_heap hblr2 2
                        have r3 := frozen_of_heap hblr2 3
                        have r4 := frozen_of_heap hblr2 4
                        have r5 := frozen_of_heap hblr2 5
                        have x0 := cell_of_heap hblr2 0
                        have x1 := cell_of_heap hblr2 1
                        have x2 := cell_of_heap hblr2 2
                        have x3 := cell_of_heap hblr2 3
                        have x4 := cell_of_heap hblr2 4
                        have x5 := cell_of_heap hblr2 5
                        have hbz : Below w.heap.size w w2 := (hbw1.setCell (Nat.le_refl _) _).trans (hb2.mono (by omega))
                        go_wp2
                        exact bodyPost_ret (v := .tuple #[.agg #[.string sc, .string H, .int .i64 pn, .string (strOf PB), .string qu, .string fr], .bool (ev == 0)]) (by simp [results, Tryz.results50, go_sem, x0, x1, x2, x3, x4, x5]) rfl ⟨by rw [hr.out, HSQ.out]; exact spEnd_all sc qu fr H pn ev PB (PR ((spAt t).take j)) HEV.out, ((((((hbz.setCell (Nat.le_refl _) _).setCell (Nat.le_succ _) _).setCell (Nat.le_succ _) _).setCell (Nat.le_succ _) _).setCell (Nat.le_succ _) _).setCell (Nat.le_succ _) _).setCell (Nat.le_succ _) _⟩
                    · have HSQ : Hid (spPort sc.data.toList po (spAt t) j = some po) := by rw [HSPP.out, if_pos p1, if_neg (by simp), if_neg (by simp [p2])]; exact Lib.hid rfl
                      have p1' : (j : Int) + 1 ≤ (A.size : Int) := by omega
                      have p2b : ((pn : Int) != dv) = false := by simpa using p2
                      clear HSPP p2
                      go_wp2_with (first | (go_at_call 82; refine (HCP.out _).mono ?_; rintro e w1 ⟨rfl, rfl⟩) | (go_at_call 17; refine (HCD.out _).mono ?_; rintro e w1 ⟨rfl, rfl⟩))
                      refine (HPX.out _).mono ?_
                      rintro e w1 ⟨rfl, hb1⟩
                      obtain ⟨hblk, hblr, hsz1, hbw1⟩ := two_blocks hb1
                      have f1 := frozen_of_heap hblk 1
                      have z1 := cell_of_heap hblk 1
                      all_goals
                        go_wp2_with fail
                        refine (HPT.out _).mono ?_
                        rintro e w2 ⟨rfl, hb2⟩
                        have hs3 := hb2.size
                        have hs4 : (w1.setCell ⟨w.heap.size, 1, none⟩ (.string H)).heap.size = w1.heap.size := by simp [World.setCell]
                        have hblk2 : w2.heap[w.heap.size]? = some (.cells #[.string sc, .string H, .int .i64 po, .string pa, .string qu, .string fr] 28 (0, 0)) := by
                          rw [hb2.block _ (by omega), heap_setCell_at hblk 1 _]; rfl
                        have hblr2 : w2.heap[w.heap.size + 1]? = some (.cells #[.string ⟨#[]⟩, .string ⟨#[]⟩, .int .i64 0, .string ⟨#[]⟩, .string ⟨#[]⟩, .string ⟨#[]⟩] 28 (0, 0)) := by
                          rw [hb2.block _ (by omega), Below.heap_setCell _ _ _ _ (by show w.heap.size + 1 ≠ w.heap.size; omega)]; exact hblr
                        have f3 := frozen_of_heap hblk2 3
                        have y0 := cell_of_heap hblk2 0
                        have y1 := cell_of_heap hblk2 1
                        have y2 := cell_of_heap hblk2 2
                        have y3 := cell_of_heap hblk2 3
                        have y4 := cell_of_heap hblk2 4
                        have y5 := cell_of_heap hblk2 5
                        have r0 := frozen_of_heap hblr2 0
                        have r1 := frozen_of_heap hblr2 1
                        have r2 := frozen_of_heap hblr2 2
                        have r3 := frozen_of_heap hblr2 3
                        have r4 := frozen_of_heap hblr2 4
                        have r5 := frozen_of_heap hblr2 5
                        have x0 := cell_of_heap hblr2 0
                        have x1 := cell_of_heap hblr2 1
                        have x2 := cell_of_heap hblr2 2
                        have x3 := cell_of_heap hblr2 3
                        have x4 := cell_of_heap hblr2 4
                        have x5 := cell_of_heap hblr2 5
                        have hbz : Below w.heap.size w w2 := (hbw1.setCell (Nat.le_refl _) _).trans (hb2.mono (by omega))
                        go_wp2
                        exact bodyPost_ret (v := .tuple #[.agg #[.string sc, .string H, .int .i64 po, .string (strOf PB), .string qu, .string fr], .bool (ev == 0)]) (by simp [results, Tryz.results50, go_sem, x0, x1, x2, x3, x4, x5]) rfl ⟨by rw [hr.out, HSQ.out]; exact spEnd_all sc qu fr H po ev PB (PR ((spAt t).take j)) HEV.out, ((((((hbz.setCell (Nat.le_refl _) _).setCell (Nat.le_succ _) _).setCell (Nat.le_succ _) _).setCell (Nat.le_succ _) _).setCell (Nat.le_succ _) _).setCell (Nat.le_succ _) _).setCell (Nat.le_succ _) _⟩
                · have hnj : j = n := by rw [hn2, if_neg (by decide)]
                  have q1' : A.size ≤ j := by omega
                  clear q1 hn2
                  subst hnj
                  rcases hport with p0 | ⟨p1, rfl⟩ | ⟨p1, rfl, p2⟩ | ⟨p1, rfl, p2⟩
                  · have HSQ : Hid (spPort sc.data.toList po (spAt t) j = some po) := by rw [HSPP.out, if_neg (by omega)]; exact Lib.hid rfl
                    clear HSPP
                    go_wp2_with fail
                    refine (HPX.out _).mono ?_
                    rintro e w1 ⟨rfl, hb1⟩
                    obtain ⟨hblk, hblr, hsz1, hbw1⟩ := two_blocks hb1
                    have f1 := frozen_of_heap hblk 1
                    have z1 := cell_of_heap hblk 1
                    all_goals
                      go_wp2_with fail
                      refine (HPT.out _).mono ?_
                      rintro e w2 ⟨rfl, hb2⟩
                      have hs3 := hb2.size
                      have hs4 : (w1.setCell ⟨w.heap.size, 1, none⟩ (.string H)).heap.size = w1.heap.size := by simp [World.setCell]
                      have hblk2 : w2.heap[w.heap.size]? = some (.cells #[.string sc, .string H, .int .i64 po, .string pa, .string qu, .string fr] 28 (0, 0)) := by
                        rw [hb2.block _ (by omega), heap_setCell_at hblk 1 _]; rfl
                      have hblr2 : w2.heap[w.heap.size + 1]? = some (.cells #[.string ⟨#[]⟩, .string ⟨#[]⟩, .int .i64 0, .string ⟨#[]⟩, .string ⟨#[]⟩, .string ⟨#[]⟩] 28 (0, 0)) := by
                        rw [hb2.block _ (by omega), Below.heap_setCell _ _ _ _ (by show w.heap.size + 1 ≠ w.heap.size; omega)]; exact hblr
                      have f3 := frozen_of_heap hblk2 3
                      have y0 := cell_of_heap hblk2 0
                      have y1 := cell_of_heap hblk2 1
                      have y2 := cell_of_heap hblk2 2
                      have y3 := cell_of_heap hblk2 3
                      have y4 := cell_of_heap hblk2 4
                      have y5 := cell_of_heap hblk2 5
                      have r0 := frozen_of_heap hblr2 0
                      have r1 := frozen_of_heap hblr2 1
                      have r2 := frozen_of_heap hblr2 2
                      have r3 := frozen_of_heap hblr2 3
                      have r4 := frozen_of_heap hblr2 4
                      have r5 := frozen_of_heap hblr2 5
                      have x0 := cell_of_heap hblr2 0
                      have x1 := cell_of_heap hblr2 1
                      have x2 := cell_of_heap hblr2 2
                      have x3 := cell_of_heap hblr2 3
                      have x4 := cell_of_heap hblr2 4
                      have x5 := cell_of_heap hblr2 5
                      have hbz : Below w.heap.size w w2 := (hbw1.setCell (Nat.le_refl _) _).trans (hb2.mono (by omega))
                      go_wp2
                      exact bodyPost_ret (v := .tuple #[.agg #[.string sc, .string H, .int .i64 po, .string (strOf PB), .string qu, .string fr], .bool (ev == 0)]) (by simp [results, Tryz.results50, go_sem, x0, x1, x2, x3, x4, x5]) rfl ⟨by rw [hr.out, HSQ.out]; exact spEnd_all sc qu fr H po ev PB (PR ((spAt t).take j)) HEV.out, ((((((hbz.setCell (Nat.le_refl _) _).setCell (Nat.le_succ _) _).setCell (Nat.le_succ _) _).setCell (Nat.le_succ _) _).setCell (Nat.le_succ _) _).setCell (Nat.le_succ _) _).setCell (Nat.le_succ _) _⟩
                  · exfalso; omega
                  · exfalso; omega
                  · exfalso; omega
                · have hnj : fc = n := by rw [hn2, if_pos rfl]
                  have q1' : A.size ≤ j := by omega
                  clear q1 hn2
                  subst hnj
                  have m1 : IntKind.i64.wrap ((fc : Int) + 1) = (fc : Int) + 1 := IntWalk.i64_in _ (by omega)
                  have t1 : ((fc : Int) + 1).toNat = fc + 1 := by omega
                  rcases hport with p0 | ⟨p1, rfl⟩ | ⟨p1, rfl, p2⟩ | ⟨p1, rfl, p2⟩
                  · have HSQ : Hid (spPort sc.data.toList po (spAt t) fc = some po) := by rw [HSPP.out, if_neg (by omega)]; exact Lib.hid rfl
                    clear HSPP
                    rcases Nat.lt_or_ge fc A.size with p3 | p3
                    all_goals
                      try (exfalso; omega)
                      all_goals
                        go_wp2_with (first | (go_at_call 46; with_reducible refine (HCF3.out _).mono ?_; rintro e w1 ⟨rfl, rfl⟩))
                        refine (HPX.out _).mono ?_
                        rintro e w1 ⟨rfl, hb1⟩
                        obtain ⟨hblk, hblr, hsz1, hbw1⟩ := two_blocks hb1
                        have f1 := frozen_of_heap hblk 1
                        have z1 := cell_of_heap hblk 1
                        all_goals
                          go_wp2_with fail
                          refine (HPT.out _).mono ?_
                          rintro e w2 ⟨rfl, hb2⟩
                          have hs3 := hb2.size
                          have hs4 : (w1.setCell ⟨w.heap.size, 1, none⟩ (.string H)).heap.size = w1.heap.size := by simp [World.setCell]
                          have hblk2 : w2.heap[w.heap.size]? = some (.cells #[.string sc, .string H, .int .i64 po, .string pa, .string qu, .string fr] 28 (0, 0)) := by
                            rw [hb2.block _ (by omega), heap_setCell_at hblk 1 _]; rfl
                          have hblr2 : w2.heap[w.heap.size + 1]? = some (.cells #[.string ⟨#[]⟩, .string ⟨#[]⟩, .int .i64 0, .string ⟨#[]⟩, .string ⟨#[]⟩, .string ⟨#[]⟩] 28 (0, 0)) := by
                            rw [hb2.block _ (by omega), Below.heap_setCell _ _ _ _ (by show w.heap.size + 1 ≠ w.heap.size; omega)]; exact hblr
                          have f3 := frozen_of_heap hblk2 3
                          have y0 := cell_of_heap hblk2 0
                          have y1 := cell_of_heap hblk2 1
                          have y2 := cell_of_heap hblk2 2
                          have y3 := cell_of_heap hblk2 3
                          have y4 := cell_of_heap hblk2 4
                          have y5 := cell_of_heap hblk2 5
                          have r0 := frozen_of_heap hblr2 0
                          have r1 := frozen_of_heap hblr2 1
                          have r2 := frozen_of_heap hblr2 2
                          have r3 := frozen_of_heap hblr2 3
                          have r4 := frozen_of_heap hblr2 4
                          have r5 := frozen_of_heap hblr2 5
                          have x0 := cell_of_heap hblr2 0
                          have x1 := cell_of_heap hblr2 1
                          have x2 := cell_of_heap hblr2 2
                          have x3 := cell_of_heap hblr2 3
                          have x4 := cell_of_heap hblr2 4
                          have x5 := cell_of_heap hblr2 5
                          have hbz : Below w.heap.size w w2 := (hbw1.setCell (Nat.le_refl _) _).trans (hb2.mono (by omega))
                          go_wp2
                          exact bodyPost_ret (v := .tuple #[.agg #[.string sc, .string H, .int .i64 po, .string (strOf PB), .string qu, .string fr], .bool (ev == 0)]) (by simp [results, Tryz.results50, go_sem, x0, x1, x2, x3, x4, x5]) rfl ⟨by rw [hr.out, HSQ.out]; exact spEnd_all sc qu fr H po ev PB (PR ((spAt t).take fc)) HEV.out, ((((((hbz.setCell (Nat.le_refl _) _).setCell (Nat.le_succ _) _).setCell (Nat.le_succ _) _).setCell (Nat.le_succ _) _).setCell (Nat.le_succ _) _).setCell (Nat.le_succ _) _).setCell (Nat.le_succ _) _⟩
                  · try (exfalso; omega)
                    all_goals
                      have hr2 : Hid (specP PR sc.data.toList po s.data.toList = none) := by rw [hr.out, HSPP.out, if_pos p1, if_pos rfl]; exact Lib.hid rfl
                      have p1' : (fc : Int) + 1 ≤ (A.size : Int) := by omega
                      clear hr HSPP
                      go_wp2_with (first | (go_at_call 46; with_reducible refine (HCF3.out _).mono ?_; rintro e w1 ⟨rfl, rfl⟩) | (go_at_call 82; refine (HCP.out _).mono ?_; rintro e w1 ⟨rfl, rfl⟩))
                      exact bodyPost_ret (v := .tuple #[.agg #[.string sc, .string ho, .int .i64 po, .string pa, .string qu, .string fr], .bool false]) (by simp [results, Tryz.results50, go_sem]) rfl ⟨by rw [hr2.out]; exact spEnd_none _ _ _, ((Below.refl _ w).alloc (Nat.le_refl _) _).alloc (by show w.heap.size ≤ (w.heap.push _).size; rw [Array.size_push]; omega) _⟩
                  · try (exfalso; omega)
                    all_goals
                      have HSQ : Hid (spPort sc.data.toList po (spAt t) fc = some (pn : Int)) := by rw [HSPP.out, if_pos p1, if_neg (by simp), if_pos p2]; exact Lib.hid rfl
                      have p1' : (fc : Int) + 1 ≤ (A.size : Int) := by omega
                      have p2b : ((pn : Int) != dv) = true := by simpa using p2
                      clear HSPP p2
                      go_wp2_with (first | (go_at_call 46; with_reducible refine (HCF3.out _).mono ?_; rintro e w1 ⟨rfl, rfl⟩) | (go_at_call 82; refine (HCP.out _).mono ?_; rintro e w1 ⟨rfl, rfl⟩) | (go_at_call 17; refine (HCD.out _).mono ?_; rintro e w1 ⟨rfl, rfl⟩))
                      refine (HPX.out _).mono ?_
                      rintro e w1 ⟨rfl, hb1⟩
                      obtain ⟨hblk, hblr, hsz1, hbw1⟩ := two_blocks hb1
                      have f1 := frozen_of_heap hblk 1
                      have z1 := cell_of_heap hblk 1
                      all_goals
                        go_wp2_with fail
                        refine (HPT.out _).mono ?_
                        rintro e w2 ⟨rfl, hb2⟩
                        have hs3 := hb2.size
                        have hs4 : (w1.setCell ⟨w.heap.size, 1, none⟩ (.string H)).heap.size = w1.heap.size := by simp [World.setCell]
                        have hblk2 : w2.heap[w.heap.size]? = some (.cells #[.string sc, .string H, .int .i64 pn, .string pa, .string qu, .string fr] 28 (0, 0)) := by
                          rw [hb2.block _ (by omega), heap_setCell_at hblk 1 _]; rfl
                        have hblr2 : w2.heap[w.heap.size + 1]? = some (.cells #[.string ⟨#[]⟩, .string ⟨#[]⟩, .int .i64 0, .string ⟨#[]⟩, .string ⟨#[]⟩, .string ⟨#[]⟩] 28 (0, 0)) := by
                          rw [hb2.block _ (by omega), Below.heap_setCell _ _ _ _ (by show w.heap.size + 1 ≠ w.heap.size; omega)]; exact hblr
                        have f3 := frozen_of_heap hblk2 3
                        have y0 := cell_of_heap hblk2 0
                        have y1 := cell_of_heap hblk2 1
                        have y2 := cell_of_heap hblk2 2
                        have y3 := cell_of_heap hblk2 3
                        have y4 := cell_of_heap hblk2 4
                        have y5 := cell_of_heap hblk2 5
                        have r0 := frozen_of_heap hblr2 0
                        have r1 := frozen_of_heap hblr2 1
                        have r2 := frozen_of_heap hblr2 2
                        have r3 := frozen_of_heap hblr2 3
                        have r4 := frozen_of_heap hblr2 4
                        have r5 := frozen_of_heap hblr2 5
                        have x0 := cell_of_heap hblr2 0
                        have x1 := cell_of_heap hblr2 1
                        have x2 := cell_of_heap hblr2 2
                        have x3 := cell_of_heap hblr2 3
                        have x4 := cell_of_heap hblr2 4
                        have x5 := cell_of_heap hblr2 5
                        have hbz : Below w.heap.size w w2 := (hbw1.setCell (Nat.le_refl _) _).trans (hb2.mono (by omega))
                        go_wp2
                        exact bodyPost_ret (v := .tuple #[.agg #[.string sc, .string H, .int .i64 pn, .string (strOf PB), .string qu, .string fr], .bool (ev == 0)]) (by simp [results, Tryz.results50, go_sem, x0, x1, x2, x3, x4, x5]) rfl ⟨by rw [hr.out, HSQ.out]; exact spEnd_all sc qu fr H pn ev PB (PR ((spAt t).take fc)) HEV.out, ((((((hbz.setCell (Nat.le_refl _) _).setCell (Nat.le_succ _) _).setCell (Nat.le_succ _) _).setCell (Nat.le_succ _) _).setCell (Nat.le_succ _) _).setCell (Nat.le_succ _) _).setCell (Nat.le_succ _) _⟩
                  · try (exfalso; omega)
                    all_goals
                      have HSQ : Hid (spPort sc.data.toList po (spAt t) fc = some po) := by rw [HSPP.out, if_pos p1, if_neg (by simp), if_neg (by simp [p2])]; exact Lib.hid rfl
                      have p1' : (fc : Int) + 1 ≤ (A.size : Int) := by omega
                      have p2b : ((pn : Int) != dv) = false := by simpa using p2
                      clear HSPP p2
                      go_wp2_with (first | (go_at_call 46; with_reducible refine (HCF3.out _).mono ?_; rintro e w1 ⟨rfl, rfl⟩) | (go_at_call 82; refine (HCP.out _).mono ?_; rintro e w1 ⟨rfl, rfl⟩) | (go_at_call 17; refine (HCD.out _).mono ?_; rintro e w1 ⟨rfl, rfl⟩))
                      refine (HPX.out _).mono ?_
                      rintro e w1 ⟨rfl, hb1⟩
                      obtain ⟨hblk, hblr, hsz1, hbw1⟩ := two_blocks hb1
                      have f1 := frozen_of_heap hblk 1
                      have z1 := cell_of_heap hblk 1
                      all_goals
                        go_wp2_with fail
                        refine (HPT.out _).mono ?_
                        rintro e w2 ⟨rfl, hb2⟩
                        have hs3 := hb2.size
                        have hs4 : (w1.setCell ⟨w.heap.size, 1, none⟩ (.string H)).heap.size = w1.heap.size := by simp [World.setCell]
                        have hblk2 : w2.heap[w.heap.size]? = some (.cells #[.string sc, .string H, .int .i64 po, .string pa, .string qu, .string fr] 28 (0, 0)) := by
                          rw [hb2.block _ (by omega), heap_setCell_at hblk 1 _]; rfl
                        have hblr2 : w2.heap[w.heap.size + 1]? = some (.cells #[.string ⟨#[]⟩, .string ⟨#[]⟩, .int .i64 0, .string ⟨#[]⟩, .string ⟨#[]⟩, .string ⟨#[]⟩] 28 (0, 0)) := by
                          rw [hb2.block _ (by omega), Below.heap_setCell _ _ _ _ (by show w.heap.size + 1 ≠ w.heap.size; omega)]; exact hblr
                        have f3 := frozen_of_heap hblk2 3
                        have y0 := cell_of_heap hblk2 0
                        have y1 := cell_of_heap hblk2 1
                        have y2 := cell_of_heap hblk2 2
                        have y3 := cell_of_heap hblk2 3
                        have y4 := cell_of_heap hblk2 4
                        have y5 := cell_of_heap hblk2 5
                        have r0 := frozen_of_heap hblr2 0
                        have r1 := frozen_of_heap hblr2 1
                        have r2 := frozen_of_heap hblr2 2
                        have r3 := frozen_of_heap hblr2 3
                        have r4 := frozen_of_heap hblr2 4
                        have r5 := frozen_of_heap hblr2 5
                        have x0 := cell_of_heap hblr2 0
                        have x1 := cell_of_heap hblr2 1
                        have x2 := cell_of_heap hblr2 2
                        have x3 := cell_of_heap hblr2 3
                        have x4 := cell_of_heap hblr2 4
                        have x5 := cell_of_heap hblr2 5
                        have hbz : Below w.heap.size w w2 := (hbw1.setCell (Nat.le_refl _) _).trans (hb2.mono (by omega))
                        go_wp2
                        exact bodyPost_ret (v := .tuple #[.agg #[.string sc, .string H, .int .i64 po, .string (strOf PB), .string qu, .string fr], .bool (ev == 0)]) (by simp [results, Tryz.results50, go_sem, x0, x1, x2, x3, x4, x5]) rfl ⟨by rw [hr.out, HSQ.out]; exact spEnd_all sc qu fr H po ev PB (PR ((spAt t).take fc)) HEV.out, ((((((hbz.setCell (Nat.le_refl _) _).setCell (Nat.le_succ _) _).setCell (Nat.le_succ _) _).setCell (Nat.le_succ _) _).setCell (Nat.le_succ _) _).setCell (Nat.le_succ _) _).setCell (Nat.le_succ _) _⟩
end Go.Proofs.YtmgkmpbblhkacaaGreatDoor
