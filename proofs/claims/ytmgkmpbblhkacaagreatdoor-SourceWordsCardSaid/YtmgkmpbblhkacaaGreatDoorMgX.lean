/- The reference's IPv6. The reference's hexa and Text6. The reference's Parse of any host. -/
import Derived.Test.YtmgkmpbblhkacaaGreatDoorMgW
import Derived.Test.YtmgkmpbblhkacaaGreatDoorR7
import Derived.Test.YtmgkmpbblhkacaaGreatDoorMgP
import Derived.Test.YtmgkmpbblhkacaaGreatDoorBlk
import Derived.Test.YtmgkmpbblhkacaaGreatDoorMgF
namespace Go.Proofs.YtmgkmpbblhkacaaGreatDoor
open Go.RowKit
set_option linter.unusedSimpArgs false
set_option linter.unusedVariables false

def zero8 : List Nat := [0, 0, 0, 0, 0, 0, 0, 0]
def Ip6REnd (r : Option (List Nat)) (e : Ending) : Prop :=
  match r with
  | some L => e = .returned (.tuple #[agg8 L, .int .i64 0])
  | none => e = .returned (.tuple #[agg8 zero8, .int .i64 7])
theorem two_alloc {w : World} {A B : Obj} : ((w.alloc A).alloc B).heap[w.heap.size]? = some A ∧ ((w.alloc A).alloc B).heap[w.heap.size + 1]? = some B := by
  show ((w.heap.push A).push B)[w.heap.size]? = _ ∧ ((w.heap.push A).push B)[w.heap.size + 1]? = _
  constructor
  · rw [Array.getElem?_push_lt (by simp), Array.getElem_push_eq]
  · have := Array.getElem?_push_size (xs := w.heap.push A) (x := B)
    rw [Array.size_push] at this
    exact this
theorem cell_same {w w' : World} {g j : Nat} (h : w'.heap[g]? = w.heap[g]?) : w'.cell? ⟨g, j, none⟩ = w.cell? ⟨g, j, none⟩ := by
  unfold World.cell?
  rw [show w'.heap[(⟨g, j, none⟩ : Addr).block]? = w.heap[(⟨g, j, none⟩ : Addr).block]? from h]
theorem heap_set_other {w : World} {b k o : Nat} {v : Value} (h : k ≠ b) : (w.setCell ⟨b, o, none⟩ v).heap[k]? = w.heap[k]? := by
  simp only [World.setCell, Array.getElem?_modify]
  rw [if_neg (fun hh => h hh.symm)]
theorem list8 (L : List Nat) (h : L.length = 8) : ∃ a0 a1 a2 a3 a4 a5 a6 a7, L = [a0, a1, a2, a3, a4, a5, a6, a7] := by
  match L, h with
  | [a0, a1, a2, a3, a4, a5, a6, a7], _ => exact ⟨a0, a1, a2, a3, a4, a5, a6, a7, rfl⟩
theorem rowEnd_form {r : Option (List Nat)} {B : Nat} {w : World} {e : Ending} (hB : B ≤ w.heap.size) (h : RowEnd r B w e) : ∃ (od : Option Addr) (n c : Nat), e = .returned (.tuple #[.slice od n c, .bool r.isSome]) ∧ n = (r.getD []).length ∧ (0 < n → ∃ g, od = some ⟨g, 0, none⟩ ∧ B ≤ g ∧ g < w.heap.size ∧ n ≤ c ∧ ∀ (j x : Nat), (r.getD [])[j]? = some x → w.cell? ⟨g, j, none⟩ = some (.int .u16 (x : Int))) := by
  cases r with
  | none => exact ⟨none, 0, 0, h, rfl, fun h => absurd h (by decide)⟩
  | some L =>
    obtain ⟨k, c, he, ho⟩ := h
    refine ⟨some ⟨k, 0, none⟩, L.length, c, he, rfl, fun h0 => ?_⟩
    rcases OwnU.form ho with ⟨hv, _⟩ | ⟨g, c2, hv, h1, h2, h3, h4⟩
    · cases hv
    · injection hv with e1 e2 e3
      injection e1 with e1
      injection e1 with e1
      subst e1; subst e3
      exact ⟨k, rfl, h1, h3, h2, h4⟩
theorem behind_len (s : Bs) : (behindR s).length ≤ s.length + 1 ∧ ∀ p ∈ behindR s, p.length ≤ s.length := by
  unfold behindR
  split
  · exact ⟨split1_len_le 58 s, split1_mem_le 58 s⟩
  · rename_i a h
    split
    · have h1 := split1_len_le 58 (s.drop (a + 2))
      have h2 := split1_mem_le 58 (s.drop (a + 2))
      rw [List.length_drop] at h1 h2
      exact ⟨by omega, fun p hp => by have := h2 p hp; omega⟩
    · exact ⟨by simp, fun p hp => absurd hp (by simp)⟩
theorem ahead_len (s : Bs) : (aheadR s).length ≤ s.length + 1 ∧ ∀ p ∈ aheadR s, p.length ≤ s.length := by
  unfold aheadR
  split
  · exact ⟨by simp, fun p hp => absurd hp (by simp)⟩
  · rename_i a h
    split
    · exact ⟨by simp, fun p hp => absurd hp (by simp)⟩
    · have h1 := split1_len_le 58 (s.take a)
      have h2 := split1_mem_le 58 (s.take a)
      rw [List.length_take] at h1 h2
      exact ⟨by omega, fun p hp => by have := h2 p hp; omega⟩
/-- A row of texts, as the code holds it. -/
def SlS (w : World) (v : Value) (ps : List Bs) : Prop := ∃ g c : Nat, v = .slice (some ⟨g, 0, none⟩) ps.length c ∧ g < w.heap.size ∧ ps.length ≤ c ∧ ∀ (j : Nat) (p : Bs), ps[j]? = some p → w.cell? ⟨g, j, none⟩ = some (.string (strOf p))
theorem slS_own {w : World} {B g c : Nat} {ps : List Bs} (h : OwnS w B (.slice (some ⟨g, 0, none⟩) ps.length c) ps) : SlS w (.slice (some ⟨g, 0, none⟩) ps.length c) ps := by
  rcases OwnS.form h with ⟨hv, _⟩ | ⟨g', c', hv, h1, h2, h3, h4⟩
  · cases hv
  · injection hv with e1 e2 e3
    injection e1 with e1
    injection e1 with e1
    subst e1; subst e3
    exact ⟨g, c, rfl, h3, h2, h4⟩
theorem slS_below {w w' : World} {v : Value} {ps : List Bs} (h : SlS w v ps) (hb : Below w.heap.size w w') : SlS w' v ps := by
  obtain ⟨g, c, hv, hg, hc, h4⟩ := h
  have := hb.size
  exact ⟨g, c, hv, by omega, hc, fun j p hp => by rw [hb.cell (p := ⟨g, j, none⟩) hg]; exact h4 j p hp⟩
theorem slS_new (w : World) : SlS (w.alloc (.cells #[] 9)) (.slice (some ⟨w.heap.size, 0, none⟩) 0 0) [] := ⟨w.heap.size, 0, rfl, by simp, Nat.le_refl _, fun j p hp => by simp at hp⟩
set_option maxRecDepth 1000000 in
set_option maxHeartbeats 16000000 in
theorem refIPv6_any (s : ByteArray) (w : World) (hs : s.size ≤ 1000000) :
    Calls Tryz.prog 112 #[.string s] w fun e w' => Ip6REnd (ip6R s.data.toList) e ∧ Below w.heap.size w w' := by
  obtain ⟨l, hl⟩ : ∃ l, s.data.toList = l := ⟨_, rfl⟩
  have HL := Lib.hid hl
  have hlen : l.length = s.size := by rw [← hl, ← Lib.size_eq]
  have HLEN := Lib.hid hlen
  rw [hl]
  obtain ⟨X, hX⟩ : ∃ X, aheadR l = X := ⟨_, rfl⟩
  obtain ⟨Y, hY⟩ : ∃ Y, behindR l = Y := ⟨_, rfl⟩
  have hXb := ahead_len l
  have hYb := behind_len l
  rw [hX, hlen] at hXb
  rw [hY, hlen] at hYb
  have HXB := Lib.hid hXb
  have HYB := Lib.hid hYb
  have hR : ip6R l = ip6X (dcolP l).isSome X Y := by unfold ip6R; rw [hX, hY]
  have HR := Lib.hid hR
  have HX := Lib.hid hX
  have HY := Lib.hid hY
  have hok := ip6R_ok l
  have HOK := Lib.hid hok
  clear hl hlen hXb hYb hR hX hY hok
  go_enter Tryz.func112, Tryz.ntmps112
  go_wp2
  obtain ⟨w1, hw1⟩ : ∃ w1, (w.alloc (.cells #[.int .u16 0, .int .u16 0, .int .u16 0, .int .u16 0, .int .u16 0, .int .u16 0, .int .u16 0, .int .u16 0] 115)).alloc (.cells #[.int .u16 0, .int .u16 0, .int .u16 0, .int .u16 0, .int .u16 0, .int .u16 0, .int .u16 0, .int .u16 0] 115) = w1 := ⟨_, rfl⟩
  have hR1 : w1.heap[w.heap.size]? = some (.cells #[.int .u16 0, .int .u16 0, .int .u16 0, .int .u16 0, .int .u16 0, .int .u16 0, .int .u16 0, .int .u16 0] 115 (0, 0)) := by rw [← hw1]; exact two_alloc.1
  have hA1 : w1.heap[w.heap.size + 1]? = some (.cells #[.int .u16 0, .int .u16 0, .int .u16 0, .int .u16 0, .int .u16 0, .int .u16 0, .int .u16 0, .int .u16 0] 115 (0, 0)) := by rw [← hw1]; exact two_alloc.2
  have hbw1 : Below w.heap.size w w1 := by rw [← hw1]; exact ((Below.refl _ w).alloc (Nat.le_refl _) _).alloc (by show w.heap.size ≤ (w.heap.push _).size; rw [Array.size_push]; omega) _
  rw [hw1]
  clear hw1
  have HB1 := Lib.hid hbw1
  have HR1 := Lib.hid hR1
  have HA1 := Lib.hid hA1
  have hs1 : w.heap.size + 1 < w1.heap.size := (Array.getElem?_eq_some_iff.1 hA1).1
  clear hbw1 hR1 hA1
  obtain ⟨R, hRb⟩ : ∃ R, w.heap.size = R := ⟨_, rfl⟩
  rw [hRb] at hs1 HB1 HR1 HA1 ⊢
  go_loop [5, 6] (fun va vi => ∃ (a i : Int), va = .int .i64 a ∧ vi = .int .i64 i ∧ -2 ≤ i ∧ i + 2 ≤ (s.size : Int) ∧ -1 ≤ a ∧ a ≤ (s.size : Int) ∧ Hid (a = atR l (i + 1).toNat)) (fun _ vi => (intOf vi + 3).toNat)
  case atStart =>
    refine ⟨-1, (s.size : Int) - 2, rfl, rfl, by omega, by omega, by omega, by omega, Lib.hid ?_⟩
    rw [atR_end l _ (by rw [HLEN.out]; omega)]
  case round =>
    obtain ⟨a, i, rfl, rfl, h2, hi, ha1, ha2, HI⟩ := hrel
    by_cases hge : 0 ≤ i
    · obtain ⟨j, rfl⟩ : ∃ j : Nat, i = j := ⟨i.toNat, by omega⟩
      have hj0 : j < s.size := by omega
      have hj1 : j + 1 < s.size := by omega
      have g0 := getI s j hj0
      have g1 := getI s (j + 1) hj1
      rw [HL.out] at g0 g1
      have hst := atR_step l j _ _ g0 g1
      have hia : a = atR l (j + 1) := by rw [HI.out, show ((j : Int) + 1).toNat = j + 1 by omega]
      have t1 : ((j : Int) + 1).toNat = j + 1 := by omega
      have m1 : IntKind.i64.wrap ((j : Int) + 1) = (j : Int) + 1 := IntWalk.i64_in _ (by omega)
      have m2 : IntKind.i64.wrap ((j : Int) - 1) = (j : Int) - 1 := IntWalk.i64_in _ (by omega)
      have l1 : (j : Int) + 1 < (s.size : Int) := by omega
      have l0 : (j : Int) < (s.size : Int) := by omega
      by_cases hx : s[j] = 58
      · have b0 := u8_eqL s[j] 58 58 rfl hx
        by_cases hy : s[j + 1] = 58
        · have b1 := u8_eqL s[j + 1] 58 58 rfl hy
          have hN : Hid ((j : Int) = atR l ((j : Int) - 1 + 1).toNat) := Lib.hid (by rw [show ((j : Int) - 1 + 1).toNat = j by omega, hst, if_pos ⟨hx, hy⟩])
          clear hx hy g0 g1 hst hia HI
          go_wp2
          exact ⟨⟨j, (j : Int) - 1, rfl, rfl, by omega, by omega, by omega, by omega, hN⟩, by simp [intOf]; omega⟩
        · have b1 := u8_neL s[j + 1] 58 58 rfl hy
          have hN : Hid (a = atR l ((j : Int) - 1 + 1).toNat) := Lib.hid (by rw [show ((j : Int) - 1 + 1).toNat = j by omega, hst, if_neg (fun h => hy h.2)]; exact hia)
          clear hx hy g0 g1 hst hia HI
          go_wp2
          exact ⟨⟨a, (j : Int) - 1, rfl, rfl, by omega, by omega, by omega, by omega, hN⟩, by simp [intOf]; omega⟩
      · have b0 := u8_neL s[j] 58 58 rfl hx
        have hN : Hid (a = atR l ((j : Int) - 1 + 1).toNat) := Lib.hid (by rw [show ((j : Int) - 1 + 1).toNat = j by omega, hst, if_neg (fun h => hx h.1)]; exact hia)
        clear hx g0 g1 hst hia HI
        go_wp2
        exact ⟨⟨a, (j : Int) - 1, rfl, rfl, by omega, by omega, by omega, by omega, hN⟩, by simp [intOf]; omega⟩
    · have hat : a = atR l 0 := by rw [HI.out, show (i + 1).toNat = 0 by omega]
      have HAT := Lib.hid hat
      clear HI hat
      have hE : Hid (SlS ((w1.alloc (.cells #[] 9)).alloc (.cells #[] 9)) (.slice (some ⟨w1.heap.size, 0, none⟩) 0 0) [] ∧ SlS ((w1.alloc (.cells #[] 9)).alloc (.cells #[] 9)) (.slice (some ⟨w1.heap.size + 1, 0, none⟩) 0 0) [] ∧ Below w1.heap.size w1 ((w1.alloc (.cells #[] 9)).alloc (.cells #[] 9))) := by
        refine Lib.hid ⟨slS_below (slS_new w1) ((Below.refl _ _).alloc (Nat.le_refl _) _), ?_, ((Below.refl _ w1).alloc (Nat.le_refl _) _).alloc (by show w1.heap.size ≤ (w1.heap.push _).size; rw [Array.size_push]; omega) _⟩
        have h := slS_new (w1.alloc (.cells #[] 9))
        rw [show (w1.alloc (.cells #[] 9)).heap.size = w1.heap.size + 1 by show (w1.heap.push _).size = _; rw [Array.size_push]] at h
        exact h
      go_upto_if 39 with fail
      obtain ⟨w2, hw2⟩ : ∃ w2, (w1.alloc (.cells #[] 9)).alloc (.cells #[] 9) = w2 := ⟨_, rfl⟩
      rw [hw2] at hE ⊢
      clear hw2
      go_cut [7, 8] (fun vx vy wc => Hid (SlS wc vx X ∧ SlS wc vy Y ∧ Below w1.heap.size w1 wc))
      case first =>
        have hd : (dcolP l = none ∧ a = -1) ∨ ∃ k : Nat, dcolP l = some k ∧ a = (k : Int) ∧ k + 2 ≤ l.length := by
          have h := HAT.out
          unfold atR at h
          rw [List.drop_zero] at h
          cases hh : dcolP l with
          | none => rw [hh] at h; exact Or.inl ⟨rfl, h⟩
          | some k => rw [hh] at h; exact Or.inr ⟨k, rfl, by rw [h]; simp, dcol_le l k hh⟩
        have HD := Lib.hid hd
        clear hd HAT
        rcases HD.out with ⟨h0, rfl⟩ | ⟨k, h0, rfl, hk2⟩
        · have e1 : X = [] := by rw [← HX.out]; unfold aheadR; rw [h0]
          have e2 : Y = split1 58 l := by rw [← HY.out]; unfold behindR; rw [h0]
          have CS := Lib.hid (fun w' => refSplit_any s 58 w' hs)
          rw [HL.out] at CS
          have E1 := Lib.hid e1
          have E2 := Lib.hid e2
          clear h0 e1 e2 HD
          go_wp2_with fail
          refine (CS.out _).mono ?_
          rintro e w3 ⟨g, c, rfl, hown, hb3⟩
          have hE3 : Hid (SlS w3 (.slice (some ⟨w1.heap.size, 0, none⟩) 0 0) X ∧ SlS w3 (.slice (some ⟨g, 0, none⟩) (split1 58 l).length c) Y ∧ Below w1.heap.size w1 w3) := by
            obtain ⟨q1, q2, q3⟩ := hE.out
            refine Lib.hid ⟨?_, ?_, q3.trans (hb3.mono q3.size)⟩
            · rw [E1.out]; exact slS_below q1 hb3
            · rw [E2.out]; exact slS_own hown
          clear hown
          go_wp2
          go_meet
          exact hE3
        · have hkz : k + 2 ≤ s.size := by rw [← HLEN.out]; exact hk2
          have m1 : IntKind.i64.wrap ((k : Int) + 2) = (k : Int) + 2 := IntWalk.i64_in _ (by omega)
          have t1 : ((k : Int) + 2).toNat = k + 2 := by omega
          have eX : X = if k = 0 then [] else split1 58 (l.take k) := by rw [← HX.out]; unfold aheadR; rw [h0]
          have eY : Y = if k + 2 < s.size then split1 58 (l.drop (k + 2)) else [] := by rw [← HY.out]; unfold behindR; rw [h0, HLEN.out]
          have EX := Lib.hid eX
          have EY := Lib.hid eY
          have z1 : (s.extract 0 k).size ≤ 1000000 := by rw [ByteArray.size_extract]; omega
          have z2 : (s.extract (k + 2) s.size).size ≤ 1000000 := by rw [ByteArray.size_extract]; omega
          have l1 : (s.extract 0 k).data.toList = l.take k := by rw [extract_strOf, strOf_data, HL.out]; simp
          have l2 : (s.extract (k + 2) s.size).data.toList = l.drop (k + 2) := by rw [extract_from, strOf_data, HL.out]
          have C1 := fun w' => refSplit_any (s.extract 0 k) 58 w' z1
          have C2 := fun w' => refSplit_any (s.extract (k + 2) s.size) 58 w' z2
          rw [l1] at C1
          rw [l2] at C2
          have HC1 := Lib.hid C1
          have HC2 := Lib.hid C2
          clear h0 hk2 HD eX eY z1 z2 l1 l2 C1 C2
          have n0 : ¬ ((k : Int) < 0) := by omega
          by_cases k0 : k = 0
          · have e1 : Hid (X = []) := by rw [EX.out, if_pos k0]; exact Lib.hid rfl
            subst k0
            by_cases h2s : 0 + 2 < s.size
            · have e2 : Hid (Y = split1 58 (l.drop (0 + 2))) := by rw [EY.out, if_pos h2s]; exact Lib.hid rfl
              have i2 : (2 : Int) < (s.size : Int) := by omega
              have i2' : (((0 : Nat) : Int) + 2) ≤ (s.size : Int) := by omega
              clear EX EY HC1 h2s
              go_wp2_with fail
              refine (HC2.out _).mono ?_
              rintro e w3 ⟨g, c, rfl, hown, hb3⟩
              have hE3 : Hid (SlS w3 (.slice (some ⟨w1.heap.size, 0, none⟩) 0 0) X ∧ SlS w3 (.slice (some ⟨g, 0, none⟩) (split1 58 (l.drop (0 + 2))).length c) Y ∧ Below w1.heap.size w1 w3) := by
                obtain ⟨q1, q2, q3⟩ := hE.out
                refine Lib.hid ⟨?_, ?_, q3.trans (hb3.mono q3.size)⟩
                · rw [e1.out]; exact slS_below q1 hb3
                · rw [e2.out]; exact slS_own hown
              clear hown
              go_wp2
              go_meet
              exact hE3
            · have e2 : Hid (Y = []) := by rw [EY.out, if_neg h2s]; exact Lib.hid rfl
              have i2 : ¬ (2 : Int) < (s.size : Int) := by omega
              clear EX EY HC1 HC2 h2s
              have hE3 : Hid (SlS w2 (.slice (some ⟨w1.heap.size, 0, none⟩) 0 0) X ∧ SlS w2 (.slice (some ⟨w1.heap.size + 1, 0, none⟩) 0 0) Y ∧ Below w1.heap.size w1 w2) := by
                rw [e1.out, e2.out]; exact hE
              go_wp2
              go_meet
              exact hE3
          · have e1 : Hid (X = split1 58 (l.take k)) := by rw [EX.out, if_neg k0]; exact Lib.hid rfl
            have p0 : (0 : Int) < (k : Int) := by omega
            by_cases h2s : k + 2 < s.size
            · have e2 : Hid (Y = split1 58 (l.drop (k + 2))) := by rw [EY.out, if_pos h2s]; exact Lib.hid rfl
              have i2 : (k : Int) + 2 < (s.size : Int) := by omega
              have i3 : (k : Int) ≤ (s.size : Int) := by omega
              clear EX EY h2s
              go_wp2_with fail
              refine (HC1.out _).mono ?_
              rintro e w3 ⟨g, c, rfl, hown, hb3⟩
              go_wp2_with fail
              refine (HC2.out _).mono ?_
              rintro e w4 ⟨g4, c4, rfl, hown4, hb4⟩
              have hE3 : Hid (SlS w4 (.slice (some ⟨g, 0, none⟩) (split1 58 (l.take k)).length c) X ∧ SlS w4 (.slice (some ⟨g4, 0, none⟩) (split1 58 (l.drop (k + 2))).length c4) Y ∧ Below w1.heap.size w1 w4) := by
                obtain ⟨q1, q2, q3⟩ := hE.out
                have q4 := q3.trans (hb3.mono q3.size)
                refine Lib.hid ⟨?_, ?_, q4.trans (hb4.mono q4.size)⟩
                · rw [e1.out]; exact slS_below (slS_own hown) hb4
                · rw [e2.out]; exact slS_own hown4
              clear hown hown4
              go_wp2
              go_meet
              exact hE3
            · have e2 : Hid (Y = []) := by rw [EY.out, if_neg h2s]; exact Lib.hid rfl
              have i2 : ¬ (k : Int) + 2 < (s.size : Int) := by omega
              have i3 : (k : Int) ≤ (s.size : Int) := by omega
              clear EX EY HC2 h2s
              go_wp2_with fail
              refine (HC1.out _).mono ?_
              rintro e w3 ⟨g, c, rfl, hown, hb3⟩
              have hE3 : Hid (SlS w3 (.slice (some ⟨g, 0, none⟩) (split1 58 (l.take k)).length c) X ∧ SlS w3 (.slice (some ⟨w1.heap.size + 1, 0, none⟩) 0 0) Y ∧ Below w1.heap.size w1 w3) := by
                obtain ⟨q1, q2, q3⟩ := hE.out
                refine Lib.hid ⟨?_, ?_, q3.trans (hb3.mono q3.size)⟩
                · rw [e1.out]; exact slS_own hown
                · rw [e2.out]; exact slS_below q2 hb3
              clear hown
              go_wp2
              go_meet
              exact hE3
      case rest =>
        have HCUT := Lib.hid hcut.out
        clear hcut hE
        obtain ⟨hsx, hsy, hbw⟩ := HCUT.out
        obtain ⟨gx, cx, rfl, hgx, hcx, hxc⟩ := hsx
        obtain ⟨gy, cy, rfl, hgy, hcy, hyc⟩ := hsy
        have HA2 := Lib.hid (block_past HA1.out hbw)
        have HR2 := Lib.hid (block_past HR1.out hbw)
        have hb2 : Below R w wc := HB1.out.trans (hbw.mono (by omega))
        have hRs : R + 1 < wc.heap.size := Nat.lt_of_lt_of_le hs1 hbw.size
        have CX := Lib.hid (refRow_any X false gx cx wc hgx hxc (by have := HXB.out.1; omega) hcx (fun p hp => by have := HXB.out.2 p hp; omega))
        have CY := Lib.hid (fun w' (hb : Below wc.heap.size wc w') => refRow_any Y true gy cy w' (Nat.lt_of_lt_of_le hgy hb.size) (fun j p hp => by rw [hb.cell (p := ⟨gy, j, none⟩) hgy]; exact hyc j p hp) (by have := HYB.out.1; omega) hcy (fun p hp => by have := HYB.out.2 p hp; omega))
        have hP := fun r (h : rowR false X = some r) => (rowR_lt false X r h).2
        have hQ := fun r (h : rowR true Y = some r) => (rowR_lt true Y r h).2
        obtain ⟨rp, hrp⟩ : ∃ rp, rowR false X = rp := ⟨_, rfl⟩
        obtain ⟨rq, hrq⟩ : ∃ rq, rowR true Y = rq := ⟨_, rfl⟩
        rw [hrp] at CX hP
        rw [hrq] at CY hQ
        have hsh : (dcolP l).isSome = decide (0 ≤ a) := by
          have h := HAT.out
          unfold atR at h
          rw [List.drop_zero] at h
          cases hh : dcolP l with
          | none => rw [hh] at h; rw [h]; rfl
          | some k => rw [hh] at h; rw [h]; simp
        have hRR : ip6R l = ip6F (decide (0 ≤ a)) rp rq := by
          rw [HR.out, hsh]; unfold ip6X; rw [hrp, hrq]
        have hPl : (rp.getD []).length ≤ s.size + 2 := by
          cases rp with
          | none => exact Nat.zero_le _
          | some p => have h1 := hP p rfl; have h2 := HXB.out.1; show p.length ≤ _; omega
        have hQl : (rq.getD []).length ≤ s.size + 2 := by
          cases rq with
          | none => exact Nat.zero_le _
          | some q => have h1 := hQ q rfl; have h2 := HYB.out.1; show q.length ≤ _; omega
        have HRR := Lib.hid hRR
        obtain ⟨nx, hnx⟩ : ∃ nx, X.length = nx := ⟨_, rfl⟩
        obtain ⟨ny, hny⟩ : ∃ ny, Y.length = ny := ⟨_, rfl⟩
        rw [hnx] at CX ⊢
        rw [hny] at CY ⊢
        clear hRR hsh hrp hrq hP hQ HCUT hxc hyc hcx hcy hbw hnx hny
        go_wp2_with fail
        refine CX.out.mono ?_
        rintro e w3 ⟨he, hb3⟩
        obtain ⟨op, np, cp, rfl, hnp, hpc⟩ := rowEnd_form hb3.size he
        have HNP := Lib.hid hnp
        have HPC := Lib.hid hpc
        have hnpb : np ≤ 1000002 := by omega
        clear hnp hpc he
        go_wp2_with fail
        refine (CY.out _ hb3).mono ?_
        rintro e w4 ⟨he2, hb4⟩
        obtain ⟨oq, nq, cq, rfl, hnq, hqc⟩ := rowEnd_form hb4.size he2
        have hb34 := hb3.trans (hb4.mono hb3.size)
        have HA4 := Lib.hid (block_past HA2.out hb34)
        have HR4 := Lib.hid (block_past HR2.out hb34)
        have hb4w : Below R w w4 := hb2.trans (hb34.mono (by omega))
        have hPC : Hid (0 < np → ∃ g, op = some ⟨g, 0, none⟩ ∧ R + 1 < g ∧ np ≤ cp ∧ ∀ (j x : Nat), (rp.getD [])[j]? = some x → w4.cell? ⟨g, j, none⟩ = some (.int .u16 (x : Int))) := by
          refine Lib.hid (fun h => ?_)
          obtain ⟨g, h1, h2, h3, h4, h5⟩ := HPC.out h
          exact ⟨g, h1, by omega, h4, fun j x hx => by rw [hb4.cell (p := ⟨g, j, none⟩) h3]; exact h5 j x hx⟩
        have hQC : Hid (0 < nq → ∃ g, oq = some ⟨g, 0, none⟩ ∧ R + 1 < g ∧ nq ≤ cq ∧ ∀ (j x : Nat), (rq.getD [])[j]? = some x → w4.cell? ⟨g, j, none⟩ = some (.int .u16 (x : Int))) := by
          refine Lib.hid (fun h => ?_)
          obtain ⟨g, h1, h2, h3, h4, h5⟩ := hqc h
          exact ⟨g, h1, by have := hb3.size; omega, h4, h5⟩
        have HNQ := Lib.hid hnq
        have hnqb : nq ≤ 1000002 := by omega
        have msum : IntKind.i64.wrap ((np : Int) + (nq : Int)) = (np : Int) + (nq : Int) := IntWalk.i64_in _ (by omega)
        have hRw : R + 1 < w4.heap.size := Nat.lt_of_lt_of_le hRs hb34.size
        clear HPC hqc hnq he2 hb3 hb4 hb34 HA1 HR1 HA2 HR2 CX CY hPl hQl hgx hgy hRs hb2
        have hund : undef = Value.tuple #[] := rfl
        by_cases hgood : rp.isSome = true ∧ rq.isSome = true ∧ ((a < 0 ∧ np + nq = 8) ∨ (0 ≤ a ∧ np + nq ≤ 7))
        · obtain ⟨g1, g2, g3⟩ := hgood
          obtain ⟨p, rfl⟩ := Option.isSome_iff_exists.1 g1
          obtain ⟨q, rfl⟩ := Option.isSome_iff_exists.1 g2
          have hp : np = p.length := HNP.out
          have hq : nq = q.length := HNQ.out
          have h8 : np + nq ≤ 8 := by omega
          have hFL : ip6R l = some (p ++ List.replicate (8 - np - nq) 0 ++ q) := by
            rw [HRR.out]
            unfold ip6F
            simp only
            rw [if_neg, hp, hq]
            rintro (⟨h1, h2⟩ | ⟨h1, h2⟩)
            · rw [decide_eq_false_iff_not] at h1; omega
            · rw [decide_eq_true_iff] at h1; omega
          have HFL := Lib.hid hFL
          have HP := Lib.hid hp.symm
          have HQ := Lib.hid hq.symm
          have hPC2 : Hid (0 < np → ∃ g, op = some ⟨g, 0, none⟩ ∧ R + 1 < g ∧ np ≤ cp ∧ ∀ (j x : Nat), p[j]? = some x → w4.cell? ⟨g, j, none⟩ = some (.int .u16 (x : Int))) := hPC
          have hQC2 : Hid (0 < nq → ∃ g, oq = some ⟨g, 0, none⟩ ∧ R + 1 < g ∧ nq ≤ cq ∧ ∀ (j x : Nat), q[j]? = some x → w4.cell? ⟨g, j, none⟩ = some (.int .u16 (x : Int))) := hQC
          clear hp hq hFL g1 g2 hPC hQC HRR HNP HNQ
          have hways : (a < 0 ∧ ¬ 0 ≤ a ∧ ((np : Int) + (nq : Int) == 8) = true ∧ ((np : Int) + (nq : Int) != 8) = false) ∨ (¬ a < 0 ∧ 0 ≤ a ∧ ¬ (7 : Int) < (np : Int) + (nq : Int)) := by
            rcases g3 with ⟨h1, h2⟩ | ⟨h1, h2⟩
            · have hb : ((np : Int) + (nq : Int) == 8) = true := beq_iff_eq.2 (by omega)
              exact Or.inl ⟨h1, by omega, hb, by unfold bne; rw [hb]; rfl⟩
            · exact Or.inr ⟨by omega, h1, by omega⟩
          clear g3
          rcases hways with ⟨k1, k2, k3, k4⟩ | ⟨k1, k2, k3⟩
          all_goals
            go_wp2_with fail
            go_loopw [14] (fun vi wr => ∃ i : Nat, vi = .int .i64 i ∧ i ≤ np ∧ Below R w wr ∧ Hid (wr.heap[R + 1]? = some (.cells (cells8 (p.take i ++ List.replicate (8 - i) 0)) 115 (0, 0)) ∧ ∀ k, k ≠ R + 1 → wr.heap[k]? = w4.heap[k]?)) (fun vi _ => np - (intOf vi).toNat)
            case atStart => exact ⟨0, rfl, by omega, hb4w, Lib.hid ⟨HA4.out, fun k _ => rfl⟩⟩
            case round =>
              obtain ⟨i, rfl, hi, hbr, HI⟩ := hrel
              obtain ⟨wo, rfl⟩ : ∃ wo : World, wo = wr := ⟨_, rfl⟩
              by_cases hlt : i < np
              · obtain ⟨g, rfl, hg1, hg2, hg3⟩ := hPC2.out (by omega)
                obtain ⟨x, hx⟩ : ∃ x, p[i]? = some x := ⟨_, List.getElem?_eq_getElem (by rw [HP.out]; exact hlt)⟩
                obtain ⟨q1, q2⟩ := HI.out
                have hc1 : wo.cell? ⟨g, i, none⟩ = some (.int .u16 (x : Int)) := (cell_same (q2 g (by omega))).trans (hg3 i x hx)
                have hfz := free8 q1 i
                have hlen8 : (p.take i ++ List.replicate (8 - i) 0).length = 8 := by rw [List.length_append, List.length_take, List.length_replicate, HP.out]; omega
                obtain ⟨y, hc2⟩ : ∃ y, wo.cell? ⟨R + 1, i, none⟩ = some y := ⟨_, (cell_of_heap q1 i).trans (cells8_at _ i (by rw [hlen8]; omega))⟩
                have hN : Hid ((wo.setCell ⟨R + 1, i, none⟩ (.int .u16 (x : Int))).heap[R + 1]? = some (.cells (cells8 (p.take (i + 1) ++ List.replicate (8 - (i + 1)) 0)) 115 (0, 0)) ∧ ∀ k, k ≠ R + 1 → (wo.setCell ⟨R + 1, i, none⟩ (.int .u16 (x : Int))).heap[k]? = w4.heap[k]?) := by
                  refine Lib.hid ⟨?_, fun k hk => (heap_set_other hk).trans (q2 k hk)⟩
                  rw [heap_set8 q1 i x (by rw [hlen8]; omega), show 8 - i = (8 - (i + 1)) + 1 by omega, List.replicate_succ, set_next p _ i x 0 hx]
                have l1 : (i : Int) < (np : Int) := by omega
                have l2 : (i : Int) < 8 := by omega
                clear hx q1 q2 hg3 hlen8 HI
                go_wp2
                exact ⟨⟨i + 1, rfl, by omega, hbr.setCell (Nat.le_succ R) _, hN⟩, by simp [intOf]; omega⟩
              · obtain rfl : i = np := by omega
                have hA : Hid (wo.heap[R + 1]? = some (.cells (cells8 (p ++ List.replicate (8 - i - nq) 0 ++ (q.take 0 ++ List.replicate (nq - 0) 0))) 115 (0, 0)) ∧ ∀ k, k ≠ R + 1 → wo.heap[k]? = w4.heap[k]?) := by
                  obtain ⟨q1, q2⟩ := HI.out
                  refine Lib.hid ⟨?_, q2⟩
                  rw [q1, List.take_of_length_le (by rw [HP.out]; exact Nat.le_refl _), List.append_assoc]
                  congr 4
                  rw [List.take_zero, List.nil_append, List.replicate_append_replicate]
                  congr 1
                  omega
                clear HI hPC2 hlt
                go_wp2_with fail
                go_loopw [15] (fun vj wr => ∃ j : Nat, vj = .int .i64 j ∧ j ≤ nq ∧ Below R w wr ∧ Hid (wr.heap[R + 1]? = some (.cells (cells8 (p ++ List.replicate (8 - i - nq) 0 ++ (q.take j ++ List.replicate (nq - j) 0))) 115 (0, 0)) ∧ ∀ k, k ≠ R + 1 → wr.heap[k]? = w4.heap[k]?)) (fun vj _ => nq - (intOf vj).toNat)
                case atStart => exact ⟨0, rfl, by omega, hbr, hA⟩
                case round =>
                  obtain ⟨j, rfl, hj, hbr2, HJ⟩ := hrel
                  obtain ⟨wo2, rfl⟩ : ∃ wo2 : World, wo2 = wr := ⟨_, rfl⟩
                  by_cases hlt2 : j < nq
                  · obtain ⟨g, rfl, hg1, hg2, hg3⟩ := hQC2.out (by omega)
                    obtain ⟨x, hx⟩ : ∃ x, q[j]? = some x := ⟨_, List.getElem?_eq_getElem (by rw [HQ.out]; exact hlt2)⟩
                    obtain ⟨q1, q2⟩ := HJ.out
                    obtain ⟨o, ho⟩ : ∃ o, 8 - nq + j = o := ⟨_, rfl⟩
                    have hc1 : wo2.cell? ⟨g, j, none⟩ = some (.int .u16 (x : Int)) := (cell_same (q2 g (by omega))).trans (hg3 j x hx)
                    have hfz := free8 q1 o
                    have hlp : (p ++ List.replicate (8 - i - nq) 0).length = i + (8 - i - nq) := by rw [List.length_append, List.length_replicate, HP.out]
                    have hlen8 : (p ++ List.replicate (8 - i - nq) 0 ++ (q.take j ++ List.replicate (nq - j) 0)).length = 8 := by rw [List.length_append, hlp, List.length_append, List.length_take, List.length_replicate, HQ.out]; omega
                    obtain ⟨y, hc2⟩ : ∃ y, wo2.cell? ⟨R + 1, o, none⟩ = some y := ⟨_, (cell_of_heap q1 o).trans (cells8_at _ o (by rw [hlen8]; omega))⟩
                    have hN : Hid ((wo2.setCell ⟨R + 1, o, none⟩ (.int .u16 (x : Int))).heap[R + 1]? = some (.cells (cells8 (p ++ List.replicate (8 - i - nq) 0 ++ (q.take (j + 1) ++ List.replicate (nq - (j + 1)) 0))) 115 (0, 0)) ∧ ∀ k, k ≠ R + 1 → (wo2.setCell ⟨R + 1, o, none⟩ (.int .u16 (x : Int))).heap[k]? = w4.heap[k]?) := by
                      refine Lib.hid ⟨?_, fun k hk => (heap_set_other hk).trans (q2 k hk)⟩
                      rw [heap_set8 q1 o x (by rw [hlen8]; omega), List.set_append, if_neg (by rw [hlp]; omega), hlp, show o - (i + (8 - i - nq)) = j by omega, show nq - j = (nq - (j + 1)) + 1 by omega, List.replicate_succ, set_next q _ j x 0 hx]
                    have l1 : (j : Int) < (nq : Int) := by omega
                    have l2 : (o : Int) < 8 := by omega
                    have m1 : IntKind.i64.wrap (8 - (nq : Int)) = 8 - (nq : Int) := IntWalk.i64_in _ (by omega)
                    have m2 : IntKind.i64.wrap (8 - (nq : Int) + (j : Int)) = (o : Int) := by rw [IntWalk.i64_in _ (by omega)]; omega
                    clear hx q1 q2 hg3 hlen8 hlp HJ ho hA
                    go_wp2
                    exact ⟨⟨j + 1, rfl, by omega, hbr2.setCell (Nat.le_succ R) _, hN⟩, by simp [intOf]; omega⟩
                  · obtain rfl : j = nq := by omega
                    obtain ⟨q1, q2⟩ := HJ.out
                    rw [List.take_of_length_le (by rw [HQ.out]; exact Nat.le_refl _), Nat.sub_self, List.replicate_zero, List.append_nil] at q1
                    have hR5 := (q2 R (by omega)).trans HR4.out
                    have hok8 := (HOK.out _ HFL.out).1
                    have hfl := HFL.out
                    obtain ⟨a0, a1, a2, a3, a4, a5, a6, a7, hL8⟩ := list8 _ hok8
                    rw [hL8] at q1 hfl
                    have HFIN := Lib.hid hfl
                    have hq1 : wo2.heap[R + 1]? = some (.cells #[.int .u16 (a0 : Int), .int .u16 (a1 : Int), .int .u16 (a2 : Int), .int .u16 (a3 : Int), .int .u16 (a4 : Int), .int .u16 (a5 : Int), .int .u16 (a6 : Int), .int .u16 (a7 : Int)] 115 (0, 0)) := q1
                    clear HJ q1 q2 hL8 hfl hok8 hlt2 hA hQC2 HFL
                    have y0 := cell_of_heap hq1 0
                    have y1 := cell_of_heap hq1 1
                    have y2 := cell_of_heap hq1 2
                    have y3 := cell_of_heap hq1 3
                    have y4 := cell_of_heap hq1 4
                    have y5 := cell_of_heap hq1 5
                    have y6 := cell_of_heap hq1 6
                    have y7 := cell_of_heap hq1 7
                    have z0 := cell_of_heap hR5 0
                    have z1 := cell_of_heap hR5 1
                    have z2 := cell_of_heap hR5 2
                    have z3 := cell_of_heap hR5 3
                    have z4 := cell_of_heap hR5 4
                    have z5 := cell_of_heap hR5 5
                    have z6 := cell_of_heap hR5 6
                    have z7 := cell_of_heap hR5 7
                    simp only [eight0, eight1, eight2, eight3, eight4, eight5, eight6, eight7] at y0 y1 y2 y3 y4 y5 y6 y7 z0 z1 z2 z3 z4 z5 z6 z7
                    have f0 := frozen_of_heap hR5 0
                    have f1 := frozen_of_heap hR5 1
                    have f2 := frozen_of_heap hR5 2
                    have f3 := frozen_of_heap hR5 3
                    have f4 := frozen_of_heap hR5 4
                    have f5 := frozen_of_heap hR5 5
                    have f6 := frozen_of_heap hR5 6
                    have f7 := frozen_of_heap hR5 7
                    clear hq1 hR5
                    go_wp2
                    exact bodyPost_ret (v := .tuple #[agg8 [a0, a1, a2, a3, a4, a5, a6, a7], .int .i64 0]) (by simp [results, Tryz.results112, go_sem, z0, z1, z2, z3, z4, z5, z6, z7, agg8, cells8]) rfl ⟨by rw [HFIN.out]; exact rfl, by first | (rw [hRb]; exact (((((((hbr2.setCell (Nat.le_refl _) _).setCell (Nat.le_refl _) _).setCell (Nat.le_refl _) _).setCell (Nat.le_refl _) _).setCell (Nat.le_refl _) _).setCell (Nat.le_refl _) _).setCell (Nat.le_refl _) _).setCell (Nat.le_refl _) _) | exact (((((((hbr2.setCell (Nat.le_refl _) _).setCell (Nat.le_refl _) _).setCell (Nat.le_refl _) _).setCell (Nat.le_refl _) _).setCell (Nat.le_refl _) _).setCell (Nat.le_refl _) _).setCell (Nat.le_refl _) _).setCell (Nat.le_refl _) _⟩
        · have hr : Hid (ip6R l = none) := by
            rw [HRR.out]
            unfold ip6F
            cases rp with
            | none => exact Lib.hid rfl
            | some p =>
              cases rq with
              | none => exact Lib.hid rfl
              | some q =>
                simp only
                refine Lib.hid (if_pos ?_)
                have hp : np = p.length := HNP.out
                have hq : nq = q.length := HNQ.out
                by_cases ha : a < 0
                · refine Or.inl ⟨decide_eq_false (by omega), fun h => hgood ⟨rfl, rfl, Or.inl ⟨ha, by omega⟩⟩⟩
                · refine Or.inr ⟨decide_eq_true (by omega), Classical.byContradiction fun h => hgood ⟨rfl, rfl, Or.inr ⟨by omega, by omega⟩⟩⟩
          have hways : rp.isSome = false ∨ (rp.isSome = true ∧ rq.isSome = false) ∨ (rp.isSome = true ∧ rq.isSome = true ∧ a < 0 ∧ ((np : Int) + (nq : Int) == 8) = false ∧ ((np : Int) + (nq : Int) != 8) = true) ∨ (rp.isSome = true ∧ rq.isSome = true ∧ ¬ a < 0 ∧ 0 ≤ a ∧ (7 : Int) < (np : Int) + (nq : Int)) := by
            cases h1 : rp.isSome with
            | false => exact Or.inl rfl
            | true =>
              cases h2 : rq.isSome with
              | false => exact Or.inr (Or.inl ⟨rfl, rfl⟩)
              | true =>
                by_cases ha : a < 0
                · have hb : ((np : Int) + (nq : Int) == 8) = false := beq_eq_false_iff_ne.2 (fun h => hgood ⟨h1, h2, Or.inl ⟨ha, by omega⟩⟩)
                  exact Or.inr (Or.inr (Or.inl ⟨rfl, rfl, ha, hb, by unfold bne; rw [hb]; rfl⟩))
                · exact Or.inr (Or.inr (Or.inr ⟨rfl, rfl, ha, by omega, Classical.byContradiction fun h => hgood ⟨h1, h2, Or.inr ⟨by omega, by omega⟩⟩⟩))
          obtain ⟨b1, hb1⟩ : ∃ b1, rp.isSome = b1 := ⟨_, rfl⟩
          obtain ⟨b2, hb2⟩ : ∃ b2, rq.isSome = b2 := ⟨_, rfl⟩
          rw [hb1, hb2] at hways ⊢
          have hR5 := HR4.out
          have hA5 := HA4.out
          clear hb1 hb2 hgood HRR HNP HNQ hPC hQC
          have y0 := cell_of_heap hA5 0
          have y1 := cell_of_heap hA5 1
          have y2 := cell_of_heap hA5 2
          have y3 := cell_of_heap hA5 3
          have y4 := cell_of_heap hA5 4
          have y5 := cell_of_heap hA5 5
          have y6 := cell_of_heap hA5 6
          have y7 := cell_of_heap hA5 7
          have z0 := cell_of_heap hR5 0
          have z1 := cell_of_heap hR5 1
          have z2 := cell_of_heap hR5 2
          have z3 := cell_of_heap hR5 3
          have z4 := cell_of_heap hR5 4
          have z5 := cell_of_heap hR5 5
          have z6 := cell_of_heap hR5 6
          have z7 := cell_of_heap hR5 7
          simp only [eight0, eight1, eight2, eight3, eight4, eight5, eight6, eight7] at y0 y1 y2 y3 y4 y5 y6 y7 z0 z1 z2 z3 z4 z5 z6 z7
          have f0 := frozen_of_heap hR5 0
          have f1 := frozen_of_heap hR5 1
          have f2 := frozen_of_heap hR5 2
          have f3 := frozen_of_heap hR5 3
          have f4 := frozen_of_heap hR5 4
          have f5 := frozen_of_heap hR5 5
          have f6 := frozen_of_heap hR5 6
          have f7 := frozen_of_heap hR5 7
          clear hA5 hR5
          rcases hways with rfl | ⟨rfl, rfl⟩ | ⟨rfl, rfl, k1, k2, k3⟩ | ⟨rfl, rfl, k1, k2, k3⟩
          all_goals
            go_wp2
            exact bodyPost_ret (v := .tuple #[agg8 zero8, .int .i64 7]) (by simp [results, Tryz.results112, go_sem, z0, z1, z2, z3, z4, z5, z6, z7, agg8, cells8, zero8]) rfl ⟨by rw [hr.out]; exact rfl, by first | (rw [hRb]; exact (((((((hb4w.setCell (Nat.le_refl _) _).setCell (Nat.le_refl _) _).setCell (Nat.le_refl _) _).setCell (Nat.le_refl _) _).setCell (Nat.le_refl _) _).setCell (Nat.le_refl _) _).setCell (Nat.le_refl _) _).setCell (Nat.le_refl _) _) | exact (((((((hb4w.setCell (Nat.le_refl _) _).setCell (Nat.le_refl _) _).setCell (Nat.le_refl _) _).setCell (Nat.le_refl _) _).setCell (Nat.le_refl _) _).setCell (Nat.le_refl _) _).setCell (Nat.le_refl _) _).setCell (Nat.le_refl _) _⟩
end Go.Proofs.YtmgkmpbblhkacaaGreatDoor
namespace Go.Proofs.YtmgkmpbblhkacaaGreatDoor
open Go.RowKit
set_option linter.unusedSimpArgs false
set_option linter.unusedVariables false

theorem u8_c58 (c : UInt8) (h : c ≠ 58) : ((c.toNat : Int) == 58) = false := by
  refine beq_eq_false_iff_ne.2 (fun hh => h (UInt8.toNat_inj.1 ?_))
  show c.toNat = 58
  omega
theorem hexd_lo (n : Nat) (h : n < 10) : (48 : Int) + (n : Int) = ((hexd n).toNat : Int) := by
  have : ∀ n : Fin 10, (48 : Int) + (n.val : Int) = ((hexd n.val).toNat : Int) := by decide
  exact this ⟨n, h⟩
theorem hexd_hi (n : Nat) (h0 : 10 ≤ n) (h : n < 16) : (97 : Int) + (n : Int) - 10 = ((hexd n).toNat : Int) := by
  have : ∀ n : Fin 16, 10 ≤ n.val → (97 : Int) + (n.val : Int) - 10 = ((hexd n.val).toNat : Int) := by decide
  exact this ⟨n, h⟩ h0
theorem hexDigits_size (n : Nat) : ∀ k, n < 16 ^ k → 1 ≤ k → (hexDigits n).length ≤ k := by
  induction n using Nat.strongRecOn with
  | _ n ih =>
    intro k hk h1
    by_cases h : n < 16
    · rw [hexDigits_lt _ h]; exact h1
    · rw [hexDigits_ge _ h, List.length_append]
      obtain ⟨j, rfl⟩ : ∃ j, k = j + 1 := ⟨k - 1, by omega⟩
      have h2 : n / 16 < 16 ^ j := by rw [Nat.pow_succ] at hk; omega
      have h3 : 1 ≤ j := by
        refine Classical.byContradiction fun h => ?_
        obtain rfl : j = 0 := by omega
        omega
      have := ih (n / 16) (by omega) j h2 h3
      simp
      omega
set_option maxRecDepth 1000000 in
set_option maxHeartbeats 8000000 in
theorem hexa_any (n : Nat) : ∀ (w : World), n < 1000000000000 →
    Calls Tryz.prog 144 #[.int .i64 n] w fun e w' => e = .returned (.string (strOf (hexDigits n))) ∧ Below w.heap.size w w' := by
  induction n using Nat.strongRecOn with
  | _ n ih =>
    intro w hn
    have IH := Lib.hid ih
    clear ih
    by_cases h16 : n < 16
    · have HD := Lib.hid (hexDigits_lt n h16)
      by_cases h10 : n < 10
      · have hst := byte_str (hexd n) (48 + (n : Int)) (hexd_lo n h10) w w.heap.size rfl
        go_enter Tryz.func144, Tryz.ntmps144
        go_wp2_with fail
        go_ret
        exact ⟨by rw [HD.out]; exact rfl, (Below.refl _ w).alloc (Nat.le_refl _) _⟩
      · have hst := byte_str (hexd n) (97 + (n : Int) - 10) (hexd_hi n (by omega) h16) w w.heap.size rfl
        go_enter Tryz.func144, Tryz.ntmps144
        go_wp2_with fail
        go_ret
        exact ⟨by rw [HD.out]; exact rfl, (Below.refl _ w).alloc (Nat.le_refl _) _⟩
    · have HD := Lib.hid (hexDigits_ge n h16)
      have C1 := Lib.hid (fun w' : World => show Calls Tryz.prog 144 #[.int .i64 ((n : Int) / 16)] w' fun e w'' => e = .returned (.string (strOf (hexDigits (n / 16)))) ∧ Below w'.heap.size w' w'' from IH.out (n / 16) (by omega) w' (by omega))
      have C2 := Lib.hid (fun w' : World => show Calls Tryz.prog 144 #[.int .i64 ((n : Int) % 16)] w' fun e w'' => e = .returned (.string (strOf (hexDigits (n % 16)))) ∧ Below w'.heap.size w' w'' from IH.out (n % 16) (by omega) w' (by omega))
      have z1 : (hexDigits (n / 16)).length ≤ 10 := hexDigits_size _ 10 (by omega) (by omega)
      have z2 : (hexDigits (n % 16)).length ≤ 10 := hexDigits_size _ 10 (by omega) (by omega)
      have hz1 : (strOf (hexDigits (n / 16))).size ≤ 10 := by rw [strOf_size]; exact z1
      have hz2 : (strOf (hexDigits (n % 16))).size ≤ 10 := by rw [strOf_size]; exact z2
      have e2 : hexDigits (n % 16) = [hexd (n % 16)] := hexDigits_lt _ (by omega)
      have hfin : Hid (strOf (hexDigits (n / 16)) ++ strOf (hexDigits (n % 16)) = strOf (hexDigits n)) := Lib.hid (by rw [HD.out, e2, strOf_append])
      obtain ⟨s1, hs1⟩ : ∃ s, strOf (hexDigits (n / 16)) = s := ⟨_, rfl⟩
      obtain ⟨s2, hs2⟩ : ∃ s, strOf (hexDigits (n % 16)) = s := ⟨_, rfl⟩
      rw [hs1] at C1 hz1 hfin
      rw [hs2] at C2 hz2 hfin
      clear e2 hs1 hs2 IH z1 z2
      go_enter Tryz.func144, Tryz.ntmps144
      go_wp2_with fail
      refine (C1.out _).mono ?_
      rintro e w1 ⟨rfl, hb1⟩
      go_wp2_with fail
      refine (C2.out _).mono ?_
      rintro e w2 ⟨rfl, hb2⟩
      go_wp2_with fail
      go_ret
      exact ⟨by rw [← hfin.out]; exact rfl, hb1.trans (hb2.mono hb1.size)⟩

theorem shB_len (L : List Nat) (hx : ∀ x ∈ L, x < 65536) (f t i : Nat) (hl : L.length = 8) (hi : i ≤ 8) : (shB L f t i).length ≤ 100 := by
  have h1 : ∀ M : List Nat, M.length ≤ 8 → (∀ x ∈ M, x < 65536) → (joinB 58 (M.map hexDigits)).length ≤ 8 * 5 := by
    intro M hm hM
    refine Nat.le_trans (joinB_len 58 (M.map hexDigits) 4 ?_) ?_
    · intro p hp
      obtain ⟨x, hx, rfl⟩ := List.mem_map.1 hp
      exact hexDigits_len x (hM x hx)
    · rw [List.length_map]; omega
  unfold shB
  split
  · exact Nat.le_trans (h1 _ (by rw [List.length_take]; omega) (fun x h => hx x (List.mem_of_mem_take h))) (by omega)
  · have a := h1 (L.take f) (by rw [List.length_take]; omega) (fun x h => hx x (List.mem_of_mem_take h))
    have b := h1 ((L.drop t).take (i - t)) (by rw [List.length_take, List.length_drop]; omega) (fun x h => hx x (List.mem_of_mem_drop (List.mem_of_mem_take h)))
    simp only [List.length_append, List.length_cons, List.length_nil]
    omega
/-- The last byte of a text, as a string's. -/
theorem last_at (q : ByteArray) (u : Bs) (y : UInt8) (h : q = strOf (u ++ [y])) (hk : q.size - 1 < q.size) : q[q.size - 1] = y := by
  rw [← data_get q _ hk]
  subst h
  simp [strOf_data, strOf_size]

set_option maxRecDepth 1000000 in
set_option maxHeartbeats 8000000 in
theorem refText6_any (L : List Nat) (w : World) (hl : L.length = 8) (hx : ∀ x ∈ L, x < 65536) :
    Calls Tryz.prog 113 #[agg8 L] w fun e w' => e = .returned (.string (strOf (text6 L))) ∧ Below w.heap.size w w' := by
  have HT6 := Lib.hid (shB_text6 L hl)
  have HX := Lib.hid hx
  clear hx
  match L, hl with
  | [a0, a1, a2, a3, a4, a5, a6, a7], hl =>
  have HC := Lib.hid (agg8_cells [a0, a1, a2, a3, a4, a5, a6, a7] w w.heap.size rfl)
  have hbw : Below w.heap.size w (w.alloc (.cells (cells8 [a0, a1, a2, a3, a4, a5, a6, a7]) 115)) := (Below.refl _ w).alloc (Nat.le_refl _) _
  have hblk0 : w.heap.size < (w.alloc (.cells (cells8 [a0, a1, a2, a3, a4, a5, a6, a7]) 115)).heap.size := by simp
  have HBW := Lib.hid hbw
  have HBL := Lib.hid hblk0
  clear hbw hblk0
  unfold agg8 cells8 at *
  simp only [List.map_cons, List.map_nil] at HC HBW HBL ⊢
  have HFIN : ∀ T : Bs, T = text6 [a0, a1, a2, a3, a4, a5, a6, a7] → True := fun _ _ => trivial
  clear HFIN
  go_enter Tryz.func113, Tryz.ntmps113
  go_wp2
  generalize w.alloc _ = w1 at HC HBW HBL ⊢
  have hl8 : ([a0, a1, a2, a3, a4, a5, a6, a7] : List Nat).length = 8 := hl
  have HL := Lib.hid hl8
  have HR := Lib.hid (rowTo_le [a0, a1, a2, a3, a4, a5, a6, a7])
  have HSP := Lib.hid (rowTo_spec [a0, a1, a2, a3, a4, a5, a6, a7])
  clear hl hl8
  obtain ⟨l, hle⟩ : ∃ l, [a0, a1, a2, a3, a4, a5, a6, a7] = l := ⟨_, rfl⟩
  rw [hle] at HC HL HR HX HT6 HSP
  have HLE := Lib.hid hle
  clear hle
  have hBW := HBW.out.size
  go_loopw [3, 4, 5] (fun vf vs vi wr => ∃ (i sz : Nat) (fr : Int), vf = .int .i64 fr ∧ vs = .int .i64 sz ∧ vi = .int .i64 i ∧ i ≤ 8 ∧ 1 ≤ sz ∧ sz ≤ 8 ∧ -1 ≤ fr ∧ fr ≤ 8 ∧ w1 = wr ∧ Hid (sz = max 1 ((rowTo l i).2 - (rowTo l i).1) ∧ fr = if (rowTo l i).2 = 0 then -1 else ((rowTo l i).1 : Int))) (fun _ _ vi _ => 8 - (intOf vi).toNat)
  case atStart => exact ⟨0, 1, -1, rfl, rfl, rfl, by omega, by omega, by omega, by omega, by omega, rfl, Lib.hid ⟨rfl, rfl⟩⟩
  case round =>
    obtain ⟨i, sz, fr, rfl, rfl, rfl, hi, hs1, hs8, hf1, hf8, rfl, HI⟩ := hrel
    by_cases hlt : i < 8
    · go_wp2
      go_loopw [6] (fun vk wr => ∃ k : Nat, vk = .int .i64 k ∧ i + k ≤ 8 ∧ w1 = wr ∧ Hid (zrun (l.drop i) = k + zrun (l.drop (i + k)))) (fun vk _ => 8 - (intOf vk).toNat)
      case atStart => exact ⟨0, rfl, by omega, rfl, Lib.hid (by simp)⟩
      case round =>
        obtain ⟨k, rfl, hk8, rfl, hz⟩ := hrel
        have fin : ∀ n : Nat, zrun (l.drop i) = n → i + n ≤ 8 → (sz < n → Hid (n = max 1 ((rowTo l (i + 1)).2 - (rowTo l (i + 1)).1) ∧ (i : Int) = if (rowTo l (i + 1)).2 = 0 then -1 else ((rowTo l (i + 1)).1 : Int))) ∧ (n ≤ sz → Hid (sz = max 1 ((rowTo l (i + 1)).2 - (rowTo l (i + 1)).1) ∧ fr = if (rowTo l (i + 1)).2 = 0 then -1 else ((rowTo l (i + 1)).1 : Int))) := by
          intro n hn hle
          obtain ⟨h1, h2⟩ := HI.out
          constructor
          · intro hlt2
            rw [rowTo, hn, if_pos (by omega)]
            exact Lib.hid ⟨by simp only; omega, by simp only; rw [if_neg (by omega)]⟩
          · intro hlt2
            rw [rowTo, hn, if_neg (by omega)]
            exact Lib.hid ⟨h1, h2⟩
        have FIN := Lib.hid fin
        clear fin
        by_cases hk : i + k < 8
        · have hki : (i : Int) + (k : Int) < 8 := by omega
          obtain ⟨x, hx⟩ : ∃ x, l[i + k]? = some x := ⟨_, List.getElem?_eq_getElem (by rw [HL.out]; exact hk)⟩
          have hcell := HC.out (i + k) x hx
          have HXX := Lib.hid hx
          clear hx
          by_cases hx0 : x = 0
          · subst hx0
            have hz2 : Hid (zrun (l.drop i) = (k + 1) + zrun (l.drop (i + (k + 1)))) := by
              rw [hz.out, zrun_zero l (i + k) HXX.out]; exact Lib.hid (by rw [Nat.add_assoc i k 1]; omega)
            clear hz FIN
            go_wp2
            refine ⟨⟨k + 1, rfl, by omega, ?_, hz2⟩, by simp [intOf]; omega⟩
            trivial
          · have hxb : ((x : Int) == 0) = false := beq_eq_false_iff_ne.2 (by omega)
            have hz2 : zrun (l.drop i) = k := by
              rw [hz.out, zrun_stop l (i + k) (fun y hy => by rw [HXX.out] at hy; cases hy; exact hx0)]; rfl
            obtain ⟨g1, g2⟩ := FIN.out k hz2 hk8
            have G1 := Lib.hid g1
            have G2 := Lib.hid g2
            clear hz hx0 hz2 FIN g1 g2
            go_wp2
            · have h2 : sz < k := by assumption
              exact ⟨⟨i + 1, k, i, rfl, rfl, rfl, by omega, by omega, by omega, by omega, by omega, trivial, G1.out (by omega)⟩, by simp [intOf]; omega⟩
            · have h2 : k ≤ sz := by first | assumption | exact Nat.not_lt.1 (by assumption)
              exact ⟨⟨i + 1, sz, fr, rfl, rfl, rfl, by omega, by omega, by omega, by omega, by omega, trivial, G2.out (by omega)⟩, by simp [intOf]; omega⟩
        · have hk8' : i + k = 8 := by omega
          have hki : ¬ ((i : Int) + (k : Int) < 8) := by omega
          have hz2 : zrun (l.drop i) = k := by
            rw [hz.out, List.drop_of_length_le (by rw [HL.out]; omega)]; rfl
          obtain ⟨g1, g2⟩ := FIN.out k hz2 hk8
          have G1 := Lib.hid g1
          have G2 := Lib.hid g2
          clear hz hz2 FIN g1 g2 hk8'
          go_wp2
          · have h2 : sz < k := by assumption
            exact ⟨⟨i + 1, k, i, rfl, rfl, rfl, by omega, by omega, by omega, by omega, by omega, trivial, G1.out (by omega)⟩, by simp [intOf]; omega⟩
          · have h2 : k ≤ sz := by first | assumption | exact Nat.not_lt.1 (by assumption)
            exact ⟨⟨i + 1, sz, fr, rfl, rfl, rfl, by omega, by omega, by omega, by omega, by omega, trivial, G2.out (by omega)⟩, by simp [intOf]; omega⟩
    · obtain rfl : i = 8 := by omega
      have h8 : ((8 : Nat) : Int) = 8 := rfl
      rw [h8]
      clear h8
      have hdef : ∃ (f t : Nat), f < t ∧ t ≤ 9 ∧ shB l f t 8 = text6 l ∧ ((fr = -1 ∧ f = 8) ∨ (fr = (f : Int) ∧ f + sz = t ∧ f < 8 ∧ t ≤ 8)) := by
        obtain ⟨h1, h2⟩ := HI.out
        have h3 := HT6.out
        by_cases h0 : (rowTo l 8).2 = 0
        · rw [if_pos h0] at h2 h3
          exact ⟨8, 9, by omega, by omega, h3, Or.inl ⟨h2, rfl⟩⟩
        · rw [if_neg h0] at h2 h3
          rcases HSP.out 8 (by rw [HL.out]; exact Nat.le_refl _) with h | ⟨h4, h5, _⟩
          · rw [h] at h0; exact absurd rfl h0
          · rw [HL.out] at h5
            exact ⟨_, _, by omega, by omega, h3, Or.inr ⟨h2, by omega, by omega, h5⟩⟩
      obtain ⟨f, t, hft, ht9, hend, hcase⟩ := hdef
      have HE := Lib.hid hend
      have HCASE := Lib.hid hcase
      clear hend hcase HI HT6 HSP HR
      go_wp2
      go_loopw [7, 8] (fun vs vi wr => ∃ (i : Nat) (q : ByteArray), vs = .string q ∧ vi = .int .i64 i ∧ i ≤ 8 ∧ (i ≤ f ∨ t ≤ i) ∧ q.size ≤ 100 ∧ Below w1.heap.size w1 wr ∧ Hid (q = strOf (shB l f t i))) (fun _ vi _ => 8 - (intOf vi).toNat)
      case atStart => exact ⟨0, ⟨#[]⟩, rfl, rfl, by omega, by omega, by decide, Below.refl _ _, Lib.hid (by rw [shB_zero]; rfl)⟩
      case round =>
        obtain ⟨i, q, rfl, rfl, hi, hdj, hqz, hbr, HI⟩ := hrel
        obtain ⟨wo, rfl⟩ : ∃ wo : World, wo = wr := ⟨_, rfl⟩
        have hB := hbr.size
        by_cases hlt : i < 8
        · obtain ⟨x, hx⟩ : ∃ x, l[i]? = some x := ⟨_, List.getElem?_eq_getElem (by rw [HL.out]; exact hlt)⟩
          have hx16 : x < 65536 := HX.out x (List.mem_of_getElem? hx)
          have hcell : wo.cell? ⟨w.heap.size, i, none⟩ = some (.int .u16 (x : Int)) := by
            rw [hbr.cell (p := ⟨w.heap.size, i, none⟩) HBL.out]; exact HC.out i x hx
          by_cases hif : i = f
          · subst hif
            have hc : fr = (i : Int) ∧ i + sz = t ∧ t ≤ 8 := by
              rcases HCASE.out with ⟨_, h⟩ | ⟨h1, h2, h3, h4⟩
              · omega
              · exact ⟨h1, h2, h4⟩
            obtain ⟨rfl, hsz, ht8⟩ := hc
            have HN : Hid (q ++ (⟨#[58, 58]⟩ : ByteArray) = strOf (shB l i t (i + sz))) := by
              have e : ∀ d, i + 1 + d ≤ t → shB l i t (i + 1 + d) = shB l i t i ++ [58, 58] := by
                intro d
                induction d with
                | zero => intro _; exact shB_at l i t hft
                | succ d ih => intro hd; rw [← ih (by omega)]; exact shB_in l i t (i + 1 + d) (by omega) (by omega)
              have := e (sz - 1) (by omega)
              rw [show i + 1 + (sz - 1) = i + sz by omega] at this
              rw [this, strOf_append, ← HI.out]
              exact Lib.hid rfl
            have hz2 := shB_len l HX.out i t (i + sz) HL.out (by omega)
            have hqz2 : (q ++ (⟨#[58, 58]⟩ : ByteArray)).size ≤ 100 := by rw [HN.out, strOf_size]; exact hz2
            clear hcell hx HCASE hz2
            go_wp2
            refine ⟨⟨i + sz, _, rfl, ?_, by omega, Or.inr (by omega), hqz2, hbr, HN⟩, ?_⟩
            · congr 1
            · simp [intOf]; omega
          · have hne : (((i : Int)) == fr) = false := by
              refine beq_eq_false_iff_ne.2 ?_
              rcases HCASE.out with ⟨h, _⟩ | ⟨h, _, _, _⟩ <;> omega
            have C1 := Lib.hid (fun w' : World => hexa_any x w' (by omega))
            have hxl := hexDigits_len x hx16
            have hlen := shB_len l HX.out f t (i + 1) HL.out (by omega)
            by_cases hfirst : (i < f ∧ i = 0) ∨ i = t
            · obtain ⟨h1, h2⟩ := shB_first l f t i x hx hft hfirst
              have HN : Hid (q ++ strOf (hexDigits x) = strOf (shB l f t (i + 1))) := by rw [h1, strOf_append, ← HI.out]; exact Lib.hid rfl
              have hqz2 : (q ++ strOf (hexDigits x)).size ≤ 100 := by rw [HN.out, strOf_size]; exact hlen
              have HH := Lib.hid h2
              have hbound : i + 1 ≤ f ∨ t ≤ i + 1 := by omega
              obtain ⟨d, hd⟩ : ∃ d, strOf (hexDigits x) = d := ⟨_, rfl⟩
              have hdz : d.size ≤ 4 := by rw [← hd, strOf_size]; exact hxl
              rw [hd] at C1 HN hqz2
              rcases HH.out with h3 | ⟨u, h3⟩
              · have hemp : q.toList.isEmpty = true := by rw [HI.out, h3, strOf_isEmpty]; rfl
                clear h1 h2 h3 HH hx hlen hxl HI HCASE hfirst hd
                go_wp2_with (first | (go_at_call 144; refine (C1.out _).mono ?_; rintro e w4 ⟨rfl, hb4⟩))
                refine ⟨⟨i + 1, _, rfl, rfl, by omega, hbound, hqz2, hbr.trans (hb4.mono hB), HN⟩, by simp [intOf]; omega⟩
              · have hsz0 : 0 < q.size := by rw [HI.out, strOf_size, h3]; simp
                have hlast : ((q[q.size - 1].toNat : Int) == 58) = true := by rw [last_at q u 58 (by rw [HI.out, h3]) (by omega)]; rfl
                have hemp : q.toList.isEmpty = false := by rw [HI.out, strOf_isEmpty, h3]; simp
                clear h1 h2 h3 HH hx hlen hxl HI HCASE hfirst hd
                go_wp2_with (first | (go_at_call 144; refine (C1.out _).mono ?_; rintro e w4 ⟨rfl, hb4⟩))
                refine ⟨⟨i + 1, _, rfl, rfl, by omega, hbound, hqz2, hbr.trans (hb4.mono hB), HN⟩, by simp [intOf]; omega⟩
            · obtain ⟨h1, u, y, h2, hy⟩ := shB_next l f t i x hx hft (by omega)
              have HN : Hid (q ++ (⟨#[58]⟩ : ByteArray) ++ strOf (hexDigits x) = strOf (shB l f t (i + 1))) := by
                rw [h1, HI.out, show (⟨#[58]⟩ : ByteArray) = strOf [58] from rfl, ← strOf_append, ← strOf_append, List.append_assoc]; exact Lib.hid rfl
              have hqz2 : (q ++ (⟨#[58]⟩ : ByteArray) ++ strOf (hexDigits x)).size ≤ 100 := by rw [HN.out, strOf_size]; exact hlen
              have hbound : i + 1 ≤ f ∨ t ≤ i + 1 := by omega
              obtain ⟨d, hd⟩ : ∃ d, strOf (hexDigits x) = d := ⟨_, rfl⟩
              have hdz : d.size ≤ 4 := by rw [← hd, strOf_size]; exact hxl
              rw [hd] at C1 HN hqz2
              have hsz0 : 0 < q.size := by rw [HI.out, strOf_size, h2]; simp
              have hlast : ((q[q.size - 1].toNat : Int) == 58) = false := by rw [last_at q u y (by rw [HI.out, h2]) (by omega)]; exact u8_c58 y hy
              have hemp : q.toList.isEmpty = false := by rw [HI.out, strOf_isEmpty, h2]; simp
              clear h1 h2 hy hx hlen hxl HI HCASE hfirst hd
              go_wp2_with (first | (go_at_call 144; refine (C1.out _).mono ?_; rintro e w4 ⟨rfl, hb4⟩))
              refine ⟨⟨i + 1, _, rfl, rfl, by omega, hbound, hqz2, hbr.trans (hb4.mono hB), HN⟩, by simp [intOf]; omega⟩
        · obtain rfl : i = 8 := by omega
          have hq : Hid (strOf (text6 l) = q) := by rw [HI.out, HE.out]; exact Lib.hid rfl
          clear HI HE
          go_wp2
          go_ret
          exact ⟨by rw [HLE.out, hq.out]; exact rfl, HBW.out.trans (hbr.mono hBW)⟩
end Go.Proofs.YtmgkmpbblhkacaaGreatDoor
namespace Go.Proofs.YtmgkmpbblhkacaaGreatDoor
open Go.RowKit
set_option linter.unusedSimpArgs false
set_option linter.unusedVariables false

/-- transeptref07.Parse. -/
def parseR (s : Bs) : Option Bs :=
  if s.headD 0 = 91 then (if s.getLastD 0 = 93 then (ip6R ((s.drop 1).dropLast)).map (fun a => 91 :: (text6 a ++ [93])) else none)
  else parseNR s
theorem last_get (s : ByteArray) (h : s.size - 1 < s.size) : s.data.toList.getLastD 0 = s[s.size - 1] := by
  have h1 := getI s (s.size - 1) h
  rw [List.getLastD_eq_getLast?, List.getLast?_eq_getElem?, ← Lib.size_eq, h1]
  rfl
theorem text6_short (L : List Nat) (hl : L.length = 8) (hx : ∀ x ∈ L, x < 65536) : (text6 L).length ≤ 100 := by
  rw [← shB_text6 L hl]
  split
  · exact shB_len L hx _ _ _ hl (by omega)
  · exact shB_len L hx _ _ _ hl (by omega)
set_option maxRecDepth 1000000 in
set_option maxHeartbeats 4000000 in
theorem refParse_any (s : ByteArray) (w : World) (hs : s.size ≤ 1000000) :
    Calls Tryz.prog 83 #[.string s] w fun e w' => ParseREnd (parseR s.data.toList) e ∧ Below w.heap.size w w' := by
  by_cases hb : s.data.toList.headD 0 = 91
  · have hR : parseR s.data.toList = if s.data.toList.getLastD 0 = 93 then (ip6R ((s.data.toList.drop 1).dropLast)).map (fun a => 91 :: (text6 a ++ [93])) else none := by unfold parseR; rw [if_pos hb]
    have h0 : 0 < s.size := by
      rw [Lib.size_eq]
      refine List.length_pos_iff.2 (fun h => ?_)
      rw [h] at hb
      exact absurd hb (by decide)
    have hemp : s.toList.isEmpty = false := by rw [isEmpty_data]; exact beq_eq_false_iff_ne.2 (fun h => by rw [h] at hb; exact absurd hb (by decide))
    have h91 : s[0] = 91 := by rw [← head_get s h0]; exact hb
    have hb91 := u8_eqL s[0] 91 91 rfl h91
    have hk : s.size - 1 < s.size := by omega
    have hlast := last_get s hk
    have i1 : (0 : Int) ≤ (s.size : Int) - 1 := by omega
    have i2 : IntKind.i64.wrap ((s.size : Int) - 1) = (s.size : Int) - 1 := IntWalk.i64_in _ (by omega)
    have i3 : ((s.size : Int) - 1).toNat = s.size - 1 := by omega
    by_cases hl : s.data.toList.getLastD 0 = 93
    · have hb93 := u8_eqL s[s.size - 1] 93 93 rfl (by rw [← hlast]; exact hl)
      have hb93' : ((s[s.size - 1].toNat : Int) != 93) = false := by unfold bne; rw [hb93]; rfl
      have h2 : 1 ≤ s.size - 1 := by
        refine Classical.byContradiction fun h => ?_
        have e : s.size - 1 = 0 := by omega
        have h3 : s[s.size - 1] = s[0] := by congr 1
        rw [← hlast, hl, h91] at h3
        exact absurd h3 (by decide)
      have i4 : (1 : Int) ≤ (s.size : Int) - 1 := by omega
      obtain ⟨X, hX⟩ : ∃ X, s.extract 1 (s.size - 1) = X := ⟨_, rfl⟩
      have hXl : X.data.toList = (s.data.toList.drop 1).dropLast := by
        rw [← hX, extract_strOf, strOf_data, List.dropLast_eq_take, List.length_drop, ← Lib.size_eq, List.drop_take]
      have hXz : X.size ≤ 1000000 := by rw [← hX, ByteArray.size_extract]; omega
      have CI := fun w' => refIPv6_any X w' hXz
      rw [hXl] at CI
      rw [if_pos hl] at hR
      obtain ⟨r, hr⟩ : ∃ r, ip6R ((s.data.toList.drop 1).dropLast) = r := ⟨_, rfl⟩
      have hok := fun L (h : r = some L) => ip6R_ok _ L (hr.trans h)
      rw [hr] at CI hR
      have HR := Lib.hid hR
      have HC := Lib.hid CI
      have HOK := Lib.hid hok
      clear hR CI hok hr hXl hl hlast h91 hb h2 hb93
      cases r with
      | none =>
        have hr : Hid (parseR s.data.toList = none) := Lib.hid HR.out
        clear HR
        go_enter Tryz.func83, Tryz.ntmps83
        go_wp2_with fail
        refine (HC.out _).mono ?_
        rintro e w1 ⟨he, hb1⟩
        obtain rfl : e = .returned (.tuple #[.agg #[.int .u16 0, .int .u16 0, .int .u16 0, .int .u16 0, .int .u16 0, .int .u16 0, .int .u16 0, .int .u16 0], .int .i64 7]) := he
        go_wp2
        go_ret2
        exact ⟨by rw [hr.out]; exact rfl, hb1.alloc hb1.size _⟩
      | some L =>
        obtain ⟨hl8, hlt⟩ := HOK.out L rfl
        have hr : Hid (parseR s.data.toList = some (91 :: (text6 L ++ [93]))) := Lib.hid HR.out
        have hsz := text6_short L hl8 hlt
        obtain ⟨a0, a1, a2, a3, a4, a5, a6, a7, rfl⟩ := list8 L hl8
        obtain ⟨T, hT⟩ : ∃ T, strOf (text6 [a0, a1, a2, a3, a4, a5, a6, a7]) = T := ⟨_, rfl⟩
        have CT : ∀ w' : World, Calls Tryz.prog 113 #[.agg #[.int .u16 (a0 : Int), .int .u16 (a1 : Int), .int .u16 (a2 : Int), .int .u16 (a3 : Int), .int .u16 (a4 : Int), .int .u16 (a5 : Int), .int .u16 (a6 : Int), .int .u16 (a7 : Int)]] w' fun e w'' => e = .returned (.string T) ∧ Below w'.heap.size w' w'' := fun w' => by
          have := refText6_any [a0, a1, a2, a3, a4, a5, a6, a7] w' hl8 hlt
          rw [hT] at this
          exact this
        have HCT := Lib.hid CT
        have HT := Lib.hid hT
        have hTz : T.size ≤ 100 := by rw [← hT, strOf_size]; exact hsz
        have o1 : ¬ (9223372036854775807 < 1 + T.size) := by omega
        have o2 : ¬ (9223372036854775807 < 1 + T.size + 1) := by omega
        clear HR hT hl8 hlt HOK CT
        go_enter Tryz.func83, Tryz.ntmps83
        go_wp2_with fail
        refine (HC.out _).mono ?_
        rintro e w1 ⟨he, hb1⟩
        obtain rfl : e = .returned (.tuple #[.agg #[.int .u16 (a0 : Int), .int .u16 (a1 : Int), .int .u16 (a2 : Int), .int .u16 (a3 : Int), .int .u16 (a4 : Int), .int .u16 (a5 : Int), .int .u16 (a6 : Int), .int .u16 (a7 : Int)], .int .i64 0]) := he
        have hb1a : Below w.heap.size w (w1.alloc (.cells #[.int .u16 (a0 : Int), .int .u16 (a1 : Int), .int .u16 (a2 : Int), .int .u16 (a3 : Int), .int .u16 (a4 : Int), .int .u16 (a5 : Int), .int .u16 (a6 : Int), .int .u16 (a7 : Int)] 115)) := hb1.alloc hb1.size _
        go_wp2_with (first | (go_at_call 113; refine (HCT.out _).mono ?_; rintro e w2 ⟨rfl, hb2⟩))
        go_ret2
        refine ⟨?_, hb1a.trans (hb2.mono hb1a.size)⟩
        rw [hr.out]
        show _ = _
        rw [← HT.out]
        rw [show (91 :: (text6 [a0, a1, a2, a3, a4, a5, a6, a7] ++ [93]) : Bs) = [91] ++ text6 [a0, a1, a2, a3, a4, a5, a6, a7] ++ [93] by simp, strOf_append, strOf_append]
        rfl
    · have hb93 := u8_neL s[s.size - 1] 93 93 rfl (by rw [← hlast]; exact hl)
      have hb93' : ((s[s.size - 1].toNat : Int) != 93) = true := by unfold bne; rw [hb93]; rfl
      have hr : Hid (parseR s.data.toList = none) := Lib.hid (by rw [hR, if_neg hl])
      clear hR hl hlast h91 hb hb93
      go_enter Tryz.func83, Tryz.ntmps83
      go_wp2
      go_ret2
      exact ⟨by rw [hr.out]; exact rfl, Below.refl _ _⟩
  · have hR : parseR s.data.toList = parseNR s.data.toList := by unfold parseR; rw [if_neg hb]
    rw [hR]
    exact refParseN_any s w hs hb
theorem dec8_three (k : Nat) (h : k < 256) : (dec8 k).length ≤ 3 := by
  have : ∀ k : Fin 256, (dec8 k.val).length ≤ 3 := by decide +kernel
  exact this ⟨k, h⟩
theorem text4_short (n : Nat) : (text4 n).length ≤ 16 := by
  have := joinB_len 46 (parts4 n) 3 (fun p hp => by
    simp [parts4] at hp
    rcases hp with rfl | rfl | rfl | rfl <;> exact dec8_three _ (by omega))
  simpa [parts4, text4] using this
theorem parseR_len (s a : Bs) (h : parseR s = some a) : a.length ≤ s.length + 200 := by
  unfold parseR at h
  split at h
  · split at h
    · cases hr : ip6R ((s.drop 1).dropLast) with
      | none => rw [hr] at h; cases h
      | some L =>
        rw [hr] at h
        cases h
        obtain ⟨h1, h2⟩ := ip6R_ok _ L hr
        have := text6_short L h1 h2
        simp only [List.length_cons, List.length_append, List.length_nil]
        omega
    · cases h
  · unfold parseNR at h
    have hp := pdec_len s
    split at h
    · cases h
    · split at h
      · cases h
      · split at h
        · cases h
        · split at h
          · cases h
            have := text4_short (ip4R ((pdec s).map lowB)).1
            omega
          · cases h
            rw [List.length_map]; omega
end Go.Proofs.YtmgkmpbblhkacaaGreatDoor
