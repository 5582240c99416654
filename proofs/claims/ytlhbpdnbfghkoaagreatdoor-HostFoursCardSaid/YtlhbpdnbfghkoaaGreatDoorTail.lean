/- host.tail: the four numbers at the end of an IPv6. -/
import Derived.Test.YtlhbpdnbfghkoaaGreatDoorText6
import Derived.Test.YtlhbpdnbfghkoaaGreatDoorNum
import Derived.Test.YtlhbpdnbfghkoaaGreatDoorSplit
namespace Go.Proofs.YtlhbpdnbfghkoaaGreatDoor
open Go.RowKit
set_option linter.unusedSimpArgs false
set_option linter.unusedVariables false

def octet (p : Bs) : Option Nat :=
  match parseU 10 255 p with
  | none => none
  | some n => if onlyB p decimal = false ∨ (1 < p.length ∧ p.headD 0 = 48) then none else some n
def tf : Nat → Nat → Nat → List Bs → Option (Nat × Nat)
  | _, x, y, [] => some (x, y)
  | i, x, y, p :: r =>
    match octet p with
    | none => none
    | some n => if i < 2 then tf (i + 1) (x * 256 + n) y r else tf (i + 1) x (y * 256 + n) r
/-- host.tail. -/
def tailP (l : Bs) : Option (Nat × Nat) := if (split1 46 l).length = 4 then tf 0 0 0 (split1 46 l) else none

/-- What host.tail hands back. -/
def TailEnd (r : Option (Nat × Nat)) (e : Ending) : Prop :=
  match r with
  | some (x, y) => e = .returned (.tuple #[.agg #[.int .u16 (x : Int), .int .u16 (y : Int)], .bool true])
  | none => ∃ x y : Nat, e = .returned (.tuple #[.agg #[.int .u16 (x : Int), .int .u16 (y : Int)], .bool false])
theorem tailEnd_none (x y : Nat) : TailEnd none (.returned (.tuple #[.agg #[.int .u16 (x : Int), .int .u16 (y : Int)], .bool false])) := ⟨x, y, rfl⟩
theorem tailEnd_form {r : Option (Nat × Nat)} {e : Ending} (h : TailEnd r e) : ∃ (x y : Nat) (o : Bool), e = .returned (.tuple #[.agg #[.int .u16 (x : Int), .int .u16 (y : Int)], .bool o]) ∧ r = if o = true then some (x, y) else none := by
  match r, h with
  | some (x, y), h => exact ⟨x, y, true, h, rfl⟩
  | none, ⟨x, y, h⟩ => exact ⟨x, y, false, h, rfl⟩

theorem pu_le (b M : Nat) (l : Bs) : ∀ acc n, acc ≤ M → pu b M acc l = some n → n ≤ M := by
  induction l with
  | nil => intro acc n ha h; simp [pu] at h; omega
  | cons c r ih =>
    intro acc n ha h
    unfold pu at h
    split at h
    · rename_i hc; exact ih _ _ hc.2 h
    · cases h
theorem parseU_le (b M : Nat) (l : Bs) (n : Nat) (h : parseU b M l = some n) : n ≤ M := by
  unfold parseU at h
  split at h
  · cases h
  · exact pu_le _ _ _ _ _ (Nat.zero_le _) h
theorem octet_le (p : Bs) (n : Nat) (h : octet p = some n) : n ≤ 255 := by
  unfold octet at h
  split at h
  · cases h
  · rename_i m hm
    split at h
    · cases h
    · cases h; exact parseU_le _ _ _ _ hm
theorem or16 (x n : Nat) (hx : x < 256) (hn : n < 256) : bits .or .u16 ((x : Int) * 256) (n : Int) = ((x * 256 + n : Nat) : Int) := by
  have e : ((x : Int) * 256) = ((x * 256 : Nat) : Int) := by simp
  rw [e, u16_or_nat _ _ (by omega) (by omega)]
  congr 1
  have := Nat.shiftLeft_add_eq_or_of_lt (show n < 2 ^ 8 from hn) x
  rw [Nat.shiftLeft_eq] at this
  exact this.symm

theorem heap_below {w w' : World} {b : Nat} {o : Obj} (h : w.heap[b]? = some o) (hb : Below w.heap.size w w') : w'.heap[b]? = some o := by
  rw [hb.block b (Array.getElem?_eq_some_iff.1 h).1]; exact h
theorem two_at0 (x y : Value) : (#[x, y] : Array Value)[0]? = some x := rfl
theorem two_at1 (x y : Value) : (#[x, y] : Array Value)[1]? = some y := rfl
theorem Strs.setCell {w : World} {b : Nat} {ps : List Bs} (h : Strs w b ps) (r : Addr) (v : Value) (hr : r.block ≠ b) : Strs (w.setCell r v) b ps := by
  have e : (w.setCell r v).heap[b]? = w.heap[b]? := by
    simp only [World.setCell, Array.getElem?_modify]
    rw [if_neg hr]
  refine ⟨by have := h.lt; simpa [World.setCell] using this, fun j p hp => ?_⟩
  rw [← h.cell j p hp]
  unfold World.cell?
  rw [show (w.setCell r v).heap[(⟨b, j, none⟩ : Addr).block]? = w.heap[b]? from e]
/-- A row of two cells, both stored into: what it holds. -/
theorem two_cells {w : World} {b : Nat} {x y : Value} {T : TypeId} (h : w.heap[b]? = some (.cells #[x, y] T (0, 0))) (u v : Value) :
    ((w.setCell ⟨b, 0, none⟩ u).setCell ⟨b, 1, none⟩ v).cell? ⟨b, 0, none⟩ = some u ∧ ((w.setCell ⟨b, 0, none⟩ u).setCell ⟨b, 1, none⟩ v).cell? ⟨b, 1, none⟩ = some v := by
  have h2 := heap_setCell_at (heap_setCell_at h 0 u) 1 v
  exact ⟨by rw [cell_of_heap h2]; rfl, by rw [cell_of_heap h2]; rfl⟩

set_option maxRecDepth 1000000 in
set_option maxHeartbeats 8000000 in
theorem tail_any (s : ByteArray) (w : World) (hs : s.size ≤ 1000000) (hG : GL w) :
    Calls Tryz.prog 39 #[.string s] w fun e w' => TailEnd (tailP s.data.toList) e ∧ Below w.heap.size w w' := by
  have CS := Lib.hid (fun o => lib_Split1 s 46 (w.alloc o) hs (hG.alloc o))
  go_enter Tryz.func39, Tryz.ntmps39
  go_wp2_with fail
  refine (CS.out _).mono ?_
  rintro e w1 ⟨rfl, hst, hb1⟩
  have hb01 : Below w.heap.size w w1 := ((Below.refl _ w).alloc (Nat.le_refl _) _).trans (hb1.mono (by simp))
  have hh1 : w1.heap[w.heap.size]? = some (.cells #[.int .u16 0, .int .u16 0] 65 (0, 0)) := by
    rw [hb1.block _ (by simp)]; exact heap_alloc_new w _
  obtain ⟨ps, hps⟩ : ∃ ps, split1 46 s.data.toList = ps := ⟨_, rfl⟩
  have hmem := split1_mem_le 46 s.data.toList
  have htp : tailP s.data.toList = if ps.length = 4 then tf 0 0 0 ps else none := by unfold tailP; rw [hps]
  rw [hps] at hst hmem ⊢
  have hln : s.data.toList.length = s.size := (Lib.size_eq s).symm
  rw [hln] at hmem
  have hsz0 : w.heap.size < w1.heap.size := (Array.getElem?_eq_some_iff.1 hh1).1
  have hbk : w.heap.size ≠ (w.alloc (.cells #[.int .u16 0, .int .u16 0] 65 (0, 0))).heap.size := by simp
  generalize (w.alloc _).heap.size = b1 at hst hbk ⊢
  have HTP := Lib.hid htp
  have HMEM := Lib.hid hmem
  have HST := Lib.hid hst
  obtain ⟨n, hn⟩ : ∃ n, ps.length = n := ⟨_, rfl⟩
  rw [hn] at ⊢
  have HN := Lib.hid hn
  clear hps htp hmem CS hst hn hln hb1
  by_cases h4 : n = 4
  · subst h4
    have HTP2 : Hid (tailP s.data.toList = tf 0 0 0 ps) := by rw [HTP.out, if_pos HN.out]; exact Lib.hid rfl
    clear HTP
    go_wp2
    go_loopw [17] (fun vi wr => ∃ (k x y : Nat), vi = .int .i64 k ∧ k ≤ 4 ∧ wr.heap[w.heap.size]? = some (.cells #[.int .u16 (x : Int), .int .u16 (y : Int)] 65 (0, 0)) ∧ Below w.heap.size w wr ∧ x < 65536 ∧ y < 65536 ∧ Hid (tailP s.data.toList = tf k x y (ps.drop k) ∧ (k ≤ 1 → x < 256 ^ k) ∧ (k ≤ 2 → y = 0) ∧ (k = 3 → y < 256) ∧ Strs wr b1 ps)) (fun vi _ => 4 - (intOf vi).toNat)
    case atStart => exact ⟨0, 0, 0, rfl, by omega, hh1, hb01, by omega, by omega, Lib.hid ⟨HTP2.out, fun _ => by decide, fun _ => rfl, fun h => by omega, HST.out⟩⟩
    case round =>
      obtain ⟨k, x, y, rfl, hk, hh, hbw, hx, hy, HI⟩ := hrel
      obtain ⟨wo, rfl⟩ : ∃ wo : World, wo = wr := ⟨_, rfl⟩
      have HH := Lib.hid hh
      clear hh
      by_cases hlt : k < 4
      · have hip : k < ps.length := by rw [HN.out]; exact hlt
        obtain ⟨p, hp⟩ : ∃ p, ps[k] = p := ⟨_, rfl⟩
        have hc : wo.cell? ⟨b1, k, none⟩ = some (.string (strOf p)) := HI.out.2.2.2.2.cell k p (by rw [List.getElem?_eq_getElem hip, hp])
        have hpl : p.length ≤ s.size := HMEM.out _ (by rw [← hp]; exact List.getElem_mem hip)
        have hdrop : ps.drop k = p :: ps.drop (k + 1) := by rw [← hp]; exact List.drop_eq_getElem_cons hip
        have htf := HI.out.1
        rw [hdrop] at htf
        have hoct : octet p = none → Hid (tailP s.data.toList = none) := fun h => by rw [htf, tf, h]; exact Lib.hid rfl
        have HOCT := Lib.hid hoct
        have HTF := Lib.hid htf
        clear hdrop hp hoct htf
        have hsz : (strOf p).size ≤ 1000000 := by rw [strOf_size]; omega
        have hGo := hG.below hbw
        have hzo := (Array.getElem?_eq_some_iff.1 HH.out).1
        have CP := ParseUint_10_8 (strOf p) hsz wo hGo
        have CO := fun (w' : World) (hb : Below wo.heap.size wo w') => only_dec (strOf p) w' hsz (hGo.below hb)
        rw [strOf_data] at CP
        simp only [strOf_data] at CO
        have hps : (strOf p).size = p.length := strOf_size p
        have hp0 : ∀ (h : 0 < (strOf p).size), (strOf p)[0]'h = p.headD 0 := by
          intro h
          rw [← data_get (strOf p) 0 h]
          cases p with
          | nil => simp [strOf_size] at h
          | cons a r => rfl
        cases hP : parseU 10 255 p with
        | none =>
          have hr := HOCT.out (by unfold octet; rw [hP])
          rw [hP] at CP
          have CP' := Lib.hid CP
          clear CP CO hP hp0 hps
          generalize strOf p = sp at hc CP'
          go_wp2_with (first | (go_at_call 33; refine CP'.out.mono ?_; rintro e w2 ⟨⟨v2, te2, pe2, rfl⟩, hb2⟩; have hh2 := heap_below HH.out hb2; have z02 := cell_of_heap hh2 0; have z12 := cell_of_heap hh2 1; simp only [two_at0, two_at1] at z02 z12; have f02 := frozen_of_heap hh2 0; have f12 := frozen_of_heap hh2 1; have HE2 := Lib.hid (two_cells hh2 (.int .u16 (x : Int)) (.int .u16 (y : Int))); have HH2 := Lib.hid hh2; clear hh2))
          have hbe : Below w.heap.size w ((w2.setCell ⟨w.heap.size, 0, none⟩ (.int .u16 (x : Int))).setCell ⟨w.heap.size, 1, none⟩ (.int .u16 (y : Int))) := ((hbw.trans (hb2.mono hbw.size)).setCell (Nat.le_refl _) _).setCell (Nat.le_refl _) _
          exact bodyPost_ret (v := .tuple #[.agg #[.int .u16 (x : Int), .int .u16 (y : Int)], .bool false]) (by simp [results, Tryz.results39, go_sem, HE2.out.1, HE2.out.2]) rfl ⟨by rw [hr.out]; exact tailEnd_none _ _, hbe⟩
        | some n =>
          have hn255 := parseU_le _ _ _ _ hP
          rw [hP] at CP
          cases hO : onlyB p decimal with
          | false =>
            have hr := HOCT.out (by unfold octet; rw [hP]; simp only; rw [if_pos (Or.inl hO)])
            simp only [hO] at CO
            have CP' : Hid (Calls Tryz.prog 33 #[.string (strOf p), .int .i64 10, .int .i64 8] wo fun e w2 => e = .returned (.tuple #[.int .u64 n, .nilIface]) ∧ Below wo.heap.size wo w2) := Lib.hid CP
            have CO' := Lib.hid CO
            clear CP CO hP hO hp0 hps
            generalize strOf p = sp at hc CP' CO'
            go_wp2_with (first | (go_at_call 33; refine CP'.out.mono ?_; rintro e w2 ⟨rfl, hb2⟩; have hh2 := heap_below HH.out hb2; have z02 := cell_of_heap hh2 0; have z12 := cell_of_heap hh2 1; simp only [two_at0, two_at1] at z02 z12; have f02 := frozen_of_heap hh2 0; have f12 := frozen_of_heap hh2 1; have HE2 := Lib.hid (two_cells hh2 (.int .u16 (x : Int)) (.int .u16 (y : Int))); have HH2 := Lib.hid hh2; clear hh2) | (go_at_call 19; refine (CO'.out _ hb2).mono ?_; rintro e w3 ⟨rfl, hb3⟩; clear z02 z12 f02 f12; have hh3 := heap_below HH.out (hb2.trans (hb3.mono hb2.size)); have z03 := cell_of_heap hh3 0; have z13 := cell_of_heap hh3 1; simp only [two_at0, two_at1] at z03 z13; have f03 := frozen_of_heap hh3 0; have f13 := frozen_of_heap hh3 1; have HE3 := Lib.hid (two_cells hh3 (.int .u16 (x : Int)) (.int .u16 (y : Int))); have HH3 := Lib.hid hh3; clear hh3))
            have hbe : Below w.heap.size w ((w3.setCell ⟨w.heap.size, 0, none⟩ (.int .u16 (x : Int))).setCell ⟨w.heap.size, 1, none⟩ (.int .u16 (y : Int))) := (((hbw.trans (hb2.mono hbw.size)).trans (hb3.mono (Nat.le_trans hbw.size hb2.size))).setCell (Nat.le_refl _) _).setCell (Nat.le_refl _) _
            exact bodyPost_ret (v := .tuple #[.agg #[.int .u16 (x : Int), .int .u16 (y : Int)], .bool false]) (by simp [results, Tryz.results39, go_sem, HE3.out.1, HE3.out.2]) rfl ⟨by rw [hr.out]; exact tailEnd_none _ _, hbe⟩
          | true =>
            simp only [hO] at CO
            have CP' : Hid (Calls Tryz.prog 33 #[.string (strOf p), .int .i64 10, .int .i64 8] wo fun e w2 => e = .returned (.tuple #[.int .u64 n, .nilIface]) ∧ Below wo.heap.size wo w2) := Lib.hid CP
            have CO' := Lib.hid CO
            by_cases hZ : 1 < p.length ∧ p.headD 0 = 48
            · have hr := HOCT.out (by unfold octet; rw [hP]; simp only; rw [if_pos (Or.inr hZ)])
              have hz1 : (1 : Int) < ((strOf p).size : Int) := by rw [hps]; omega
              obtain ⟨hj, hz2⟩ : ∃ hj : 0 < (strOf p).size, ((((strOf p)[0]'hj).toNat : Int) == 48) = true := ⟨by rw [hps]; omega, by rw [hp0, hZ.2]; rfl⟩
              clear CP CO hP hO hp0
              clear hps
              generalize strOf p = sp at hc CP' CO' hz1 hj hz2
              go_wp2_with (first | (go_at_call 33; refine CP'.out.mono ?_; rintro e w2 ⟨rfl, hb2⟩; have hh2 := heap_below HH.out hb2; have z02 := cell_of_heap hh2 0; have z12 := cell_of_heap hh2 1; simp only [two_at0, two_at1] at z02 z12; have f02 := frozen_of_heap hh2 0; have f12 := frozen_of_heap hh2 1; have HE2 := Lib.hid (two_cells hh2 (.int .u16 (x : Int)) (.int .u16 (y : Int))); have HH2 := Lib.hid hh2; clear hh2) | (go_at_call 19; refine (CO'.out _ hb2).mono ?_; rintro e w3 ⟨rfl, hb3⟩; clear z02 z12 f02 f12; have hh3 := heap_below HH.out (hb2.trans (hb3.mono hb2.size)); have z03 := cell_of_heap hh3 0; have z13 := cell_of_heap hh3 1; simp only [two_at0, two_at1] at z03 z13; have f03 := frozen_of_heap hh3 0; have f13 := frozen_of_heap hh3 1; have HE3 := Lib.hid (two_cells hh3 (.int .u16 (x : Int)) (.int .u16 (y : Int))); have HH3 := Lib.hid hh3; clear hh3))
              have hbe : Below w.heap.size w ((w3.setCell ⟨w.heap.size, 0, none⟩ (.int .u16 (x : Int))).setCell ⟨w.heap.size, 1, none⟩ (.int .u16 (y : Int))) := (((hbw.trans (hb2.mono hbw.size)).trans (hb3.mono (Nat.le_trans hbw.size hb2.size))).setCell (Nat.le_refl _) _).setCell (Nat.le_refl _) _
              exact bodyPost_ret (v := .tuple #[.agg #[.int .u16 (x : Int), .int .u16 (y : Int)], .bool false]) (by simp [results, Tryz.results39, go_sem, HE3.out.1, HE3.out.2]) rfl ⟨by rw [hr.out]; exact tailEnd_none _ _, hbe⟩
            · have hoc : octet p = some n := by unfold octet; rw [hP]; simp only; rw [if_neg (fun h => h.elim (fun h => by rw [hO] at h; cases h) hZ)]
              obtain ⟨d, hd⟩ : ∃ d, k / 2 = d := ⟨_, rfl⟩
              have hd2 : d < 2 := by omega
              have hq : Int.tdiv (k : Int) 2 = (d : Int) := by rw [← hd]; rfl
              have hI := HI.out
              obtain ⟨z, hz, hat, hnx⟩ : ∃ z : Nat, z < 256 ∧ (#[.int .u16 (x : Int), .int .u16 (y : Int)] : Array Value)[d]? = some (.int .u16 (z : Int)) ∧ ∃ x' y' : Nat, (#[.int .u16 (x : Int), .int .u16 (y : Int)] : Array Value).setIfInBounds d (.int .u16 ((z * 256 + n : Nat) : Int)) = #[.int .u16 (x' : Int), .int .u16 (y' : Int)] ∧ x' < 65536 ∧ y' < 65536 ∧ tailP s.data.toList = tf (k + 1) x' y' (ps.drop (k + 1)) ∧ (k + 1 ≤ 1 → x' < 256 ^ (k + 1)) ∧ (k + 1 ≤ 2 → y' = 0) ∧ (k + 1 = 3 → y' < 256) := by
                have hn := hn255
                have ht := HTF.out
                rw [tf, hoc] at ht
                simp only at ht
                have h0 := hI.2.1
                have h1 := hI.2.2.1
                have h2 := hI.2.2.2.1
                by_cases hk2 : k < 2
                · have hd0 : d = 0 := by omega
                  have hx256 : x < 256 := by
                    have := h0 (by omega)
                    have h3 : k = 0 ∨ k = 1 := by omega
                    rcases h3 with rfl | rfl
                    · simp at this; omega
                    · simpa using this
                  rw [if_pos hk2] at ht
                  refine ⟨x, hx256, by rw [hd0]; rfl, x * 256 + n, y, by rw [hd0]; rfl, by omega, hy, ht, ?_, fun _ => h1 (by omega), fun _ => by rw [h1 (by omega)]; omega⟩
                  intro hk1
                  have h3 : k = 0 := by omega
                  rw [h3] at h0 ⊢
                  have := h0 (by omega)
                  simp at this ⊢
                  omega
                · have hd1 : d = 1 := by omega
                  have hy256 : y < 256 := by
                    have h3 : k = 2 ∨ k = 3 := by omega
                    rcases h3 with rfl | rfl
                    · rw [h1 (by omega)]; omega
                    · exact h2 rfl
                  rw [if_neg hk2] at ht
                  refine ⟨y, hy256, by rw [hd1]; rfl, x, y * 256 + n, by rw [hd1]; rfl, hx, by omega, ht, fun h => by omega, fun h => by omega, fun h => ?_⟩
                  rw [h1 (by omega)]; omega
              obtain ⟨x', y', HST2, hx', hy', hrest⟩ := hnx
              have HR := Lib.hid hrest
              have HAT := Lib.hid hat
              have HSS := Lib.hid HST2
              have HW := Lib.hid (or16 z n hz (by omega))
              have hc0 : wo.cell? ⟨w.heap.size, d, none⟩ = some (.int .u16 (z : Int)) := by rw [cell_of_heap HH.out d, HAT.out]
              have hf0 := frozen_of_heap HH.out d
              have hzz : ¬ ((1 : Int) < ((strOf p).size : Int)) ∨ ((1 : Int) < ((strOf p).size : Int) ∧ ∃ hj : 0 < (strOf p).size, ((((strOf p)[0]'hj).toNat : Int) == 48) = false) := by
                by_cases h1 : 1 < p.length
                · refine Or.inr ⟨by rw [hps]; omega, by rw [hps]; omega, ?_⟩
                  rw [hp0]
                  have : p.headD 0 ≠ 48 := fun h => hZ ⟨h1, h⟩
                  refine beq_eq_false_iff_ne.2 (fun h => this ?_)
                  have h2 : (p.headD 0).toNat = 48 := by omega
                  exact UInt8.toNat_inj.1 (h2.trans rfl)
                · exact Or.inl (by rw [hps]; omega)
              clear hrest hat HST2 hI CP CO hP hO hoc hZ hd HTF HOCT hp0 hps
              generalize strOf p = sp at hc CP' CO' hzz
              rcases hzz with hz1 | ⟨hz1, hj, hz2⟩
              all_goals
                go_wp2_with (first | (go_at_call 33; refine CP'.out.mono ?_; rintro e w2 ⟨rfl, hb2⟩) | (go_at_call 19; refine (CO'.out _ hb2).mono ?_; rintro e w3 ⟨rfl, hb3⟩; have hh3 := heap_below HH.out (hb2.trans (hb3.mono hb2.size)); have z03 := cell_of_heap hh3 d; rw [HAT.out] at z03; have f03 := frozen_of_heap hh3 d; have HH3 := Lib.hid hh3; clear hh3))
                have hh3 := heap_setCell_at HH3.out d (.int .u16 (bits .or .u16 ((z : Int) * 256) (n : Int)))
                have hbc := hb2.trans (hb3.mono hb2.size)
                have hbe : Below w.heap.size w (w3.setCell ⟨w.heap.size, d, none⟩ (.int .u16 (bits .or .u16 ((z : Int) * 256) (n : Int)))) := (hbw.trans (hbc.mono hbw.size)).setCell (Nat.le_refl _) _
                have hss : Strs (w3.setCell ⟨w.heap.size, d, none⟩ (.int .u16 (bits .or .u16 ((z : Int) * 256) (n : Int)))) b1 ps := (HI.out.2.2.2.2.below hbc).setCell _ _ hbk
                rw [HW.out, HSS.out] at hh3
                refine ⟨⟨k + 1, x', y', rfl, by omega, by rw [HW.out]; exact hh3, hbe, hx', hy', Lib.hid ⟨HR.out.1, HR.out.2.1, HR.out.2.2.1, HR.out.2.2.2, hss⟩⟩, ?_⟩
                simp [intOf]
                omega
      · obtain rfl : k = 4 := by omega
        have hr : Hid (tailP s.data.toList = some (x, y)) := by
          have h := HI.out.1
          rw [List.drop_of_length_le (by rw [HN.out]; exact Nat.le_refl _)] at h
          rw [h]; exact Lib.hid rfl
        have z0 := cell_of_heap HH.out 0
        have z1 := cell_of_heap HH.out 1
        simp only [two_at0, two_at1] at z0 z1
        have f0 := frozen_of_heap HH.out 0
        have f1 := frozen_of_heap HH.out 1
        have HE := Lib.hid (two_cells HH.out (.int .u16 (x : Int)) (.int .u16 (y : Int)))
        have hbe : Below w.heap.size w ((wo.setCell ⟨w.heap.size, 0, none⟩ (.int .u16 (x : Int))).setCell ⟨w.heap.size, 1, none⟩ (.int .u16 (y : Int))) := (hbw.setCell (Nat.le_refl _) _).setCell (Nat.le_refl _) _
        go_wp2
        exact bodyPost_ret (v := .tuple #[.agg #[.int .u16 (x : Int), .int .u16 (y : Int)], .bool true]) (by simp [results, Tryz.results39, go_sem, HE.out.1, HE.out.2]) rfl ⟨by rw [hr.out]; exact rfl, hbe⟩
  · have h4b : ((n : Int) == 4) = false := beq_eq_false_iff_ne.2 (by omega)
    have hr : Hid (tailP s.data.toList = none) := by rw [HTP.out, if_neg (by rw [HN.out]; exact h4)]; exact Lib.hid rfl
    have hz0 : w1.cell? ⟨w.heap.size, 0, none⟩ = some (.int .u16 0) := by rw [cell_of_heap hh1]; rfl
    have hz1 : w1.cell? ⟨w.heap.size, 1, none⟩ = some (.int .u16 0) := by rw [cell_of_heap hh1]; rfl
    have hf0 := frozen_of_heap hh1 0
    have hf1 := frozen_of_heap hh1 1
    have hend := two_cells hh1 (.int .u16 0) (.int .u16 0)
    have hbe : Below w.heap.size w ((w1.setCell ⟨w.heap.size, 0, none⟩ (.int .u16 0)).setCell ⟨w.heap.size, 1, none⟩ (.int .u16 0)) := (hb01.setCell (Nat.le_refl _) _).setCell (Nat.le_refl _) _
    clear h4 HTP hh1
    go_wp2
    exact bodyPost_ret (v := .tuple #[.agg #[.int .u16 0, .int .u16 0], .bool false]) (by simp [results, Tryz.results39, go_sem, hend.1, hend.2]) rfl ⟨by rw [hr.out]; exact tailEnd_none 0 0, hbe⟩
end Go.Proofs.YtlhbpdnbfghkoaaGreatDoor
