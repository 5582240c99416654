/- host.pieces: the pieces of one side of an IPv6. -/
import Derived.Test.YtlhbpdnbfghkoaaGreatDoorTail
namespace Go.Proofs.YtlhbpdnbfghkoaaGreatDoor
open Go.RowKit
set_option linter.unusedSimpArgs false
set_option linter.unusedVariables false

def hex16 (p : Bs) : Option Nat := match parseU 16 65535 p with | none => none | some n => if 4 < p.length ∨ onlyB p hexa = false then none else some n
def pcs (e : Bool) : List Bs → Option (List Nat)
  | [] => some []
  | p :: r =>
    if e = true ∧ r = [] ∧ Lib.contains p [46] = true then (match tailP p with | none => none | some (x, y) => some [x, y])
    else (match hex16 p with | none => none | some n => match pcs e r with | none => none | some l => some (n :: l))
/-- host.pieces. -/
def piecesP (e : Bool) (s : Bs) : Option (List Nat) := if s = [] then some [] else pcs e (split1 58 s)

theorem OwnU.weaken {w : World} {B B' : Nat} {v : Value} {xs : List Nat} (h : OwnU w B v xs) (hB : B' ≤ B) : OwnU w B' v xs := by
  refine ⟨h.1, ?_⟩
  rcases h.2 with h | ⟨g, cap, cur, hv, hg, r⟩
  · exact Or.inl h
  · exact Or.inr ⟨g, cap, cur, hv, Nat.le_trans hB hg, r⟩
/-- What host.pieces hands back. -/
def PcEnd (r : Option (List Nat)) (m B : Nat) (w' : World) (e : Ending) : Prop :=
  ∃ (v : Value) (o : Bool) (l : List Nat), e = .returned (.tuple #[v, .bool o]) ∧ OwnU w' B v l ∧ l.length ≤ m ∧ r = if o = true then some l else none

theorem slice2_all (b : Nat) (W : World) : (Instr.sliceAt 65 (.pointer (some ⟨b, 0, none⟩)) none none none).run Tryz.prog W = .ok (.slice (some ⟨b, 0, none⟩) 2 2) W := by
  have arr2 : Tryz.prog.arrayLen 65 = 2 := by simp [Program.arrayLen, Tryz.underlying65]
  have elem2 : Tryz.prog.elem 65 = 38 := by simp [Program.elem, Tryz.underlying65]
  have und2 : Tryz.prog.underlying 65 = some (.array (Tryz.prog.arrayLen 65) (Tryz.prog.elem 65)) := by simp [Program.arrayLen, Program.elem, Tryz.underlying65]
  rw [run_sliceAt_array_all W 65 ⟨b, 0, none⟩ und2, arr2, elem2, Tryz.sizeOf38]
  simp [slicedAt, Result.andThen, Addr.add_zero']

theorem one_new (x : Nat) (w : World) : ∀ (j q : Nat), [x][j]? = some q → (w.alloc (.cells #[.int .u16 (x : Int)] 38)).cell? ((⟨w.heap.size, 0, none⟩ : Addr).add j) = some (.int .u16 (q : Int)) := by
  intro j q h
  have e : ((⟨w.heap.size, 0, none⟩ : Addr).add j) = ⟨w.heap.size, j, none⟩ := by simp [Addr.add]; exact fun h => h.symm
  rw [e, cells_alloc_new]
  match j, h with
  | 0, h => simp at h; subst h; rfl
  | j + 1, h => simp at h
theorem two_new (x y : Nat) (w : World) : ∀ (j q : Nat), [x, y][j]? = some q → (w.alloc (.cells #[.int .u16 (x : Int), .int .u16 (y : Int)] 65)).cell? ((⟨w.heap.size, 0, none⟩ : Addr).add j) = some (.int .u16 (q : Int)) := by
  intro j q h
  have e : ((⟨w.heap.size, 0, none⟩ : Addr).add j) = ⟨w.heap.size, j, none⟩ := by simp [Addr.add]; exact fun h => h.symm
  rw [e, cells_alloc_new]
  match j, h with
  | 0, h => simp at h; subst h; rfl
  | 1, h => simp at h; subst h; rfl
  | j + 2, h => simp at h
set_option maxRecDepth 1000000 in
set_option maxHeartbeats 8000000 in
theorem pieces_any (s : ByteArray) (en : Bool) (w : World) (hs : s.size ≤ 1000000) (hG : GL w) :
    Calls Tryz.prog 23 #[.string s, .bool en] w fun e w' => PcEnd (piecesP en s.data.toList) (s.size + 3) w.heap.size w' e ∧ Below w.heap.size w w' := by
  have CS := Lib.hid (lib_Split1 s 58 w hs hG)
  by_cases h0 : s.data.toList = []
  · have hr : piecesP en s.data.toList = some [] := by rw [h0]; rfl
    have HR := Lib.hid hr
    have hemp : s.toList.isEmpty = true := by rw [isEmpty_data, h0]; rfl
    clear hr h0 CS
    go_enter Tryz.func23, Tryz.ntmps23
    go_wp2_with fail
    go_ret2
    exact ⟨⟨_, true, [], rfl, OwnU.nil _ _, by simp, by rw [HR.out]; rfl⟩, Below.refl _ _⟩
  · have hemp : s.toList.isEmpty = false := by rw [isEmpty_data]; exact beq_eq_false_iff_ne.2 h0
    have HPP : Hid (piecesP en s.data.toList = pcs en (split1 58 s.data.toList)) := by unfold piecesP; rw [if_neg h0]; exact Lib.hid rfl
    clear h0
    go_enter Tryz.func23, Tryz.ntmps23
    go_wp2_with fail
    refine CS.out.mono ?_
    rintro e w1 ⟨rfl, hst, hb1⟩
    clear CS hemp
    have hG1 := hG.below hb1
    have hB1 := hb1.size
    have hmem := split1_mem_le 58 s.data.toList
    have hn := split1_len_le 58 s.data.toList
    have hln : s.data.toList.length = s.size := (Lib.size_eq s).symm
    rw [hln] at hmem hn
    obtain ⟨ps, hps⟩ : ∃ ps, split1 58 s.data.toList = ps := ⟨_, rfl⟩
    rw [hps] at hst hmem hn HPP ⊢
    obtain ⟨n, hnn⟩ : ∃ n, ps.length = n := ⟨_, rfl⟩
    rw [hnn] at hn ⊢
    have HN := Lib.hid hnn
    have HMEM := Lib.hid hmem
    have HST := Lib.hid hst
    obtain ⟨b1, hb1e⟩ : ∃ b1, w.heap.size = b1 := ⟨_, rfl⟩
    have HBE := Lib.hid hb1e
    rw [hb1e] at HST ⊢
    clear hps hmem hst hnn hln hb1e
    go_wp2
    go_loopw [4, 19] (fun vo vi wr => ∃ (k : Nat) (acc : List Nat), vi = .int .i64 k ∧ k ≤ n ∧ OwnU wr w1.heap.size vo acc ∧ acc.length = k ∧ Below w1.heap.size w1 wr ∧ Hid (piecesP en s.data.toList = (pcs en (ps.drop k)).map (acc ++ ·))) (fun _ vi _ => n - (intOf vi).toNat)
    case atStart => exact ⟨0, [], rfl, by omega, OwnU.nil _ _, rfl, Below.refl _ _, Lib.hid (by rw [HPP.out]; simp)⟩
    case round =>
      obtain ⟨k, acc, rfl, hk, hown, hal, hbw, HI⟩ := hrel
      obtain ⟨wo, rfl⟩ : ∃ wo : World, wo = wr := ⟨_, rfl⟩
      have hB := hbw.size
      have HO := Lib.hid hown
      clear hown
      by_cases hlt : k < n
      · have hip : k < ps.length := by rw [HN.out]; exact hlt
        obtain ⟨p, hp⟩ : ∃ p, ps[k] = p := ⟨_, rfl⟩
        have hc : wo.cell? ⟨b1, k, none⟩ = some (.string (strOf p)) := (HST.out.below hbw).cell k p (by rw [List.getElem?_eq_getElem hip, hp])
        have hpl : p.length ≤ s.size := HMEM.out _ (by rw [← hp]; exact List.getElem_mem hip)
        have hdrop : ps.drop k = p :: ps.drop (k + 1) := by rw [← hp]; exact List.drop_eq_getElem_cons hip
        have hpc := HI.out
        rw [hdrop] at hpc
        have HPC := Lib.hid hpc
        have hlast : (ps.drop (k + 1) = [] ↔ (k : Int) = (n : Int) - 1) := by
          rw [List.drop_eq_nil_iff, HN.out]; omega
        have HLAST := Lib.hid hlast
        clear hdrop hp hpc HI hlast
        have hsz : (strOf p).size ≤ 1000000 := by rw [strOf_size]; omega
        have hGo := hG1.below hbw
        have CC := lib_Contains (strOf p) ⟨#[46]⟩ wo hGo hsz
        rw [strOf_data] at CC
        have CC' : Hid (Calls Tryz.prog 38 #[.string (strOf p), .string ⟨#[46]⟩] wo fun e w' => e = .returned (.bool (Lib.contains p [46])) ∧ wo = w') := Lib.hid CC
        obtain ⟨bC, hbC⟩ : ∃ bC, Lib.contains p [46] = bC := ⟨_, rfl⟩
        rw [hbC] at CC'
        by_cases hA : en = true ∧ (k : Int) = (n : Int) - 1 ∧ bC = true
        · obtain ⟨rfl, hkn, rfl⟩ := hA
          have hkb : ((k : Int) == (n : Int) - 1) = true := beq_iff_eq.2 hkn
          have hpc2 : piecesP true s.data.toList = (match tailP p with | none => none | some (x, y) => some [x, y]).map (acc ++ ·) := by
            rw [HPC.out, pcs, if_pos ⟨rfl, HLAST.out.2 hkn, hbC⟩]
          have HPC2 := Lib.hid hpc2
          have CT := tail_any (strOf p) wo hsz hGo
          rw [strOf_data] at CT
          have CT' := Lib.hid CT
          clear CC CT HLAST HPC hbC hpc2 hkn
          have hs2 := slice2_all
          go_wp2_with (first | (go_at_call 38; refine CC'.out.mono ?_; rintro e w2 ⟨rfl, rfl⟩) | (go_at_call 39; refine CT'.out.mono ?_; rintro e w2 ⟨hte, hb2⟩; obtain ⟨x, y, o, rfl, hto⟩ := tailEnd_form hte; clear hte; have hG2 := hGo.below hb2) | (at_builtin; refine app_u16 (qs := [x, y]) rfl _ _ rfl w1.heap.size _ acc rfl ((HO.out.below hb2).below ((Below.refl _ _).alloc (Nat.le_refl _) _)) ⟨w2.heap.size, 0, none⟩ 2 rfl (two_new x y w2) (by omega) (by simp) (by have h1 := hb2.size; simp; omega) ?_; intro v' w3 hown3 hg3))
          go_ret2
          have hb3 : Below w.heap.size w w3 := (((hb1.trans (hbw.mono hB1)).trans (hb2.mono (Nat.le_trans hB1 hB))).alloc (Nat.le_trans (Nat.le_trans hB1 hB) hb2.size) _).grown hg3 (by have h1 := hb2.size; simp; omega) (fun k hk => Nat.le_trans hB1 (HO.out.base k hk))
          refine ⟨⟨_, o, acc ++ [x, y], rfl, hown3.weaken ?_, by simp; omega, ?_⟩, hb3⟩
          · exact hB1
          · rw [HPC2.out, hto]
            cases o <;> rfl
        · have hpc2 : Hid (piecesP en s.data.toList = (match hex16 p with | none => none | some n => match pcs en (ps.drop (k + 1)) with | none => none | some l => some (n :: l)).map (acc ++ ·)) := by
            rw [HPC.out, pcs, if_neg]
            · exact Lib.hid rfl
            · rintro ⟨h1, h2, h3⟩
              exact hA ⟨h1, HLAST.out.1 h2, hbC.symm.trans h3⟩
          have hways : en = false ∨ (en = true ∧ ((k : Int) == (n : Int) - 1) = false) ∨ (en = true ∧ ((k : Int) == (n : Int) - 1) = true ∧ bC = false) := by
            cases en with
            | false => exact Or.inl rfl
            | true =>
              by_cases hk1 : (k : Int) = (n : Int) - 1
              · refine Or.inr (Or.inr ⟨rfl, beq_iff_eq.2 hk1, ?_⟩)
                cases bC with
                | false => rfl
                | true => exact absurd ⟨rfl, hk1, rfl⟩ hA
              · exact Or.inr (Or.inl ⟨rfl, beq_eq_false_iff_ne.2 hk1⟩)
          have CP := ParseUint_16_16 (strOf p) hsz wo hGo
          have CO := fun (w' : World) (hb : Below wo.heap.size wo w') => only_hex (strOf p) w' hsz (hGo.below hb)
          rw [strOf_data] at CP
          simp only [strOf_data] at CO
          have hps : (strOf p).size = p.length := strOf_size p
          clear CC HLAST HPC hbC hA
          have hq : parseU 16 65535 p = none ∨ ∃ m, parseU 16 65535 p = some m := by
            cases parseU 16 65535 p with
            | none => exact Or.inl rfl
            | some m => exact Or.inr ⟨m, rfl⟩
          rcases hq with hP | ⟨m, hP⟩
          · have hr : Hid (piecesP en s.data.toList = none) := by
              rw [hpc2.out]; unfold hex16; rw [hP]; exact Lib.hid rfl
            rw [hP] at CP
            have CP' := Lib.hid CP
            clear CP CO hP hpc2 hps
            generalize strOf p = sp at hc CP' CC'
            rcases hways with rfl | ⟨rfl, hkb⟩ | ⟨rfl, hkb, rfl⟩
            all_goals
              go_wp2_with (first | (go_at_call 38; refine CC'.out.mono ?_; rintro e w9 ⟨rfl, rfl⟩) | (go_at_call 33; refine CP'.out.mono ?_; rintro e w2 ⟨⟨v2, te2, pe2, rfl⟩, hb2⟩))
              go_ret2
              exact ⟨⟨_, false, [], rfl, OwnU.nil _ _, by simp, by rw [hr.out]; rfl⟩, (hb1.trans (hbw.mono hB1)).trans (hb2.mono (Nat.le_trans hB1 hB))⟩
          · have hm := parseU_le _ _ _ _ hP
            rw [hP] at CP
            have CP' : Hid (Calls Tryz.prog 33 #[.string (strOf p), .int .i64 16, .int .i64 16] wo fun e w2 => e = .returned (.tuple #[.int .u64 m, .nilIface]) ∧ Below wo.heap.size wo w2) := Lib.hid CP
            by_cases hl4 : 4 < p.length
            · have hr : Hid (piecesP en s.data.toList = none) := by
                rw [hpc2.out]; unfold hex16; rw [hP]; simp only; rw [if_pos (Or.inl hl4)]; exact Lib.hid rfl
              have hls : (4 : Int) < ((strOf p).size : Int) := by rw [hps]; omega
              clear CP CO hP hpc2 hps
              generalize strOf p = sp at hc CP' CC' hls
              rcases hways with rfl | ⟨rfl, hkb⟩ | ⟨rfl, hkb, rfl⟩
              all_goals
                go_wp2_with (first | (go_at_call 38; refine CC'.out.mono ?_; rintro e w9 ⟨rfl, rfl⟩) | (go_at_call 33; refine CP'.out.mono ?_; rintro e w2 ⟨rfl, hb2⟩))
                go_ret2
                exact ⟨⟨_, false, [], rfl, OwnU.nil _ _, by simp, by rw [hr.out]; rfl⟩, (hb1.trans (hbw.mono hB1)).trans (hb2.mono (Nat.le_trans hB1 hB))⟩
            · have hls : ¬ (4 : Int) < ((strOf p).size : Int) := by rw [hps]; omega
              obtain ⟨bO, hbO⟩ : ∃ bO, onlyB p hexa = bO := ⟨_, rfl⟩
              rw [hbO] at CO
              have CO' := Lib.hid CO
              cases bO with
              | false =>
                have hr : Hid (piecesP en s.data.toList = none) := by
                  rw [hpc2.out]; unfold hex16; rw [hP]; simp only; rw [if_pos (Or.inr hbO)]; exact Lib.hid rfl
                clear CP CO hP hpc2 hps hbO
                generalize strOf p = sp at hc CP' CC' CO' hls
                rcases hways with rfl | ⟨rfl, hkb⟩ | ⟨rfl, hkb, rfl⟩
                all_goals
                  go_wp2_with (first | (go_at_call 38; refine CC'.out.mono ?_; rintro e w9 ⟨rfl, rfl⟩) | (go_at_call 33; refine CP'.out.mono ?_; rintro e w2 ⟨rfl, hb2⟩) | (go_at_call 19; refine (CO'.out _ hb2).mono ?_; rintro e w3 ⟨rfl, hb3⟩))
                  go_ret2
                  exact ⟨⟨_, false, [], rfl, OwnU.nil _ _, by simp, by rw [hr.out]; rfl⟩, ((hb1.trans (hbw.mono hB1)).trans (hb2.mono (Nat.le_trans hB1 hB))).trans (hb3.mono (Nat.le_trans (Nat.le_trans hB1 hB) hb2.size))⟩
              | true =>
                have hr : Hid (piecesP en s.data.toList = (pcs en (ps.drop (k + 1))).map ((acc ++ [m]) ++ ·)) := by
                  rw [hpc2.out]; unfold hex16; rw [hP]; simp only; rw [if_neg (fun h => h.elim hl4 (fun h => by rw [hbO] at h; cases h))]
                  cases pcs en (ps.drop (k + 1)) with
                  | none => exact Lib.hid rfl
                  | some l => exact Lib.hid (by simp)
                clear CP CO hP hpc2 hps hbO
                generalize strOf p = sp at hc CP' CC' CO' hls
                rcases hways with rfl | ⟨rfl, hkb⟩ | ⟨rfl, hkb, rfl⟩
                all_goals
                  go_wp2_with (first | (go_at_call 38; refine CC'.out.mono ?_; rintro e w9 ⟨rfl, rfl⟩) | (go_at_call 33; refine CP'.out.mono ?_; rintro e w2 ⟨rfl, hb2⟩) | (go_at_call 19; refine (CO'.out _ hb2).mono ?_; rintro e w3 ⟨rfl, hb3⟩) | (at_builtin; refine app_u16 (qs := [m]) rfl _ _ rfl w1.heap.size _ acc rfl (((HO.out.below hb2).below hb3).below ((Below.refl _ _).alloc (Nat.le_refl _) _)) ⟨w3.heap.size, 0, none⟩ 1 rfl (one_new m w3) (by omega) (by simp) (by have h1 := hb2.size; have h2 := hb3.size; simp; omega) ?_; intro v' w4 hown4 hg4))
                  have hb4 : Below w1.heap.size w1 w4 := (((hbw.trans (hb2.mono hB)).trans (hb3.mono (Nat.le_trans hB hb2.size))).alloc (Nat.le_trans hB (Nat.le_trans hb2.size hb3.size)) _).grown hg4 (by have h1 := hb2.size; have h2 := hb3.size; simp; omega) HO.out.base
                  refine ⟨⟨k + 1, acc ++ [m], rfl, by omega, hown4, by simp; omega, hb4, Lib.hid hr.out⟩, ?_⟩
                  simp [intOf]
                  omega
      · obtain rfl : k = n := by omega
        have hend : Hid (piecesP en s.data.toList = some acc) := by
          rw [HI.out, List.drop_of_length_le (by rw [HN.out]; exact Nat.le_refl _)]
          exact Lib.hid (by simp [pcs])
        clear HI
        go_wp2
        go_ret2
        exact ⟨⟨_, true, acc, rfl, HO.out.weaken hB1, by omega, by rw [hend.out]; rfl⟩, hb1.trans (hbw.mono hB1)⟩
end Go.Proofs.YtlhbpdnbfghkoaaGreatDoor
