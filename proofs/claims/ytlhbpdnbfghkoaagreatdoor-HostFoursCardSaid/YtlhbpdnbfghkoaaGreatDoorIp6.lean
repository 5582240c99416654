/- host.IPv6. -/
import Derived.Test.YtlhbpdnbfghkoaaGreatDoorPieces
import Derived.Test.YtlhbpdnbfghkoaaGreatDoorText6
import Derived.Laws.CopyOwn
import Derived.Deep.RegionLaw
namespace Go.Proofs.YtlhbpdnbfghkoaaGreatDoor
open Go.RowKit
set_option linter.unusedSimpArgs false
set_option linter.unusedVariables false

/-- host.IPv6. -/
def ip6 (s : Bs) : Option (List Nat) :=
  match piecesP (!(Lib.cut s [58, 58]).2.2) (Lib.cut s [58, 58]).1, piecesP true (Lib.cut s [58, 58]).2.1 with
  | some x, some y =>
    if (if (Lib.cut s [58, 58]).2.2 = true then x.length + y.length ≤ 7 else x.length + y.length = 8) then some (x ++ List.replicate (8 - (x.length + y.length)) 0 ++ y) else none
  | _, _ => none
def Ip6End (r : Option (List Nat)) (e : Ending) : Prop :=
  match r with
  | some l => e = .returned (.tuple #[agg8 l, .int .i64 0])
  | none => e = .returned (.tuple #[agg8 [0, 0, 0, 0, 0, 0, 0, 0], .int .i64 7])

theorem setCell_same {w : World} {b o : Nat} {v : Value} {cur : Array Value} {T : TypeId} {fz : Nat × Nat} (h : w.heap[b]? = some (.cells cur T fz)) (hv : cur[o]? = some v) : w.setCell ⟨b, o, none⟩ v = w := by
  have e : (w.setCell ⟨b, o, none⟩ v).heap = w.heap := by
    apply Array.ext_getElem?
    intro i
    by_cases hi : b = i
    · subst hi
      rw [heap_setCell_at h, h]
      congr 2
      apply Array.ext_getElem?
      intro j
      rw [Array.getElem?_setIfInBounds]
      split
      · rename_i hj; subst hj
        split
        · exact hv.symm
        · rename_i hlt
          rw [Array.getElem?_eq_none (by omega)]
      · rfl
    · simp only [World.setCell, Array.getElem?_modify]
      rw [if_neg hi]
  show ({ w with heap := (w.setCell ⟨b, o, none⟩ v).heap } : World) = w
  rw [e]
theorem eight_same {w : World} {b : Nat} {a0 a1 a2 a3 a4 a5 a6 a7 : Value} {T : TypeId} (h : w.heap[b]? = some (.cells #[a0, a1, a2, a3, a4, a5, a6, a7] T (0, 0))) :
    (((((((w.setCell ⟨b, 0, none⟩ a0).setCell ⟨b, 1, none⟩ a1).setCell ⟨b, 2, none⟩ a2).setCell ⟨b, 3, none⟩ a3).setCell ⟨b, 4, none⟩ a4).setCell ⟨b, 5, none⟩ a5).setCell ⟨b, 6, none⟩ a6).setCell ⟨b, 7, none⟩ a7 = w := by
  have e0 : w.setCell ⟨b, 0, none⟩ a0 = w := setCell_same h rfl
  have e1 : w.setCell ⟨b, 1, none⟩ a1 = w := setCell_same h rfl
  have e2 : w.setCell ⟨b, 2, none⟩ a2 = w := setCell_same h rfl
  have e3 : w.setCell ⟨b, 3, none⟩ a3 = w := setCell_same h rfl
  have e4 : w.setCell ⟨b, 4, none⟩ a4 = w := setCell_same h rfl
  have e5 : w.setCell ⟨b, 5, none⟩ a5 = w := setCell_same h rfl
  have e6 : w.setCell ⟨b, 6, none⟩ a6 = w := setCell_same h rfl
  have e7 : w.setCell ⟨b, 7, none⟩ a7 = w := setCell_same h rfl
  rw [e0, e1, e2, e3, e4, e5, e6, e7]
theorem eight0 (a0 a1 a2 a3 a4 a5 a6 a7 : Value) : (#[a0, a1, a2, a3, a4, a5, a6, a7] : Array Value)[0]? = some a0 := rfl
theorem eight1 (a0 a1 a2 a3 a4 a5 a6 a7 : Value) : (#[a0, a1, a2, a3, a4, a5, a6, a7] : Array Value)[1]? = some a1 := rfl
theorem eight2 (a0 a1 a2 a3 a4 a5 a6 a7 : Value) : (#[a0, a1, a2, a3, a4, a5, a6, a7] : Array Value)[2]? = some a2 := rfl
theorem eight3 (a0 a1 a2 a3 a4 a5 a6 a7 : Value) : (#[a0, a1, a2, a3, a4, a5, a6, a7] : Array Value)[3]? = some a3 := rfl
theorem eight4 (a0 a1 a2 a3 a4 a5 a6 a7 : Value) : (#[a0, a1, a2, a3, a4, a5, a6, a7] : Array Value)[4]? = some a4 := rfl
theorem eight5 (a0 a1 a2 a3 a4 a5 a6 a7 : Value) : (#[a0, a1, a2, a3, a4, a5, a6, a7] : Array Value)[5]? = some a5 := rfl
theorem eight6 (a0 a1 a2 a3 a4 a5 a6 a7 : Value) : (#[a0, a1, a2, a3, a4, a5, a6, a7] : Array Value)[6]? = some a6 := rfl
theorem eight7 (a0 a1 a2 a3 a4 a5 a6 a7 : Value) : (#[a0, a1, a2, a3, a4, a5, a6, a7] : Array Value)[7]? = some a7 := rfl
theorem cut_fst_le (s sep : Bs) : (Lib.cut s sep).1.length ≤ s.length := by
  unfold Lib.cut; split <;> simp
  omega
theorem cut_snd_le (s sep : Bs) : (Lib.cut s sep).2.1.length ≤ s.length := by
  unfold Lib.cut; split <;> simp

/-- A slice of numbers that the call made, nil or not, in one form. -/
theorem OwnU.slice {w : World} {B : Nat} {v : Value} {ps : List Nat} (h : OwnU w B v ps) : ∃ (ad : Option Addr) (cap : Nat), v = .slice ad ps.length cap ∧ (0 < ps.length → ∃ g, ad = some ⟨g, 0, none⟩ ∧ B ≤ g ∧ g < w.heap.size ∧ ∀ (j : Nat) (p : Nat), ps[j]? = some p → w.cell? ⟨g, j, none⟩ = some (.int .u16 (p : Int))) := by
  rcases h.form with ⟨rfl, rfl⟩ | ⟨g, cap, rfl, hg, hcap, hlt, hcell⟩
  · exact ⟨none, 0, rfl, by simp⟩
  · exact ⟨_, cap, rfl, fun _ => ⟨g, rfl, hg, hlt, hcell⟩⟩

theorem slice8_all (b : Nat) (W : World) : (Instr.sliceAt 39 (.pointer (some ⟨b, 0, none⟩)) none none none).run Tryz.prog W = .ok (.slice (some ⟨b, 0, none⟩) 8 8) W := by
  rw [run_sliceAt_array_all W 39 ⟨b, 0, none⟩ und8, arr8, elem8, Tryz.sizeOf38]
  simp [slicedAt, Result.andThen, Addr.add_zero']
theorem slice8_back (b n : Nat) (h : n ≤ 8) : ∃ o c : Nat, (0 < n → o = 8 - n) ∧ ∀ W : World, (Instr.sliceAt 39 (.pointer (some ⟨b, 0, none⟩)) (some (.int .i64 (8 - (n : Int)))) none none).run Tryz.prog W = .ok (.slice (some ⟨b, o, none⟩) n c) W := by
  by_cases h0 : n = 0
  · subst h0
    exact ⟨0, 0, fun h => by omega, fun W => slice8_l8 b W⟩
  · refine ⟨8 - n, n, fun _ => rfl, fun W => ?_⟩
    have := slice8_l b (8 - n) (by omega) W
    rw [show (((8 - n : Nat) : Int)) = 8 - (n : Int) by omega, show 8 - (8 - n) = n by omega] at this
    exact this

theorem info8u : Tryz.prog.underlying 53 = some (.slice 38) := by simp [Tryz.underlying53]
theorem size16 : (Tryz.prog.info? 38).map (·.size) = some 1 := by kernel_rfl

theorem add_zero_off (g j : Nat) : (⟨g, 0, none⟩ : Addr).add j = ⟨g, j, none⟩ := by
  by_cases h : j = 0
  · subst h; simp [Addr.add]
  · simp [Addr.add, h]
/-- copy into a row that is known whole: what the row holds then; the other blocks stay. -/
theorem copy_into {P : Program} {w : World} {ops : Array Oper} {rest : List Oper} {o : Oper} {a : Act} {Q : Exit → Act → World → Prop} (hgd : o.guard = none) (d s : Operand) (dT sT : TypeId)
    (ho : o.op = .call { callee := .builtin .copy, args := #[d, s], argTypes := #[dT, sT] }) (elem : TypeId) (hu : P.underlying dT = some (.slice elem)) (hsz : (P.info? elem).map (·.size) = some 1)
    (dp sp : Option Addr) (dLen dCap sLen sCap : Nat) (hd : a.eval d = .slice dp dLen dCap) (hs : a.eval s = .slice sp sLen sCap)
    (g off : Nat) (cur : List Value) (t : TypeId) (hg : w.heap[g]? = some (.cells cur.toArray t (0, 0))) (cs : List Value) (hn : cs.length = Nat.min sLen dLen)
    (hpos : 0 < cs.length → dp = some ⟨g, off, none⟩ ∧ ∃ ad, sp = some ad ∧ ∀ j v, cs[j]? = some v → w.cell? (ad.add j) = some v)
    (hfit : off + cs.length ≤ cur.length) (h1 : ∀ v ∈ cs, v.oneCell' = true) (B : Nat) (w0 : World) (hb : Below B w0 w) (hBg : B ≤ g)
    (h : ∀ w', Hid (w'.heap[g]? = some (.cells (splice cur off cs).toArray t (0, 0))) → Below B w0 w' → Hid (∀ k, g ≠ k → w'.heap[k]? = w.heap[k]?) → wpList P ops Q rest (a.put o.dst (goInt cs.length)) w') :
    wpList P ops Q (o :: rest) a w := by
  by_cases h0 : cs.length = 0
  · obtain rfl : cs = [] := List.eq_nil_of_length_eq_zero h0
    refine wpList_copy_nothing hgd d s dT sT ho elem hu hsz dp sp dLen dCap sLen sCap hd hs (by simpa using hn.symm) ?_
    exact h w (show _ = _ by simpa [splice] using hg) hb (Lib.hid fun _ _ => rfl)
  · obtain ⟨rfl, ad, rfl, hsrc⟩ := hpos (by omega)
    refine wpList_copy_own hgd d s dT sT ho elem hu hsz g off dLen dCap ad sLen sCap hd hs cur.toArray t hg cs hn hsrc (by simpa using hfit) h1 ?_
    refine h _ (show _ = _ by simpa [splice] using setRow_heap w g _ _ t _ hg) (below_setRow hb hBg _) (Lib.hid fun k hk => ?_)
    exact setRow_other w g k _ (Ne.symm hk)
/-- The same, as one step of a region that draws. -/
theorem step_copy_into {P : Program} {ops : Array Oper} {o : Oper} {a : Act} {w : World} {K : Act → World → Prop} {Q : Exit → Act → World → Prop} {E : Prop} (hgd : o.guard = none) (d s : Operand) (dT sT : TypeId)
    (ho : o.op = .call { callee := .builtin .copy, args := #[d, s], argTypes := #[dT, sT] }) (elem : TypeId) (hu : P.underlying dT = some (.slice elem)) (hsz : (P.info? elem).map (·.size) = some 1)
    (dp sp : Option Addr) (dLen dCap sLen sCap : Nat) (hd : a.eval d = .slice dp dLen dCap) (hs : a.eval s = .slice sp sLen sCap)
    (g off : Nat) (cur : List Value) (t : TypeId) (hg : w.heap[g]? = some (.cells cur.toArray t (0, 0))) (cs : List Value) (hn : cs.length = Nat.min sLen dLen)
    (hpos : 0 < cs.length → dp = some ⟨g, off, none⟩ ∧ ∃ ad, sp = some ad ∧ ∀ j v, cs[j]? = some v → w.cell? (ad.add j) = some v)
    (hfit : off + cs.length ≤ cur.length) (h1 : ∀ v ∈ cs, v.oneCell' = true) (B : Nat) (w0 : World) (hb : Below B w0 w) (hBg : B ≤ g)
    (h : ∀ w', Hid (w'.heap[g]? = some (.cells (splice cur off cs).toArray t (0, 0))) → Below B w0 w' → Hid (∀ k, g ≠ k → w'.heap[k]? = w.heap[k]?) → K (a.put o.dst (goInt cs.length)) w') :
    if Region.wanted o (yielded ops a.tmps) = true then Oper.wp P o a w K Q else E := by
  have hw : Region.wanted o (yielded ops a.tmps) = true := by simp [Region.wanted, hgd]
  rw [if_pos hw]
  by_cases h0 : cs.length = 0
  · obtain rfl : cs = [] := List.eq_nil_of_length_eq_zero h0
    have hrun := run_copy_none (P := P) w dT sT o.type elem dp sp dLen dCap sLen sCap hu hsz (by simpa using hn.symm)
    unfold Oper.wp
    simp [execOp, ho, resolve, invoke, builtin, hd, hs, hrun, Result.andThen]
    exact h w (show _ = _ by simpa [splice] using hg) hb (Lib.hid fun _ _ => rfl)
  · obtain ⟨rfl, ad, rfl, hsrc⟩ := hpos (by omega)
    have hrun := run_copy_row (P := P) w dT sT o.type elem g off dLen dCap ad sLen sCap cur.toArray t cs hu hsz hg hn hsrc (by simpa using hfit) h1
    unfold Oper.wp
    simp [execOp, ho, resolve, invoke, builtin, hd, hs, hrun, Result.andThen]
    refine h _ (show _ = _ by simpa [splice] using setRow_heap w g _ _ t _ hg) (below_setRow hb hBg _) (Lib.hid fun k hk => ?_)
    exact setRow_other w g k _ (Ne.symm hk)
theorem splice8 (x y : List Nat) (lx ly : Nat) (hx : x.length = lx) (hy : y.length = ly) (h : lx + ly ≤ 8) :
    splice (splice [.int .u16 0, .int .u16 0, .int .u16 0, .int .u16 0, .int .u16 0, .int .u16 0, .int .u16 0, .int .u16 0] 0 (x.map (fun (n : Nat) => Value.int .u16 (n : Int)))) (8 - ly) (y.map (fun (n : Nat) => Value.int .u16 (n : Int))) = (x ++ List.replicate (8 - (lx + ly)) 0 ++ y).map (fun (n : Nat) => Value.int .u16 (n : Int)) := by
  have e : ([.int .u16 0, .int .u16 0, .int .u16 0, .int .u16 0, .int .u16 0, .int .u16 0, .int .u16 0, .int .u16 0] : List Value) = List.replicate 8 (.int .u16 0) := rfl
  rw [e]
  unfold splice
  rw [List.take_zero, List.nil_append, List.length_map, List.length_map, hx, hy, Nat.zero_add, List.drop_replicate, Nat.sub_add_cancel (by omega)]
  rw [List.drop_of_length_le (by simp [hx]; omega), List.append_nil, List.take_append, List.take_of_length_le (by simp [hx]; omega), List.length_map, hx, List.take_replicate]
  rw [List.map_append, List.map_append, List.map_replicate]
  congr 2
  rw [show min (8 - ly - lx) (8 - lx) = 8 - (lx + ly) by omega]
  rfl

set_option maxRecDepth 1000000 in
set_option maxHeartbeats 8000000 in
theorem IPv6_any (s : ByteArray) (w : World) (hs : s.size ≤ 1000000) (hG : GL w) :
    Calls Tryz.prog 14 #[.string s] w fun e w' => Ip6End (ip6 s.data.toList) e ∧ Below w.heap.size w w' := by
  have CC := Lib.hid (fun o => lib_Cut s ⟨#[58, 58]⟩ (w.alloc o) (hG.alloc o) hs)
  go_enter Tryz.func14, Tryz.ntmps14
  go_wp2_with fail
  refine (CC.out _).mono ?_
  rintro e w1 ⟨rfl, hb1⟩
  have hb01 : Below w.heap.size w w1 := ((Below.refl _ w).alloc (Nat.le_refl _) _).trans (hb1.mono (by simp))
  have hh1 : w1.heap[w.heap.size]? = some (.cells #[.int .u16 0, .int .u16 0, .int .u16 0, .int .u16 0, .int .u16 0, .int .u16 0, .int .u16 0, .int .u16 0] 39 (0, 0)) := by
    rw [hb1.block _ (by simp)]; exact heap_alloc_new w _
  have HH1 := Lib.hid hh1
  have hsz1 : w.heap.size < w1.heap.size := (Array.getElem?_eq_some_iff.1 hh1).1
  have hln : s.data.toList.length = s.size := (Lib.size_eq s).symm
  have hc1 := cut_fst_le s.data.toList [58, 58]
  have hc2 := cut_snd_le s.data.toList [58, 58]
  rw [hln] at hc1 hc2
  have hdef : Hid (ip6 s.data.toList = match piecesP (!(Lib.cut s.data.toList [58, 58]).2.2) (Lib.cut s.data.toList [58, 58]).1, piecesP true (Lib.cut s.data.toList [58, 58]).2.1 with
  | some x, some y =>
    if (if (Lib.cut s.data.toList [58, 58]).2.2 = true then x.length + y.length ≤ 7 else x.length + y.length = 8) then some (x ++ List.replicate (8 - (x.length + y.length)) 0 ++ y) else none
  | _, _ => none) := Lib.hid rfl
  generalize (Lib.cut s.data.toList [58, 58]).1 = ah at hdef hc1 ⊢
  generalize (Lib.cut s.data.toList [58, 58]).2.1 = bh at hdef hc2 ⊢
  generalize (Lib.cut s.data.toList [58, 58]).2.2 = sh at hdef ⊢
  have hG1 := hG.below hb01
  have CP1 := Lib.hid (pieces_any (strOf ah) (!sh) w1 (by rw [strOf_size]; omega) hG1)
  have CP2 := Lib.hid (fun w' hb => pieces_any (strOf bh) true w' (by rw [strOf_size]; omega) (hG1.below hb))
  rw [strOf_data] at CP1
  have hz1 : (strOf ah).size ≤ 1000000 := by rw [strOf_size]; omega
  have hz2 : (strOf bh).size ≤ 1000000 := by rw [strOf_size]; omega
  have CP2' : Hid (∀ w' : World, Below w1.heap.size w1 w' → Calls Tryz.prog 23 #[.string (strOf bh), .bool true] w' fun e w'' => PcEnd (piecesP true bh) ((strOf bh).size + 3) w'.heap.size w'' e ∧ Below w'.heap.size w' w'') := by
    have := CP2.out
    simp only [strOf_data] at this
    exact Lib.hid this
  generalize strOf ah = sa at CP1 hz1 ⊢
  generalize strOf bh = sb at CP2' hz2 ⊢
  clear CC CP2 hh1 hc1 hc2
  go_wp2_with fail
  refine CP1.out.mono ?_
  rintro e w2 ⟨⟨v1, o1, x, rfl, hx, hxl, hpx⟩, hb2⟩
  obtain ⟨ax, cx, rfl, hxs⟩ := hx.slice
  have HXS := Lib.hid hxs
  have HPX := Lib.hid hpx
  clear hx hxs hpx CP1
  go_wp2_with fail
  refine (CP2'.out _ hb2).mono ?_
  rintro e w3 ⟨⟨v2, o2, y, rfl, hy, hyl, hpy⟩, hb3⟩
  obtain ⟨ay, cy, rfl, hys⟩ := hy.slice
  have HYS := Lib.hid hys
  have HPY := Lib.hid hpy
  clear hy hys hpy CP2'
  have hdef2 : Hid (ip6 s.data.toList = match (if o1 = true then some x else none), (if o2 = true then some y else none) with
  | some x, some y =>
    if (if sh = true then x.length + y.length ≤ 7 else x.length + y.length = 8) then some (x ++ List.replicate (8 - (x.length + y.length)) 0 ++ y) else none
  | _, _ => none) := by
    rw [← HPX.out, ← HPY.out]; exact hdef
  clear HPX HPY hdef
  have hb03 : Below w.heap.size w w3 := (hb01.trans (hb2.mono (Nat.le_of_lt hsz1))).trans (hb3.mono (Nat.le_trans (Nat.le_of_lt hsz1) hb2.size))
  have hh3 := heap_below HH1.out (hb2.trans (hb3.mono hb2.size))
  have HH3 := Lib.hid hh3
  have hbx : Hid (0 < x.length → ∃ g, ax = some ⟨g, 0, none⟩ ∧ w.heap.size < g ∧ ∀ (j : Nat) (p : Nat), x[j]? = some p → w3.cell? ⟨g, j, none⟩ = some (.int .u16 (p : Int))) := by
    refine Lib.hid (fun h => ?_)
    obtain ⟨g, h1, h2, h3, h4⟩ := HXS.out h
    exact ⟨g, h1, by omega, fun j p hj => by rw [hb3.cell (p := ⟨g, j, none⟩) h3]; exact h4 j p hj⟩
  have hby : Hid (0 < y.length → ∃ g, ay = some ⟨g, 0, none⟩ ∧ w.heap.size < g ∧ ∀ (j : Nat) (p : Nat), y[j]? = some p → w3.cell? ⟨g, j, none⟩ = some (.int .u16 (p : Int))) := by
    refine Lib.hid (fun h => ?_)
    obtain ⟨g, h1, h2, h3, h4⟩ := HYS.out h
    exact ⟨g, h1, by have := hb2.size; omega, h4⟩
  have hG3 := (hG1.below hb2).below hb3
  clear HXS HYS HH1 hb2 hb3 hG1
  obtain ⟨lx, hlx⟩ : ∃ lx, x.length = lx := ⟨_, rfl⟩
  obtain ⟨ly, hly⟩ : ∃ ly, y.length = ly := ⟨_, rfl⟩
  rw [hlx] at hxl hbx ⊢
  rw [hly] at hyl hby ⊢
  have HLX := Lib.hid hlx
  have HLY := Lib.hid hly
  have hxb : lx ≤ 2000000 := by omega
  have hyb : ly ≤ 2000000 := by omega
  by_cases hgood : o1 = true ∧ o2 = true ∧ (if sh = true then lx + ly ≤ 7 else lx + ly = 8)
  · obtain ⟨rfl, rfl, hnum⟩ := hgood
    have h8 : lx + ly ≤ 8 := by
      cases sh with
      | true => exact Nat.le_succ_of_le (by simpa using hnum)
      | false => have : lx + ly = 8 := by simpa using hnum
                 omega
    have hr : ip6 s.data.toList = some (x ++ List.replicate (8 - (lx + ly)) 0 ++ y) := by
      rw [hdef2.out]
      simp only [if_true]
      rw [hlx, hly, if_pos hnum]
    have hLL : (x ++ List.replicate (8 - (lx + ly)) 0 ++ y).length = 8 := by simp [hlx, hly]; omega
    have hsp := splice8 x y lx ly hlx hly h8
    obtain ⟨L, hL⟩ : ∃ L, x ++ List.replicate (8 - (lx + ly)) 0 ++ y = L := ⟨_, rfl⟩
    rw [hL] at hr hLL hsp
    match L, hLL with
    | [a0, a1, a2, a3, a4, a5, a6, a7], _ =>
    have HR := Lib.hid hr
    have HSP := Lib.hid hsp
    obtain ⟨oy, co, hoy, hsb⟩ := slice8_back w.heap.size ly (by omega)
    have hsa := slice8_all w.heap.size
    have HOY := Lib.hid hoy
    have hways : (sh = true ∧ ¬ ((7 : Int) < (lx : Int) + (ly : Int))) ∨ (sh = false ∧ ((lx : Int) + (ly : Int) == 8) = true) := by
      cases sh with
      | true => exact Or.inl ⟨rfl, by have : lx + ly ≤ 7 := by simpa using hnum
                                      omega⟩
      | false => exact Or.inr ⟨rfl, beq_iff_eq.2 (by have : lx + ly = 8 := by simpa using hnum
                                                     omega)⟩
    have h8y : (ly : Int) ≤ 8 := by omega
    obtain ⟨X, hX⟩ : ∃ X : List Value, x.map (fun (n : Nat) => Value.int .u16 (n : Int)) = X := ⟨_, rfl⟩
    obtain ⟨Y, hY⟩ : ∃ Y : List Value, y.map (fun (n : Nat) => Value.int .u16 (n : Int)) = Y := ⟨_, rfl⟩
    have hXl : X.length = lx := by rw [← hX]; simp [hlx]
    have hYl : Y.length = ly := by rw [← hY]; simp [hly]
    have hX1 : ∀ v ∈ X, v.oneCell' = true := by rw [← hX]; intro v hv; obtain ⟨n, _, rfl⟩ := List.mem_map.1 hv; rfl
    have hY1 : ∀ v ∈ Y, v.oneCell' = true := by rw [← hY]; intro v hv; obtain ⟨n, _, rfl⟩ := List.mem_map.1 hv; rfl
    have hXc : 0 < X.length → ∃ ad, ax = some ad ∧ ∀ j v, X[j]? = some v → w3.cell? (ad.add j) = some v := by
      intro h
      obtain ⟨g, h1, h2, h3⟩ := hbx.out (by omega)
      refine ⟨_, h1, fun j v hv => ?_⟩
      rw [← hX, List.getElem?_map] at hv
      cases hj : x[j]? with
      | none => rw [hj] at hv; simp at hv
      | some n => rw [hj] at hv; simp at hv; subst hv; rw [add_zero_off]; exact h3 j n hj
    have hYc : Hid (∀ w4 : World, (∀ k, w.heap.size ≠ k → w4.heap[k]? = w3.heap[k]?) → 0 < Y.length → oy = 8 - ly ∧ ∃ ad, ay = some ad ∧ ∀ j v, Y[j]? = some v → w4.cell? (ad.add j) = some v) := by
      refine Lib.hid (fun w4 hk h => ?_)
      obtain ⟨g, h1, h2, h3⟩ := hby.out (by omega)
      refine ⟨HOY.out (by omega), _, h1, fun j v hv => ?_⟩
      rw [← hY, List.getElem?_map] at hv
      cases hj : y[j]? with
      | none => rw [hj] at hv; simp at hv
      | some n =>
        rw [hj] at hv
        simp at hv
        subst hv
        rw [add_zero_off]
        have h4 := h3 j n hj
        unfold World.cell? at h4 ⊢
        rw [show w4.heap[(⟨g, j, none⟩ : Addr).block]? = w3.heap[(⟨g, j, none⟩ : Addr).block]? from hk g (by omega)]
        exact h4
    have HXC := Lib.hid hXc
    rw [hX, hY] at HSP
    simp only [List.map_cons, List.map_nil] at HSP
    clear hL hr hsp hoy hXc hX hY hbx hby hnum hdef2 hlx hly hxl hyl hh3
    rcases hways with ⟨rfl, hn⟩ | ⟨rfl, hn⟩
    all_goals
      go_wp2_with (first
        | (refine copy_into rfl _ _ _ _ rfl 38 info8u size16 _ _ _ _ _ _ rfl rfl w.heap.size (8 - ly) _ 39 hg4.out Y (by rw [hYl]; exact (Nat.min_self _).symm) (fun h => ⟨congrArg (fun o => some (⟨w.heap.size, o, none⟩ : Addr)) (hYc.out w4 hk4.out h).1, (hYc.out w4 hk4.out h).2⟩) (by rw [length_splice _ _ _ (by rw [hXl]; simp; omega), hYl]; simp; omega) hY1 w.heap.size w hb4 (Nat.le_refl _) ?_; intro w5 hg5 hb5 hk5; have hg6 := hg5.out; rw [HSP.out] at hg6; clear hg5; have z0 := cell_of_heap hg6 0; have z1 := cell_of_heap hg6 1; have z2 := cell_of_heap hg6 2; have z3 := cell_of_heap hg6 3; have z4 := cell_of_heap hg6 4; have z5 := cell_of_heap hg6 5; have z6 := cell_of_heap hg6 6; have z7 := cell_of_heap hg6 7; simp only [eight0, eight1, eight2, eight3, eight4, eight5, eight6, eight7] at z0 z1 z2 z3 z4 z5 z6 z7; have f0 := frozen_of_heap hg6 0; have f1 := frozen_of_heap hg6 1; have f2 := frozen_of_heap hg6 2; have f3 := frozen_of_heap hg6 3; have f4 := frozen_of_heap hg6 4; have f5 := frozen_of_heap hg6 5; have f6 := frozen_of_heap hg6 6; have f7 := frozen_of_heap hg6 7; have HG6 := Lib.hid hg6; clear hg6)
        | (refine copy_into rfl _ _ _ _ rfl 38 info8u size16 _ _ _ _ _ _ rfl rfl w.heap.size 0 [.int .u16 0, .int .u16 0, .int .u16 0, .int .u16 0, .int .u16 0, .int .u16 0, .int .u16 0, .int .u16 0] 39 HH3.out X (by rw [hXl]; exact (Nat.min_eq_left (by omega)).symm) (fun h => ⟨rfl, HXC.out h⟩) (by rw [hXl]; simp; omega) hX1 w.heap.size w hb03 (Nat.le_refl _) ?_; intro w4 hg4 hb4 hk4))
      rw [eight_same HG6.out]
      exact bodyPost_ret (v := .tuple #[agg8 [a0, a1, a2, a3, a4, a5, a6, a7], .int .i64 0]) (by simp [results, Tryz.results14, go_sem, z0, z1, z2, z3, z4, z5, z6, z7, agg8, cells8]) rfl ⟨by rw [HR.out]; exact rfl, hb5⟩
  · have hr : Hid (ip6 s.data.toList = none) := by
      rw [hdef2.out]
      cases o1 with
      | false => exact Lib.hid rfl
      | true =>
        cases o2 with
        | false => exact Lib.hid rfl
        | true =>
          simp only [if_true]
          rw [if_neg]
          · exact Lib.hid rfl
          · rw [hlx, hly]
            exact fun h => hgood ⟨rfl, rfl, h⟩
    have hways : o1 = false ∨ (o1 = true ∧ o2 = false) ∨ (o1 = true ∧ o2 = true ∧ sh = true ∧ (7 : Int) < (lx : Int) + (ly : Int)) ∨ (o1 = true ∧ o2 = true ∧ sh = false ∧ ((lx : Int) + (ly : Int) == 8) = false) := by
      cases o1 with
      | false => exact Or.inl rfl
      | true =>
        cases o2 with
        | false => exact Or.inr (Or.inl ⟨rfl, rfl⟩)
        | true =>
          cases sh with
          | true =>
            have h : ¬ (lx + ly ≤ 7) := fun h => hgood ⟨rfl, rfl, h⟩
            exact Or.inr (Or.inr (Or.inl ⟨rfl, rfl, rfl, by omega⟩))
          | false =>
            have h : ¬ (lx + ly = 8) := fun h => hgood ⟨rfl, rfl, h⟩
            exact Or.inr (Or.inr (Or.inr ⟨rfl, rfl, rfl, beq_eq_false_iff_ne.2 (by omega)⟩))
    clear hgood hdef2 hbx hby hlx hly hxl hyl
    have z0 := cell_of_heap hh3 0
    have z1 := cell_of_heap hh3 1
    have z2 := cell_of_heap hh3 2
    have z3 := cell_of_heap hh3 3
    have z4 := cell_of_heap hh3 4
    have z5 := cell_of_heap hh3 5
    have z6 := cell_of_heap hh3 6
    have z7 := cell_of_heap hh3 7
    simp only [eight0, eight1, eight2, eight3, eight4, eight5, eight6, eight7] at z0 z1 z2 z3 z4 z5 z6 z7
    have f0 := frozen_of_heap hh3 0
    have f1 := frozen_of_heap hh3 1
    have f2 := frozen_of_heap hh3 2
    have f3 := frozen_of_heap hh3 3
    have f4 := frozen_of_heap hh3 4
    have f5 := frozen_of_heap hh3 5
    have f6 := frozen_of_heap hh3 6
    have f7 := frozen_of_heap hh3 7
    clear hh3
    rcases hways with rfl | ⟨rfl, rfl⟩ | ⟨rfl, rfl, rfl, hn⟩ | ⟨rfl, rfl, rfl, hn⟩
    all_goals
      go_wp2
      rw [eight_same HH3.out]
      exact bodyPost_ret (v := .tuple #[agg8 [0, 0, 0, 0, 0, 0, 0, 0], .int .i64 7]) (by simp [results, Tryz.results14, go_sem, z0, z1, z2, z3, z4, z5, z6, z7, agg8, cells8]) rfl ⟨by rw [hr.out]; exact rfl, hb03⟩
end Go.Proofs.YtlhbpdnbfghkoaaGreatDoor
