/- Slices of strings and of whole numbers that a call makes: appends, and strings.Join. -/
import Derived.Test.YtmgkmpbblhkacaaGreatDoorSplit
import Derived.Test.YtmgkmpbblhkacaaGreatDoorDec
import Derived.Laws.AppendOwn
import Derived.Laws.OwnMore
import Derived.Tactics2
namespace Go.Proofs.YtmgkmpbblhkacaaGreatDoor
open Go.RowKit
set_option linter.unusedSimpArgs false
set_option linter.unusedVariables false

theorem infoS : (Tryz.prog.info? 9).map (fun i => (i.zero, i.size, i.bytes)) = some (some (.string ByteArray.empty), 1, 16) := by kernel_rfl
theorem infoU : (Tryz.prog.info? 114).map (fun i => (i.zero, i.size, i.bytes)) = some (some (.int .u16 0), 1, 2) := by kernel_rfl

/-- A slice of strings in memory made since block B. -/
def OwnS (w : World) (B : Nat) (v : Value) (ps : List Bs) : Prop := w.ownsRow B 9 1 v ps.length (ps.map fun p => Value.string (strOf p))
def OwnU (w : World) (B : Nat) (v : Value) (xs : List Nat) : Prop := w.ownsRow B 114 1 v xs.length (xs.map fun (x : Nat) => Value.int .u16 (x : Int))

theorem OwnS.nil (w : World) (B : Nat) : OwnS w B (.slice none 0 0) [] := World.ownsRow_nil _ _ _ _
theorem OwnU.nil (w : World) (B : Nat) : OwnU w B (.slice none 0 0) [] := World.ownsRow_nil _ _ _ _
theorem ownsRow_below {w w' : World} {B e : Nat} {size n : Nat} {v : Value} {xs : List Value} (h : w.ownsRow B e size v n xs) (hb : Below w.heap.size w w') : w'.ownsRow B e size v n xs := by
  refine ⟨h.1, ?_⟩
  rcases h.2 with h | ⟨g, cap, cur, hv, hg, hc, r⟩
  · exact Or.inl h
  · refine Or.inr ⟨g, cap, cur, hv, hg, ?_, r⟩
    rw [hb.block g (Array.getElem?_eq_some_iff.1 hc).1]
    exact hc
theorem OwnS.below {w w' : World} {B : Nat} {v : Value} {ps : List Bs} (h : OwnS w B v ps) (hb : Below w.heap.size w w') : OwnS w' B v ps := ownsRow_below h hb
theorem OwnU.below {w w' : World} {B : Nat} {v : Value} {ps : List Nat} (h : OwnU w B v ps) (hb : Below w.heap.size w w') : OwnU w' B v ps := ownsRow_below h hb

theorem OwnS.form {w : World} {B : Nat} {v : Value} {ps : List Bs} (h : OwnS w B v ps) : (v = .slice none 0 0 ∧ ps = []) ∨ ∃ g cap, v = .slice (some ⟨g, 0, none⟩) ps.length cap ∧ B ≤ g ∧ ps.length ≤ cap ∧ g < w.heap.size ∧ ∀ (j : Nat) (p : Bs), ps[j]? = some p → w.cell? ⟨g, j, none⟩ = some (.string (strOf p)) := by
  rcases h.2 with ⟨h1, h2⟩ | ⟨g, cap, cur, hv, hg, hc, hn, hm, hs, ht⟩
  · exact Or.inl ⟨h1, List.eq_nil_of_length_eq_zero h2⟩
  · refine Or.inr ⟨g, cap, hv, hg, hn, (Array.getElem?_eq_some_iff.1 hc).1, fun j p hp => ?_⟩
    unfold World.cell?
    rw [show w.heap[(⟨g, j, none⟩ : Addr).block]? = some (.cells cur 9 (0, 0)) from hc]
    show cur[j]? = _
    have hj : j < ps.length := (List.getElem?_eq_some_iff.1 hp).1
    have h2 : (cur.toList.take (ps.length * 1))[j]? = some (Value.string (strOf p)) := by
      rw [ht, List.getElem?_map, hp]; rfl
    rw [List.getElem?_take_of_lt (by omega)] at h2
    simpa using h2
theorem OwnU.form {w : World} {B : Nat} {v : Value} {ps : List Nat} (h : OwnU w B v ps) : (v = .slice none 0 0 ∧ ps = []) ∨ ∃ g cap, v = .slice (some ⟨g, 0, none⟩) ps.length cap ∧ B ≤ g ∧ ps.length ≤ cap ∧ g < w.heap.size ∧ ∀ (j : Nat) (p : Nat), ps[j]? = some p → w.cell? ⟨g, j, none⟩ = some (.int .u16 (p : Int)) := by
  rcases h.2 with ⟨h1, h2⟩ | ⟨g, cap, cur, hv, hg, hc, hn, hm, hs, ht⟩
  · exact Or.inl ⟨h1, List.eq_nil_of_length_eq_zero h2⟩
  · refine Or.inr ⟨g, cap, hv, hg, hn, (Array.getElem?_eq_some_iff.1 hc).1, fun j p hp => ?_⟩
    unfold World.cell?
    rw [show w.heap[(⟨g, j, none⟩ : Addr).block]? = some (.cells cur 114 (0, 0)) from hc]
    show cur[j]? = _
    have hj : j < ps.length := (List.getElem?_eq_some_iff.1 hp).1
    have h2 : (cur.toList.take (ps.length * 1))[j]? = some (Value.int .u16 (p : Int)) := by
      rw [ht, List.getElem?_map, hp]; rfl
    rw [List.getElem?_take_of_lt (by omega)] at h2
    simpa using h2

/-- 's = append(s, x)', strings. -/
theorem app_str {w : World} {ops : Array Oper} {rest : List Oper} {o : Oper} {a : Act} {Q : Exit → Act → World → Prop} (hgd : o.guard = none) (s x : Operand)
    (ho : o.op = .call { callee := .builtin .append, args := #[s, x], argTypes := #[33, 33] }) (B : Nat) (v : Value) (ps : List Bs) (p : Bs) (hs : a.eval s = v) (hown : OwnS w B v ps)
    (ad : Addr) (c : Nat) (hx : a.eval x = .slice (some ad) 1 c) (hc : w.cell? ad = some (.string (strOf p))) (hn : ps.length ≤ 1000000000) (hB : B ≤ w.heap.size)
    (h : ∀ v' w', OwnS w' B v' (ps ++ [p]) → w.grownBy w' v.ownBlock → wpList Tryz.prog ops Q rest (a.put o.dst v') w') : wpList Tryz.prog ops Q (o :: rest) a w := by
  obtain ⟨i0, hi, hz0, hz1, hz2⟩ := info_parts infoS
  refine wpList_append_own w hgd s x 33 ho B 9 i0 (.string ByteArray.empty) 1 16 Tryz.underlying33 hi hz0 hz1 hz2 rfl (by decide) v ps.length _ hs hown ad 1 c [.string (strOf p)] hx rfl ?_ ?_ ?_ ?_ hB ?_
  · intro j u hu
    match j, hu with
    | 0, hu => simp at hu; subst hu; simpa [Addr.add] using hc
  · intro u hu; simp at hu; subst hu; rfl
  · unfold maxLen; omega
  · omega
  · intro v' w' h1 h2 _
    refine h v' w' ?_ h2
    unfold OwnS
    simpa using h1
/-- 's = append(s, x)', numbers of sixteen bits. -/
theorem app_u16 {w : World} {ops : Array Oper} {rest : List Oper} {o : Oper} {a : Act} {Q : Exit → Act → World → Prop} (hgd : o.guard = none) (s x : Operand)
    (ho : o.op = .call { callee := .builtin .append, args := #[s, x], argTypes := #[148, 148] }) (B : Nat) (v : Value) (ps qs : List Nat) (hs : a.eval s = v) (hown : OwnU w B v ps)
    (ad : Addr) (c : Nat) (hx : a.eval x = .slice (some ad) qs.length c) (hc : ∀ (j : Nat) (p : Nat), qs[j]? = some p → w.cell? (ad.add j) = some (.int .u16 (p : Int))) (hn : ps.length ≤ 1000000000) (hq : qs.length ≤ 1000000) (hB : B ≤ w.heap.size)
    (h : ∀ v' w', OwnU w' B v' (ps ++ qs) → w.grownBy w' v.ownBlock → wpList Tryz.prog ops Q rest (a.put o.dst v') w') : wpList Tryz.prog ops Q (o :: rest) a w := by
  obtain ⟨i0, hi, hz0, hz1, hz2⟩ := info_parts infoU
  refine wpList_append_own w hgd s x 148 ho B 114 i0 (.int .u16 0) 1 2 Tryz.underlying148 hi hz0 hz1 hz2 rfl (by decide) v ps.length _ hs hown ad qs.length c (qs.map fun (x : Nat) => Value.int .u16 (x : Int)) hx (by simp) ?_ ?_ ?_ ?_ hB ?_
  · intro j u hu
    rw [List.getElem?_map] at hu
    cases hq : qs[j]? with
    | none => rw [hq] at hu; simp at hu
    | some q => rw [hq] at hu; simp at hu; subst hu; exact hc j q hq
  · intro u hu; simp at hu; obtain ⟨q, _, rfl⟩ := hu; rfl
  · unfold maxLen; omega
  · omega
  · intro v' w' h1 h2 _
    refine h v' w' ?_ h2
    unfold OwnU
    simpa using h1

theorem below_grownOwn {B : Nat} {a w w' : World} {v : Value} (h : Below B a w) (hg : w.grownBy w' v.ownBlock) (hB : B ≤ w.heap.size) (hv : ∀ k, v.ownBlock = some k → B ≤ k) : Below B a w' := h.grown hg hB hv
theorem OwnS.base {w : World} {B : Nat} {v : Value} {ps : List Bs} (h : OwnS w B v ps) : ∀ k, v.ownBlock = some k → B ≤ k := by
  rcases h.form with ⟨rfl, _⟩ | ⟨g, cap, rfl, hg, _⟩
  · intro k hk; simp [Value.ownBlock] at hk
  · intro k hk; simp [Value.ownBlock] at hk; omega
theorem OwnU.base {w : World} {B : Nat} {v : Value} {ps : List Nat} (h : OwnU w B v ps) : ∀ k, v.ownBlock = some k → B ≤ k := by
  rcases h.form with ⟨rfl, _⟩ | ⟨g, cap, rfl, hg, _⟩
  · intro k hk; simp [Value.ownBlock] at hk
  · intro k hk; simp [Value.ownBlock] at hk; omega

def joinB (sep : UInt8) (ps : List Bs) : Bs := List.intercalate [sep] ps
end Go.Proofs.YtmgkmpbblhkacaaGreatDoor
