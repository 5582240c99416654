/- Maps of literals: an insert and a look-up as equations. source.standard, weburl.special: maps of literals. source.together. -/
import Derived.Test.YtmgkmpbblhkacaaGreatDoorLib
import Derived.MapKept
import Derived.Test.YtmgkmpbblhkacaaGreatDoorMgT
namespace Go.Proofs.YtmgkmpbblhkacaaGreatDoor
open Go.RowKit Go.MapKept
set_option linter.unusedSimpArgs false
set_option linter.unusedVariables false

theorem run_getObj_map {P : Program} {w : World} {r : Nat} {es : Array MapEntry} {c : Nat} (hb : w.heap[r]? = some (.map es c)) : (getObj r).run P w = .ok (.map es c) w := by
  simp only [getObj, Sem.run]
  rw [hb]
theorem run_insert_lit {P : Program} {u : World} {T kt et : TypeId} {d : TypeDesc} {es : Array MapEntry} {c : Nat} {k v : Value} (hT : P.underlying T = some (.map kt et)) (hd : P.underlying kt = some d) (hk : IsKey d k) (hf : Instr.findNow d k es.toList 0 = some none) :
    (Instr.mapUpdate T (.map (some u.heap.size)) k v).run P (u.alloc (.map es c)) = .ok () (u.alloc (.map (es.push { key := k, val := v, born := c }) (c + 1))) := by
  have hb : (u.alloc (.map es c)).heap[u.heap.size]? = some (.map es c) := heap_alloc_new u _
  have h1 := run_checkKey (P := P) (w := u.alloc (.map es c)) hd hk false 9999
  have h2 := run_findKey (P := P) (w := u.alloc (.map es c)) hd hf
  have h3 := run_setObj_map (P := P) (.map (es.push { key := k, val := v, born := c }) (c + 1)) hb
  have hg : (getObj u.heap.size).run P (u.alloc (.map es c)) = .ok (.map es c) (u.alloc (.map es c)) := run_getObj_map hb
  have hw : ({ (u.alloc (.map es c)) with heap := (u.alloc (.map es c)).heap.setIfInBounds u.heap.size (.map (es.push { key := k, val := v, born := c }) (c + 1)) } : World) = u.alloc (.map (es.push { key := k, val := v, born := c }) (c + 1)) := by
    have : (u.heap.push (.map es c)).setIfInBounds u.heap.size (.map (es.push { key := k, val := v, born := c }) (c + 1)) = u.heap.push (.map (es.push { key := k, val := v, born := c }) (c + 1)) := by
      apply Array.ext_getElem?
      intro i
      rw [Array.getElem?_setIfInBounds, Array.getElem?_push, Array.getElem?_push]
      by_cases hi : u.heap.size = i
      · subst hi
        simp
      · rw [if_neg hi, if_neg (fun e => hi e.symm), if_neg (fun e => hi e.symm)]
    simp only [World.alloc, this]
  unfold Instr.mapUpdate
  simp only [Sem.run_bind, run_underlying hT, Result.andThen, hg, h1, h2, h3, hw]
theorem run_look_lit {P : Program} {u : World} {T kt et : TypeId} {d : TypeDesc} {es : Array MapEntry} {c i : Nat} {k v : Value} (ok : Bool) (hT : P.underlying T = some (.map kt et)) (hd : P.underlying kt = some d) (hk : IsKey d k) (hf : Instr.findNow d k es.toList 0 = some (some (i, v))) :
    (Instr.lookup T (.map (some u.heap.size)) k ok).run P (u.alloc (.map es c)) = .ok (if ok then .tuple #[v, .bool true] else v) (u.alloc (.map es c)) := by
  have hb : (u.alloc (.map es c)).heap[u.heap.size]? = some (.map es c) := heap_alloc_new u _
  have h1 := run_checkKey (P := P) (w := u.alloc (.map es c)) hd hk es.isEmpty 9999
  have h2 := run_findKey (P := P) (w := u.alloc (.map es c)) hd hf
  have hg : (getObj u.heap.size).run P (u.alloc (.map es c)) = .ok (.map es c) (u.alloc (.map es c)) := run_getObj_map hb
  unfold Instr.lookup
  simp only [Sem.run_bind, run_underlying hT, Result.andThen, hg, h1, h2, Sem.run_pure]
theorem run_look_none {P : Program} {u : World} {T kt et : TypeId} {d : TypeDesc} {es : Array MapEntry} {c : Nat} {k z : Value} (ok : Bool) (hT : P.underlying T = some (.map kt et)) (hd : P.underlying kt = some d) (hk : IsKey d k) (hf : Instr.findNow d k es.toList 0 = some none) (hz : ∀ w, (zeroValue et).run P w = .ok z w) :
    (Instr.lookup T (.map (some u.heap.size)) k ok).run P (u.alloc (.map es c)) = .ok (if ok then .tuple #[z, .bool false] else z) (u.alloc (.map es c)) := by
  have hb : (u.alloc (.map es c)).heap[u.heap.size]? = some (.map es c) := heap_alloc_new u _
  have h1 := run_checkKey (P := P) (w := u.alloc (.map es c)) hd hk es.isEmpty 9999
  have h2 := run_findKey (P := P) (w := u.alloc (.map es c)) hd hf
  have hg : (getObj u.heap.size).run P (u.alloc (.map es c)) = .ok (.map es c) (u.alloc (.map es c)) := run_getObj_map hb
  unfold Instr.lookup
  simp only [Sem.run_bind, run_underlying hT, Result.andThen, hg, h1, h2, hz, Sem.run_pure]
/-- Two blocks that a walk has laid, behind a quiet call. -/
theorem two_past {w w1 : World} {A B : Obj} (hb : Below ((w.alloc A).alloc B).heap.size ((w.alloc A).alloc B) w1) :
    Below w.heap.size w w1 ∧ w1.heap[w.heap.size]? = some A ∧ w1.heap[w.heap.size + 1]? = some B := by
  have s1 : (w.alloc A).heap.size = w.heap.size + 1 := by show (w.heap.push _).size = _; rw [Array.size_push]
  have s2 : ((w.alloc A).alloc B).heap.size = w.heap.size + 2 := by show ((w.alloc A).heap.push _).size = _; rw [Array.size_push, s1]
  rw [s2] at hb
  refine ⟨?_, ?_, ?_⟩
  · exact (((Below.refl _ w).alloc (Nat.le_refl _) _).alloc (by omega) _).trans (hb.mono (by omega))
  · rw [hb.block _ (by omega), Below.heap_alloc _ _ _ (by omega)]
    exact heap_alloc_new w _
  · rw [hb.block _ (by omega), ← s1]
    exact heap_alloc_new _ _
theorem three_size (w : World) (A B C : Obj) : (((w.alloc A).alloc B).alloc C).heap.size = w.heap.size + 1 + 1 + 1 := by
  show (((w.heap.push A).push B).push C).size = _
  rw [Array.size_push, Array.size_push, Array.size_push]
theorem run_insert_three {P : Program} {w : World} {T kt et : TypeId} {d : TypeDesc} {es : Array MapEntry} {c : Nat} {k v : Value} (A B C : Obj) (hT : P.underlying T = some (.map kt et)) (hd : P.underlying kt = some d) (hk : IsKey d k) (hf : Instr.findNow d k es.toList 0 = some none) :
    (Instr.mapUpdate T (.map (some (w.heap.size + 1 + 1 + 1))) k v).run P ((((w.alloc A).alloc B).alloc C).alloc (.map es c)) = .ok () ((((w.alloc A).alloc B).alloc C).alloc (.map (es.push { key := k, val := v, born := c }) (c + 1))) := by
  have h := run_insert_lit (P := P) (u := ((w.alloc A).alloc B).alloc C) (v := v) (c := c) hT hd hk hf
  rw [three_size] at h; exact h
theorem run_look_three {P : Program} {w : World} {T kt et : TypeId} {d : TypeDesc} {es : Array MapEntry} {c i : Nat} {k v : Value} (A B C : Obj) (ok : Bool) (hT : P.underlying T = some (.map kt et)) (hd : P.underlying kt = some d) (hk : IsKey d k) (hf : Instr.findNow d k es.toList 0 = some (some (i, v))) :
    (Instr.lookup T (.map (some (w.heap.size + 1 + 1 + 1))) k ok).run P ((((w.alloc A).alloc B).alloc C).alloc (.map es c)) = .ok (if ok then .tuple #[v, .bool true] else v) ((((w.alloc A).alloc B).alloc C).alloc (.map es c)) := by
  have h := run_look_lit (P := P) (u := ((w.alloc A).alloc B).alloc C) (c := c) ok hT hd hk hf
  rw [three_size] at h; exact h
theorem run_none_three {P : Program} {w : World} {T kt et : TypeId} {d : TypeDesc} {es : Array MapEntry} {c : Nat} {k z : Value} (A B C : Obj) (ok : Bool) (hT : P.underlying T = some (.map kt et)) (hd : P.underlying kt = some d) (hk : IsKey d k) (hf : Instr.findNow d k es.toList 0 = some none) (hz : ∀ w, (zeroValue et).run P w = .ok z w) :
    (Instr.lookup T (.map (some (w.heap.size + 1 + 1 + 1))) k ok).run P ((((w.alloc A).alloc B).alloc C).alloc (.map es c)) = .ok (if ok then .tuple #[z, .bool false] else z) ((((w.alloc A).alloc B).alloc C).alloc (.map es c)) := by
  have h := run_look_none (P := P) (u := ((w.alloc A).alloc B).alloc C) (c := c) ok hT hd hk hf hz
  rw [three_size] at h; exact h
theorem bytes_ne {s t : ByteArray} (h : s.data.toList ≠ t.data.toList) : (s == t) = false := by
  rw [Bool.eq_false_iff]
  intro e
  exact h (by rw [(bytes_beq s t).1 e])
end Go.Proofs.YtmgkmpbblhkacaaGreatDoor
namespace Go.Proofs.YtmgkmpbblhkacaaGreatDoor
open Go.RowKit Go.MapKept
set_option linter.unusedSimpArgs false
set_option linter.unusedVariables false

theorem zero_int (w : World) : (zeroValue 3).run Tryz.prog w = .ok (.int .i64 0) w := by kernel_rfl
theorem findNow_skip (s t : ByteArray) (v : Value) (n i : Nat) (es : List MapEntry) (h : (s == t) = false) : Instr.findNow .string (.string s) ({ key := .string t, val := v, born := n } :: es) i = Instr.findNow .string (.string s) es (i + 1) := by
  simp only [Instr.findNow, Instr.sameNow, h]
theorem findNow_hit (t : ByteArray) (v : Value) (n i : Nat) (es : List MapEntry) : Instr.findNow .string (.string t) ({ key := .string t, val := v, born := n } :: es) i = some (some (i, v)) := by
  have h : (t == t) = true := (bytes_beq t t).2 rfl
  simp only [Instr.findNow, Instr.sameNow, h]
/-- A scheme's port, or -1. -/
def stdP (s : Bs) : Int := if s = sHttp ∨ s = sWs then 80 else if s = sHttps ∨ s = sWss then 443 else -1
set_option maxRecDepth 1000000 in
set_option maxHeartbeats 4000000 in
theorem standard_any (s : ByteArray) (w : World) :
    Calls Tryz.prog 89 #[.string s] w fun e w' => e = .returned (.int .i64 (stdP s.data.toList)) ∧ Below w.heap.size w w' := by
  have hmm := @run_makeMap Tryz.prog
  have ins0 : ∀ u : World, (Instr.mapUpdate 127 (.map (some u.heap.size)) (.string ⟨#[104, 116, 116, 112]⟩) (.int .i64 80)).run Tryz.prog (u.alloc (.map #[] 0)) = .ok () (u.alloc (.map #[{ key := .string ⟨#[104, 116, 116, 112]⟩, val := .int .i64 80, born := 0 }] 1)) := fun u => run_insert_lit (d := .string) Tryz.underlying127 Tryz.underlying9 trivial (by rfl)
  have ins1 : ∀ u : World, (Instr.mapUpdate 127 (.map (some u.heap.size)) (.string ⟨#[119, 115]⟩) (.int .i64 80)).run Tryz.prog (u.alloc (.map #[{ key := .string ⟨#[104, 116, 116, 112]⟩, val := .int .i64 80, born := 0 }] 1)) = .ok () (u.alloc (.map #[{ key := .string ⟨#[104, 116, 116, 112]⟩, val := .int .i64 80, born := 0 }, { key := .string ⟨#[119, 115]⟩, val := .int .i64 80, born := 1 }] 2)) := fun u => run_insert_lit (d := .string) Tryz.underlying127 Tryz.underlying9 trivial (by rfl)
  have ins2 : ∀ u : World, (Instr.mapUpdate 127 (.map (some u.heap.size)) (.string ⟨#[104, 116, 116, 112, 115]⟩) (.int .i64 443)).run Tryz.prog (u.alloc (.map #[{ key := .string ⟨#[104, 116, 116, 112]⟩, val := .int .i64 80, born := 0 }, { key := .string ⟨#[119, 115]⟩, val := .int .i64 80, born := 1 }] 2)) = .ok () (u.alloc (.map #[{ key := .string ⟨#[104, 116, 116, 112]⟩, val := .int .i64 80, born := 0 }, { key := .string ⟨#[119, 115]⟩, val := .int .i64 80, born := 1 }, { key := .string ⟨#[104, 116, 116, 112, 115]⟩, val := .int .i64 443, born := 2 }] 3)) := fun u => run_insert_lit (d := .string) Tryz.underlying127 Tryz.underlying9 trivial (by rfl)
  have ins3 : ∀ u : World, (Instr.mapUpdate 127 (.map (some u.heap.size)) (.string ⟨#[119, 115, 115]⟩) (.int .i64 443)).run Tryz.prog (u.alloc (.map #[{ key := .string ⟨#[104, 116, 116, 112]⟩, val := .int .i64 80, born := 0 }, { key := .string ⟨#[119, 115]⟩, val := .int .i64 80, born := 1 }, { key := .string ⟨#[104, 116, 116, 112, 115]⟩, val := .int .i64 443, born := 2 }] 3)) = .ok () (u.alloc (.map #[{ key := .string ⟨#[104, 116, 116, 112]⟩, val := .int .i64 80, born := 0 }, { key := .string ⟨#[119, 115]⟩, val := .int .i64 80, born := 1 }, { key := .string ⟨#[104, 116, 116, 112, 115]⟩, val := .int .i64 443, born := 2 }, { key := .string ⟨#[119, 115, 115]⟩, val := .int .i64 443, born := 3 }] 4)) := fun u => run_insert_lit (d := .string) Tryz.underlying127 Tryz.underlying9 trivial (by rfl)
  by_cases h0 : s.data.toList = sHttp
  · have hr : Hid (stdP s.data.toList = 80) := Lib.hid (by rw [h0]; decide)
    obtain rfl := str_of s _ h0
    have hlk : ∀ u : World, (Instr.lookup 127 (.map (some u.heap.size)) (.string ⟨#[104, 116, 116, 112]⟩) true).run Tryz.prog (u.alloc (.map #[{ key := .string ⟨#[104, 116, 116, 112]⟩, val := .int .i64 80, born := 0 }, { key := .string ⟨#[119, 115]⟩, val := .int .i64 80, born := 1 }, { key := .string ⟨#[104, 116, 116, 112, 115]⟩, val := .int .i64 443, born := 2 }, { key := .string ⟨#[119, 115, 115]⟩, val := .int .i64 443, born := 3 }] 4)) = .ok (.tuple #[.int .i64 80, .bool true]) (u.alloc (.map #[{ key := .string ⟨#[104, 116, 116, 112]⟩, val := .int .i64 80, born := 0 }, { key := .string ⟨#[119, 115]⟩, val := .int .i64 80, born := 1 }, { key := .string ⟨#[104, 116, 116, 112, 115]⟩, val := .int .i64 443, born := 2 }, { key := .string ⟨#[119, 115, 115]⟩, val := .int .i64 443, born := 3 }] 4)) := fun u => run_look_lit (d := .string) (i := 0) true Tryz.underlying127 Tryz.underlying9 trivial (by rfl)
    unfold sHttp strOf at *
    clear h0 
    go_enter Tryz.func89, Tryz.ntmps89
    go_wp2
    go_ret
    exact ⟨by rw [hr.out]; rfl, (Below.refl _ w).alloc (Nat.le_refl _) _⟩
  · skip
    by_cases h1 : s.data.toList = sWs
    · have hr : Hid (stdP s.data.toList = 80) := Lib.hid (by rw [h1]; decide)
      obtain rfl := str_of s _ h1
      have hlk : ∀ u : World, (Instr.lookup 127 (.map (some u.heap.size)) (.string ⟨#[119, 115]⟩) true).run Tryz.prog (u.alloc (.map #[{ key := .string ⟨#[104, 116, 116, 112]⟩, val := .int .i64 80, born := 0 }, { key := .string ⟨#[119, 115]⟩, val := .int .i64 80, born := 1 }, { key := .string ⟨#[104, 116, 116, 112, 115]⟩, val := .int .i64 443, born := 2 }, { key := .string ⟨#[119, 115, 115]⟩, val := .int .i64 443, born := 3 }] 4)) = .ok (.tuple #[.int .i64 80, .bool true]) (u.alloc (.map #[{ key := .string ⟨#[104, 116, 116, 112]⟩, val := .int .i64 80, born := 0 }, { key := .string ⟨#[119, 115]⟩, val := .int .i64 80, born := 1 }, { key := .string ⟨#[104, 116, 116, 112, 115]⟩, val := .int .i64 443, born := 2 }, { key := .string ⟨#[119, 115, 115]⟩, val := .int .i64 443, born := 3 }] 4)) := fun u => run_look_lit (d := .string) (i := 1) true Tryz.underlying127 Tryz.underlying9 trivial (by rfl)
      unfold sWs strOf at *
      clear h1 h0
      go_enter Tryz.func89, Tryz.ntmps89
      go_wp2
      go_ret
      exact ⟨by rw [hr.out]; rfl, (Below.refl _ w).alloc (Nat.le_refl _) _⟩
    · skip
      by_cases h2 : s.data.toList = sHttps
      · have hr : Hid (stdP s.data.toList = 443) := Lib.hid (by rw [h2]; decide)
        obtain rfl := str_of s _ h2
        have hlk : ∀ u : World, (Instr.lookup 127 (.map (some u.heap.size)) (.string ⟨#[104, 116, 116, 112, 115]⟩) true).run Tryz.prog (u.alloc (.map #[{ key := .string ⟨#[104, 116, 116, 112]⟩, val := .int .i64 80, born := 0 }, { key := .string ⟨#[119, 115]⟩, val := .int .i64 80, born := 1 }, { key := .string ⟨#[104, 116, 116, 112, 115]⟩, val := .int .i64 443, born := 2 }, { key := .string ⟨#[119, 115, 115]⟩, val := .int .i64 443, born := 3 }] 4)) = .ok (.tuple #[.int .i64 443, .bool true]) (u.alloc (.map #[{ key := .string ⟨#[104, 116, 116, 112]⟩, val := .int .i64 80, born := 0 }, { key := .string ⟨#[119, 115]⟩, val := .int .i64 80, born := 1 }, { key := .string ⟨#[104, 116, 116, 112, 115]⟩, val := .int .i64 443, born := 2 }, { key := .string ⟨#[119, 115, 115]⟩, val := .int .i64 443, born := 3 }] 4)) := fun u => run_look_lit (d := .string) (i := 2) true Tryz.underlying127 Tryz.underlying9 trivial (by rfl)
        unfold sHttps strOf at *
        clear h2 h0 h1
        go_enter Tryz.func89, Tryz.ntmps89
        go_wp2
        go_ret
        exact ⟨by rw [hr.out]; rfl, (Below.refl _ w).alloc (Nat.le_refl _) _⟩
      · skip
        by_cases h3 : s.data.toList = sWss
        · have hr : Hid (stdP s.data.toList = 443) := Lib.hid (by rw [h3]; decide)
          obtain rfl := str_of s _ h3
          have hlk : ∀ u : World, (Instr.lookup 127 (.map (some u.heap.size)) (.string ⟨#[119, 115, 115]⟩) true).run Tryz.prog (u.alloc (.map #[{ key := .string ⟨#[104, 116, 116, 112]⟩, val := .int .i64 80, born := 0 }, { key := .string ⟨#[119, 115]⟩, val := .int .i64 80, born := 1 }, { key := .string ⟨#[104, 116, 116, 112, 115]⟩, val := .int .i64 443, born := 2 }, { key := .string ⟨#[119, 115, 115]⟩, val := .int .i64 443, born := 3 }] 4)) = .ok (.tuple #[.int .i64 443, .bool true]) (u.alloc (.map #[{ key := .string ⟨#[104, 116, 116, 112]⟩, val := .int .i64 80, born := 0 }, { key := .string ⟨#[119, 115]⟩, val := .int .i64 80, born := 1 }, { key := .string ⟨#[104, 116, 116, 112, 115]⟩, val := .int .i64 443, born := 2 }, { key := .string ⟨#[119, 115, 115]⟩, val := .int .i64 443, born := 3 }] 4)) := fun u => run_look_lit (d := .string) (i := 3) true Tryz.underlying127 Tryz.underlying9 trivial (by rfl)
          unfold sWss strOf at *
          clear h3 h0 h1 h2
          go_enter Tryz.func89, Tryz.ntmps89
          go_wp2
          go_ret
          exact ⟨by rw [hr.out]; rfl, (Below.refl _ w).alloc (Nat.le_refl _) _⟩
        · skip
          have hr : Hid (stdP s.data.toList = -1) := Lib.hid (by unfold stdP; rw [if_neg (by rintro (h | h); exact h0 h; exact h1 h), if_neg (by rintro (h | h); exact h2 h; exact h3 h)])
          have hlk : ∀ u : World, (Instr.lookup 127 (.map (some u.heap.size)) (.string s) true).run Tryz.prog (u.alloc (.map #[{ key := .string ⟨#[104, 116, 116, 112]⟩, val := .int .i64 80, born := 0 }, { key := .string ⟨#[119, 115]⟩, val := .int .i64 80, born := 1 }, { key := .string ⟨#[104, 116, 116, 112, 115]⟩, val := .int .i64 443, born := 2 }, { key := .string ⟨#[119, 115, 115]⟩, val := .int .i64 443, born := 3 }] 4)) = .ok (.tuple #[.int .i64 0, .bool false]) (u.alloc (.map #[{ key := .string ⟨#[104, 116, 116, 112]⟩, val := .int .i64 80, born := 0 }, { key := .string ⟨#[119, 115]⟩, val := .int .i64 80, born := 1 }, { key := .string ⟨#[104, 116, 116, 112, 115]⟩, val := .int .i64 443, born := 2 }, { key := .string ⟨#[119, 115, 115]⟩, val := .int .i64 443, born := 3 }] 4)) := fun u => run_look_none (d := .string) true Tryz.underlying127 Tryz.underlying9 trivial (by
              show Instr.findNow .string (.string s) [{ key := .string ⟨#[104, 116, 116, 112]⟩, val := .int .i64 80, born := 0 }, { key := .string ⟨#[119, 115]⟩, val := .int .i64 80, born := 1 }, { key := .string ⟨#[104, 116, 116, 112, 115]⟩, val := .int .i64 443, born := 2 }, { key := .string ⟨#[119, 115, 115]⟩, val := .int .i64 443, born := 3 }] 0 = _
              rw [findNow_skip _ _ _ _ _ _ (bytes_ne (by exact h0))]
              rw [findNow_skip _ _ _ _ _ _ (bytes_ne (by exact h1))]
              rw [findNow_skip _ _ _ _ _ _ (bytes_ne (by exact h2))]
              rw [findNow_skip _ _ _ _ _ _ (bytes_ne (by exact h3))]
              rfl) zero_int
          clear h0 h1 h2 h3
          go_enter Tryz.func89, Tryz.ntmps89
          go_wp2
          go_ret
          exact ⟨by rw [hr.out]; rfl, (Below.refl _ w).alloc (Nat.le_refl _) _⟩
/-- weburl.ports' map. -/
def portsM : Array MapEntry := #[{ key := .string ⟨#[104, 116, 116, 112]⟩, val := .int .i64 80, born := 0 }, { key := .string ⟨#[104, 116, 116, 112, 115]⟩, val := .int .i64 443, born := 1 }, { key := .string ⟨#[119, 115]⟩, val := .int .i64 80, born := 2 }, { key := .string ⟨#[119, 115, 115]⟩, val := .int .i64 443, born := 3 }, { key := .string ⟨#[100, 97, 116, 97]⟩, val := .int .i64 0, born := 4 }, { key := .string ⟨#[98, 108, 111, 98]⟩, val := .int .i64 0, born := 5 }, { key := .string ⟨#[97, 98, 111, 117, 116]⟩, val := .int .i64 0, born := 6 }]
set_option maxRecDepth 1000000 in
set_option maxHeartbeats 4000000 in
theorem ports_any (w : World) :
    Calls Tryz.prog 124 #[] w fun e w' => e = .returned (.map (some w.heap.size)) ∧ w' = w.alloc (.map portsM 7) := by
  have hmm := @run_makeMap Tryz.prog
  have ins0 : ∀ u : World, (Instr.mapUpdate 127 (.map (some u.heap.size)) (.string ⟨#[104, 116, 116, 112]⟩) (.int .i64 80)).run Tryz.prog (u.alloc (.map #[] 0)) = .ok () (u.alloc (.map #[{ key := .string ⟨#[104, 116, 116, 112]⟩, val := .int .i64 80, born := 0 }] 1)) := fun u => run_insert_lit (d := .string) Tryz.underlying127 Tryz.underlying9 trivial (by rfl)
  have ins1 : ∀ u : World, (Instr.mapUpdate 127 (.map (some u.heap.size)) (.string ⟨#[104, 116, 116, 112, 115]⟩) (.int .i64 443)).run Tryz.prog (u.alloc (.map #[{ key := .string ⟨#[104, 116, 116, 112]⟩, val := .int .i64 80, born := 0 }] 1)) = .ok () (u.alloc (.map #[{ key := .string ⟨#[104, 116, 116, 112]⟩, val := .int .i64 80, born := 0 }, { key := .string ⟨#[104, 116, 116, 112, 115]⟩, val := .int .i64 443, born := 1 }] 2)) := fun u => run_insert_lit (d := .string) Tryz.underlying127 Tryz.underlying9 trivial (by rfl)
  have ins2 : ∀ u : World, (Instr.mapUpdate 127 (.map (some u.heap.size)) (.string ⟨#[119, 115]⟩) (.int .i64 80)).run Tryz.prog (u.alloc (.map #[{ key := .string ⟨#[104, 116, 116, 112]⟩, val := .int .i64 80, born := 0 }, { key := .string ⟨#[104, 116, 116, 112, 115]⟩, val := .int .i64 443, born := 1 }] 2)) = .ok () (u.alloc (.map #[{ key := .string ⟨#[104, 116, 116, 112]⟩, val := .int .i64 80, born := 0 }, { key := .string ⟨#[104, 116, 116, 112, 115]⟩, val := .int .i64 443, born := 1 }, { key := .string ⟨#[119, 115]⟩, val := .int .i64 80, born := 2 }] 3)) := fun u => run_insert_lit (d := .string) Tryz.underlying127 Tryz.underlying9 trivial (by rfl)
  have ins3 : ∀ u : World, (Instr.mapUpdate 127 (.map (some u.heap.size)) (.string ⟨#[119, 115, 115]⟩) (.int .i64 443)).run Tryz.prog (u.alloc (.map #[{ key := .string ⟨#[104, 116, 116, 112]⟩, val := .int .i64 80, born := 0 }, { key := .string ⟨#[104, 116, 116, 112, 115]⟩, val := .int .i64 443, born := 1 }, { key := .string ⟨#[119, 115]⟩, val := .int .i64 80, born := 2 }] 3)) = .ok () (u.alloc (.map #[{ key := .string ⟨#[104, 116, 116, 112]⟩, val := .int .i64 80, born := 0 }, { key := .string ⟨#[104, 116, 116, 112, 115]⟩, val := .int .i64 443, born := 1 }, { key := .string ⟨#[119, 115]⟩, val := .int .i64 80, born := 2 }, { key := .string ⟨#[119, 115, 115]⟩, val := .int .i64 443, born := 3 }] 4)) := fun u => run_insert_lit (d := .string) Tryz.underlying127 Tryz.underlying9 trivial (by rfl)
  have ins4 : ∀ u : World, (Instr.mapUpdate 127 (.map (some u.heap.size)) (.string ⟨#[100, 97, 116, 97]⟩) (.int .i64 0)).run Tryz.prog (u.alloc (.map #[{ key := .string ⟨#[104, 116, 116, 112]⟩, val := .int .i64 80, born := 0 }, { key := .string ⟨#[104, 116, 116, 112, 115]⟩, val := .int .i64 443, born := 1 }, { key := .string ⟨#[119, 115]⟩, val := .int .i64 80, born := 2 }, { key := .string ⟨#[119, 115, 115]⟩, val := .int .i64 443, born := 3 }] 4)) = .ok () (u.alloc (.map #[{ key := .string ⟨#[104, 116, 116, 112]⟩, val := .int .i64 80, born := 0 }, { key := .string ⟨#[104, 116, 116, 112, 115]⟩, val := .int .i64 443, born := 1 }, { key := .string ⟨#[119, 115]⟩, val := .int .i64 80, born := 2 }, { key := .string ⟨#[119, 115, 115]⟩, val := .int .i64 443, born := 3 }, { key := .string ⟨#[100, 97, 116, 97]⟩, val := .int .i64 0, born := 4 }] 5)) := fun u => run_insert_lit (d := .string) Tryz.underlying127 Tryz.underlying9 trivial (by rfl)
  have ins5 : ∀ u : World, (Instr.mapUpdate 127 (.map (some u.heap.size)) (.string ⟨#[98, 108, 111, 98]⟩) (.int .i64 0)).run Tryz.prog (u.alloc (.map #[{ key := .string ⟨#[104, 116, 116, 112]⟩, val := .int .i64 80, born := 0 }, { key := .string ⟨#[104, 116, 116, 112, 115]⟩, val := .int .i64 443, born := 1 }, { key := .string ⟨#[119, 115]⟩, val := .int .i64 80, born := 2 }, { key := .string ⟨#[119, 115, 115]⟩, val := .int .i64 443, born := 3 }, { key := .string ⟨#[100, 97, 116, 97]⟩, val := .int .i64 0, born := 4 }] 5)) = .ok () (u.alloc (.map #[{ key := .string ⟨#[104, 116, 116, 112]⟩, val := .int .i64 80, born := 0 }, { key := .string ⟨#[104, 116, 116, 112, 115]⟩, val := .int .i64 443, born := 1 }, { key := .string ⟨#[119, 115]⟩, val := .int .i64 80, born := 2 }, { key := .string ⟨#[119, 115, 115]⟩, val := .int .i64 443, born := 3 }, { key := .string ⟨#[100, 97, 116, 97]⟩, val := .int .i64 0, born := 4 }, { key := .string ⟨#[98, 108, 111, 98]⟩, val := .int .i64 0, born := 5 }] 6)) := fun u => run_insert_lit (d := .string) Tryz.underlying127 Tryz.underlying9 trivial (by rfl)
  have ins6 : ∀ u : World, (Instr.mapUpdate 127 (.map (some u.heap.size)) (.string ⟨#[97, 98, 111, 117, 116]⟩) (.int .i64 0)).run Tryz.prog (u.alloc (.map #[{ key := .string ⟨#[104, 116, 116, 112]⟩, val := .int .i64 80, born := 0 }, { key := .string ⟨#[104, 116, 116, 112, 115]⟩, val := .int .i64 443, born := 1 }, { key := .string ⟨#[119, 115]⟩, val := .int .i64 80, born := 2 }, { key := .string ⟨#[119, 115, 115]⟩, val := .int .i64 443, born := 3 }, { key := .string ⟨#[100, 97, 116, 97]⟩, val := .int .i64 0, born := 4 }, { key := .string ⟨#[98, 108, 111, 98]⟩, val := .int .i64 0, born := 5 }] 6)) = .ok () (u.alloc (.map #[{ key := .string ⟨#[104, 116, 116, 112]⟩, val := .int .i64 80, born := 0 }, { key := .string ⟨#[104, 116, 116, 112, 115]⟩, val := .int .i64 443, born := 1 }, { key := .string ⟨#[119, 115]⟩, val := .int .i64 80, born := 2 }, { key := .string ⟨#[119, 115, 115]⟩, val := .int .i64 443, born := 3 }, { key := .string ⟨#[100, 97, 116, 97]⟩, val := .int .i64 0, born := 4 }, { key := .string ⟨#[98, 108, 111, 98]⟩, val := .int .i64 0, born := 5 }, { key := .string ⟨#[97, 98, 111, 117, 116]⟩, val := .int .i64 0, born := 6 }] 7)) := fun u => run_insert_lit (d := .string) Tryz.underlying127 Tryz.underlying9 trivial (by rfl)
  go_enter Tryz.func124, Tryz.ntmps124
  go_wp2
  go_ret
  exact ⟨rfl, rfl⟩
/-- Is a scheme special? -/
def specialP (s : Bs) : Bool := decide (s = sHttp ∨ s = sHttps ∨ s = sWs ∨ s = sWss)
theorem special_of (s : Bs) : specialP s = decide (0 < defP s) := by
  unfold specialP defP
  by_cases h1 : s = sHttp
  · rw [if_pos (Or.inl h1)]; simp [h1]
  · by_cases h2 : s = sWs
    · rw [if_pos (Or.inr h2)]; simp [h2]
    · rw [if_neg (by rintro (h | h); exact h1 h; exact h2 h)]
      by_cases h3 : s = sHttps ∨ s = sWss
      · rw [if_pos h3]
        rcases h3 with h | h <;> simp [h]
      · rw [if_neg h3]
        have : ¬ (s = sHttp ∨ s = sHttps ∨ s = sWs ∨ s = sWss) := by
          rintro (h | h | h | h)
          · exact h1 h
          · exact h3 (Or.inl h)
          · exact h2 h
          · exact h3 (Or.inr h)
        rw [decide_eq_false this]
        split <;> rfl
set_option maxRecDepth 1000000 in
set_option maxHeartbeats 4000000 in
theorem special_any (s : ByteArray) (w : World) :
    Calls Tryz.prog 93 #[.string s] w fun e w' => e = .returned (.bool (specialP s.data.toList)) ∧ Below w.heap.size w w' := by
  have CP := Lib.hid (ports_any w)
  by_cases h0 : s.data.toList = sHttp
  · have hr : Hid (specialP s.data.toList = true) := Lib.hid (by rw [h0]; decide)
    obtain rfl := str_of s _ h0
    have hlk : ∀ u : World, (Instr.lookup 127 (.map (some u.heap.size)) (.string ⟨#[104, 116, 116, 112]⟩) false).run Tryz.prog (u.alloc (.map portsM 7)) = .ok (.int .i64 80) (u.alloc (.map portsM 7)) := fun u => run_look_lit (d := .string) (i := 0) false Tryz.underlying127 Tryz.underlying9 trivial (by rfl)
    unfold sHttp strOf at *
    clear h0 
    go_enter Tryz.func93, Tryz.ntmps93
    go_wp2_with (go_at_call 124; refine CP.out.mono ?_; rintro e w1 ⟨rfl, rfl⟩)
    go_ret
    exact ⟨by rw [hr.out]; rfl, (Below.refl _ w).alloc (Nat.le_refl _) _⟩
  · skip
    by_cases h1 : s.data.toList = sHttps
    · have hr : Hid (specialP s.data.toList = true) := Lib.hid (by rw [h1]; decide)
      obtain rfl := str_of s _ h1
      have hlk : ∀ u : World, (Instr.lookup 127 (.map (some u.heap.size)) (.string ⟨#[104, 116, 116, 112, 115]⟩) false).run Tryz.prog (u.alloc (.map portsM 7)) = .ok (.int .i64 443) (u.alloc (.map portsM 7)) := fun u => run_look_lit (d := .string) (i := 1) false Tryz.underlying127 Tryz.underlying9 trivial (by rfl)
      unfold sHttps strOf at *
      clear h1 h0
      go_enter Tryz.func93, Tryz.ntmps93
      go_wp2_with (go_at_call 124; refine CP.out.mono ?_; rintro e w1 ⟨rfl, rfl⟩)
      go_ret
      exact ⟨by rw [hr.out]; rfl, (Below.refl _ w).alloc (Nat.le_refl _) _⟩
    · skip
      by_cases h2 : s.data.toList = sWs
      · have hr : Hid (specialP s.data.toList = true) := Lib.hid (by rw [h2]; decide)
        obtain rfl := str_of s _ h2
        have hlk : ∀ u : World, (Instr.lookup 127 (.map (some u.heap.size)) (.string ⟨#[119, 115]⟩) false).run Tryz.prog (u.alloc (.map portsM 7)) = .ok (.int .i64 80) (u.alloc (.map portsM 7)) := fun u => run_look_lit (d := .string) (i := 2) false Tryz.underlying127 Tryz.underlying9 trivial (by rfl)
        unfold sWs strOf at *
        clear h2 h0 h1
        go_enter Tryz.func93, Tryz.ntmps93
        go_wp2_with (go_at_call 124; refine CP.out.mono ?_; rintro e w1 ⟨rfl, rfl⟩)
        go_ret
        exact ⟨by rw [hr.out]; rfl, (Below.refl _ w).alloc (Nat.le_refl _) _⟩
      · skip
        by_cases h3 : s.data.toList = sWss
        · have hr : Hid (specialP s.data.toList = true) := Lib.hid (by rw [h3]; decide)
          obtain rfl := str_of s _ h3
          have hlk : ∀ u : World, (Instr.lookup 127 (.map (some u.heap.size)) (.string ⟨#[119, 115, 115]⟩) false).run Tryz.prog (u.alloc (.map portsM 7)) = .ok (.int .i64 443) (u.alloc (.map portsM 7)) := fun u => run_look_lit (d := .string) (i := 3) false Tryz.underlying127 Tryz.underlying9 trivial (by rfl)
          unfold sWss strOf at *
          clear h3 h0 h1 h2
          go_enter Tryz.func93, Tryz.ntmps93
          go_wp2_with (go_at_call 124; refine CP.out.mono ?_; rintro e w1 ⟨rfl, rfl⟩)
          go_ret
          exact ⟨by rw [hr.out]; rfl, (Below.refl _ w).alloc (Nat.le_refl _) _⟩
        · skip
          by_cases h4 : s.data.toList = sData
          · have hr : Hid (specialP s.data.toList = false) := Lib.hid (by rw [h4]; decide)
            obtain rfl := str_of s _ h4
            have hlk : ∀ u : World, (Instr.lookup 127 (.map (some u.heap.size)) (.string ⟨#[100, 97, 116, 97]⟩) false).run Tryz.prog (u.alloc (.map portsM 7)) = .ok (.int .i64 0) (u.alloc (.map portsM 7)) := fun u => run_look_lit (d := .string) (i := 4) false Tryz.underlying127 Tryz.underlying9 trivial (by rfl)
            unfold sData strOf at *
            clear h4 h0 h1 h2 h3
            go_enter Tryz.func93, Tryz.ntmps93
            go_wp2_with (go_at_call 124; refine CP.out.mono ?_; rintro e w1 ⟨rfl, rfl⟩)
            go_ret
            exact ⟨by rw [hr.out]; rfl, (Below.refl _ w).alloc (Nat.le_refl _) _⟩
          · skip
            by_cases h5 : s.data.toList = sBlob
            · have hr : Hid (specialP s.data.toList = false) := Lib.hid (by rw [h5]; decide)
              obtain rfl := str_of s _ h5
              have hlk : ∀ u : World, (Instr.lookup 127 (.map (some u.heap.size)) (.string ⟨#[98, 108, 111, 98]⟩) false).run Tryz.prog (u.alloc (.map portsM 7)) = .ok (.int .i64 0) (u.alloc (.map portsM 7)) := fun u => run_look_lit (d := .string) (i := 5) false Tryz.underlying127 Tryz.underlying9 trivial (by rfl)
              unfold sBlob strOf at *
              clear h5 h0 h1 h2 h3 h4
              go_enter Tryz.func93, Tryz.ntmps93
              go_wp2_with (go_at_call 124; refine CP.out.mono ?_; rintro e w1 ⟨rfl, rfl⟩)
              go_ret
              exact ⟨by rw [hr.out]; rfl, (Below.refl _ w).alloc (Nat.le_refl _) _⟩
            · skip
              by_cases h6 : s.data.toList = sAbout
              · have hr : Hid (specialP s.data.toList = false) := Lib.hid (by rw [h6]; decide)
                obtain rfl := str_of s _ h6
                have hlk : ∀ u : World, (Instr.lookup 127 (.map (some u.heap.size)) (.string ⟨#[97, 98, 111, 117, 116]⟩) false).run Tryz.prog (u.alloc (.map portsM 7)) = .ok (.int .i64 0) (u.alloc (.map portsM 7)) := fun u => run_look_lit (d := .string) (i := 6) false Tryz.underlying127 Tryz.underlying9 trivial (by rfl)
                unfold sAbout strOf at *
                clear h6 h0 h1 h2 h3 h4 h5
                go_enter Tryz.func93, Tryz.ntmps93
                go_wp2_with (go_at_call 124; refine CP.out.mono ?_; rintro e w1 ⟨rfl, rfl⟩)
                go_ret
                exact ⟨by rw [hr.out]; rfl, (Below.refl _ w).alloc (Nat.le_refl _) _⟩
              · skip
                have hr : Hid (specialP s.data.toList = false) := Lib.hid (by unfold specialP; exact decide_eq_false (by rintro (h | h | h | h); exact h0 h; exact h1 h; exact h2 h; exact h3 h))
                have hlk : ∀ u : World, (Instr.lookup 127 (.map (some u.heap.size)) (.string s) false).run Tryz.prog (u.alloc (.map portsM 7)) = .ok (.int .i64 0) (u.alloc (.map portsM 7)) := fun u => run_look_none (d := .string) false Tryz.underlying127 Tryz.underlying9 trivial (by
                    show Instr.findNow .string (.string s) [{ key := .string ⟨#[104, 116, 116, 112]⟩, val := .int .i64 80, born := 0 }, { key := .string ⟨#[104, 116, 116, 112, 115]⟩, val := .int .i64 443, born := 1 }, { key := .string ⟨#[119, 115]⟩, val := .int .i64 80, born := 2 }, { key := .string ⟨#[119, 115, 115]⟩, val := .int .i64 443, born := 3 }, { key := .string ⟨#[100, 97, 116, 97]⟩, val := .int .i64 0, born := 4 }, { key := .string ⟨#[98, 108, 111, 98]⟩, val := .int .i64 0, born := 5 }, { key := .string ⟨#[97, 98, 111, 117, 116]⟩, val := .int .i64 0, born := 6 }] 0 = _
                    rw [findNow_skip _ _ _ _ _ _ (bytes_ne (by exact h0))]
                    rw [findNow_skip _ _ _ _ _ _ (bytes_ne (by exact h1))]
                    rw [findNow_skip _ _ _ _ _ _ (bytes_ne (by exact h2))]
                    rw [findNow_skip _ _ _ _ _ _ (bytes_ne (by exact h3))]
                    rw [findNow_skip _ _ _ _ _ _ (bytes_ne (by exact h4))]
                    rw [findNow_skip _ _ _ _ _ _ (bytes_ne (by exact h5))]
                    rw [findNow_skip _ _ _ _ _ _ (bytes_ne (by exact h6))]
                    rfl) zero_int
                clear h0 h1 h2 h3 h4 h5 h6
                go_enter Tryz.func93, Tryz.ntmps93
                go_wp2_with (go_at_call 124; refine CP.out.mono ?_; rintro e w1 ⟨rfl, rfl⟩)
                go_ret
                exact ⟨by rw [hr.out]; rfl, (Below.refl _ w).alloc (Nat.le_refl _) _⟩
end Go.Proofs.YtmgkmpbblhkacaaGreatDoor
namespace Go.Proofs.YtmgkmpbblhkacaaGreatDoor
open Go.RowKit Go.MapKept
set_option linter.unusedSimpArgs false
set_option linter.unusedVariables false

/-- The package variables of Go's library, and the table of spaces. -/
structure GLS (w : World) : Prop extends GL w where
  asp : Lib.TabIs Tryz.prog w "strings.asciiSpace" .u8 Lib.asciiSpaceTab
theorem gl_asp : Tryz.prog.globalNamed "strings.asciiSpace" = some 0 := by kernel_rfl
theorem GLS.below {w w' : World} (h : GLS w) (hb : Below w.heap.size w w') : GLS w' :=
  ⟨h.toGL.below hb, var?_below hb gl_asp (by have := h.toGL.size; exact Nat.lt_of_lt_of_le (by decide) this) h.asp⟩
theorem GLS.alloc {w : World} (h : GLS w) (o : Obj) : GLS (w.alloc o) := h.below ((Below.refl _ _).alloc (Nat.le_refl _) o)
theorem GLS.drew {w : World} (h : GLS w) : GLS w.drew := h.below (Below.drew (Below.refl _ _))
theorem zero_str (w : World) : (zeroValue 9).run Tryz.prog w = .ok (.string ⟨#[]⟩) w := by kernel_rfl
/-- The schemes that go together with one. -/
def goesP (a : Bs) : List Bs := if a = sHttp then [sHttps] else if a = sWs then [sWss, sHttp, sHttps] else if a = sWss then [sHttps] else []
/-- Do schemes go together? -/
def togetherP (a b : Bs) : Bool := decide (a = b) || (goesP a).contains b
theorem containsS_list (ls : List Bs) (x : ByteArray) : Lib.containsS (ls.map strOf) x = ls.contains x.data.toList := by
  rw [Bool.eq_iff_iff, Lib.containsS_iff, List.contains_iff_mem, List.mem_map]
  constructor
  · rintro ⟨l, hl, rfl⟩
    rw [strOf_data]; exact hl
  · intro h
    exact ⟨_, h, rfl⟩
/-- Fields of a text of ASCII, and whether a text is among them. -/
theorem lib_FieldsA (s : ByteArray) (ls : List Bs) (w : World) (hG : GLS w) (hs : s.size ≤ 1000) (ha : ∀ b ∈ s.data.toList, b.toNat < 128) (hf : Lib.fields s.data.toList = ls) :
    Calls Tryz.prog 86 #[.string s] w fun e w' => e = .returned (.slice (some ⟨w.heap.size, 0, none⟩) ls.length ls.length) ∧ Strs w' w.heap.size ls ∧ Below w.heap.size w w' := by
  refine (Tryz.strings_Fields s w (by omega) (fun j b h => ha b (List.mem_of_getElem? h)) hG.asp).mono ?_
  rintro e w' ⟨h1, h2⟩
  rw [hf] at h1 h2
  refine ⟨h1, ?_, by rw [h2]; exact (Below.refl _ w).alloc (Nat.le_refl _) _⟩
  subst h2
  refine ⟨by show w.heap.size < (w.heap.push _).size; rw [Array.size_push]; omega, fun j p hp => ?_⟩
  rw [cells_alloc_new]
  simp [hp, strOf]
theorem lib_ContainsA (b : Nat) (ls : List Bs) (x : ByteArray) (w : World) (hS : Strs w b ls) (hl : ls.length ≤ 1000) :
    Calls Tryz.prog 85 #[.slice (some ⟨b, 0, none⟩) ls.length ls.length, .string x] w fun e w' => e = .returned (.bool (ls.contains x.data.toList)) ∧ w = w' := by
  have h := Tryz.slices_Contains_string b 0 ls.length ls.length (ls.map strOf) x w (by simp) (by omega) (fun j hj => by
    rw [List.length_map] at hj
    rw [Nat.zero_add, hS.cell j ls[j] (List.getElem?_eq_getElem hj)]
    simp [List.getD_eq_getElem?_getD, hj])
  refine h.mono fun e w' ⟨h1, h2⟩ => ⟨?_, h2.symm⟩
  rw [h1, List.take_of_length_le (by simp), containsS_list]
theorem strs_alloc {w w1 : World} {o : Obj} {ls : List Bs} (h : Strs w1 (w.alloc o).heap.size ls) : Strs w1 (w.heap.size + 1) ls := by
  have hs : (w.alloc o).heap.size = w.heap.size + 1 := by show (w.heap.push _).size = _; rw [Array.size_push]
  rw [hs] at h; exact h
theorem below_past1 {w w' : World} {o : Obj} (hb : Below (w.alloc o).heap.size (w.alloc o) w') : Below w.heap.size w w' := by
  have hs : (w.alloc o).heap.size = w.heap.size + 1 := by show (w.heap.push _).size = _; rw [Array.size_push]
  exact ((Below.refl _ w).alloc (Nat.le_refl _) _).trans (hb.mono (by omega))
set_option maxRecDepth 1000000 in
set_option maxHeartbeats 4000000 in
theorem together_any (a b : ByteArray) (w : World) (hG : GLS w) :
    Calls Tryz.prog 51 #[.string a, .string b] w fun e w' => e = .returned (.bool (togetherP a.data.toList b.data.toList)) ∧ Below w.heap.size w w' := by
  have hmm := @run_makeMap Tryz.prog
  have HGL := Lib.hid hG
  clear hG
  have ins0 : ∀ u : World, (Instr.mapUpdate 98 (.map (some u.heap.size)) (.string ⟨#[104, 116, 116, 112]⟩) (.string ⟨#[104, 116, 116, 112, 115]⟩)).run Tryz.prog (u.alloc (.map #[] 0)) = .ok () (u.alloc (.map #[{ key := .string ⟨#[104, 116, 116, 112]⟩, val := .string ⟨#[104, 116, 116, 112, 115]⟩, born := 0 }] 1)) := fun u => run_insert_lit (d := .string) Tryz.underlying98 Tryz.underlying9 trivial (by rfl)
  have ins1 : ∀ u : World, (Instr.mapUpdate 98 (.map (some u.heap.size)) (.string ⟨#[119, 115]⟩) (.string ⟨#[119, 115, 115, 32, 104, 116, 116, 112, 32, 104, 116, 116, 112, 115]⟩)).run Tryz.prog (u.alloc (.map #[{ key := .string ⟨#[104, 116, 116, 112]⟩, val := .string ⟨#[104, 116, 116, 112, 115]⟩, born := 0 }] 1)) = .ok () (u.alloc (.map #[{ key := .string ⟨#[104, 116, 116, 112]⟩, val := .string ⟨#[104, 116, 116, 112, 115]⟩, born := 0 }, { key := .string ⟨#[119, 115]⟩, val := .string ⟨#[119, 115, 115, 32, 104, 116, 116, 112, 32, 104, 116, 116, 112, 115]⟩, born := 1 }] 2)) := fun u => run_insert_lit (d := .string) Tryz.underlying98 Tryz.underlying9 trivial (by rfl)
  have ins2 : ∀ u : World, (Instr.mapUpdate 98 (.map (some u.heap.size)) (.string ⟨#[119, 115, 115]⟩) (.string ⟨#[104, 116, 116, 112, 115]⟩)).run Tryz.prog (u.alloc (.map #[{ key := .string ⟨#[104, 116, 116, 112]⟩, val := .string ⟨#[104, 116, 116, 112, 115]⟩, born := 0 }, { key := .string ⟨#[119, 115]⟩, val := .string ⟨#[119, 115, 115, 32, 104, 116, 116, 112, 32, 104, 116, 116, 112, 115]⟩, born := 1 }] 2)) = .ok () (u.alloc (.map #[{ key := .string ⟨#[104, 116, 116, 112]⟩, val := .string ⟨#[104, 116, 116, 112, 115]⟩, born := 0 }, { key := .string ⟨#[119, 115]⟩, val := .string ⟨#[119, 115, 115, 32, 104, 116, 116, 112, 32, 104, 116, 116, 112, 115]⟩, born := 1 }, { key := .string ⟨#[119, 115, 115]⟩, val := .string ⟨#[104, 116, 116, 112, 115]⟩, born := 2 }] 3)) := fun u => run_insert_lit (d := .string) Tryz.underlying98 Tryz.underlying9 trivial (by rfl)
  by_cases hab : a.data.toList = b.data.toList
  · have hr : Hid (togetherP a.data.toList b.data.toList = true) := Lib.hid (by unfold togetherP; rw [decide_eq_true hab]; rfl)
    have hE : a = b := by rw [← strOf_toList a, hab, strOf_toList]
    subst hE
    have he : (a.toList == a.toList) = true := by simp
    clear hab
    go_enter Tryz.func51, Tryz.ntmps51
    go_wp2
    go_ret
    exact ⟨by rw [hr.out]; rfl, (Below.refl _ w).alloc (Nat.le_refl _) _⟩
  · have hne : (a.toList == b.toList) = false := by rw [ByteArray.toList_eq, ByteArray.toList_eq]; exact beq_eq_false_iff_ne.2 hab
    obtain ⟨cb, hcb⟩ : ∃ cb, (goesP a.data.toList).contains b.data.toList = cb := ⟨_, rfl⟩
    have hr : Hid (togetherP a.data.toList b.data.toList = cb) := Lib.hid (by unfold togetherP; rw [decide_eq_false hab, hcb]; rfl)
    by_cases h0 : a.data.toList = sHttp
    · have hcb' : ([sHttps] : List Bs).contains b.data.toList = cb := by rw [← hcb]; unfold goesP; rw [if_pos h0]
      have CF : Hid (∀ w', GLS w' → Calls Tryz.prog 86 #[.string ⟨#[104, 116, 116, 112, 115]⟩] w' fun e w'' => e = .returned (.slice (some ⟨w'.heap.size, 0, none⟩) (1 : Nat) (1 : Nat)) ∧ Strs w'' w'.heap.size [sHttps] ∧ Below w'.heap.size w' w'') := Lib.hid (fun w' hG' => lib_FieldsA _ [sHttps] w' hG' (by decide) (by decide) (by decide))
      have CK : Hid (∀ (w' : World) (B : Nat), Strs w' B [sHttps] → Calls Tryz.prog 85 #[.slice (some ⟨B, 0, none⟩) (1 : Nat) (1 : Nat), .string b] w' fun e w'' => e = .returned (.bool cb) ∧ w' = w'') := Lib.hid (fun w' B hS => by have h := lib_ContainsA B [sHttps] b w' hS (by decide); rw [hcb'] at h; exact h)
      have hne2 : (sHttp == b.toList) = false := by rw [ByteArray.toList_eq]; exact beq_eq_false_iff_ne.2 (fun e => hab (h0.trans e))
      unfold sHttp at hne2
      clear hne
      obtain rfl := str_of a _ h0
      have hlk : ∀ u : World, (Instr.lookup 98 (.map (some u.heap.size)) (.string ⟨#[104, 116, 116, 112]⟩) false).run Tryz.prog (u.alloc (.map #[{ key := .string ⟨#[104, 116, 116, 112]⟩, val := .string ⟨#[104, 116, 116, 112, 115]⟩, born := 0 }, { key := .string ⟨#[119, 115]⟩, val := .string ⟨#[119, 115, 115, 32, 104, 116, 116, 112, 32, 104, 116, 116, 112, 115]⟩, born := 1 }, { key := .string ⟨#[119, 115, 115]⟩, val := .string ⟨#[104, 116, 116, 112, 115]⟩, born := 2 }] 3)) = .ok (.string ⟨#[104, 116, 116, 112, 115]⟩) (u.alloc (.map #[{ key := .string ⟨#[104, 116, 116, 112]⟩, val := .string ⟨#[104, 116, 116, 112, 115]⟩, born := 0 }, { key := .string ⟨#[119, 115]⟩, val := .string ⟨#[119, 115, 115, 32, 104, 116, 116, 112, 32, 104, 116, 116, 112, 115]⟩, born := 1 }, { key := .string ⟨#[119, 115, 115]⟩, val := .string ⟨#[104, 116, 116, 112, 115]⟩, born := 2 }] 3)) := fun u => run_look_lit (d := .string) (i := 0) false Tryz.underlying98 Tryz.underlying9 trivial (by rfl)
      have HB := Lib.hid hr.out
      clear hcb hcb' hr hab h0
      have hr := HB
      clear HB
      show Calls Tryz.prog 51 #[.string ⟨#[104, 116, 116, 112]⟩, .string b] w _
      go_enter Tryz.func51, Tryz.ntmps51
      go_wp2_with fail
      refine (CF.out _ (HGL.out.alloc _)).mono ?_
      rintro e w1 ⟨rfl, hS1, hb1⟩
      go_wp2_with fail
      refine (CK.out _ _ (strs_alloc hS1)).mono ?_
      rintro e w2 ⟨rfl, rfl⟩
      go_wp2
      go_ret
      exact ⟨by rw [hr.out]; rfl, below_past1 hb1⟩
    · skip
      by_cases h1 : a.data.toList = sWs
      · have hcb' : ([sWss, sHttp, sHttps] : List Bs).contains b.data.toList = cb := by rw [← hcb]; unfold goesP; rw [if_neg h0, if_pos h1]
        have CF : Hid (∀ w', GLS w' → Calls Tryz.prog 86 #[.string ⟨#[119, 115, 115, 32, 104, 116, 116, 112, 32, 104, 116, 116, 112, 115]⟩] w' fun e w'' => e = .returned (.slice (some ⟨w'.heap.size, 0, none⟩) (3 : Nat) (3 : Nat)) ∧ Strs w'' w'.heap.size [sWss, sHttp, sHttps] ∧ Below w'.heap.size w' w'') := Lib.hid (fun w' hG' => lib_FieldsA _ [sWss, sHttp, sHttps] w' hG' (by decide) (by decide) (by decide))
        have CK : Hid (∀ (w' : World) (B : Nat), Strs w' B [sWss, sHttp, sHttps] → Calls Tryz.prog 85 #[.slice (some ⟨B, 0, none⟩) (3 : Nat) (3 : Nat), .string b] w' fun e w'' => e = .returned (.bool cb) ∧ w' = w'') := Lib.hid (fun w' B hS => by have h := lib_ContainsA B [sWss, sHttp, sHttps] b w' hS (by decide); rw [hcb'] at h; exact h)
        have hne2 : (sWs == b.toList) = false := by rw [ByteArray.toList_eq]; exact beq_eq_false_iff_ne.2 (fun e => hab (h1.trans e))
        unfold sWs at hne2
        clear hne
        obtain rfl := str_of a _ h1
        have hlk : ∀ u : World, (Instr.lookup 98 (.map (some u.heap.size)) (.string ⟨#[119, 115]⟩) false).run Tryz.prog (u.alloc (.map #[{ key := .string ⟨#[104, 116, 116, 112]⟩, val := .string ⟨#[104, 116, 116, 112, 115]⟩, born := 0 }, { key := .string ⟨#[119, 115]⟩, val := .string ⟨#[119, 115, 115, 32, 104, 116, 116, 112, 32, 104, 116, 116, 112, 115]⟩, born := 1 }, { key := .string ⟨#[119, 115, 115]⟩, val := .string ⟨#[104, 116, 116, 112, 115]⟩, born := 2 }] 3)) = .ok (.string ⟨#[119, 115, 115, 32, 104, 116, 116, 112, 32, 104, 116, 116, 112, 115]⟩) (u.alloc (.map #[{ key := .string ⟨#[104, 116, 116, 112]⟩, val := .string ⟨#[104, 116, 116, 112, 115]⟩, born := 0 }, { key := .string ⟨#[119, 115]⟩, val := .string ⟨#[119, 115, 115, 32, 104, 116, 116, 112, 32, 104, 116, 116, 112, 115]⟩, born := 1 }, { key := .string ⟨#[119, 115, 115]⟩, val := .string ⟨#[104, 116, 116, 112, 115]⟩, born := 2 }] 3)) := fun u => run_look_lit (d := .string) (i := 1) false Tryz.underlying98 Tryz.underlying9 trivial (by rfl)
        have HB := Lib.hid hr.out
        clear hcb hcb' hr hab h0 h1
        have hr := HB
        clear HB
        show Calls Tryz.prog 51 #[.string ⟨#[119, 115]⟩, .string b] w _
        go_enter Tryz.func51, Tryz.ntmps51
        go_wp2_with fail
        refine (CF.out _ (HGL.out.alloc _)).mono ?_
        rintro e w1 ⟨rfl, hS1, hb1⟩
        go_wp2_with fail
        refine (CK.out _ _ (strs_alloc hS1)).mono ?_
        rintro e w2 ⟨rfl, rfl⟩
        go_wp2
        go_ret
        exact ⟨by rw [hr.out]; rfl, below_past1 hb1⟩
      · skip
        by_cases h2 : a.data.toList = sWss
        · have hcb' : ([sHttps] : List Bs).contains b.data.toList = cb := by rw [← hcb]; unfold goesP; rw [if_neg h0, if_neg h1, if_pos h2]
          have CF : Hid (∀ w', GLS w' → Calls Tryz.prog 86 #[.string ⟨#[104, 116, 116, 112, 115]⟩] w' fun e w'' => e = .returned (.slice (some ⟨w'.heap.size, 0, none⟩) (1 : Nat) (1 : Nat)) ∧ Strs w'' w'.heap.size [sHttps] ∧ Below w'.heap.size w' w'') := Lib.hid (fun w' hG' => lib_FieldsA _ [sHttps] w' hG' (by decide) (by decide) (by decide))
          have CK : Hid (∀ (w' : World) (B : Nat), Strs w' B [sHttps] → Calls Tryz.prog 85 #[.slice (some ⟨B, 0, none⟩) (1 : Nat) (1 : Nat), .string b] w' fun e w'' => e = .returned (.bool cb) ∧ w' = w'') := Lib.hid (fun w' B hS => by have h := lib_ContainsA B [sHttps] b w' hS (by decide); rw [hcb'] at h; exact h)
          have hne2 : (sWss == b.toList) = false := by rw [ByteArray.toList_eq]; exact beq_eq_false_iff_ne.2 (fun e => hab (h2.trans e))
          unfold sWss at hne2
          clear hne
          obtain rfl := str_of a _ h2
          have hlk : ∀ u : World, (Instr.lookup 98 (.map (some u.heap.size)) (.string ⟨#[119, 115, 115]⟩) false).run Tryz.prog (u.alloc (.map #[{ key := .string ⟨#[104, 116, 116, 112]⟩, val := .string ⟨#[104, 116, 116, 112, 115]⟩, born := 0 }, { key := .string ⟨#[119, 115]⟩, val := .string ⟨#[119, 115, 115, 32, 104, 116, 116, 112, 32, 104, 116, 116, 112, 115]⟩, born := 1 }, { key := .string ⟨#[119, 115, 115]⟩, val := .string ⟨#[104, 116, 116, 112, 115]⟩, born := 2 }] 3)) = .ok (.string ⟨#[104, 116, 116, 112, 115]⟩) (u.alloc (.map #[{ key := .string ⟨#[104, 116, 116, 112]⟩, val := .string ⟨#[104, 116, 116, 112, 115]⟩, born := 0 }, { key := .string ⟨#[119, 115]⟩, val := .string ⟨#[119, 115, 115, 32, 104, 116, 116, 112, 32, 104, 116, 116, 112, 115]⟩, born := 1 }, { key := .string ⟨#[119, 115, 115]⟩, val := .string ⟨#[104, 116, 116, 112, 115]⟩, born := 2 }] 3)) := fun u => run_look_lit (d := .string) (i := 2) false Tryz.underlying98 Tryz.underlying9 trivial (by rfl)
          have HB := Lib.hid hr.out
          clear hcb hcb' hr hab h0 h1 h2
          have hr := HB
          clear HB
          show Calls Tryz.prog 51 #[.string ⟨#[119, 115, 115]⟩, .string b] w _
          go_enter Tryz.func51, Tryz.ntmps51
          go_wp2_with fail
          refine (CF.out _ (HGL.out.alloc _)).mono ?_
          rintro e w1 ⟨rfl, hS1, hb1⟩
          go_wp2_with fail
          refine (CK.out _ _ (strs_alloc hS1)).mono ?_
          rintro e w2 ⟨rfl, rfl⟩
          go_wp2
          go_ret
          exact ⟨by rw [hr.out]; rfl, below_past1 hb1⟩
        · skip
          have hcb' : ([] : List Bs).contains b.data.toList = cb := by rw [← hcb]; unfold goesP; rw [if_neg h0, if_neg h1, if_neg h2]
          have CF : Hid (∀ w', GLS w' → Calls Tryz.prog 86 #[.string ⟨#[]⟩] w' fun e w'' => e = .returned (.slice (some ⟨w'.heap.size, 0, none⟩) (0 : Nat) (0 : Nat)) ∧ Strs w'' w'.heap.size [] ∧ Below w'.heap.size w' w'') := Lib.hid (fun w' hG' => lib_FieldsA _ [] w' hG' (by decide) (by decide) (by decide))
          have CK : Hid (∀ (w' : World) (B : Nat), Strs w' B [] → Calls Tryz.prog 85 #[.slice (some ⟨B, 0, none⟩) (0 : Nat) (0 : Nat), .string b] w' fun e w'' => e = .returned (.bool cb) ∧ w' = w'') := Lib.hid (fun w' B hS => by have h := lib_ContainsA B [] b w' hS (by decide); rw [hcb'] at h; exact h)
          have hlk : ∀ u : World, (Instr.lookup 98 (.map (some u.heap.size)) (.string a) false).run Tryz.prog (u.alloc (.map #[{ key := .string ⟨#[104, 116, 116, 112]⟩, val := .string ⟨#[104, 116, 116, 112, 115]⟩, born := 0 }, { key := .string ⟨#[119, 115]⟩, val := .string ⟨#[119, 115, 115, 32, 104, 116, 116, 112, 32, 104, 116, 116, 112, 115]⟩, born := 1 }, { key := .string ⟨#[119, 115, 115]⟩, val := .string ⟨#[104, 116, 116, 112, 115]⟩, born := 2 }] 3)) = .ok (.string ⟨#[]⟩) (u.alloc (.map #[{ key := .string ⟨#[104, 116, 116, 112]⟩, val := .string ⟨#[104, 116, 116, 112, 115]⟩, born := 0 }, { key := .string ⟨#[119, 115]⟩, val := .string ⟨#[119, 115, 115, 32, 104, 116, 116, 112, 32, 104, 116, 116, 112, 115]⟩, born := 1 }, { key := .string ⟨#[119, 115, 115]⟩, val := .string ⟨#[104, 116, 116, 112, 115]⟩, born := 2 }] 3)) := fun u => run_look_none (d := .string) false Tryz.underlying98 Tryz.underlying9 trivial (by
              show Instr.findNow .string (.string a) [{ key := .string ⟨#[104, 116, 116, 112]⟩, val := .string ⟨#[104, 116, 116, 112, 115]⟩, born := 0 }, { key := .string ⟨#[119, 115]⟩, val := .string ⟨#[119, 115, 115, 32, 104, 116, 116, 112, 32, 104, 116, 116, 112, 115]⟩, born := 1 }, { key := .string ⟨#[119, 115, 115]⟩, val := .string ⟨#[104, 116, 116, 112, 115]⟩, born := 2 }] 0 = _
              rw [findNow_skip _ _ _ _ _ _ (bytes_ne (by exact h0))]
              rw [findNow_skip _ _ _ _ _ _ (bytes_ne (by exact h1))]
              rw [findNow_skip _ _ _ _ _ _ (bytes_ne (by exact h2))]
              rfl) zero_str
          clear hcb hcb' hab h0 h1 h2
          go_enter Tryz.func51, Tryz.ntmps51
          go_wp2_with fail
          refine (CF.out _ (HGL.out.alloc _)).mono ?_
          rintro e w1 ⟨rfl, hS1, hb1⟩
          go_wp2_with fail
          refine (CK.out _ _ (strs_alloc hS1)).mono ?_
          rintro e w2 ⟨rfl, rfl⟩
          go_wp2
          go_ret
          exact ⟨by rw [hr.out]; rfl, below_past1 hb1⟩
end Go.Proofs.YtmgkmpbblhkacaaGreatDoor
