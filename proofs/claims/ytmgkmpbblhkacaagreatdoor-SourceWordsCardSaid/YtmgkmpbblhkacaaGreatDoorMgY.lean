/- How long a URL's parts are: plain. The law's url, of any text. -/
import Derived.Test.YtmgkmpbblhkacaaGreatDoorR10b
import Derived.Test.YtmgkmpbblhkacaaGreatDoorMgU
import Derived.Test.YtmgkmpbblhkacaaGreatDoorMgX
namespace Go.Proofs.YtmgkmpbblhkacaaGreatDoor
open Go.RowKit
set_option linter.unusedSimpArgs false
set_option linter.unusedVariables false

theorem joinS_nils (l : List Bs) (x : Bs) : (joinS (l ++ [x])).length = (joinS l).length + x.length + 1 := by
  rw [joinS_add, List.length_append]
  show (joinS l).length + (47 :: (x ++ [])).length = _
  simp
  omega
theorem joinS_last (l : List Bs) : (joinS l.dropLast).length ≤ (joinS l).length := by
  by_cases h : l = []
  · subst h; exact Nat.le_refl _
  · have e := List.dropLast_concat_getLast h
    conv => rhs; rw [← e]
    rw [joinS_nils]
    omega
theorem pathS_len (l : List Bs) : ∀ out, (joinS (pathS out l)).length ≤ (joinS out).length + 3 * (joinS l).length := by
  induction l with
  | nil => intro out; exact Nat.le_add_right _ _
  | cons p r ih =>
    intro out
    have e : (joinS (p :: r)).length = p.length + (joinS r).length + 1 := by show (47 :: (p ++ joinS r)).length = _; simp
    have hd : ∀ o : List Bs, (joinS (if dotsP p = 2 then o.dropLast else o)).length ≤ (joinS o).length := by
      intro o; split
      · exact joinS_last o
      · exact Nat.le_refl _
    unfold pathS
    split
    · have := ih (out ++ [encP 5 p])
      rw [joinS_nils] at this
      have h3 := encP_len 5 p
      omega
    · split
      · have := ih ((if dotsP p = 2 then out.dropLast else out) ++ [[]])
        rw [joinS_nils] at this
        have := hd out
        simp only [List.length_nil] at *
        omega
      · have := ih (if dotsP p = 2 then out.dropLast else out)
        have := hd out
        omega
theorem split_join_len (c : UInt8) (l : Bs) : (joinS (split1 c l)).length = l.length + 1 := by
  induction l with
  | nil => rfl
  | cons x r ih =>
    unfold split1
    split
    · show (47 :: ([] ++ joinS (split1 c r))).length = _
      simp [ih]
    · cases h : split1 c r with
      | nil => exact absurd h (split1_ne c r)
      | cons a t =>
        rw [h] at ih
        show (47 :: ((x :: a) ++ joinS t)).length = _
        have e : (joinS (a :: t)).length = (47 :: (a ++ joinS t)).length := rfl
        rw [e] at ih
        simp at ih ⊢
        omega
theorem pathP_len (s : Bs) : (pathP s).length ≤ 3 * s.length + 4 := by
  unfold pathP
  split
  · simp only [List.length_cons, List.length_nil]; omega
  · have h1 := pathS_len (split1 47 (s.drop 1)) []
    have h2 := split_join_len 47 (s.drop 1)
    have h3 : (joinS []).length = 0 := rfl
    have h4 : (s.drop 1).length ≤ s.length := by rw [List.length_drop]; omega
    omega
theorem specP_len (PR : Bs → Option Bs) (k : Nat) (hPR : ∀ t a, PR t = some a → a.length ≤ t.length + k) (sc : Bs) (po : Int) (s h p : Bs) (q : Int) (e : specP PR sc po s = some (h, q, p)) : h.length ≤ s.length + k ∧ p.length ≤ 3 * s.length + 4 := by
  unfold specP at e
  split at e
  · cases e
  · split at e
    · cases e
    · split at e
      · cases e
      · unfold spAuth at e
        split at e
        · cases e
        · obtain ⟨A, hA⟩ : ∃ A, spAt (s.map slashB) = A := ⟨_, rfl⟩
          have hAl : A.length ≤ s.length := by
            rw [← hA]; unfold spAt
            rw [List.length_take, List.length_drop, List.length_map]
            omega
          rw [hA] at e
          cases hp : spPort sc po A (atP A) with
          | none => rw [hp] at e; cases e
          | some q2 =>
            cases hr : PR (A.take (atP A)) with
            | none => rw [hp, hr] at e; cases e
            | some h2 =>
              rw [hp, hr] at e
              unfold spFin at e
              simp only [Option.some.injEq, Prod.mk.injEq] at e
              obtain ⟨rfl, _, rfl⟩ := e
              have h1 := hPR _ _ hr
              rw [List.length_take] at h1
              have h3 := pathP_len (((s.map slashB).drop 2).drop (findP 47 ((s.map slashB).drop 2)))
              rw [List.length_drop, List.length_drop, List.length_map] at h3
              omega
theorem urlP_len (PR : Bs → Option Bs) (k : Nat) (hPR : ∀ t a, PR t = some a → a.length ≤ t.length + k) (s : Bs) (U : UrlL) (e : urlP PR s = some U) : U.sc.length ≤ s.length ∧ U.ho.length ≤ s.length + k ∧ U.pa.length ≤ 3 * s.length + 4 := by
  have hc := cleanP_len s
  unfold urlP at e
  obtain ⟨c, hcc⟩ : ∃ c, cleanP s = c := ⟨_, rfl⟩
  rw [hcc] at e hc
  unfold urlClean at e
  split at e
  · cases e
  · unfold urlRest urlKind at e
    obtain ⟨r, hr⟩ : ∃ r, c.drop (findP 58 c + 1) = r := ⟨_, rfl⟩
    rw [hr] at e
    have hrl : r.length ≤ c.length := by rw [← hr, List.length_drop]; omega
    have hsc : ((c.take (findP 58 c)).map lowB).length ≤ c.length := by rw [List.length_map, List.length_take]; omega
    obtain ⟨t, ht⟩ : ∃ t, r.take (findP 35 r) = t := ⟨_, rfl⟩
    rw [ht] at e
    have htl : t.length ≤ r.length := by rw [← ht, List.length_take]; omega
    split at e
    · cases e
    · split at e
      · cases e
        have h3 := encP_len 1 (t.take (findP 63 t))
        rw [List.length_take] at h3
        refine ⟨by simp only; omega, by simp, by simp only; omega⟩
      · unfold urlOf at e
        cases hs : specP PR ((c.take (findP 58 c)).map lowB) (-1) (t.take (findP 63 t)) with
        | none => rw [hs] at e; cases e
        | some x =>
          obtain ⟨h, q, p⟩ := x
          rw [hs] at e
          cases e
          obtain ⟨h1, h2⟩ := specP_len PR k hPR _ _ _ _ _ _ hs
          rw [List.length_take] at h1 h2
          refine ⟨by simp only; omega, by simp only; omega, by simp only; omega⟩
end Go.Proofs.YtmgkmpbblhkacaaGreatDoor
namespace Go.Proofs.YtmgkmpbblhkacaaGreatDoor
open Go.RowKit Go.MapKept
set_option linter.unusedSimpArgs false
set_option linter.unusedVariables false

def noU : UrlL := ⟨[], [], 0, [], [], []⟩
/-- The URL of a text; nothing's: it is none. -/
def urlA (s : Bs) : UrlL := (urlP parseR s).getD noU
theorem urlEnd_form {r : Option UrlL} {e : Ending} (h : UrlEnd r e) : ∃ k : Int, e = .returned (.tuple #[urlVal (r.getD noU), .int .i64 k]) := by
  cases r with
  | none => exact ⟨7, h⟩
  | some u => exact ⟨0, h⟩
theorem urlA_len (s : Bs) : (urlA s).sc.length ≤ s.length ∧ (urlA s).ho.length ≤ s.length + 200 ∧ (urlA s).pa.length ≤ 3 * s.length + 4 := by
  unfold urlA
  cases h : urlP parseR s with
  | none => exact ⟨Nat.zero_le _, Nat.zero_le _, Nat.zero_le _⟩
  | some U => exact urlP_len parseR 200 parseR_len s U h
set_option maxRecDepth 1000000 in
set_option maxHeartbeats 4000000 in
theorem url_any (s : ByteArray) (w : World) (hs : s.size ≤ 100000) :
    Calls Tryz.prog 13 #[.string s] w fun e w' => e = .returned (urlVal (urlA s.data.toList)) ∧ Below w.heap.size w w' := by
  have CP := fun w' => refUrl_any parseR s w' hs (fun X w'' hX _ => refParse_any X w'' hX)
  obtain ⟨U, hU⟩ : ∃ U, urlA s.data.toList = U := ⟨_, rfl⟩
  have CP2 : ∀ w', Calls Tryz.prog 25 #[.string s] w' fun e w'' => (∃ k : Int, e = .returned (.tuple #[urlVal U, .int .i64 k])) ∧ Below w'.heap.size w' w'' := by
    intro w'
    refine (CP w').mono ?_
    rintro e w2 ⟨he, hb⟩
    have := urlEnd_form he
    rw [← hU]
    exact ⟨this, hb⟩
  rw [hU]
  clear CP hU
  obtain ⟨sc, ho, po, pa, qu, fr⟩ := U
  obtain ⟨SC, h1⟩ : ∃ b, strOf sc = b := ⟨_, rfl⟩
  obtain ⟨HO, h2⟩ : ∃ b, strOf ho = b := ⟨_, rfl⟩
  obtain ⟨PA, h3⟩ : ∃ b, strOf pa = b := ⟨_, rfl⟩
  obtain ⟨QU, h4⟩ : ∃ b, strOf qu = b := ⟨_, rfl⟩
  obtain ⟨FR, h5⟩ : ∃ b, strOf fr = b := ⟨_, rfl⟩
  have hv : urlVal ⟨sc, ho, po, pa, qu, fr⟩ = .agg #[.string SC, .string HO, .int .i64 po, .string PA, .string QU, .string FR] := by
    unfold urlVal urlV; rw [h1, h2, h3, h4, h5]
  rw [hv] at CP2 ⊢
  have HC := Lib.hid CP2
  clear CP2 hv h1 h2 h3 h4 h5
  go_enter Tryz.func13, Tryz.ntmps13
  go_wp2_with fail
  refine (HC.out _).mono ?_
  rintro e w1 ⟨⟨k, rfl⟩, hb1⟩
  have hA1 := block_new_past hb1
  have hbw1 := below_past_alloc hb1
  have hs1 := size_past_alloc hb1
  clear hb1
  have hA2 : (w1.alloc (.cells #[.string SC, .string HO, .int .i64 po, .string PA, .string QU, .string FR] 28)).heap[w.heap.size]? = some (.cells #[.string ⟨#[]⟩, .string ⟨#[]⟩, .int .i64 0, .string ⟨#[]⟩, .string ⟨#[]⟩, .string ⟨#[]⟩] 28 (0, 0)) := (Below.heap_alloc _ _ _ (by omega)).trans hA1
  have hbw2 : Below w.heap.size w (w1.alloc (.cells #[.string SC, .string HO, .int .i64 po, .string PA, .string QU, .string FR] 28)) := hbw1.alloc (by omega) _
  obtain ⟨x0, x1, x2, x3, x4, x5⟩ := six_cells hA2
  obtain ⟨f0, f1, f2, f3, f4, f5⟩ := six_free hA2
  go_wp2
  exact bodyPost_ret (v := .agg #[.string SC, .string HO, .int .i64 po, .string PA, .string QU, .string FR]) (by simp [results, Tryz.results13, go_sem, x0, x1, x2, x3, x4, x5]) rfl ⟨rfl, (((((hbw2.setCell (Nat.le_refl _) _).setCell (Nat.le_refl _) _).setCell (Nat.le_refl _) _).setCell (Nat.le_refl _) _).setCell (Nat.le_refl _) _).setCell (Nat.le_refl _) _⟩
end Go.Proofs.YtmgkmpbblhkacaaGreatDoor
