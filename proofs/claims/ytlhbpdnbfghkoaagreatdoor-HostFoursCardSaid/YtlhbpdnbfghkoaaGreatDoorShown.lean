/- host.Domain; the laws' is and shown. -/
import Derived.Test.YtlhbpdnbfghkoaaGreatDoorRound
namespace Go.Proofs.YtlhbpdnbfghkoaaGreatDoor
open Go.RowKit
set_option linter.unusedSimpArgs false
set_option linter.unusedVariables false

/-- host.Domain. -/
def domP (s : Bs) : Bool := !(ip4 s).2.1 && !(([91] : Bs).isPrefixOf s)

set_option maxRecDepth 1000000 in
theorem Domain_any (s : ByteArray) (w : World) (hs : s.size ≤ 1000000) (hG : GL w) :
    Calls Tryz.prog 12 #[.string s] w fun e w' => e = .returned (.bool (domP s.data.toList)) ∧ Below w.heap.size w w' := by
  have CI := Lib.hid (IPv4_any s w hs hG)
  have CP := Lib.hid (fun w' => lib_HasPrefix s ⟨#[91]⟩ w')
  have hd : domP s.data.toList = (!(ip4 s.data.toList).2.1 && !(([91] : Bs).isPrefixOf s.data.toList)) := rfl
  obtain ⟨pr, hpr⟩ : ∃ pr, ([91] : Bs).isPrefixOf s.data.toList = pr := ⟨_, rfl⟩
  have CP' : Hid (∀ w' : World, Calls Tryz.prog 20 #[.string s, .string ⟨#[91]⟩] w' fun e w'' => e = .returned (.bool pr) ∧ w' = w'') := by
    have := CP.out
    have e : ((⟨#[91]⟩ : ByteArray).data.toList).isPrefixOf s.data.toList = pr := hpr
    rw [e] at this
    exact Lib.hid this
  rw [hpr] at hd
  generalize ip4 s.data.toList = t at CI hd
  obtain ⟨a, is, er⟩ := t
  have HD := Lib.hid hd
  clear hd hpr CP
  go_enter Tryz.func12, Tryz.ntmps12
  go_wp2_with fail
  refine CI.out.mono ?_
  rintro e w1 ⟨rfl, hb1⟩
  clear CI
  cases is
  all_goals
    go_wp2_with (first | (go_at_call 20; refine (CP'.out _).mono ?_; rintro e w2 ⟨rfl, rfl⟩))
    go_ret
    refine ⟨?_, hb1⟩
    rw [HD.out]
    simp

set_option maxRecDepth 1000000 in
theorem is_any (s want : ByteArray) (w : World) (hs : s.size ≤ 1000000) (hG : GL w) :
    Calls Tryz.prog 11 #[.string s, .string want] w fun e w' => e = .returned (.bool (decide (parseP s.data.toList = some want.data.toList))) ∧ Below w.heap.size w w' := by
  have CI := Lib.hid (Parse_any s w hs hG)
  go_enter Tryz.func11, Tryz.ntmps11
  go_wp2_with fail
  refine CI.out.mono ?_
  rintro e w1 ⟨he, hb1⟩
  clear CI
  obtain ⟨r, hr⟩ : ∃ r, parseP s.data.toList = r := ⟨_, rfl⟩
  rw [hr] at he
  have HR := Lib.hid hr
  clear hr
  cases r with
  | none =>
    obtain rfl := he
    go_wp2_with fail
    all_goals
      go_ret
      refine ⟨?_, hb1⟩
      rw [HR.out]
      simp
  | some l =>
    obtain rfl := he
    have ht : ((strOf l).toList == want.toList) = decide (some l = some want.data.toList) := by
      rw [Lib.toList_data, Lib.toList_data, strOf_data, Bool.eq_iff_iff]; simp
    obtain ⟨q, hq⟩ : ∃ q, decide (some l = some want.data.toList) = q := ⟨_, rfl⟩
    rw [hq] at ht
    have HQ : Hid (decide (parseP s.data.toList = some want.data.toList) = q) := by rw [HR.out]; exact Lib.hid hq
    clear hq HR
    cases q
    all_goals
      go_wp2_with fail
      go_ret
      refine ⟨?_, hb1⟩
      rw [HQ.out]
      try simp
/-- is, its answer named. -/
theorem is_at (s want : ByteArray) (b : Bool) (w : World) (hs : s.size ≤ 1000000) (hG : GL w) (h : decide (parseP s.data.toList = some want.data.toList) = b) :
    Calls Tryz.prog 11 #[.string s, .string want] w fun e w' => e = .returned (.bool b) ∧ Below w.heap.size w w' := by
  subst h; exact is_any s want w hs hG
theorem Domain_at (s : ByteArray) (b : Bool) (w : World) (hs : s.size ≤ 1000000) (hG : GL w) (h : domP s.data.toList = b) :
    Calls Tryz.prog 12 #[.string s] w fun e w' => e = .returned (.bool b) ∧ Below w.heap.size w w' := by
  subst h; exact Domain_any s w hs hG
theorem Parse_none (s : ByteArray) (w : World) (hs : s.size ≤ 1000000) (hG : GL w) (h : parseP s.data.toList = none) :
    Calls Tryz.prog 15 #[.string s] w fun e w' => e = .returned (.tuple #[.string ⟨#[]⟩, .int .i64 7]) ∧ Below w.heap.size w w' := by
  have := Parse_any s w hs hG
  rw [h] at this
  exact this
theorem Parse_some (s : ByteArray) (l : Bs) (w : World) (hs : s.size ≤ 1000000) (hG : GL w) (h : parseP s.data.toList = some l) :
    Calls Tryz.prog 15 #[.string s] w fun e w' => e = .returned (.tuple #[.string (strOf l), .int .i64 0]) ∧ Below w.heap.size w w' := by
  have := Parse_any s w hs hG
  rw [h] at this
  exact this

set_option maxRecDepth 1000000 in
set_option maxHeartbeats 8000000 in
theorem shown_any (w : World) (hG : GL w) :
    Calls Tryz.prog 6 #[] w fun e w' => e = .returned (.bool true) ∧ Below w.heap.size w w' := by
  have P1 := fun (w' : World) (hb : Below w.heap.size w w') => Parse_none ⟨#[97, 32, 98]⟩ w' (by decide) (hG.below hb) (by decide +kernel)
  have P2 := fun (w' : World) (hb : Below w.heap.size w w') => Parse_none ⟨#[49, 46, 50, 46, 51, 46, 50, 53, 54]⟩ w' (by decide) (hG.below hb) (by decide +kernel)
  have I1 := fun (w' : World) (hb : Below w.heap.size w w') => is_at ⟨#[48, 120, 55, 102, 46, 49]⟩ ⟨#[49, 50, 55, 46, 48, 46, 48, 46, 49]⟩ true w' (by decide) (hG.below hb) (by decide +kernel)
  have I2 := fun (w' : World) (hb : Below w.heap.size w w') => is_at ⟨#[91, 48, 58, 48, 58, 58, 49, 93]⟩ ⟨#[91, 58, 58, 49, 93]⟩ true w' (by decide) (hG.below hb) (by decide +kernel)
  have I3 := fun (w' : World) (hb : Below w.heap.size w w') => is_at ⟨#[69, 88, 97, 109, 112, 108, 101, 46, 67, 79, 77]⟩ ⟨#[101, 120, 97, 109, 112, 108, 101, 46, 99, 111, 109]⟩ true w' (by decide) (hG.below hb) (by decide +kernel)
  have D1 := fun (w' : World) (hb : Below w.heap.size w w') => Domain_at ⟨#[97, 46, 101, 120, 97, 109, 112, 108, 101]⟩ true w' (by decide) (hG.below hb) (by decide +kernel)
  have D2 := fun (w' : World) (hb : Below w.heap.size w w') => Domain_at ⟨#[49, 46, 50, 46, 51, 46, 52]⟩ false w' (by decide) (hG.below hb) (by decide +kernel)
  have D3 := fun (w' : World) (hb : Below w.heap.size w w') => Domain_at ⟨#[91, 58, 58, 93]⟩ false w' (by decide) (hG.below hb) (by decide +kernel)
  have P1 := Lib.hid P1
  have P2 := Lib.hid P2
  have I1 := Lib.hid I1
  have I2 := Lib.hid I2
  have I3 := Lib.hid I3
  have D1 := Lib.hid D1
  have D2 := Lib.hid D2
  have D3 := Lib.hid D3
  go_enter Tryz.func6, Tryz.ntmps6
  go_wp2_with fail
  refine (P1.out _ (Below.refl _ _)).mono ?_
  rintro e w1 ⟨rfl, hb1⟩
  go_wp2_with fail
  refine (P2.out _ hb1).mono ?_
  rintro e w2 ⟨rfl, hb2'⟩
  have hb2 := hb1.trans (hb2'.mono hb1.size)
  go_wp2_with fail
  refine (I1.out _ hb2).mono ?_
  rintro e w3 ⟨rfl, hb3'⟩
  have hb3 := hb2.trans (hb3'.mono hb2.size)
  go_wp2_with fail
  refine (I2.out _ hb3).mono ?_
  rintro e w4 ⟨rfl, hb4'⟩
  have hb4 := hb3.trans (hb4'.mono hb3.size)
  go_wp2_with fail
  refine (I3.out _ hb4).mono ?_
  rintro e w5 ⟨rfl, hb5'⟩
  have hb5 := hb4.trans (hb5'.mono hb4.size)
  go_wp2_with fail
  refine (D1.out _ hb5).mono ?_
  rintro e w6 ⟨rfl, hb6'⟩
  have hb6 := hb5.trans (hb6'.mono hb5.size)
  go_wp2_with fail
  refine (D2.out _ hb6).mono ?_
  rintro e w7 ⟨rfl, hb7'⟩
  have hb7 := hb6.trans (hb7'.mono hb6.size)
  go_wp2_with fail
  refine (D3.out _ hb7).mono ?_
  rintro e w8 ⟨rfl, hb8'⟩
  have hb8 := hb7.trans (hb8'.mono hb7.size)
  go_wp2_with fail
  go_ret
  exact ⟨rfl, hb8⟩
end Go.Proofs.YtlhbpdnbfghkoaaGreatDoor
