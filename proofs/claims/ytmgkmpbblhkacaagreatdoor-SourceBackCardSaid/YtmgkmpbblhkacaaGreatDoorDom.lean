/- host.Domain. -/
import Derived.Test.YtmgkmpbblhkacaaGreatDoorIp4
namespace Go.Proofs.YtmgkmpbblhkacaaGreatDoor
open Go.RowKit
set_option linter.unusedSimpArgs false
set_option linter.unusedVariables false

/-- host.Domain. -/
def domP (s : Bs) : Bool := !(ip4 s).2.1 && !(([91] : Bs).isPrefixOf s)

set_option maxRecDepth 1000000 in
theorem Domain_any (s : ByteArray) (w : World) (hs : s.size ≤ 1000000) (hG : GL w) :
    Calls Tryz.prog 87 #[.string s] w fun e w' => e = .returned (.bool (domP s.data.toList)) ∧ Below w.heap.size w w' := by
  have CI := Lib.hid (IPv4_any s w hs hG)
  have CP := Lib.hid (fun w' => lib_HasPrefix s ⟨#[91]⟩ w')
  have hd : domP s.data.toList = (!(ip4 s.data.toList).2.1 && !(([91] : Bs).isPrefixOf s.data.toList)) := rfl
  obtain ⟨pr, hpr⟩ : ∃ pr, ([91] : Bs).isPrefixOf s.data.toList = pr := ⟨_, rfl⟩
  have CP' : Hid (∀ w' : World, Calls Tryz.prog 88 #[.string s, .string ⟨#[91]⟩] w' fun e w'' => e = .returned (.bool pr) ∧ w' = w'') := by
    have := CP.out
    have e : ((⟨#[91]⟩ : ByteArray).data.toList).isPrefixOf s.data.toList = pr := hpr
    rw [e] at this
    exact Lib.hid this
  rw [hpr] at hd
  generalize ip4 s.data.toList = t at CI hd
  obtain ⟨a, is, er⟩ := t
  have HD := Lib.hid hd
  clear hd hpr CP
  go_enter Tryz.func87, Tryz.ntmps87
  go_wp2_with fail
  refine CI.out.mono ?_
  rintro e w1 ⟨rfl, hb1⟩
  clear CI
  cases is
  all_goals
    go_wp2_with (first | (go_at_call 88; refine (CP'.out _).mono ?_; rintro e w2 ⟨rfl, rfl⟩))
    go_ret
    refine ⟨?_, hb1⟩
    rw [HD.out]
    simp

end Go.Proofs.YtmgkmpbblhkacaaGreatDoor
