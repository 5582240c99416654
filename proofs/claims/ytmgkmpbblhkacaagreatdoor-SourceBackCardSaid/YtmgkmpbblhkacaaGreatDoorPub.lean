/- strconv.ParseUint as the hosts call it. -/
import Derived.Test.YtmgkmpbblhkacaaGreatDoorPu1
import Derived.Test.YtmgkmpbblhkacaaGreatDoorPu2
import Derived.Test.YtmgkmpbblhkacaaGreatDoorPu3
import Derived.Test.YtmgkmpbblhkacaaGreatDoorPu4
import Derived.Test.YtmgkmpbblhkacaaGreatDoorPu5
import Derived.Test.YtmgkmpbblhkacaaGreatDoorLib
namespace Go.Proofs.YtmgkmpbblhkacaaGreatDoor
open Go.RowKit
set_option linter.unusedSimpArgs false
set_option linter.unusedVariables false

/-- What strconv.ParseUint hands back. -/
def NumEnd (r : Option Nat) (e : Ending) : Prop :=
  match r with
  | some n => e = .returned (.tuple #[.int .u64 n, .nilIface])
  | none => ∃ (v : Int) (te : TypeId) (pe : Value), e = .returned (.tuple #[.int .u64 v, .iface te pe])
theorem numEnd_none (v : Int) (te : TypeId) (pe : Value) : NumEnd none (.returned (.tuple #[.int .u64 v, .iface te pe])) := ⟨v, te, pe, rfl⟩

set_option maxRecDepth 1000000 in
set_option maxHeartbeats 4000000 in
theorem ParseUint_8_40 (s : ByteArray) (hs : s.size ≤ 1000000) (w : World) (hG : GL w) :
    Calls Tryz.prog 166 #[.string s, .int .i64 8, .int .i64 40] w fun e w' => NumEnd (parseU 8 1099511627775 s.data.toList) e ∧ Below w.heap.size w w' := by
  have c1 := iParseUint_8_40 s (by omega) w
  have C1 := Lib.hid c1
  clear c1
  go_enter Tryz.func166, Tryz.ntmps166
  go_wp2_with fail
  refine C1.out.mono ?_
  rintro e w2 ⟨he, hb2⟩
  have hG2 := hG.below hb2
  cases hP : parseU 8 1099511627775 s.data.toList with
  | some n =>
    rw [hP] at he
    obtain rfl : e = _ := he
    have HP := Lib.hid hP
    clear hP C1
    go_wp2
    go_ret2
    exact ⟨by rw [HP.out]; rfl, hb2⟩
  | none =>
    rw [hP] at he
    have HP := Lib.hid hP
    clear hP C1
    obtain ⟨v, c, hc, rfl⟩ := he
    obtain ⟨te, pe, he1⟩ := hG2.esyn
    obtain ⟨tf, pf, he2⟩ := hG2.eran
    rcases hc with rfl | rfl
    · have c2 := fun fn => Tryz.strconv_toError_syntax fn s 8 40 (.iface te pe) w2 (by omega) he1 (Or.inr ⟨te, pe, rfl⟩)
      have C2 := Lib.hid c2
      clear c2 he1 he2
      go_wp2_with (go_at_call 107; refine (C2.out _).mono ?_; rintro e w3 ⟨N, rfl, _, _, hb3⟩)
      go_ret2
      exact ⟨by rw [HP.out]; exact numEnd_none _ _ _, hb2.trans (hb3.mono hb2.size)⟩
    · have c2 := fun fn => Tryz.strconv_toError_range fn s 8 40 (.iface tf pf) w2 (by omega) he2 (Or.inr ⟨tf, pf, rfl⟩)
      have C2 := Lib.hid c2
      clear c2 he1 he2
      go_wp2_with (go_at_call 107; refine (C2.out _).mono ?_; rintro e w3 ⟨N, rfl, _, _, hb3⟩)
      go_ret2
      exact ⟨by rw [HP.out]; exact numEnd_none _ _ _, hb2.trans (hb3.mono hb2.size)⟩

set_option maxRecDepth 1000000 in
set_option maxHeartbeats 4000000 in
theorem ParseUint_10_40 (s : ByteArray) (hs : s.size ≤ 1000000) (w : World) (hG : GL w) :
    Calls Tryz.prog 166 #[.string s, .int .i64 10, .int .i64 40] w fun e w' => NumEnd (parseU 10 1099511627775 s.data.toList) e ∧ Below w.heap.size w w' := by
  have c1 := iParseUint_10_40 s (by omega) w
  have C1 := Lib.hid c1
  clear c1
  go_enter Tryz.func166, Tryz.ntmps166
  go_wp2_with fail
  refine C1.out.mono ?_
  rintro e w2 ⟨he, hb2⟩
  have hG2 := hG.below hb2
  cases hP : parseU 10 1099511627775 s.data.toList with
  | some n =>
    rw [hP] at he
    obtain rfl : e = _ := he
    have HP := Lib.hid hP
    clear hP C1
    go_wp2
    go_ret2
    exact ⟨by rw [HP.out]; rfl, hb2⟩
  | none =>
    rw [hP] at he
    have HP := Lib.hid hP
    clear hP C1
    obtain ⟨v, c, hc, rfl⟩ := he
    obtain ⟨te, pe, he1⟩ := hG2.esyn
    obtain ⟨tf, pf, he2⟩ := hG2.eran
    rcases hc with rfl | rfl
    · have c2 := fun fn => Tryz.strconv_toError_syntax fn s 10 40 (.iface te pe) w2 (by omega) he1 (Or.inr ⟨te, pe, rfl⟩)
      have C2 := Lib.hid c2
      clear c2 he1 he2
      go_wp2_with (go_at_call 107; refine (C2.out _).mono ?_; rintro e w3 ⟨N, rfl, _, _, hb3⟩)
      go_ret2
      exact ⟨by rw [HP.out]; exact numEnd_none _ _ _, hb2.trans (hb3.mono hb2.size)⟩
    · have c2 := fun fn => Tryz.strconv_toError_range fn s 10 40 (.iface tf pf) w2 (by omega) he2 (Or.inr ⟨tf, pf, rfl⟩)
      have C2 := Lib.hid c2
      clear c2 he1 he2
      go_wp2_with (go_at_call 107; refine (C2.out _).mono ?_; rintro e w3 ⟨N, rfl, _, _, hb3⟩)
      go_ret2
      exact ⟨by rw [HP.out]; exact numEnd_none _ _ _, hb2.trans (hb3.mono hb2.size)⟩

set_option maxRecDepth 1000000 in
set_option maxHeartbeats 4000000 in
theorem ParseUint_16_40 (s : ByteArray) (hs : s.size ≤ 1000000) (w : World) (hG : GL w) :
    Calls Tryz.prog 166 #[.string s, .int .i64 16, .int .i64 40] w fun e w' => NumEnd (parseU 16 1099511627775 s.data.toList) e ∧ Below w.heap.size w w' := by
  have c1 := iParseUint_16_40 s (by omega) w
  have C1 := Lib.hid c1
  clear c1
  go_enter Tryz.func166, Tryz.ntmps166
  go_wp2_with fail
  refine C1.out.mono ?_
  rintro e w2 ⟨he, hb2⟩
  have hG2 := hG.below hb2
  cases hP : parseU 16 1099511627775 s.data.toList with
  | some n =>
    rw [hP] at he
    obtain rfl : e = _ := he
    have HP := Lib.hid hP
    clear hP C1
    go_wp2
    go_ret2
    exact ⟨by rw [HP.out]; rfl, hb2⟩
  | none =>
    rw [hP] at he
    have HP := Lib.hid hP
    clear hP C1
    obtain ⟨v, c, hc, rfl⟩ := he
    obtain ⟨te, pe, he1⟩ := hG2.esyn
    obtain ⟨tf, pf, he2⟩ := hG2.eran
    rcases hc with rfl | rfl
    · have c2 := fun fn => Tryz.strconv_toError_syntax fn s 16 40 (.iface te pe) w2 (by omega) he1 (Or.inr ⟨te, pe, rfl⟩)
      have C2 := Lib.hid c2
      clear c2 he1 he2
      go_wp2_with (go_at_call 107; refine (C2.out _).mono ?_; rintro e w3 ⟨N, rfl, _, _, hb3⟩)
      go_ret2
      exact ⟨by rw [HP.out]; exact numEnd_none _ _ _, hb2.trans (hb3.mono hb2.size)⟩
    · have c2 := fun fn => Tryz.strconv_toError_range fn s 16 40 (.iface tf pf) w2 (by omega) he2 (Or.inr ⟨tf, pf, rfl⟩)
      have C2 := Lib.hid c2
      clear c2 he1 he2
      go_wp2_with (go_at_call 107; refine (C2.out _).mono ?_; rintro e w3 ⟨N, rfl, _, _, hb3⟩)
      go_ret2
      exact ⟨by rw [HP.out]; exact numEnd_none _ _ _, hb2.trans (hb3.mono hb2.size)⟩

set_option maxRecDepth 1000000 in
set_option maxHeartbeats 4000000 in
theorem ParseUint_10_8 (s : ByteArray) (hs : s.size ≤ 1000000) (w : World) (hG : GL w) :
    Calls Tryz.prog 166 #[.string s, .int .i64 10, .int .i64 8] w fun e w' => NumEnd (parseU 10 255 s.data.toList) e ∧ Below w.heap.size w w' := by
  have c1 := iParseUint_10_8 s (by omega) w
  have C1 := Lib.hid c1
  clear c1
  go_enter Tryz.func166, Tryz.ntmps166
  go_wp2_with fail
  refine C1.out.mono ?_
  rintro e w2 ⟨he, hb2⟩
  have hG2 := hG.below hb2
  cases hP : parseU 10 255 s.data.toList with
  | some n =>
    rw [hP] at he
    obtain rfl : e = _ := he
    have HP := Lib.hid hP
    clear hP C1
    go_wp2
    go_ret2
    exact ⟨by rw [HP.out]; rfl, hb2⟩
  | none =>
    rw [hP] at he
    have HP := Lib.hid hP
    clear hP C1
    obtain ⟨v, c, hc, rfl⟩ := he
    obtain ⟨te, pe, he1⟩ := hG2.esyn
    obtain ⟨tf, pf, he2⟩ := hG2.eran
    rcases hc with rfl | rfl
    · have c2 := fun fn => Tryz.strconv_toError_syntax fn s 10 8 (.iface te pe) w2 (by omega) he1 (Or.inr ⟨te, pe, rfl⟩)
      have C2 := Lib.hid c2
      clear c2 he1 he2
      go_wp2_with (go_at_call 107; refine (C2.out _).mono ?_; rintro e w3 ⟨N, rfl, _, _, hb3⟩)
      go_ret2
      exact ⟨by rw [HP.out]; exact numEnd_none _ _ _, hb2.trans (hb3.mono hb2.size)⟩
    · have c2 := fun fn => Tryz.strconv_toError_range fn s 10 8 (.iface tf pf) w2 (by omega) he2 (Or.inr ⟨tf, pf, rfl⟩)
      have C2 := Lib.hid c2
      clear c2 he1 he2
      go_wp2_with (go_at_call 107; refine (C2.out _).mono ?_; rintro e w3 ⟨N, rfl, _, _, hb3⟩)
      go_ret2
      exact ⟨by rw [HP.out]; exact numEnd_none _ _ _, hb2.trans (hb3.mono hb2.size)⟩

set_option maxRecDepth 1000000 in
set_option maxHeartbeats 4000000 in
theorem ParseUint_16_16 (s : ByteArray) (hs : s.size ≤ 1000000) (w : World) (hG : GL w) :
    Calls Tryz.prog 166 #[.string s, .int .i64 16, .int .i64 16] w fun e w' => NumEnd (parseU 16 65535 s.data.toList) e ∧ Below w.heap.size w w' := by
  have c1 := iParseUint_16_16 s (by omega) w
  have C1 := Lib.hid c1
  clear c1
  go_enter Tryz.func166, Tryz.ntmps166
  go_wp2_with fail
  refine C1.out.mono ?_
  rintro e w2 ⟨he, hb2⟩
  have hG2 := hG.below hb2
  cases hP : parseU 16 65535 s.data.toList with
  | some n =>
    rw [hP] at he
    obtain rfl : e = _ := he
    have HP := Lib.hid hP
    clear hP C1
    go_wp2
    go_ret2
    exact ⟨by rw [HP.out]; rfl, hb2⟩
  | none =>
    rw [hP] at he
    have HP := Lib.hid hP
    clear hP C1
    obtain ⟨v, c, hc, rfl⟩ := he
    obtain ⟨te, pe, he1⟩ := hG2.esyn
    obtain ⟨tf, pf, he2⟩ := hG2.eran
    rcases hc with rfl | rfl
    · have c2 := fun fn => Tryz.strconv_toError_syntax fn s 16 16 (.iface te pe) w2 (by omega) he1 (Or.inr ⟨te, pe, rfl⟩)
      have C2 := Lib.hid c2
      clear c2 he1 he2
      go_wp2_with (go_at_call 107; refine (C2.out _).mono ?_; rintro e w3 ⟨N, rfl, _, _, hb3⟩)
      go_ret2
      exact ⟨by rw [HP.out]; exact numEnd_none _ _ _, hb2.trans (hb3.mono hb2.size)⟩
    · have c2 := fun fn => Tryz.strconv_toError_range fn s 16 16 (.iface tf pf) w2 (by omega) he2 (Or.inr ⟨tf, pf, rfl⟩)
      have C2 := Lib.hid c2
      clear c2 he1 he2
      go_wp2_with (go_at_call 107; refine (C2.out _).mono ?_; rintro e w3 ⟨N, rfl, _, _, hb3⟩)
      go_ret2
      exact ⟨by rw [HP.out]; exact numEnd_none _ _ _, hb2.trans (hb3.mono hb2.size)⟩
end Go.Proofs.YtmgkmpbblhkacaaGreatDoor
