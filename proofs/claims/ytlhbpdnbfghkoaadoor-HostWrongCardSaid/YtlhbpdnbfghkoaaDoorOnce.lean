/- HostOnce: what is written so is parsed as it is: for every text. The walk. -/
import Derived.Test.YtlhbpdnbfghkoaaDoorShown
namespace Go.Proofs.YtlhbpdnbfghkoaaDoor
open Go.RowKit
set_option linter.unusedSimpArgs false
set_option linter.unusedVariables false

theorem okc_facts (c : UInt8) (h : okc c = true) : (33 : Int) ≤ c.toNat ∧ (c.toNat : Int) ≤ 126 ∧ ((c.toNat : Int) < 65 ∨ ((65 : Int) ≤ c.toNat ∧ (90 : Int) < c.toNat)) ∧ ((c.toNat : Int) == 47) = false ∧ ((c.toNat : Int) == 63) = false ∧ ((c.toNat : Int) == 35) = false ∧ ((c.toNat : Int) == 64) = false ∧ ((c.toNat : Int) == 37) = false := by
  have ne : ∀ (k : UInt8) (n : Nat), k.toNat = n → c ≠ k → ((c.toNat : Int) == (n : Int)) = false := by
    intro k n hk hc
    refine beq_eq_false_iff_ne.2 (fun h => hc ?_)
    apply UInt8.toNat_inj.1
    omega
  simp only [okc, Bool.and_eq_true, decide_eq_true_eq, Bool.not_eq_true', Bool.and_eq_false_iff, decide_eq_false_iff_not] at h
  obtain ⟨⟨⟨⟨⟨⟨⟨h1, h2⟩, h3⟩, h4⟩, h5⟩, h6⟩, h7⟩, h8⟩ := h
  exact ⟨by omega, by omega, by omega, ne 47 47 rfl h4, ne 63 63 rfl h5, ne 35 35 rfl h6, ne 64 64 rfl h7, ne 37 37 rfl h8⟩

theorem text4_len (n : Nat) : (text4 n).length ≤ 16 := by
  have := joinB_len 46 (parts4 n) 3 (fun p hp => by
    simp [parts4] at hp
    rcases hp with rfl | rfl | rfl | rfl <;> exact dec8_le _ (by omega))
  simpa [parts4, text4] using this
theorem parse_len (s a : Bs) (h : parseP s = some a) : a.length ≤ s.length + 200 := by
  unfold parseP at h
  split at h
  · rw [Option.ite_none_right_eq_some] at h
    obtain ⟨_, h⟩ := h
    split at h
    · rename_i L hL
      cases h
      obtain ⟨h8, hx⟩ := ip6_ok _ _ hL
      have := text6_len L h8 hx
      simp only [List.length_cons, List.length_append, List.length_nil]
      omega
    · cases h
  · rw [Option.ite_none_left_eq_some] at h
    obtain ⟨hne, h⟩ := h
    rw [Option.ite_none_left_eq_some] at h
    obtain ⟨hfb, h⟩ := h
    rw [Option.ite_none_left_eq_some] at h
    obtain ⟨he, h⟩ := h
    split at h
    · cases h
      have := text4_len (ip4 ((pdec s).map lowB)).1
      omega
    · cases h
      have := pdec_len s
      simp
      omega
set_option maxRecDepth 1000000 in
set_option maxHeartbeats 8000000 in
theorem once_any (s : ByteArray) (w : World) (hs : s.size ≤ 9223372036854775807) (hG : GL w) :
    Calls Tryd.prog 3 #[.string s] w fun e w' => e = .returned (.bool true) ∧ Below w.heap.size w w' := by
  have CS := Lib.hid (shown_any w hG)
  go_enter Tryd.func3, Tryd.ntmps3
  go_wp2_with fail
  refine CS.out.mono ?_
  rintro e w1 ⟨rfl, hb1⟩
  clear CS
  go_wp2_with fail
  obtain ⟨t, ht⟩ : ∃ t, s.extract 0 (min (s.size : Int) 300).toNat = t := ⟨_, rfl⟩
  have htz : t.size ≤ 300 := by rw [← ht, ByteArray.size_extract]; omega
  rw [ht]
  have hG1 := hG.below hb1
  have CP := Lib.hid (Parse_any t w1 (by omega) hG1)
  have HO := Lib.hid (once_plain t.data.toList)
  have HLEN := Lib.hid (parse_len t.data.toList)
  obtain ⟨r, hr⟩ : ∃ r, parseP t.data.toList = r := ⟨_, rfl⟩
  rw [hr] at CP HO HLEN
  clear ht hr
  refine CP.out.mono ?_
  rintro e w2 ⟨he, hb2⟩
  clear CP
  have hbw : Below w.heap.size w w2 := hb1.trans (hb2.mono hb1.size)
  cases r with
  | none =>
    obtain rfl := he
    clear HO
    go_wp2_with fail
    go_ret
    exact ⟨rfl, hbw⟩
  | some a =>
    obtain rfl := he
    obtain ⟨hne, hok, hag⟩ := HO.out a rfl
    have hG2 := hG.below hbw
    have hal : a.length ≤ 1000000 := by have := HLEN.out a rfl; rw [(Lib.size_eq t).symm] at this; omega
    have CP2 := Parse_some (strOf a) a w2 (by rw [strOf_size]; exact hal) hG2 (by rw [strOf_data]; exact hag)
    obtain ⟨q, hq⟩ : ∃ q, strOf a = q := ⟨_, rfl⟩
    have hqz : q.size ≤ 1000000 := by rw [← hq, strOf_size]; exact hal
    have hqe : q.toList.isEmpty = false := by rw [← hq, strOf_isEmpty]; exact beq_eq_false_iff_ne.2 hne
    have hqo : ∀ (i : Nat) (h : i < q.size), okc (q[i]'h) = true := by
      intro i h
      subst hq
      rw [← data_get]
      have h4 : ∀ c ∈ (strOf a).data.toList, okc c = true := by rw [strOf_data]; exact hok
      exact h4 _ (List.getElem_mem _)
    have HQO := Lib.hid hqo
    have CP2' := Lib.hid CP2
    rw [hq] at CP2' ⊢
    clear HO hne hok hag hq hal CP2 hqo
    go_wp2_with fail
    go_loopw [6] (fun vi wr => ∃ k : Nat, vi = .int .i64 k ∧ k ≤ q.size ∧ wr = w2) (fun vi _ => q.size - (intOf vi).toNat)
    case atStart => exact ⟨0, rfl, by omega, rfl⟩
    case round =>
      obtain ⟨k, rfl, hk, rfl⟩ := hrel
      by_cases hlt : k < q.size
      · obtain ⟨h1, h2, h3, h4, h5, h6, h7, h8⟩ := okc_facts _ (HQO.out k hlt)
        rcases h3 with h3 | ⟨h3, h3'⟩
        all_goals
          go_wp2
          exact ⟨⟨k + 1, rfl, by omega, trivial⟩, by simp [intOf]; omega⟩
      · obtain rfl : k = q.size := by omega
        go_wp2_with (first | (go_at_call 7; refine CP2'.out.mono ?_; rintro e w3 ⟨rfl, hb3⟩))
        go_ret
        exact ⟨rfl, hbw.trans (hb3.mono hbw.size)⟩
end Go.Proofs.YtlhbpdnbfghkoaaDoor
