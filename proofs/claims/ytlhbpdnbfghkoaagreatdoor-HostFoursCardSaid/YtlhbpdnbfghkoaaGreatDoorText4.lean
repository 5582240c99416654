/- host.text4: an address of four bytes as it is written. -/
import Derived.Test.YtlhbpdnbfghkoaaGreatDoorStrs
import Derived.Laws.ShiftsVarLaws
namespace Go.Proofs.YtlhbpdnbfghkoaaGreatDoor
open Go.RowKit
set_option linter.unusedSimpArgs false
set_option linter.unusedVariables false

def dec8 (n : Nat) : Bs := Lib.itoa (n : Int)
def parts4 (n : Nat) : List Bs := [dec8 (n / 16777216 % 256), dec8 (n / 65536 % 256), dec8 (n / 256 % 256), dec8 (n % 256)]
def text4 (n : Nat) : Bs := joinB 46 (parts4 n)

theorem decDigits_le (n : Nat) (h : n < 256) : (Lib.decDigits n).length ≤ 3 := by
  have : ∀ n : Fin 256, (Lib.decDigits n.val).length ≤ 3 := by decide +kernel
  exact this ⟨n, h⟩
theorem dec8_le (n : Nat) (h : n < 256) : (dec8 n).length ≤ 3 := by
  unfold dec8 Lib.itoa
  rw [if_neg (by omega)]
  simpa using decDigits_le n h

set_option maxRecDepth 1000000 in
set_option maxHeartbeats 8000000 in
theorem text4_any (n : Nat) (w : World) (hn : n < 4294967296) (hG : GL w) :
    Calls Tryz.prog 29 #[.int .u32 n] w fun e w' => e = .returned (.string (strOf (text4 n))) ∧ Below w.heap.size w w' := by
  go_enter Tryz.func29, Tryz.ntmps29
  go_wp2
  go_loopw [3, 4] (fun vs vi wr => ∃ k : Nat, vi = .int .i64 (24 - 8 * (k : Int)) ∧ k ≤ 4 ∧ OwnS wr w.heap.size vs ((parts4 n).take k) ∧ Below w.heap.size w wr) (fun _ vi _ => (intOf vi + 8).toNat)
  case atStart => exact ⟨0, rfl, by omega, OwnS.nil _ _, Below.refl _ _⟩
  case round =>
    obtain ⟨k, rfl, hk, hown, hbw⟩ := hrel
    obtain ⟨wo, rfl⟩ : ∃ wo : World, wo = wr := ⟨_, rfl⟩
    have hG2 := hG.below hbw
    have hB := hbw.size
    have CI := Lib.hid (fun (x : Int) (h0 : 0 ≤ x) (h1 : x ≤ 255) => lib_Itoa x (by omega) (by omega) wo hG2)
    have HO := Lib.hid hown
    clear hown
    have hk5 : k = 0 ∨ k = 1 ∨ k = 2 ∨ k = 3 ∨ k = 4 := by omega
    rcases hk5 with rfl | rfl | rfl | rfl | rfl
    · have he : Hid ((parts4 n).take 1 = (parts4 n).take 0 ++ [Lib.itoa ((n : Int) / 16777216)]) := by
        have e : ((n / 16777216 % 256 : Nat) : Int) = (n : Int) / 16777216 := by omega
        rw [← e]
        exact Lib.hid rfl
      have hlen : ((parts4 n).take 0).length ≤ 4 := by simp [parts4]
      go_wp2_with (first | (go_at_call 50; refine (CI.out _ (by omega) (by omega)).mono ?_; rintro e w2 ⟨rfl, hb2⟩) | (at_builtin; refine app_str rfl _ _ rfl w.heap.size _ ((parts4 n).take 0) (Lib.itoa ((n : Int) / 16777216)) rfl ((HO.out.below hb2).below ((Below.refl _ _).alloc (Nat.le_refl _) _)) ⟨w2.heap.size, 0, none⟩ 1 rfl (cells_alloc_new _ _ _ 0) (by omega) (by have h1 := hb2.size; simp; omega) ?_; intro v' w3 hown3 hg3))
      have hb3 : Below w.heap.size w w3 := ((hbw.trans (hb2.mono hB)).alloc (Nat.le_trans hB hb2.size) _).grown hg3 (by have h1 := hb2.size; simp; omega) HO.out.base
      refine ⟨⟨1, ?_, by omega, ?_, hb3⟩, by simp [intOf]⟩
      · congr 1
      · rw [he.out]; exact hown3
    · have he : Hid ((parts4 n).take 2 = (parts4 n).take 1 ++ [Lib.itoa ((n : Int) / 65536 % 256)]) := by
        have e : ((n / 65536 % 256 : Nat) : Int) = (n : Int) / 65536 % 256 := by omega
        rw [← e]
        exact Lib.hid rfl
      have hlen : ((parts4 n).take 1).length ≤ 4 := by simp [parts4]
      go_wp2_with (first | (go_at_call 50; refine (CI.out _ (by omega) (by omega)).mono ?_; rintro e w2 ⟨rfl, hb2⟩) | (at_builtin; refine app_str rfl _ _ rfl w.heap.size _ ((parts4 n).take 1) (Lib.itoa ((n : Int) / 65536 % 256)) rfl ((HO.out.below hb2).below ((Below.refl _ _).alloc (Nat.le_refl _) _)) ⟨w2.heap.size, 0, none⟩ 1 rfl (cells_alloc_new _ _ _ 0) (by omega) (by have h1 := hb2.size; simp; omega) ?_; intro v' w3 hown3 hg3))
      have hb3 : Below w.heap.size w w3 := ((hbw.trans (hb2.mono hB)).alloc (Nat.le_trans hB hb2.size) _).grown hg3 (by have h1 := hb2.size; simp; omega) HO.out.base
      refine ⟨⟨2, ?_, by omega, ?_, hb3⟩, by simp [intOf]⟩
      · congr 1
      · rw [he.out]; exact hown3
    · have he : Hid ((parts4 n).take 3 = (parts4 n).take 2 ++ [Lib.itoa ((n : Int) / 256 % 256)]) := by
        have e : ((n / 256 % 256 : Nat) : Int) = (n : Int) / 256 % 256 := by omega
        rw [← e]
        exact Lib.hid rfl
      have hlen : ((parts4 n).take 2).length ≤ 4 := by simp [parts4]
      go_wp2_with (first | (go_at_call 50; refine (CI.out _ (by omega) (by omega)).mono ?_; rintro e w2 ⟨rfl, hb2⟩) | (at_builtin; refine app_str rfl _ _ rfl w.heap.size _ ((parts4 n).take 2) (Lib.itoa ((n : Int) / 256 % 256)) rfl ((HO.out.below hb2).below ((Below.refl _ _).alloc (Nat.le_refl _) _)) ⟨w2.heap.size, 0, none⟩ 1 rfl (cells_alloc_new _ _ _ 0) (by omega) (by have h1 := hb2.size; simp; omega) ?_; intro v' w3 hown3 hg3))
      have hb3 : Below w.heap.size w w3 := ((hbw.trans (hb2.mono hB)).alloc (Nat.le_trans hB hb2.size) _).grown hg3 (by have h1 := hb2.size; simp; omega) HO.out.base
      refine ⟨⟨3, ?_, by omega, ?_, hb3⟩, by simp [intOf]⟩
      · congr 1
      · rw [he.out]; exact hown3
    · have he : Hid ((parts4 n).take 4 = (parts4 n).take 3 ++ [Lib.itoa ((n : Int) % 256)]) := by
        have e : ((n % 256 : Nat) : Int) = (n : Int) % 256 := by omega
        rw [← e]
        exact Lib.hid rfl
      have hlen : ((parts4 n).take 3).length ≤ 4 := by simp [parts4]
      go_wp2_with (first | (go_at_call 50; refine (CI.out _ (by omega) (by omega)).mono ?_; rintro e w2 ⟨rfl, hb2⟩) | (at_builtin; refine app_str rfl _ _ rfl w.heap.size _ ((parts4 n).take 3) (Lib.itoa ((n : Int) % 256)) rfl ((HO.out.below hb2).below ((Below.refl _ _).alloc (Nat.le_refl _) _)) ⟨w2.heap.size, 0, none⟩ 1 rfl (cells_alloc_new _ _ _ 0) (by omega) (by have h1 := hb2.size; simp; omega) ?_; intro v' w3 hown3 hg3))
      have hb3 : Below w.heap.size w w3 := ((hbw.trans (hb2.mono hB)).alloc (Nat.le_trans hB hb2.size) _).grown hg3 (by have h1 := hb2.size; simp; omega) HO.out.base
      refine ⟨⟨4, ?_, by omega, ?_, hb3⟩, by simp [intOf]⟩
      · congr 1
      · rw [he.out]; exact hown3
    · have hl : (joinB 46 (parts4 n)).length ≤ 1000000000 := by
        have h1 := dec8_le (n / 16777216 % 256) (by omega)
        have h2 := dec8_le (n / 65536 % 256) (by omega)
        have h3 := dec8_le (n / 256 % 256) (by omega)
        have h4 := dec8_le (n % 256) (by omega)
        simp [joinB, parts4, List.intercalate, List.intersperse]
        omega
      have hown4 : OwnS wo w.heap.size u3 (parts4 n) := HO.out
      have CJ := Lib.hid (lib_Join w.heap.size _ (parts4 n) 46 wo hown4 (by simp [parts4]) hl)
      clear hown4
      go_wp2_with (go_at_call 45; refine CJ.out.mono ?_; rintro e w2 ⟨rfl, hb2⟩)
      go_ret
      exact ⟨rfl, hbw.trans (hb2.mono hB)⟩
end Go.Proofs.YtlhbpdnbfghkoaaGreatDoor
