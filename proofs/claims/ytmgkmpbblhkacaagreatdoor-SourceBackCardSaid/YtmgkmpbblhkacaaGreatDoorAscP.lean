/- Lower case of texts whose bytes are below 128: plain. -/
import Derived.Test.YtmgkmpbblhkacaaGreatDoorMgS
import Derived.Test.YtmgkmpbblhkacaaGreatDoorMgQ
namespace Go.Proofs.YtmgkmpbblhkacaaGreatDoor
open Go.RowKit
set_option linter.unusedSimpArgs false
set_option linter.unusedVariables false

/-- Are all bytes below 128? -/
def ascB (l : Bs) : Prop := ∀ c ∈ l, c.toNat < 128
theorem encode_low (c : UInt8) (h : c.toNat < 128) : Lib.encodeRune (c.toNat : Int) = [c] := by
  unfold Lib.encodeRune
  rw [Lib.encodeRuneZ_one (by omega) (by omega)]
  simp
theorem encode_hi (r : Int) (h : 128 ≤ r) : ∃ x ∈ Lib.encodeRune r, 128 ≤ x.toNat := by
  have key : ∃ z ∈ Lib.encodeRuneZ r, 128 ≤ z ∧ z < 256 := by
    by_cases h1 : r ≤ 2047
    · exact ⟨128 + r % 64, by rw [Lib.encodeRuneZ_two h h1]; simp, by omega, by omega⟩
    · by_cases h2 : (2048 ≤ r ∧ r < 55296) ∨ (57343 < r ∧ r ≤ 65535)
      · exact ⟨128 + r % 64, by rw [Lib.encodeRuneZ_three h2]; simp, by omega, by omega⟩
      · by_cases h3 : 65536 ≤ r ∧ r ≤ 1114111
        · exact ⟨128 + r % 64, by rw [Lib.encodeRuneZ_four h3.1 h3.2]; simp, by omega, by omega⟩
        · exact ⟨239, by rw [Lib.encodeRuneZ_bad (by omega)]; simp, by omega, by omega⟩
  obtain ⟨z, hz, h1, h2⟩ := key
  refine ⟨z.toNat.toUInt8, List.mem_map.2 ⟨z, hz, rfl⟩, ?_⟩
  have e : z.toNat.toUInt8.toNat = z.toNat := by
    rw [Nat.toUInt8_eq, UInt8.toNat_ofNat']
    exact Nat.mod_eq_of_lt (by omega)
  rw [e]; omega
theorem rune_hi (c : UInt8) (t : Bs) (h : 128 ≤ c.toNat) : 128 ≤ (Lib.decodeL (c :: t)).1 := by
  refine Classical.byContradiction fun hlt => ?_
  have h1 := Lib.encode_decode (c :: t) (by simp) (fun hh => by omega)
  have h2 := Lib.decodeL_width (c :: t)
  unfold Lib.encodeRune at h1
  rw [Lib.encodeRuneZ_one (by omega) (by omega)] at h1
  obtain ⟨k, hk⟩ : ∃ k, (Lib.decodeL (c :: t)).2 = k + 1 := ⟨(Lib.decodeL (c :: t)).2 - 1, by omega⟩
  rw [hk, List.take_succ_cons] at h1
  simp only [List.map_cons, List.cons.injEq] at h1
  have h3 := h1.1
  have e : (((Lib.decodeL (c :: t)).1 : Int).toNat.toUInt8).toNat = (Lib.decodeL (c :: t)).1 := by
    rw [Int.toNat_natCast, Nat.toUInt8_eq, UInt8.toNat_ofNat']
    exact Nat.mod_eq_of_lt (by omega)
  rw [h3] at e
  omega
theorem lowR_byte (c : UInt8) : lowR (c.toNat : Int) = ((lowB c).toNat : Int) := by
  have : ∀ k : Fin 256, lowR ((UInt8.ofNat k.val).toNat : Int) = ((lowB (UInt8.ofNat k.val)).toNat : Int) := by decide +kernel
  have h := this ⟨c.toNat, c.toNat_lt⟩
  simpa using h
theorem lowB_low (c : UInt8) (h : c.toNat < 128) : (lowB c).toNat < 128 := by
  have : ∀ k : Fin 256, (UInt8.ofNat k.val).toNat < 128 → (lowB (UInt8.ofNat k.val)).toNat < 128 := by decide +kernel
  have h2 := this ⟨c.toNat, c.toNat_lt⟩
  simp only [UInt8.ofNat_toNat] at h2
  exact h2 h
theorem lowS_cons (c : UInt8) (t : Bs) (h : c.toNat < 128) : lowS (c :: t) = lowB c :: lowS t := by
  rw [lowS_step _ (by simp), Lib.decodeL_ascii c t h]
  simp only
  rw [lowR_byte, if_pos (by omega), encode_low _ (lowB_low c h)]
  rfl
theorem lowS_ascii (l : Bs) (h : ascB l) : lowS l = l.map lowB := by
  induction l with
  | nil => exact lowS_nil
  | cons c t ih => rw [lowS_cons c t (h c (by simp)), ih (fun x hx => h x (by simp [hx]))]; rfl
theorem lowS_back (l : Bs) (h : ascB (lowS l)) : ascB l := by
  induction l with
  | nil => exact fun c hc => by cases hc
  | cons c t ih =>
    by_cases hc : c.toNat < 128
    · rw [lowS_cons c t hc] at h
      have h2 := ih (fun x hx => h x (by simp [hx]))
      intro x hx
      rcases List.mem_cons.1 hx with rfl | hx
      · exact hc
      · exact h2 x hx
    · exfalso
      have hr := rune_hi c t (by omega)
      rw [lowS_step _ (by simp)] at h
      have e : lowR ((Lib.decodeL (c :: t)).1 : Int) = (Lib.decodeL (c :: t)).1 := by unfold lowR; rw [if_neg (by omega)]
      rw [e, if_pos (by omega)] at h
      obtain ⟨x, hx, hx2⟩ := encode_hi ((Lib.decodeL (c :: t)).1 : Int) (by omega)
      have := h x (List.mem_append_left _ hx)
      omega
theorem lowB_twice (c : UInt8) : lowB (lowB c) = lowB c := by
  have : ∀ k : Fin 256, lowB (lowB (UInt8.ofNat k.val)) = lowB (UInt8.ofNat k.val) := by decide +kernel
  have h := this ⟨c.toNat, c.toNat_lt⟩
  simpa using h
theorem map_low_twice (l : Bs) : (l.map lowB).map lowB = l.map lowB := by
  rw [List.map_map]; exact List.map_congr_left (fun c _ => lowB_twice c)
theorem asc_map (l : Bs) (h : ascB l) : ascB (l.map lowB) := by
  intro c hc
  obtain ⟨d, hd, rfl⟩ := List.mem_map.1 hc
  exact lowB_low d (h d hd)
/-- Small letters made large. -/
def upB (c : UInt8) : UInt8 := if 97 ≤ c.toNat ∧ c.toNat ≤ 122 then c - 32 else c
theorem upB_low (c : UInt8) (h : c.toNat < 128) : (upB c).toNat < 128 := by
  have : ∀ k : Fin 256, (UInt8.ofNat k.val).toNat < 128 → (upB (UInt8.ofNat k.val)).toNat < 128 := by decide +kernel
  have h2 := this ⟨c.toNat, c.toNat_lt⟩
  simp only [UInt8.ofNat_toNat] at h2
  exact h2 h
theorem lowB_upB (c : UInt8) : lowB (upB c) = lowB c := by
  have : ∀ k : Fin 256, lowB (upB (UInt8.ofNat k.val)) = lowB (UInt8.ofNat k.val) := by decide +kernel
  have h := this ⟨c.toNat, c.toNat_lt⟩
  simpa using h
theorem asc_up (l : Bs) (h : ascB l) : ascB (l.map upB) := by
  intro c hc
  obtain ⟨d, hd, rfl⟩ := List.mem_map.1 hc
  exact upB_low d (h d hd)
theorem low_up (l : Bs) : (l.map upB).map lowB = l.map lowB := by
  rw [List.map_map]; exact List.map_congr_left (fun c _ => lowB_upB c)
theorem asc_app (a b : Bs) (h1 : ascB a) (h2 : ascB b) : ascB (a ++ b) := fun c hc => (List.mem_append.1 hc).elim (h1 c) (h2 c)
end Go.Proofs.YtmgkmpbblhkacaaGreatDoor
