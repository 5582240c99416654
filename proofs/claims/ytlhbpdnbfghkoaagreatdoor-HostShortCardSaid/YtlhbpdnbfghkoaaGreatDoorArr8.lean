/- A row of eight pieces as an argument, read as data: opened and shut. -/
import Derived.Test.YtlhbpdnbfghkoaaGreatDoorText6
import Derived.ProofKit
import Derived.OpenShut
namespace Go.Proofs.YtlhbpdnbfghkoaaGreatDoor
open Go.ChangeShapes Go.WideShapes Go.ChangeAt Go.RowKit Go.ChangeMaps
set_option linter.unusedSimpArgs false
set_option linter.unusedVariables false
theorem arr8_list {α : Type} (xs : Array α) (h : xs.size = 8) : ∃ a0 a1 a2 a3 a4 a5 a6 a7, xs = #[a0, a1, a2, a3, a4, a5, a6, a7] := by
  obtain ⟨l⟩ := xs
  match l, h with
  | [a0, a1, a2, a3, a4, a5, a6, a7], _ => exact ⟨a0, a1, a2, a3, a4, a5, a6, a7, rfl⟩
theorem one16 {H : Type} {enc : TypeId × Value → H} {W : World} {base : Nat} {sp : Nat → Bool} {held : Bool} {m : Nat} {v : Value} {y : DataW H × List MemPlace}
    (h : DataW.trod enc Tryz.prog W base sp held m 38 [v] = some y) : ∃ x : Nat, x < 65536 ∧ v = .int .u16 (x : Int) ∧ y = (.lit (.int .u16 (x : Int)), []) := by
  obtain ⟨a, ea, rfl, wa⟩ := DataW.trod_int Tryz.underlying38 h
  have hv : v = .int .u16 a := by simpa using ea
  have ha : 0 ≤ a ∧ a < 65536 := by
    have := wa
    simp [Lit.wf, IntKind.min, IntKind.max, IntKind.signed, IntKind.bits] at this
    omega
  obtain ⟨n, rfl⟩ : ∃ n : Nat, a = n := ⟨a.toNat, by omega⟩
  exact ⟨n, by omega, hv, rfl⟩
set_option maxRecDepth 100000 in
theorem open_arr8 {H : Type} {enc : TypeId × Value → H} {W : World} {base : Nat} {sp : Nat → Bool} {held : Bool} {b0 : Nat} {v : Value} {d : DataW H} {p : List MemPlace}
    (hv : Value.okWide Tryz.prog W .any b0 39 v) (h : DataW.Trod enc Tryz.prog W base sp held 39 v d p) :
    ∃ L : List Nat, L.length = 8 ∧ (∀ x ∈ L, x < 65536) ∧ v = agg8 L ∧ p = [] ∧ ∀ (W' : World) (base' : Nat) (sp' : Nat → Bool) (held' : Bool), DataW.Trod enc Tryz.prog W' base' sp' held' 39 v d [] := by
  have hs : v.okWide Tryz.prog W .any b0 39 := hv
  simp only [Value.okWide, Tryz.underlying39] at hv
  obtain ⟨cs, rfl, hsz, _⟩ := hv
  have hc : Tryz.prog.cellsOf 39 = 8 := by kernel_rfl
  have hc1 : Tryz.prog.cellsOf 38 = 1 := by kernel_rfl
  obtain ⟨a0, a1, a2, a3, a4, a5, a6, a7, rfl⟩ := arr8_list cs (by rw [hsz, hc])
  obtain ⟨fuel, hf⟩ := h
  cases fuel with
  | zero => simp [DataW.trod] at hf
  | succ m =>
    rw [DataW.trod_step] at hf
    unfold DataW.trodStep at hf
    simp only [Tryz.underlying39, Value.cells] at hf
    rw [if_pos (by rw [hc]; rfl)] at hf
    simp only [hc1, List.range, List.range.loop, List.mapM_cons, List.mapM_nil, bind, pure, Option.map_eq_some_iff, Option.bind_eq_some_iff, Option.some.injEq] at hf
    obtain ⟨_, ⟨y0, h0, _, ⟨y1, h1, _, ⟨y2, h2, _, ⟨y3, h3, _, ⟨y4, h4, _, ⟨y5, h5, _, ⟨y6, h6, _, ⟨y7, h7, _, rfl, rfl⟩, rfl⟩, rfl⟩, rfl⟩, rfl⟩, rfl⟩, rfl⟩, rfl⟩, he⟩ := hf
    obtain ⟨x0, l0, rfl, rfl⟩ := one16 h0
    obtain ⟨x1, l1, rfl, rfl⟩ := one16 h1
    obtain ⟨x2, l2, rfl, rfl⟩ := one16 h2
    obtain ⟨x3, l3, rfl, rfl⟩ := one16 h3
    obtain ⟨x4, l4, rfl, rfl⟩ := one16 h4
    obtain ⟨x5, l5, rfl, rfl⟩ := one16 h5
    obtain ⟨x6, l6, rfl, rfl⟩ := one16 h6
    obtain ⟨x7, l7, rfl, rfl⟩ := one16 h7
    simp only [Prod.mk.injEq] at he
    obtain ⟨rfl, rfl⟩ := he
    refine ⟨[x0, x1, x2, x3, x4, x5, x6, x7], rfl, ?_, rfl, rfl, ?_⟩
    · intro x hx
      simp only [List.mem_cons, List.not_mem_nil, or_false] at hx
      rcases hx with rfl | rfl | rfl | rfl | rfl | rfl | rfl | rfl <;> assumption
    · intro W' base' sp' held'
      have k : ∀ (x : Nat), x < 65536 → DataW.trod enc Tryz.prog W' base' sp' held' 1 38 [Value.int .u16 (x : Int)] = some (.lit (.int .u16 (x : Int)), []) := by
        intro x hx
        rw [DataW.trod_step]
        unfold DataW.trodStep
        simp [Tryz.underlying38, Lit.wf, IntKind.min, IntKind.max, IntKind.signed, IntKind.bits]
        omega
      refine ⟨2, ?_⟩
      rw [DataW.trod_step]
      unfold DataW.trodStep
      simp only [Tryz.underlying39, Value.cells]
      rw [if_pos (by rw [hc]; rfl)]
      simp only [hc1, List.range, List.range.loop, List.mapM_cons, List.mapM_nil, bind, pure]
      simp [k, l0, l1, l2, l3, l4, l5, l6, l7, agg8, cells8]
end Go.Proofs.YtlhbpdnbfghkoaaGreatDoor
