/- HostFours: for every address of four bytes: it is written in many ways, and parsed as one. The row, and its tied card. No condition beside the card's own. -/
import Derived.Test.YtlhbpdnbfghkoaaGreatDoorFours
import Derived.Test.YtlhbpdnbfghkoaaGreatDoorLaid
import Derived.Test.YtlhbpdnbfghkoaaGreatDoorTie
import Derived.ProofKit
import Derived.OpenShut
import Derived.Lay
import Derived.Deep.DeepHandedRow
namespace Go.Proofs.YtlhbpdnbfghkoaaGreatDoor
open Go.ChangeShapes Go.WideShapes Go.ChangeAt Go.RowKit Go.ChangeMaps
set_option linter.unusedSimpArgs false
set_option linter.unusedVariables false

theorem own_fours : ownKnob Tryz.prog.godebug = none := by kernel_rfl

/-- What the row asks at the end, where the arguments hold no memory and the call wrote in memory of its own alone. -/
theorem post_flat_fours {H : Type} {enc : TypeId × Value → H} {P : Program} {f : Func} {s : ChangeSpec} {apart fresh handsOn again : Bool} {W W' : World} {args : Array Value} {v : Value} {ds gs : List (DataW H)}
    (hW : DataW.Whole enc P f.params.toList s.vars apart W args.toList ds gs [])
    (hres : ∀ (b : Nat) (sp : Nat → Bool) (hd : Bool), DataW.TrodAll enc P W' b sp hd f.resultTypes.toList (v.resultList f.resultTypes.size) (s.fn H (ds ++ gs)).results [])
    (hargs : ∀ sp : Nat → Bool, DataW.TrodAll enc P W' 0 sp true f.params.toList args.toList (s.fn H (ds ++ gs)).args [])
    (hvars : ∀ sp : Nat → Bool, DataW.TrodVars enc P W' sp s.vars (s.fn H (ds ++ gs)).vars [])
    (hb : Below W.heap.size W W')
    (hok : ∀ (j : Nat) (t : TypeId) (r : Value), f.resultTypes[j]? = some t → (v.resultList f.resultTypes.size)[j]? = some r → Value.okWide P W' .any 0 t r) :
    s.post enc P f apart fresh handsOn again W args v W' := by
  refine ⟨ds, gs, [], [], [], [], hW, hres _ _ _, hargs _, hvars _, hb.frame _, fun _ => ?_⟩
  refine ⟨hok, _, _, ([] ++ []) ++ [], ⟨[] ++ [], [], trodAll_append (hargs _) (hres _ _ _), hvars _, rfl, ?_, fun _ => List.nodup_nil⟩, ?_⟩
  · intro b off hp; cases hp
  · intro p hp; cases hp

set_option maxRecDepth 100000 in
theorem fours_contract (H : Type) (enc : TypeId × Value → H) (W : World) (base : Nat) (args : Array Value) (ds gs : List (DataW H)) (before : List MemPlace)
    (hval : ∀ (j : Nat) t v, Tryz.f3.params[j]? = some t → args[j]? = some v → Value.okWide Tryz.prog W .any base t v)
    (hW : DataW.Whole enc Tryz.prog Tryz.f3.params.toList Rows.hostFoursSpec.vars false W args.toList ds gs before) (hL : laidMetH Tryz.prog Rows.hostFoursRow.laid W) (hS : W.ShapedOpen Tryz.prog) :
    Calls Tryz.prog 3 args W fun e W' => ∃ v, e = .returned v ∧ Rows.hostFoursSpec.post enc Tryz.prog Tryz.f3 false true false false W args v W' := by
  have hW' := hW
  obtain ⟨p, q, hA0, hV, rfl, hfz, hnd⟩ := hW
  have hA : DataW.TrodAll enc Tryz.prog W 0 (fun _ => true) true Tryz.f3.params.toList args.toList ds p := hA0
  rw [Tryz.params3] at hA hval
  obtain ⟨v0, vs0, d0, ds0, p0, q0, hargs, rfl, rfl, h0, r0⟩ := trodAll_cons hA
  obtain ⟨rfl, rfl, rfl⟩ := trodAll_nil r0
  obtain rfl : args = #[v0] := by cases args; simp_all
  obtain ⟨rfl, rfl⟩ := trodVars_none hV
  obtain ⟨m0, rfl, rfl, rfl, hm0⟩ := open_int Tryz.underlying22 (hval 0 22 v0 rfl rfl) h0
  have hG := gl_of_laid (by kernel_rfl) (by repeat (first | exact List.Mem.head _ | apply List.Mem.tail)) (by repeat (first | exact List.Mem.head _ | apply List.Mem.tail)) (by repeat (first | exact List.Mem.head _ | apply List.Mem.tail)) (by repeat (first | exact List.Mem.head _ | apply List.Mem.tail)) (by repeat (first | exact List.Mem.head _ | apply List.Mem.tail)) (by repeat (first | exact List.Mem.head _ | apply List.Mem.tail)) hL hS
  clear hA0
  simp only [List.append_nil] at hW'
  refine (fours_at m0 W hm0 hG).mono fun e W' ⟨he, hb⟩ => ?_
  subst he
  exact ⟨_, rfl, post_flat_fours hW' (fun _ _ _ => trodAll_cons_mk (shut_bool Tryz.underlying4 _) trodAll_mk0) (fun _ => trodAll_cons_mk (shut_int Tryz.underlying22 hm0) trodAll_mk0) (fun _ => rfl) hb (ok_one (by kernel_rfl) rfl (okWide_bool_mk Tryz.underlying4 _))⟩

noncomputable def laidW_fours (os : Os) : World := World.laidAll Tryz.prog os Rows.hostFoursRow.laid

set_option maxRecDepth 100000 in
theorem fours_lifted (os : Os) (started : os.Started) (H : Type) (enc : TypeId × Value → H) (F : Stop.Interp) :
    ReturnsInHanded {} Tryz.checked os 3 .any ((OpenSpec.ofChange Rows.hostFoursSpec).preRow enc Tryz.prog Tryz.f3 Rows.hostFoursRow.domain false Rows.hostFoursRow.laid) (((OpenSpec.ofChange Rows.hostFoursSpec).at F).post enc Tryz.prog Tryz.f3 false true false false) := by
  have hx : ∃ places, DataW.whole enc Tryz.prog ((laidW_fours os).forCall (fun _ _ => 0) ⟨#[], #[Value.int .u32 0], []⟩).memory Tryz.f3.params.toList Rows.hostFoursSpec.vars false #[Value.int .u32 0].toList 8 = some ([.lit (.int .u32 0)], [], places) := ⟨[], by kernel_rfl⟩
  obtain ⟨places, hx⟩ := hx
  have hlaid : laidMetH Tryz.prog Rows.hostFoursRow.laid ((laidW_fours os).forCall (fun _ _ => 0) ⟨#[], #[Value.int .u32 0], []⟩).memory := by
    rw [MakeChecks.laidMetH_plain _ _ _ (by kernel_rfl)]
    exact laidMet_laidAll _ (by kernel_rfl) (by kernel_rfl)
  refine returnsInHanded_of_row (C := Tryz.checked) (s := OpenSpec.ofChange Rows.hostFoursSpec) own_fours started (by kernel_rfl) Tryz.func3 ?_ ?_
  · refine ⟨laidW_fours os, fun _ _ => 0, ⟨#[], #[Value.int .u32 0], []⟩, World.laidAll_os _ _ _, World.shaped_of_ZipB (by kernel_rfl) (by kernel_rfl), rfl, ?_, ?_, ?_⟩
    · exact (Input.okWide_of_okWideB (base := 0) (by kernel_rfl)).2
    · exact OpenSpec.preRow_of_cond 8 hx (by kernel_rfl) (fun k hk => by cases hk) (by kernel_rfl) hlaid
    · simp only [Assume.holds]
      exact ⟨by simp, by simp, fun _ => Modest.zero, by simp, by simp⟩
  · intro W base args ds gs before hval hW _ _ _ hL hS _
    exact fours_contract H enc W base args ds gs before hval hW hL hS

theorem fours_said : Rows.HostFoursSaid :=
  OpenClaim.holds_of_cond 3 Tryz.f3 rfl rfl rfl rfl rfl rfl rfl ⟨rfl, rfl, rfl, rfl, rfl⟩ rfl rfl rfl rfl rfl (by kernel_rfl) Tryz.func3 (by kernel_rfl)
    (of_decide_eq_true (by kernel_rfl)) (by unfold Func.isWrapper; first | (rw [if_pos (by decide +kernel)]; kernel_rfl) | (rw [if_neg (by decide +kernel)]; exact ⟨rfl, rfl⟩))
    (fun os started H enc _ F => by rw [OpenClaim.pre_eq_preRow]; exact fours_lifted os started H enc F)

/-- No parameter wants a stand-in; the program's own looks are off: what the card asks. -/
theorem fours_plainly (f : FuncId) (fn : Func) (hf : Tryz.pinned.checked.prog.funcNamed "transept/transeptlaw07.HostFours" = some f) (hfn : Tryz.pinned.checked.prog.funcs[f]? = some fn) :
    true = Tryz.pinned.checked.prog.looks [] ∧ ∀ (j : Nat) t, fn.params[j]? = some t → Tryz.pinned.checked.prog.wantsStandIn t = false := by
  obtain rfl : f = 3 := Option.some.inj ((show Tryz.prog.funcNamed "transept/transeptlaw07.HostFours" = some 3 by kernel_rfl).symm.trans hf) |>.symm
  obtain rfl : fn = Tryz.f3 := (Option.some.inj (Tryz.func3.symm.trans hfn)).symm
  refine ⟨by kernel_rfl, fun j t ht => ?_⟩
  rw [Tryz.params3] at ht
  have hm : t ∈ [22] := by simpa using Array.mem_of_getElem? ht
  have hall : ([22].all fun u => !Tryz.prog.wantsStandIn u) = true := by kernel_rfl
  exact (show Tryz.prog.wantsStandIn t = false by simpa using List.all_eq_true.1 hall t hm)

theorem hostFours_card : Rows.HostFoursCardSaid :=
  Claim7.holds_tied_plain_at .later [] _ _ _ _ fours_said (fun _ h => by cases h) (by kernel_rfl) (fun _ h => by cases h) hostFours_row_tie rfl ⟨rfl, rfl⟩ (by kernel_rfl) rfl fours_plainly (by kernel_rfl)
end Go.Proofs.YtlhbpdnbfghkoaaGreatDoor
