/- From what a row lists of Go's library to the one fact that the walks ask: GL. From what a row of the Source laws lists to GLS. -/
import Derived.Test.YtmgkmpbblhkacaaGreatDoorCards
import Derived.Test.YtmgkmpbblhkacaaGreatDoorBase
import Derived.Lib.LaidU8T
import Derived.Shelf.Vars
import Derived.MakeChecks
import Derived.Test.YtmgkmpbblhkacaaGreatDoorMgM
namespace Go.Proofs.YtmgkmpbblhkacaaGreatDoor
open Go.RowKit
set_option linter.unusedSimpArgs false
set_option linter.unusedVariables false

theorem var_lt {P : Program} {w : World} {n : String} {g : Nat} {cs : Array Value} (hg : P.globalNamed n = some g) (h : w.var? P n = some cs) : g < w.heap.size := by
  unfold World.var? at h
  rw [hg] at h
  simp only [Option.bind_some] at h
  split at h
  · rename_i hh; exact (Array.getElem?_eq_some_iff.1 hh).1
  · cases h
theorem tab_of_reads {P : Program} {W : World} {name : String} {k : IntKind} {zs : List Int} {g : Nat} {t e : TypeId} {n : Nat}
    (hg : P.globalNamed name = some g) (hty : (P.globals[g]?).map (·.type) = some t) (ht : P.underlying t = some (.array n e)) (he : P.underlying e = some (.int k)) (hce : P.cellsOf e = 1) (hct : P.cellsOf t = n)
    (h : Lib.VarReads P W name (Lib.tabData k zs)) : Lib.TabIs P W name k zs := by
  obtain ⟨g', t', cs, fuel, p, hg', ht', hvar, hd⟩ := h
  obtain rfl := Option.some.inj (hg.symm.trans hg')
  obtain rfl := Option.some.inj (hty.symm.trans ht')
  unfold Lib.TabIs
  rw [hvar, ← Lib.cells_of_tab ht he hce hct hd]
/-- A variable of interface type that reads as a value that is not nil. -/
theorem iface_of_reads {P : Program} {W : World} {name : String} {g : Nat} {t : TypeId} {ms : Array (String × TypeId)} {s : String} {d : DataW Unit}
    (hg : P.globalNamed name = some g) (hty : (P.globals[g]?).map (·.type) = some t) (ht : P.underlying t = some (.interface ms))
    (h : Lib.VarReads P W name (.iface s d)) : ∃ te pe, W.cell? ⟨g, 0, none⟩ = some (.iface te pe) := by
  obtain ⟨g', t', cs, fuel, p, hg', ht', hvar, hd⟩ := h
  obtain rfl := Option.some.inj (hg.symm.trans hg')
  obtain rfl := Option.some.inj (hty.symm.trans ht')
  have hc := World.var?_cell hg hvar 0
  rw [hc]
  cases fuel with
  | zero => simp [DataW.trod] at hd
  | succ fuel =>
    unfold DataW.trod at hd
    rw [ht] at hd
    obtain ⟨l⟩ := cs
    match l, hd with
    | [], hd => simp at hd
    | [.iface u v], hd => exact ⟨u, v, rfl⟩
    | [.nilIface], hd => simp at hd
    | a :: b :: r, hd => cases a <;> simp at hd
    | [.bool _], hd => simp at hd
    | [.int _ _], hd => simp at hd
    | [.float _ _], hd => simp at hd
    | [.string _], hd => simp at hd
    | [.pointer _], hd => simp at hd
    | [.slice _ _ _], hd => simp at hd
    | [.map _], hd => simp at hd
    | [.agg _], hd => simp at hd
    | [.tuple _], hd => simp at hd
    | [.nilFunc], hd => simp at hd
    | [.func _ _ _], hd => simp at hd
    | [.chan _], hd => simp at hd

theorem pow_same : (Rows.laid_internal_strconv_uint64pow10 : DataW Unit) = Lib.tabData .u64 Lib.pow10Tab := by kernel_rfl
theorem first_same : (Rows.laid_unicode_utf8_first : DataW Unit) = Lib.firstData := by kernel_rfl
theorem accept_same : (Rows.laid_unicode_utf8_acceptRanges : DataW Unit) = Lib.acceptData := by kernel_rfl
def u8ren : Go.Shelf.Ren := ⟨fun n => n, fun | 5 => 5 | 119 => 125 | 138 => 136 | 139 => 137 | n => n, fun | 3 => 2 | 4 => 3 | n => n⟩
theorem u8types : U8Types Tryz.prog u8ren := ⟨Tryz.underlying5, Tryz.underlying125, Tryz.underlying136, Tryz.underlying137⟩
theorem u8extra : U8Extra Tryz.prog u8ren := ⟨by kernel_rfl, by kernel_rfl, by kernel_rfl, by kernel_rfl, by kernel_rfl, by kernel_rfl, by kernel_rfl⟩

def deB : List Int := [0, 1, 56, 2, 57, 49, 28, 3, 61, 58, 42, 50, 38, 29, 17, 4, 62, 47, 59, 36, 45, 43, 51, 22, 53, 39, 33, 30, 24, 18, 12, 5, 63, 55, 48, 27, 60, 41, 37, 16, 46, 35, 44, 21, 52, 32, 23, 11, 54, 26, 40, 15, 34, 20, 31, 10, 25, 14, 19, 9, 13, 8, 7, 6]
theorem gl_of_laid {l : List (String × DataW Unit)} {W : World} (hp : (l.all fun x => x.2.handleName?.isNone) = true)
    (m1 : ("internal/strconv.uint64pow10", Rows.laid_internal_strconv_uint64pow10) ∈ l) (m2 : ("unicode/utf8.first", Rows.laid_unicode_utf8_first) ∈ l) (m3 : ("unicode/utf8.acceptRanges", Rows.laid_unicode_utf8_acceptRanges) ∈ l)
    (m4 : ("strconv.ErrSyntax", Rows.laid_strconv_ErrSyntax) ∈ l) (m5 : ("strconv.ErrRange", Rows.laid_strconv_ErrRange) ∈ l) (m6 : ("math/bits.deBruijn64tab", Rows.laid_math_bits_deBruijn64tab) ∈ l)
    (hL : laidMetH Tryz.prog l W) (hS : W.ShapedOpen Tryz.prog) : GL W := by
  rw [MakeChecks.laidMetH_plain _ _ _ hp] at hL
  have r1 := Lib.laidMet.reads hL m1
  have r2 := Lib.laidMet.reads hL m2
  have r3 := Lib.laidMet.reads hL m3
  have r4 := Lib.laidMet.reads hL m4
  have r5 := Lib.laidMet.reads hL m5
  have r6 := Lib.laidMet.reads hL m6
  have r6' := r6
  rw [pow_same] at r1
  rw [first_same] at r2
  rw [accept_same] at r3
  have hu := utf8Tabs_of_readsT u8types u8extra r2 r3
  have h64 : (Rows.laid_math_bits_deBruijn64tab : DataW Unit) = Lib.tabData .u8 deB := by kernel_rfl
  rw [h64] at r6
  have ht6 := tab_of_reads (P := Tryz.prog) (g := 9) (t := 194) (e := 5) (n := 64) (by kernel_rfl) (by kernel_rfl) Tryz.underlying194 Tryz.underlying5 (by kernel_rfl) (by kernel_rfl) r6
  have ht1 := tab_of_reads (P := Tryz.prog) (g := 5) (t := 157) (e := 70) (n := 20) (by kernel_rfl) (by kernel_rfl) Tryz.underlying157 Tryz.underlying70 (by kernel_rfl) (by kernel_rfl) r1
  refine ⟨?_, ?_, ht1, hu, ?_, ?_, ?_⟩
  · obtain ⟨g, t, cs, fuel, p, hg, hty, hvar, hd⟩ := r3
    obtain rfl := Option.some.inj ((show Tryz.prog.globalNamed "unicode/utf8.acceptRanges" = some 3 by kernel_rfl).symm.trans hg)
    have h3 := var_lt hg hvar
    obtain ⟨g', t', cs', fuel', p', hg', hty', hvar', hd'⟩ := r6'
    obtain rfl := Option.some.inj ((show Tryz.prog.globalNamed "math/bits.deBruijn64tab" = some 9 by kernel_rfl).symm.trans hg')
    have h6 := var_lt hg' hvar'
    omega
  · exact cell_of_shapedOpen_int (P := Tryz.prog) (g := 1) (zero := #[.int .i64 0]) (t := 3) hS (of_decide_eq_true (by kernel_rfl)) (by kernel_rfl) rfl (by kernel_rfl) (by kernel_rfl) Tryz.underlying3
  · exact iface_of_reads (P := Tryz.prog) (t := 84) (by kernel_rfl) (by kernel_rfl) Tryz.underlying84 r4
  · exact ht6.cell (by kernel_rfl) 15 (by decide)
  · exact iface_of_reads (P := Tryz.prog) (t := 84) (by kernel_rfl) (by kernel_rfl) Tryz.underlying84 r5
end Go.Proofs.YtmgkmpbblhkacaaGreatDoor
namespace Go.Proofs.YtmgkmpbblhkacaaGreatDoor
open Go.RowKit
set_option linter.unusedSimpArgs false
set_option linter.unusedVariables false

theorem asp_same : (Rows.laid_strings_asciiSpace : DataW Unit) = Lib.tabData .u8 Lib.asciiSpaceTab := by kernel_rfl
theorem gls_of_laid {l : List (String × DataW Unit)} {W : World} (hp : (l.all fun x => x.2.handleName?.isNone) = true)
    (m1 : ("internal/strconv.uint64pow10", Rows.laid_internal_strconv_uint64pow10) ∈ l) (m2 : ("unicode/utf8.first", Rows.laid_unicode_utf8_first) ∈ l) (m3 : ("unicode/utf8.acceptRanges", Rows.laid_unicode_utf8_acceptRanges) ∈ l)
    (m4 : ("strconv.ErrSyntax", Rows.laid_strconv_ErrSyntax) ∈ l) (m5 : ("strconv.ErrRange", Rows.laid_strconv_ErrRange) ∈ l) (m6 : ("math/bits.deBruijn64tab", Rows.laid_math_bits_deBruijn64tab) ∈ l) (m7 : ("strings.asciiSpace", Rows.laid_strings_asciiSpace) ∈ l)
    (hL : laidMetH Tryz.prog l W) (hS : W.ShapedOpen Tryz.prog) : GLS W := by
  refine ⟨gl_of_laid hp m1 m2 m3 m4 m5 m6 hL hS, ?_⟩
  rw [MakeChecks.laidMetH_plain _ _ _ hp] at hL
  have r := Lib.laidMet.reads hL m7
  rw [asp_same] at r
  exact tab_of_reads (P := Tryz.prog) (g := 0) (t := 125) (e := 5) (n := 256) (by kernel_rfl) (by kernel_rfl) Tryz.underlying125 Tryz.underlying5 (by kernel_rfl) (by kernel_rfl) r
end Go.Proofs.YtmgkmpbblhkacaaGreatDoor
