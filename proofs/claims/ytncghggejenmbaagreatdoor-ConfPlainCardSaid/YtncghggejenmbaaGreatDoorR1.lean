/- What start-up lays, a world that has it, and how a configuration comes in as an argument. -/
import Derived.Test.YtncghggejenmbaaGreatDoorG7
import Derived.Test.YtncghggejenmbaaGreatDoorRows
import Derived.Deep.DeepHandedRow
import Derived.Deep.DeepWitnessRowRef
import Derived.Lib.LaidIn
import Derived.Lib.LaidU8
import Derived.ProofKit
import Derived.SizedLaws
import Derived.ChangeOld
import Derived.Carry
import Derived.JoinedOf
import Derived.HandedShaped
namespace Go.Proofs.YtncghggejenmbaaGreatDoor
open Go.ChangeShapes Go.WideShapes Go.ChangeAt Go.RowKit Go.Lib Go.Proofs
set_option linter.unusedSimpArgs false
set_option linter.unusedVariables false
theorem own_knob : ownKnob Tryz.prog.godebug = none := by kernel_rfl
theorem laid_out : laidOutB Tryz.prog = true := by kernel_rfl
abbrev theLaid : List (String × DataW Unit) := [("math/bits.deBruijn32tab", Rows.laid_math_bits_deBruijn32tab), ("math/bits.deBruijn64tab", Rows.laid_math_bits_deBruijn64tab), ("internal/strconv.uint64pow10", Rows.laid_internal_strconv_uint64pow10), ("unicode/utf8.acceptRanges", Rows.laid_unicode_utf8_acceptRanges), ("strconv.ErrRange", Rows.laid_strconv_ErrRange), ("strconv.ErrSyntax", Rows.laid_strconv_ErrSyntax), ("unicode/utf8.first", Rows.laid_unicode_utf8_first)]
theorem pow_data : Rows.laid_internal_strconv_uint64pow10 = (Lib.tabData .u64 Lib.pow10Tab : DataW Unit) := by rfl
def tz64 : List Int := [0, 1, 56, 2, 57, 49, 28, 3, 61, 58, 42, 50, 38, 29, 17, 4, 62, 47, 59, 36, 45, 43, 51, 22, 53, 39, 33, 30, 24, 18, 12, 5, 63, 55, 48, 27, 60, 41, 37, 16, 46, 35, 44, 21, 52, 32, 23, 11, 54, 26, 40, 15, 34, 20, 31, 10, 25, 14, 19, 9, 13, 8, 7, 6]
theorem tz_data : Rows.laid_math_bits_deBruijn64tab = (Lib.tabData .u8 tz64 : DataW Unit) := by rfl
theorem G_of_laid {W : World} (h : laidMetH Tryz.prog theLaid W) (hs : W.ShapedOpen Tryz.prog) : G W := by
  have h0 : laidMet Tryz.prog theLaid W := h
  have rp : VarReads Tryz.prog W "internal/strconv.uint64pow10" (Lib.tabData .u64 Lib.pow10Tab) := by
    rw [← pow_data]; exact Lib.laidMet.reads h0 (by simp [theLaid])
  have rz : VarReads Tryz.prog W "math/bits.deBruijn64tab" (Lib.tabData .u8 tz64) := by
    rw [← tz_data]; exact Lib.laidMet.reads h0 (by simp [theLaid])
  have rs : VarReads Tryz.prog W "strconv.ErrSyntax" Rows.laid_strconv_ErrSyntax := Lib.laidMet.reads h0 (by simp [theLaid])
  have rr : VarReads Tryz.prog W "strconv.ErrRange" Rows.laid_strconv_ErrRange := Lib.laidMet.reads h0 (by simp [theLaid])
  have key : ∀ (n : String) (nm : String) (d : DataW Unit) (g0 : Nat), VarReads Tryz.prog W n (.iface nm d) → Tryz.prog.globalNamed n = some g0 → (Tryz.prog.globals[g0]?).map (·.type) = some 94 → ∃ t p, W.var? Tryz.prog n = some #[.iface t p] := by
    intro n nm d g0 hr hg0 ht0
    obtain ⟨g, t, cs, fuel, p, hg, hty, hvar, hd⟩ := hr
    obtain rfl := Option.some.inj (hg0.symm.trans hg)
    obtain rfl := Option.some.inj (ht0.symm.trans hty)
    obtain ⟨f1, u, v, hcs, hn, h1⟩ := iface_of_trod Tryz.underlying94 hd
    obtain ⟨l⟩ := cs
    simp only at hcs
    subst hcs
    exact ⟨u, v, hvar⟩
  refine ⟨cell_of_shapedOpen_int (zero := #[.int .i64 0]) (t := 3) hs (of_decide_eq_true (by kernel_rfl)) (by kernel_rfl) rfl (by kernel_rfl) (by kernel_rfl) Tryz.underlying3, ?_, ?_, ?_, ?_⟩
  · obtain ⟨g, t, cs, fuel, p, hg, hty, hvar, hd⟩ := rp
    obtain rfl := Option.some.inj ((show Tryz.prog.globalNamed "internal/strconv.uint64pow10" = some 1 by kernel_rfl).symm.trans hg)
    obtain rfl := Option.some.inj ((show (Tryz.prog.globals[1]?).map (·.type) = some 254 by kernel_rfl).symm.trans hty)
    unfold Lib.TabIs
    rw [hvar, ← cells_of_tab (n := 20) Tryz.underlying254 Tryz.underlying30 (by kernel_rfl) (by kernel_rfl) hd]
  · exact key _ _ _ 2 rs (by kernel_rfl) (by kernel_rfl)
  · exact key _ _ _ 3 rr (by kernel_rfl) (by kernel_rfl)
  · obtain ⟨g, t, cs, fuel, p, hg, hty, hvar, hd⟩ := rz
    obtain rfl := Option.some.inj ((show Tryz.prog.globalNamed "math/bits.deBruijn64tab" = some 7 by kernel_rfl).symm.trans hg)
    obtain rfl := Option.some.inj ((show (Tryz.prog.globals[7]?).map (·.type) = some 272 by kernel_rfl).symm.trans hty)
    have hcs := cells_of_tab (n := 64) Tryz.underlying272 Tryz.underlying5 (by kernel_rfl) (by kernel_rfl) hd
    have := World.var?_cell hg hvar 15
    rw [this, ← Array.getElem?_toList, hcs]
    rfl
end Go.Proofs.YtncghggejenmbaaGreatDoor
