/- What start-up lays, a world that has it, and how a configuration comes in as an argument. A world that holds what start-up lays. How a configuration comes in as an argument. (printed by gen_r3.py) (joined by wip/bundle.py) -/
import Derived.Test.YtncghggejenmbaaGreatDoorG7
import Derived.Test.YtncghggejenmbaaGreatDoorRows
import Derived.Deep.DeepHandedRow
import Derived.Deep.DeepWitnessRowRef
import Derived.Lib.LaidIn
import Derived.Lib.LaidU8
import Derived.ProofKit
import Derived.SizedLaws
import Derived.ChangeOld
import Derived.Carry
import Derived.JoinedOf
import Derived.HandedShaped
namespace Go.Proofs.YtncghggejenmbaaGreatDoor
open Go.ChangeShapes Go.WideShapes Go.ChangeAt Go.RowKit Go.Lib Go.Proofs
set_option linter.unusedSimpArgs false
set_option linter.unusedVariables false
theorem own_knob : ownKnob Tryz.prog.godebug = none := by kernel_rfl
theorem laid_out : laidOutB Tryz.prog = true := by kernel_rfl
abbrev theLaid : List (String × DataW Unit) := [("math/bits.deBruijn32tab", Rows.laid_math_bits_deBruijn32tab), ("math/bits.deBruijn64tab", Rows.laid_math_bits_deBruijn64tab), ("internal/strconv.uint64pow10", Rows.laid_internal_strconv_uint64pow10), ("unicode/utf8.acceptRanges", Rows.laid_unicode_utf8_acceptRanges), ("strconv.ErrRange", Rows.laid_strconv_ErrRange), ("strconv.ErrSyntax", Rows.laid_strconv_ErrSyntax), ("unicode/utf8.first", Rows.laid_unicode_utf8_first)]
theorem pow_data : Rows.laid_internal_strconv_uint64pow10 = (Lib.tabData .u64 Lib.pow10Tab : DataW Unit) := by rfl
def tz64 : List Int := [0, 1, 56, 2, 57, 49, 28, 3, 61, 58, 42, 50, 38, 29, 17, 4, 62, 47, 59, 36, 45, 43, 51, 22, 53, 39, 33, 30, 24, 18, 12, 5, 63, 55, 48, 27, 60, 41, 37, 16, 46, 35, 44, 21, 52, 32, 23, 11, 54, 26, 40, 15, 34, 20, 31, 10, 25, 14, 19, 9, 13, 8, 7, 6]
theorem tz_data : Rows.laid_math_bits_deBruijn64tab = (Lib.tabData .u8 tz64 : DataW Unit) := by rfl
theorem G_of_laid {W : World} (h : laidMetH Tryz.prog theLaid W) (hs : W.ShapedOpen Tryz.prog) : G W := by
  have h0 : laidMet Tryz.prog theLaid W := h
  have rp : VarReads Tryz.prog W "internal/strconv.uint64pow10" (Lib.tabData .u64 Lib.pow10Tab) := by
    rw [← pow_data]; exact Lib.laidMet.reads h0 (by simp [theLaid])
  have rz : VarReads Tryz.prog W "math/bits.deBruijn64tab" (Lib.tabData .u8 tz64) := by
    rw [← tz_data]; exact Lib.laidMet.reads h0 (by simp [theLaid])
  have rs : VarReads Tryz.prog W "strconv.ErrSyntax" Rows.laid_strconv_ErrSyntax := Lib.laidMet.reads h0 (by simp [theLaid])
  have rr : VarReads Tryz.prog W "strconv.ErrRange" Rows.laid_strconv_ErrRange := Lib.laidMet.reads h0 (by simp [theLaid])
  have key : ∀ (n : String) (nm : String) (d : DataW Unit) (g0 : Nat), VarReads Tryz.prog W n (.iface nm d) → Tryz.prog.globalNamed n = some g0 → (Tryz.prog.globals[g0]?).map (·.type) = some 94 → ∃ t p, W.var? Tryz.prog n = some #[.iface t p] := by
    intro n nm d g0 hr hg0 ht0
    obtain ⟨g, t, cs, fuel, p, hg, hty, hvar, hd⟩ := hr
    obtain rfl := Option.some.inj (hg0.symm.trans hg)
    obtain rfl := Option.some.inj (ht0.symm.trans hty)
    obtain ⟨f1, u, v, hcs, hn, h1⟩ := iface_of_trod Tryz.underlying94 hd
    obtain ⟨l⟩ := cs
    simp only at hcs
    subst hcs
    exact ⟨u, v, hvar⟩
  refine ⟨cell_of_shapedOpen_int (zero := #[.int .i64 0]) (t := 3) hs (of_decide_eq_true (by kernel_rfl)) (by kernel_rfl) rfl (by kernel_rfl) (by kernel_rfl) Tryz.underlying3, ?_, ?_, ?_, ?_⟩
  · obtain ⟨g, t, cs, fuel, p, hg, hty, hvar, hd⟩ := rp
    obtain rfl := Option.some.inj ((show Tryz.prog.globalNamed "internal/strconv.uint64pow10" = some 1 by kernel_rfl).symm.trans hg)
    obtain rfl := Option.some.inj ((show (Tryz.prog.globals[1]?).map (·.type) = some 254 by kernel_rfl).symm.trans hty)
    unfold Lib.TabIs
    rw [hvar, ← cells_of_tab (n := 20) Tryz.underlying254 Tryz.underlying30 (by kernel_rfl) (by kernel_rfl) hd]
  · exact key _ _ _ 2 rs (by kernel_rfl) (by kernel_rfl)
  · exact key _ _ _ 3 rr (by kernel_rfl) (by kernel_rfl)
  · obtain ⟨g, t, cs, fuel, p, hg, hty, hvar, hd⟩ := rz
    obtain rfl := Option.some.inj ((show Tryz.prog.globalNamed "math/bits.deBruijn64tab" = some 7 by kernel_rfl).symm.trans hg)
    obtain rfl := Option.some.inj ((show (Tryz.prog.globals[7]?).map (·.type) = some 272 by kernel_rfl).symm.trans hty)
    have hcs := cells_of_tab (n := 64) Tryz.underlying272 Tryz.underlying5 (by kernel_rfl) (by kernel_rfl) hd
    have := World.var?_cell hg hvar 15
    rw [this, ← Array.getElem?_toList, hcs]
    rfl
end Go.Proofs.YtncghggejenmbaaGreatDoor
namespace Go.Proofs.YtncghggejenmbaaGreatDoor
open Go.ChangeShapes Go.WideShapes Go.ChangeAt Go.RowKit Go.Lib Go.Proofs
set_option linter.unusedSimpArgs false
set_option linter.unusedVariables false
def tz32 : List Int := [0, 1, 28, 2, 29, 14, 24, 3, 30, 22, 20, 15, 25, 17, 4, 8, 31, 27, 13, 23, 21, 19, 16, 7, 26, 12, 18, 6, 11, 5, 10, 9]
/-- THE WITNESS: the settled world with two blocks more (the two errors' texts), the variables holding what their initialisers lay. -/
noncomputable def laidWorld (os : Os) : World :=
  let N := (World.settled Tryz.prog os).heap.size
  let w0 := World.holding Tryz.prog os ⟨#[.cells #[.string ⟨#[118, 97, 108, 117, 101, 32, 111, 117, 116, 32, 111, 102, 32, 114, 97, 110, 103, 101]⟩] 270, .cells #[.string ⟨#[105, 110, 118, 97, 108, 105, 100, 32, 115, 121, 110, 116, 97, 120]⟩] 270], #[], []⟩
  let put (h : Array Obj) (g : Nat) (cs : Array Value) : Array Obj := h.modify g fun
    | .cells _ t frozen => .cells cs t frozen
    | o => o
  let h1 := put w0.heap 1 (Lib.pow10Tab.map fun z => Value.int .u64 z).toArray
  let h2 := put h1 2 #[.iface 268 (.pointer (some ⟨N + 1, 0, none⟩))]
  let h3 := put h2 3 #[.iface 268 (.pointer (some ⟨N, 0, none⟩))]
  let h4 := put h3 4 (Lib.firstTab.map fun z => Value.int .u8 z).toArray
  let h5 := put h4 5 ((List.range 16).flatMap fun i => [Value.int .u8 (Lib.accLo i), Value.int .u8 (Lib.accHi i)]).toArray
  let h6 := put h5 6 (tz32.map fun z => Value.int .u8 z).toArray
  let h7 := put h6 7 (tz64.map fun z => Value.int .u8 z).toArray
  { w0 with heap := h7 }
noncomputable abbrev N0 : Nat := (World.settled Tryz.prog default).heap.size
theorem piece0 (os : Os) (args : Array Value) : LaidIn Tryz.prog ((laidWorld os).forCall (fun _ _ => 0) ⟨#[], args, []⟩).memory [("math/bits.deBruijn32tab", Rows.laid_math_bits_deBruijn32tab), ("math/bits.deBruijn64tab", Rows.laid_math_bits_deBruijn64tab), ("internal/strconv.uint64pow10", Rows.laid_internal_strconv_uint64pow10), ("unicode/utf8.acceptRanges", Rows.laid_unicode_utf8_acceptRanges)] [6, 7, 1, 5] :=
  LaidIn.of_run [6, 7, 1, 5] 8 (by kernel_rfl) (by kernel_rfl) (by kernel_rfl) (by kernel_rfl)
theorem piece1 (os : Os) (args : Array Value) : LaidIn Tryz.prog ((laidWorld os).forCall (fun _ _ => 0) ⟨#[], args, []⟩).memory [("strconv.ErrRange", Rows.laid_strconv_ErrRange), ("strconv.ErrSyntax", Rows.laid_strconv_ErrSyntax)] [3, N0, 2, N0 + 1] :=
  LaidIn.of_run [3, N0, 2, N0 + 1] 8 (by kernel_rfl) (by kernel_rfl) (by kernel_rfl) (by kernel_rfl)
theorem piece2 (os : Os) (args : Array Value) : LaidIn Tryz.prog ((laidWorld os).forCall (fun _ _ => 0) ⟨#[], args, []⟩).memory [("unicode/utf8.first", Rows.laid_unicode_utf8_first)] [4] :=
  LaidIn.of_run [4] 8 (by kernel_rfl) (by kernel_rfl) (by kernel_rfl) (by kernel_rfl)
theorem laid_met (os : Os) (args : Array Value) : laidMet Tryz.prog theLaid ((laidWorld os).forCall (fun _ _ => 0) ⟨#[], args, []⟩).memory :=
  (((piece0 os args).append (piece1 os args) (by kernel_rfl)).append (piece2 os args) (by kernel_rfl)).met
end Go.Proofs.YtncghggejenmbaaGreatDoor
namespace Go.Proofs.YtncghggejenmbaaGreatDoor
open Go.ChangeShapes Go.WideShapes Go.ChangeAt Go.RowKit Go.Lib Go.Proofs
set_option linter.unusedSimpArgs false
set_option linter.unusedVariables false
set_option maxRecDepth 100000
theorem cell_kind {W : World} {base : Nat} {u : TypeId} {k : IntKind} {v : Value} (hu : Tryz.prog.underlying u = some (.int k)) (h : Cell.okWide Tryz.prog W .any base u v) : ∃ n, v = .int k n ∧ k.min ≤ n ∧ n ≤ k.max := by
  unfold Cell.okWide at h
  rw [hu] at h
  cases v <;> simp [Cell.ok, hu] at h
  obtain ⟨rfl, h1⟩ := h
  exact ⟨_, rfl, h1.1, h1.2⟩
theorem cell_W {W : World} {base : Nat} {v : Value} (h : Cell.okWide Tryz.prog W .any base 23 v) : ∃ n, v = .int .u32 n ∧ InW n := cell_kind Tryz.underlying23 h
theorem cell_I {W : World} {base : Nat} {v : Value} (h : Cell.okWide Tryz.prog W .any base 3 v) : ∃ n, v = .int .i64 n ∧ InI n := cell_kind Tryz.underlying3 h
theorem cell_B {W : World} {base : Nat} {v : Value} (h : Cell.okWide Tryz.prog W .any base 5 v) : ∃ n, v = .int .u8 n ∧ InB n := cell_kind Tryz.underlying5 h
theorem cell_U {W : World} {base : Nat} {v : Value} (h : Cell.okWide Tryz.prog W .any base 30 v) : ∃ n, v = .int .u64 n ∧ InU n := cell_kind Tryz.underlying30 h
theorem cellTypes38 : Tryz.prog.cellTypes Tryz.prog.depth 38 = some [23, 3, 23, 3, 23, 5, 5, 5, 5, 5, 5, 5, 5, 5, 5, 5, 5, 3, 3, 3, 3, 30, 30, 30, 30, 3, 3, 30, 30, 3, 3, 23, 23, 23, 23, 23, 23, 23] := by kernel_rfl
theorem cellsOf38 : Tryz.prog.cellsOf 38 = 38 := by kernel_rfl
set_option maxRecDepth 100000 in
theorem conf_val {W : World} {base : Nat} {v : Value} (h : Value.okWide Tryz.prog W .any base 38 v) : ∃ c : CF, v = c.val ∧ c.Ok := by
  unfold Value.okWide at h
  simp only [Tryz.underlying38] at h
  obtain ⟨cs, rfl, hsz, ts, hts, -, hc⟩ := h
  obtain rfl := Option.some.inj (cellTypes38.symm.trans hts)
  rw [cellsOf38] at hsz
  have key : ∀ i : Nat, i < 38 → ∃ x, cs[i]? = some x := fun i hi => ⟨cs[i], by simp [hsz, hi]⟩
  obtain ⟨x0, e0⟩ := key 0 (by decide)
  obtain ⟨u0, hu0, hk0⟩ := hc 0 x0 e0
  obtain rfl := Option.some.inj ((show _ = some 23 from rfl).symm.trans hu0)
  obtain ⟨ii, rfl, o0⟩ := cell_W hk0
  obtain ⟨x1, e1⟩ := key 1 (by decide)
  obtain ⟨u1, hu1, hk1⟩ := hc 1 x1 e1
  obtain rfl := Option.some.inj ((show _ = some 3 from rfl).symm.trans hu1)
  obtain ⟨ib, rfl, o1⟩ := cell_I hk1
  obtain ⟨x2, e2⟩ := key 2 (by decide)
  obtain ⟨u2, hu2, hk2⟩ := hc 2 x2 e2
  obtain rfl := Option.some.inj ((show _ = some 23 from rfl).symm.trans hu2)
  obtain ⟨oi, rfl, o2⟩ := cell_W hk2
  obtain ⟨x3, e3⟩ := key 3 (by decide)
  obtain ⟨u3, hu3, hk3⟩ := hc 3 x3 e3
  obtain rfl := Option.some.inj ((show _ = some 3 from rfl).symm.trans hu3)
  obtain ⟨ob, rfl, o3⟩ := cell_I hk3
  obtain ⟨x4, e4⟩ := key 4 (by decide)
  obtain ⟨u4, hu4, hk4⟩ := hc 4 x4 e4
  obtain rfl := Option.some.inj ((show _ = some 23 from rfl).symm.trans hu4)
  obtain ⟨ro, rfl, o4⟩ := cell_W hk4
  obtain ⟨x5, e5⟩ := key 5 (by decide)
  obtain ⟨u5, hu5, hk5⟩ := hc 5 x5 e5
  obtain rfl := Option.some.inj ((show _ = some 5 from rfl).symm.trans hu5)
  obtain ⟨m0, rfl, o5⟩ := cell_B hk5
  obtain ⟨x6, e6⟩ := key 6 (by decide)
  obtain ⟨u6, hu6, hk6⟩ := hc 6 x6 e6
  obtain rfl := Option.some.inj ((show _ = some 5 from rfl).symm.trans hu6)
  obtain ⟨m1, rfl, o6⟩ := cell_B hk6
  obtain ⟨x7, e7⟩ := key 7 (by decide)
  obtain ⟨u7, hu7, hk7⟩ := hc 7 x7 e7
  obtain rfl := Option.some.inj ((show _ = some 5 from rfl).symm.trans hu7)
  obtain ⟨m2, rfl, o7⟩ := cell_B hk7
  obtain ⟨x8, e8⟩ := key 8 (by decide)
  obtain ⟨u8, hu8, hk8⟩ := hc 8 x8 e8
  obtain rfl := Option.some.inj ((show _ = some 5 from rfl).symm.trans hu8)
  obtain ⟨m3, rfl, o8⟩ := cell_B hk8
  obtain ⟨x9, e9⟩ := key 9 (by decide)
  obtain ⟨u9, hu9, hk9⟩ := hc 9 x9 e9
  obtain rfl := Option.some.inj ((show _ = some 5 from rfl).symm.trans hu9)
  obtain ⟨m4, rfl, o9⟩ := cell_B hk9
  obtain ⟨x10, e10⟩ := key 10 (by decide)
  obtain ⟨u10, hu10, hk10⟩ := hc 10 x10 e10
  obtain rfl := Option.some.inj ((show _ = some 5 from rfl).symm.trans hu10)
  obtain ⟨m5, rfl, o10⟩ := cell_B hk10
  obtain ⟨x11, e11⟩ := key 11 (by decide)
  obtain ⟨u11, hu11, hk11⟩ := hc 11 x11 e11
  obtain rfl := Option.some.inj ((show _ = some 5 from rfl).symm.trans hu11)
  obtain ⟨n0, rfl, o11⟩ := cell_B hk11
  obtain ⟨x12, e12⟩ := key 12 (by decide)
  obtain ⟨u12, hu12, hk12⟩ := hc 12 x12 e12
  obtain rfl := Option.some.inj ((show _ = some 5 from rfl).symm.trans hu12)
  obtain ⟨n1, rfl, o12⟩ := cell_B hk12
  obtain ⟨x13, e13⟩ := key 13 (by decide)
  obtain ⟨u13, hu13, hk13⟩ := hc 13 x13 e13
  obtain rfl := Option.some.inj ((show _ = some 5 from rfl).symm.trans hu13)
  obtain ⟨n2, rfl, o13⟩ := cell_B hk13
  obtain ⟨x14, e14⟩ := key 14 (by decide)
  obtain ⟨u14, hu14, hk14⟩ := hc 14 x14 e14
  obtain rfl := Option.some.inj ((show _ = some 5 from rfl).symm.trans hu14)
  obtain ⟨n3, rfl, o14⟩ := cell_B hk14
  obtain ⟨x15, e15⟩ := key 15 (by decide)
  obtain ⟨u15, hu15, hk15⟩ := hc 15 x15 e15
  obtain rfl := Option.some.inj ((show _ = some 5 from rfl).symm.trans hu15)
  obtain ⟨n4, rfl, o15⟩ := cell_B hk15
  obtain ⟨x16, e16⟩ := key 16 (by decide)
  obtain ⟨u16, hu16, hk16⟩ := hc 16 x16 e16
  obtain rfl := Option.some.inj ((show _ = some 5 from rfl).symm.trans hu16)
  obtain ⟨n5, rfl, o16⟩ := cell_B hk16
  obtain ⟨x17, e17⟩ := key 17 (by decide)
  obtain ⟨u17, hu17, hk17⟩ := hc 17 x17 e17
  obtain rfl := Option.some.inj ((show _ = some 3 from rfl).symm.trans hu17)
  obtain ⟨maps, rfl, o17⟩ := cell_I hk17
  obtain ⟨x18, e18⟩ := key 18 (by decide)
  obtain ⟨u18, hu18, hk18⟩ := hc 18 x18 e18
  obtain rfl := Option.some.inj ((show _ = some 3 from rfl).symm.trans hu18)
  obtain ⟨flows, rfl, o18⟩ := cell_I hk18
  obtain ⟨x19, e19⟩ := key 19 (by decide)
  obtain ⟨u19, hu19, hk19⟩ := hc 19 x19 e19
  obtain rfl := Option.some.inj ((show _ = some 3 from rfl).symm.trans hu19)
  obtain ⟨lst, rfl, o19⟩ := cell_I hk19
  obtain ⟨x20, e20⟩ := key 20 (by decide)
  obtain ⟨u20, hu20, hk20⟩ := hc 20 x20 e20
  obtain rfl := Option.some.inj ((show _ = some 3 from rfl).symm.trans hu20)
  obtain ⟨mst, rfl, o20⟩ := cell_I hk20
  obtain ⟨x21, e21⟩ := key 21 (by decide)
  obtain ⟨u21, hu21, hk21⟩ := hc 21 x21 e21
  obtain rfl := Option.some.inj ((show _ = some 30 from rfl).symm.trans hu21)
  obtain ⟨udp, rfl, o21⟩ := cell_U hk21
  obtain ⟨x22, e22⟩ := key 22 (by decide)
  obtain ⟨u22, hu22, hk22⟩ := hc 22 x22 e22
  obtain rfl := Option.some.inj ((show _ = some 30 from rfl).symm.trans hu22)
  obtain ⟨opn, rfl, o22⟩ := cell_U hk22
  obtain ⟨x23, e23⟩ := key 23 (by decide)
  obtain ⟨u23, hu23, hk23⟩ := hc 23 x23 e23
  obtain rfl := Option.some.inj ((show _ = some 30 from rfl).symm.trans hu23)
  obtain ⟨lng, rfl, o23⟩ := cell_U hk23
  obtain ⟨x24, e24⟩ := key 24 (by decide)
  obtain ⟨u24, hu24, hk24⟩ := hc 24 x24 e24
  obtain rfl := Option.some.inj ((show _ = some 30 from rfl).symm.trans hu24)
  obtain ⟨qry, rfl, o24⟩ := cell_U hk24
  obtain ⟨x25, e25⟩ := key 25 (by decide)
  obtain ⟨u25, hu25, hk25⟩ := hc 25 x25 e25
  obtain rfl := Option.some.inj ((show _ = some 3 from rfl).symm.trans hu25)
  obtain ⟨room, rfl, o25⟩ := cell_I hk25
  obtain ⟨x26, e26⟩ := key 26 (by decide)
  obtain ⟨u26, hu26, hk26⟩ := hc 26 x26 e26
  obtain rfl := Option.some.inj ((show _ = some 3 from rfl).symm.trans hu26)
  obtain ⟨wt, rfl, o26⟩ := cell_I hk26
  obtain ⟨x27, e27⟩ := key 27 (by decide)
  obtain ⟨u27, hu27, hk27⟩ := hc 27 x27 e27
  obtain rfl := Option.some.inj ((show _ = some 30 from rfl).symm.trans hu27)
  obtain ⟨life, rfl, o27⟩ := cell_U hk27
  obtain ⟨x28, e28⟩ := key 28 (by decide)
  obtain ⟨u28, hu28, hk28⟩ := hc 28 x28 e28
  obtain rfl := Option.some.inj ((show _ = some 30 from rfl).symm.trans hu28)
  obtain ⟨pat, rfl, o28⟩ := cell_U hk28
  obtain ⟨x29, e29⟩ := key 29 (by decide)
  obtain ⟨u29, hu29, hk29⟩ := hc 29 x29 e29
  obtain rfl := Option.some.inj ((show _ = some 3 from rfl).symm.trans hu29)
  obtain ⟨bufs, rfl, o29⟩ := cell_I hk29
  obtain ⟨x30, e30⟩ := key 30 (by decide)
  obtain ⟨u30, hu30, hk30⟩ := hc 30 x30 e30
  obtain rfl := Option.some.inj ((show _ = some 3 from rfl).symm.trans hu30)
  obtain ⟨rng, rfl, o30⟩ := cell_I hk30
  obtain ⟨x31, e31⟩ := key 31 (by decide)
  obtain ⟨u31, hu31, hk31⟩ := hc 31 x31 e31
  obtain rfl := Option.some.inj ((show _ = some 23 from rfl).symm.trans hu31)
  obtain ⟨own, rfl, o31⟩ := cell_W hk31
  obtain ⟨x32, e32⟩ := key 32 (by decide)
  obtain ⟨u32, hu32, hk32⟩ := hc 32 x32 e32
  obtain rfl := Option.some.inj ((show _ = some 23 from rfl).symm.trans hu32)
  obtain ⟨msk, rfl, o32⟩ := cell_W hk32
  obtain ⟨x33, e33⟩ := key 33 (by decide)
  obtain ⟨u33, hu33, hk33⟩ := hc 33 x33 e33
  obtain rfl := Option.some.inj ((show _ = some 23 from rfl).symm.trans hu33)
  obtain ⟨fst, rfl, o33⟩ := cell_W hk33
  obtain ⟨x34, e34⟩ := key 34 (by decide)
  obtain ⟨u34, hu34, hk34⟩ := hc 34 x34 e34
  obtain rfl := Option.some.inj ((show _ = some 23 from rfl).symm.trans hu34)
  obtain ⟨last, rfl, o34⟩ := cell_W hk34
  obtain ⟨x35, e35⟩ := key 35 (by decide)
  obtain ⟨u35, hu35, hk35⟩ := hc 35 x35 e35
  obtain rfl := Option.some.inj ((show _ = some 23 from rfl).symm.trans hu35)
  obtain ⟨tim, rfl, o35⟩ := cell_W hk35
  obtain ⟨x36, e36⟩ := key 36 (by decide)
  obtain ⟨u36, hu36, hk36⟩ := hc 36 x36 e36
  obtain rfl := Option.some.inj ((show _ = some 23 from rfl).symm.trans hu36)
  obtain ⟨hld, rfl, o36⟩ := cell_W hk36
  obtain ⟨x37, e37⟩ := key 37 (by decide)
  obtain ⟨u37, hu37, hk37⟩ := hc 37 x37 e37
  obtain rfl := Option.some.inj ((show _ = some 23 from rfl).symm.trans hu37)
  obtain ⟨qut, rfl, o37⟩ := cell_W hk37
  refine ⟨⟨ii, ib, oi, ob, ro, m0, m1, m2, m3, m4, m5, n0, n1, n2, n3, n4, n5, maps, flows, lst, mst, udp, opn, lng, qry, room, wt, life, pat, bufs, rng, own, msk, fst, last, tim, hld, qut⟩, congrArg Value.agg ?_, ⟨o0, o1, o2, o3, o4, o5, o6, o7, o8, o9, o10, o11, o12, o13, o14, o15, o16, o17, o18, o19, o20, o21, o22, o23, o24, o25, o26, o27, o28, o29, o30, o31, o32, o33, o34, o35, o36, o37⟩⟩
  apply Array.ext_getElem?
  intro i
  by_cases hi : i < 38
  · rcases (show i = 0 ∨ i = 1 ∨ i = 2 ∨ i = 3 ∨ i = 4 ∨ i = 5 ∨ i = 6 ∨ i = 7 ∨ i = 8 ∨ i = 9 ∨ i = 10 ∨ i = 11 ∨ i = 12 ∨ i = 13 ∨ i = 14 ∨ i = 15 ∨ i = 16 ∨ i = 17 ∨ i = 18 ∨ i = 19 ∨ i = 20 ∨ i = 21 ∨ i = 22 ∨ i = 23 ∨ i = 24 ∨ i = 25 ∨ i = 26 ∨ i = 27 ∨ i = 28 ∨ i = 29 ∨ i = 30 ∨ i = 31 ∨ i = 32 ∨ i = 33 ∨ i = 34 ∨ i = 35 ∨ i = 36 ∨ i = 37 by omega) with rfl | rfl | rfl | rfl | rfl | rfl | rfl | rfl | rfl | rfl | rfl | rfl | rfl | rfl | rfl | rfl | rfl | rfl | rfl | rfl | rfl | rfl | rfl | rfl | rfl | rfl | rfl | rfl | rfl | rfl | rfl | rfl | rfl | rfl | rfl | rfl | rfl | rfl
    · exact e0
    · exact e1
    · exact e2
    · exact e3
    · exact e4
    · exact e5
    · exact e6
    · exact e7
    · exact e8
    · exact e9
    · exact e10
    · exact e11
    · exact e12
    · exact e13
    · exact e14
    · exact e15
    · exact e16
    · exact e17
    · exact e18
    · exact e19
    · exact e20
    · exact e21
    · exact e22
    · exact e23
    · exact e24
    · exact e25
    · exact e26
    · exact e27
    · exact e28
    · exact e29
    · exact e30
    · exact e31
    · exact e32
    · exact e33
    · exact e34
    · exact e35
    · exact e36
    · exact e37
  · rw [Array.getElem?_eq_none (by omega), Array.getElem?_eq_none (by rw [CF.size]; omega)]
/-- What the zero configuration reads as. -/
def zeroData {H : Type} : DataW H := .agg [.agg [.agg [.lit (.int .u32 0), .lit (.int .i64 0)], .agg [.lit (.int .u32 0), .lit (.int .i64 0)], .lit (.int .u32 0)], .agg [.lit (.int .u8 0), .lit (.int .u8 0), .lit (.int .u8 0), .lit (.int .u8 0), .lit (.int .u8 0), .lit (.int .u8 0)], .agg [.lit (.int .u8 0), .lit (.int .u8 0), .lit (.int .u8 0), .lit (.int .u8 0), .lit (.int .u8 0), .lit (.int .u8 0)], .agg [.lit (.int .i64 0), .lit (.int .i64 0), .lit (.int .i64 0), .lit (.int .i64 0), .agg [.lit (.int .u64 0), .lit (.int .u64 0), .lit (.int .u64 0), .lit (.int .u64 0)]], .lit (.int .i64 0), .lit (.int .i64 0), .lit (.int .u64 0), .lit (.int .u64 0), .lit (.int .i64 0), .lit (.int .i64 0), .agg [.lit (.int .u32 0), .lit (.int .u32 0), .lit (.int .u32 0), .lit (.int .u32 0), .lit (.int .u32 0), .lit (.int .u32 0), .lit (.int .u32 0)]]
end Go.Proofs.YtncghggejenmbaaGreatDoor
