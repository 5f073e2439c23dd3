/- The accessors of a configuration's fields. -/
import Derived.Test.YtncghggejenmbaaGreatDoorB4
namespace Go.Proofs.YtncghggejenmbaaGreatDoor
open Go.RowKit
theorem enters_fn {P : Program} {f : FuncId} {fn : Func} (hf : P.funcs[f]? = some fn) (hn : (fn.name == "runtime.NumGoroutine") = false) (hb : fn.body.isNone = false) (args : Array Value) (W : World) : (callFunc f args).run P W = .ok (.enter f args) W := by
  simp only [callFunc, program, Sem.run_bind, Sem.run, hf, Result.andThen_ok]
  simp [hn, hb]
/-- A function of the program that is handed a configuration's place, and answers the place of one of its cells. -/
def Acc (f : FuncId) (off : Nat) : Prop := (∀ args W, (callFunc f args).run Tryz.prog W = .ok (.enter f args) W) ∧ ∀ (cb : Nat) (w : World), Calls Tryz.prog f #[.pointer (some ⟨cb, 0, none⟩)] w fun e w' => e = .returned (.pointer (some ⟨cb, off, none⟩)) ∧ w = w'
theorem acc46 : Acc 46 0 := by
  refine ⟨fun args W => enters_fn Tryz.func46 (by kernel_rfl) (by kernel_rfl) args W, fun cb w => ?_⟩
  go_enter Tryz.func46, Tryz.ntmps46
  go_wp2
  go_ret
  exact ⟨rfl, rfl⟩
theorem acc48 : Acc 48 1 := by
  refine ⟨fun args W => enters_fn Tryz.func48 (by kernel_rfl) (by kernel_rfl) args W, fun cb w => ?_⟩
  go_enter Tryz.func48, Tryz.ntmps48
  go_wp2
  go_ret
  exact ⟨rfl, rfl⟩
theorem acc49 : Acc 49 2 := by
  refine ⟨fun args W => enters_fn Tryz.func49 (by kernel_rfl) (by kernel_rfl) args W, fun cb w => ?_⟩
  go_enter Tryz.func49, Tryz.ntmps49
  go_wp2
  go_ret
  exact ⟨rfl, rfl⟩
theorem acc50 : Acc 50 3 := by
  refine ⟨fun args W => enters_fn Tryz.func50 (by kernel_rfl) (by kernel_rfl) args W, fun cb w => ?_⟩
  go_enter Tryz.func50, Tryz.ntmps50
  go_wp2
  go_ret
  exact ⟨rfl, rfl⟩
theorem acc51 : Acc 51 4 := by
  refine ⟨fun args W => enters_fn Tryz.func51 (by kernel_rfl) (by kernel_rfl) args W, fun cb w => ?_⟩
  go_enter Tryz.func51, Tryz.ntmps51
  go_wp2
  go_ret
  exact ⟨rfl, rfl⟩
theorem acc53 : Acc 53 5 := by
  refine ⟨fun args W => enters_fn Tryz.func53 (by kernel_rfl) (by kernel_rfl) args W, fun cb w => ?_⟩
  go_enter Tryz.func53, Tryz.ntmps53
  go_wp2
  go_ret
  exact ⟨rfl, rfl⟩
theorem acc54 : Acc 54 11 := by
  refine ⟨fun args W => enters_fn Tryz.func54 (by kernel_rfl) (by kernel_rfl) args W, fun cb w => ?_⟩
  go_enter Tryz.func54, Tryz.ntmps54
  go_wp2
  go_ret
  exact ⟨rfl, rfl⟩
theorem acc55 : Acc 55 17 := by
  refine ⟨fun args W => enters_fn Tryz.func55 (by kernel_rfl) (by kernel_rfl) args W, fun cb w => ?_⟩
  go_enter Tryz.func55, Tryz.ntmps55
  go_wp2
  go_ret
  exact ⟨rfl, rfl⟩
theorem acc56 : Acc 56 18 := by
  refine ⟨fun args W => enters_fn Tryz.func56 (by kernel_rfl) (by kernel_rfl) args W, fun cb w => ?_⟩
  go_enter Tryz.func56, Tryz.ntmps56
  go_wp2
  go_ret
  exact ⟨rfl, rfl⟩
theorem acc57 : Acc 57 19 := by
  refine ⟨fun args W => enters_fn Tryz.func57 (by kernel_rfl) (by kernel_rfl) args W, fun cb w => ?_⟩
  go_enter Tryz.func57, Tryz.ntmps57
  go_wp2
  go_ret
  exact ⟨rfl, rfl⟩
theorem acc58 : Acc 58 20 := by
  refine ⟨fun args W => enters_fn Tryz.func58 (by kernel_rfl) (by kernel_rfl) args W, fun cb w => ?_⟩
  go_enter Tryz.func58, Tryz.ntmps58
  go_wp2
  go_ret
  exact ⟨rfl, rfl⟩
theorem acc60 : Acc 60 21 := by
  refine ⟨fun args W => enters_fn Tryz.func60 (by kernel_rfl) (by kernel_rfl) args W, fun cb w => ?_⟩
  go_enter Tryz.func60, Tryz.ntmps60
  go_wp2
  go_ret
  exact ⟨rfl, rfl⟩
theorem acc61 : Acc 61 22 := by
  refine ⟨fun args W => enters_fn Tryz.func61 (by kernel_rfl) (by kernel_rfl) args W, fun cb w => ?_⟩
  go_enter Tryz.func61, Tryz.ntmps61
  go_wp2
  go_ret
  exact ⟨rfl, rfl⟩
theorem acc62 : Acc 62 23 := by
  refine ⟨fun args W => enters_fn Tryz.func62 (by kernel_rfl) (by kernel_rfl) args W, fun cb w => ?_⟩
  go_enter Tryz.func62, Tryz.ntmps62
  go_wp2
  go_ret
  exact ⟨rfl, rfl⟩
theorem acc63 : Acc 63 24 := by
  refine ⟨fun args W => enters_fn Tryz.func63 (by kernel_rfl) (by kernel_rfl) args W, fun cb w => ?_⟩
  go_enter Tryz.func63, Tryz.ntmps63
  go_wp2
  go_ret
  exact ⟨rfl, rfl⟩
theorem acc64 : Acc 64 25 := by
  refine ⟨fun args W => enters_fn Tryz.func64 (by kernel_rfl) (by kernel_rfl) args W, fun cb w => ?_⟩
  go_enter Tryz.func64, Tryz.ntmps64
  go_wp2
  go_ret
  exact ⟨rfl, rfl⟩
theorem acc65 : Acc 65 26 := by
  refine ⟨fun args W => enters_fn Tryz.func65 (by kernel_rfl) (by kernel_rfl) args W, fun cb w => ?_⟩
  go_enter Tryz.func65, Tryz.ntmps65
  go_wp2
  go_ret
  exact ⟨rfl, rfl⟩
theorem acc66 : Acc 66 27 := by
  refine ⟨fun args W => enters_fn Tryz.func66 (by kernel_rfl) (by kernel_rfl) args W, fun cb w => ?_⟩
  go_enter Tryz.func66, Tryz.ntmps66
  go_wp2
  go_ret
  exact ⟨rfl, rfl⟩
theorem acc67 : Acc 67 28 := by
  refine ⟨fun args W => enters_fn Tryz.func67 (by kernel_rfl) (by kernel_rfl) args W, fun cb w => ?_⟩
  go_enter Tryz.func67, Tryz.ntmps67
  go_wp2
  go_ret
  exact ⟨rfl, rfl⟩
theorem acc68 : Acc 68 29 := by
  refine ⟨fun args W => enters_fn Tryz.func68 (by kernel_rfl) (by kernel_rfl) args W, fun cb w => ?_⟩
  go_enter Tryz.func68, Tryz.ntmps68
  go_wp2
  go_ret
  exact ⟨rfl, rfl⟩
theorem acc69 : Acc 69 30 := by
  refine ⟨fun args W => enters_fn Tryz.func69 (by kernel_rfl) (by kernel_rfl) args W, fun cb w => ?_⟩
  go_enter Tryz.func69, Tryz.ntmps69
  go_wp2
  go_ret
  exact ⟨rfl, rfl⟩
theorem acc70 : Acc 70 33 := by
  refine ⟨fun args W => enters_fn Tryz.func70 (by kernel_rfl) (by kernel_rfl) args W, fun cb w => ?_⟩
  go_enter Tryz.func70, Tryz.ntmps70
  go_wp2
  go_ret
  exact ⟨rfl, rfl⟩
theorem acc71 : Acc 71 34 := by
  refine ⟨fun args W => enters_fn Tryz.func71 (by kernel_rfl) (by kernel_rfl) args W, fun cb w => ?_⟩
  go_enter Tryz.func71, Tryz.ntmps71
  go_wp2
  go_ret
  exact ⟨rfl, rfl⟩
theorem acc73 : Acc 73 35 := by
  refine ⟨fun args W => enters_fn Tryz.func73 (by kernel_rfl) (by kernel_rfl) args W, fun cb w => ?_⟩
  go_enter Tryz.func73, Tryz.ntmps73
  go_wp2
  go_ret
  exact ⟨rfl, rfl⟩
theorem acc74 : Acc 74 36 := by
  refine ⟨fun args W => enters_fn Tryz.func74 (by kernel_rfl) (by kernel_rfl) args W, fun cb w => ?_⟩
  go_enter Tryz.func74, Tryz.ntmps74
  go_wp2
  go_ret
  exact ⟨rfl, rfl⟩
theorem acc75 : Acc 75 37 := by
  refine ⟨fun args W => enters_fn Tryz.func75 (by kernel_rfl) (by kernel_rfl) args W, fun cb w => ?_⟩
  go_enter Tryz.func75, Tryz.ntmps75
  go_wp2
  go_ret
  exact ⟨rfl, rfl⟩
end Go.Proofs.YtncghggejenmbaaGreatDoor
