/- The makers of a line's values. (printed by gen_f7.py) -/
import Derived.Test.YtncghggejenmbaaGreatDoorF6
import Derived.Test.YtncghggejenmbaaGreatDoorC4
import Derived.Laws.EntriesVeiled
namespace Go.Proofs.YtncghggejenmbaaGreatDoor
open Go.RowKit Go.Proofs Go.Sort Go.Lib
set_option linter.unusedSimpArgs false
set_option linter.unusedVariables false
def mkF : Kd → Nat
  | .ip => 45
  | .int => 47
  | .u64 => 59
  | .u32 => 72
  | .mac => 52
def boxT : Kd → Nat
  | .ip => 110
  | .int => 113
  | .u64 => 119
  | .u32 => 110
  | .mac => 116
/-- The two functions of a value, over the box of its accessor. -/
def ValAt (f : Fld) (v0 v1 : Value) (w : World) : Prop := ∃ ob, v0 = .func (.func (wrF f.k)) #[] #[.pointer (some ⟨ob, 0, none⟩)] ∧ v1 = .func (.func (rdF f.k)) #[] #[.pointer (some ⟨ob, 0, none⟩)] ∧ w.heap[ob]? = some (.cells #[.func (.func f.acc) #[] #[]] (boxT f.k) (0, 0))
theorem ValAt.bw {f : Fld} {v0 v1 : Value} {w w' : World} (h : ValAt f v0 v1 w) (k : BW w w') : ValAt f v0 v1 w' := let ⟨ob, a, b, c⟩ := h; ⟨ob, a, b, k.blk c⟩
def MkPost (f : Fld) (w : World) (e : Ending) (w' : World) : Prop := ∃ v0 v1, e = .returned (.agg #[v0, v1]) ∧ ValAt f v0 v1 w' ∧ BW w w'
theorem mkip (acc off : Nat) (w : World) : Calls Tryz.prog 45 #[.func (.func acc) #[] #[]] w (MkPost ⟨.ip, acc, off⟩ w) := by
  go_enter Tryz.func45, Tryz.ntmps45
  go_wp2
  refine bodyPost_ret (results_cell_row (p := 2) (ty := 99) (by kernel_rfl) _ _ (w.heap.size + 1) 99 _ (0, 0) _ rfl (new2 w _ _) Tryz.underlying99 rfl (by kernel_rfl)) rfl ?_
  exact ⟨_, _, rfl, ⟨w.heap.size, rfl, rfl, (BW.alloc (w.alloc _) _).blk (heap_alloc_new w _)⟩, (BW.alloc _ _).al _⟩
theorem mkint (acc off : Nat) (w : World) : Calls Tryz.prog 47 #[.func (.func acc) #[] #[]] w (MkPost ⟨.int, acc, off⟩ w) := by
  go_enter Tryz.func47, Tryz.ntmps47
  go_wp2
  refine bodyPost_ret (results_cell_row (p := 2) (ty := 99) (by kernel_rfl) _ _ (w.heap.size + 1) 99 _ (0, 0) _ rfl (new2 w _ _) Tryz.underlying99 rfl (by kernel_rfl)) rfl ?_
  exact ⟨_, _, rfl, ⟨w.heap.size, rfl, rfl, (BW.alloc (w.alloc _) _).blk (heap_alloc_new w _)⟩, (BW.alloc _ _).al _⟩
theorem mku64 (acc off : Nat) (w : World) : Calls Tryz.prog 59 #[.func (.func acc) #[] #[]] w (MkPost ⟨.u64, acc, off⟩ w) := by
  go_enter Tryz.func59, Tryz.ntmps59
  go_wp2
  refine bodyPost_ret (results_cell_row (p := 2) (ty := 99) (by kernel_rfl) _ _ (w.heap.size + 1) 99 _ (0, 0) _ rfl (new2 w _ _) Tryz.underlying99 rfl (by kernel_rfl)) rfl ?_
  exact ⟨_, _, rfl, ⟨w.heap.size, rfl, rfl, (BW.alloc (w.alloc _) _).blk (heap_alloc_new w _)⟩, (BW.alloc _ _).al _⟩
theorem mku32 (acc off : Nat) (w : World) : Calls Tryz.prog 72 #[.func (.func acc) #[] #[]] w (MkPost ⟨.u32, acc, off⟩ w) := by
  go_enter Tryz.func72, Tryz.ntmps72
  go_wp2
  refine bodyPost_ret (results_cell_row (p := 2) (ty := 99) (by kernel_rfl) _ _ (w.heap.size + 1) 99 _ (0, 0) _ rfl (new2 w _ _) Tryz.underlying99 rfl (by kernel_rfl)) rfl ?_
  exact ⟨_, _, rfl, ⟨w.heap.size, rfl, rfl, (BW.alloc (w.alloc _) _).blk (heap_alloc_new w _)⟩, (BW.alloc _ _).al _⟩
theorem mkmac (acc off : Nat) (w : World) : Calls Tryz.prog 52 #[.func (.func acc) #[] #[]] w (MkPost ⟨.mac, acc, off⟩ w) := by
  go_enter Tryz.func52, Tryz.ntmps52
  go_wp2
  refine bodyPost_ret (results_cell_row (p := 2) (ty := 99) (by kernel_rfl) _ _ (w.heap.size + 1) 99 _ (0, 0) _ rfl (new2 w _ _) Tryz.underlying99 rfl (by kernel_rfl)) rfl ?_
  exact ⟨_, _, rfl, ⟨w.heap.size, rfl, rfl, (BW.alloc (w.alloc _) _).blk (heap_alloc_new w _)⟩, (BW.alloc _ _).al _⟩
end Go.Proofs.YtncghggejenmbaaGreatDoor
