/- conf.Plain. -/
import Derived.Test.YtncghggejenmbaaGreatDoorG2
namespace Go.Proofs.YtncghggejenmbaaGreatDoor
open Go.RowKit Go.Proofs Go.Sort Go.Lib
set_option linter.unusedSimpArgs false
set_option linter.unusedVariables false
def plainC : CF := ⟨167772161, 24, 3221225985, 24, 3221226238, 2, 0, 0, 0, 0, 1, 2, 0, 0, 0, 0, 2, 64, 256, 1024, 65535, 120, 240, 7440, 60, 32, 4, 300, 3, 64, 16, 167772161, 4294967040, 167772260, 167772359, 3600, 10, 600⟩
theorem plainC_ok : plainC.Ok := by constructor <;> constructor <;> decide
set_option maxHeartbeats 400000 in
theorem least_any (w : World) : Calls Tryz.prog 13 #[] w fun e w' => e = .returned (.agg #[.int .u64 120, .int .u64 240, .int .u64 7440, .int .u64 60]) ∧ BW w w' := by
  go_enter Tryz.func13, Tryz.ntmps13
  go_wp2
  exact bodyPost_ret (results_cell_row (p := 0) (ty := 32) (by kernel_rfl) _ _ w.heap.size 32 _ (0, 0) _ rfl (heap_alloc_new w _) Tryz.underlying32 rfl (by kernel_rfl)) rfl ⟨rfl, BW.alloc _ _⟩
theorem plain_mask : mask 24 = 4294967040 := by simp [mask, bounded, sz]
theorem mask24 (ip : Int) (w : World) : Calls Tryz.prog 24 #[.agg #[.int .u32 ip, .int .i64 24]] w fun e w' => e = .returned (.int .u32 4294967040) ∧ BW w w' := by
  rw [← plain_mask]; exact Mask_any ip 24 w
set_option maxRecDepth 100000 in
set_option maxHeartbeats 4000000 in
theorem plain_any (w : World) : Calls Tryz.prog 12 #[] w fun e w' => e = .returned plainC.val ∧ BW w w' := by
  go_enter Tryz.func12, Tryz.ntmps12
  go_wp2
  refine wp_region_below_tail 13 (by kernel_rfl) (by kernel_rfl) ?_
  simp only [List.take_succ_cons, List.take_zero, List.drop_succ_cons, List.drop_zero]
  repeat (first
    | ((with_reducible apply wpQuiet_go)
       · simp [Region.wanted, yielded]
       · intro W hW
         have c1 := BW.cells hW
         have c3 := BW.le hW
         have hW' := Hid.mk hW
         clear hW
         unfold Oper.quietAt
         go_simp
         first
           | (with_reducible rfl)
           | (with_reducible exact ⟨rfl, rfl⟩)
           | (with_reducible exact Calls.bw_of hW'.out (least_any _))
           | (with_reducible exact Calls.bw_of hW'.out (mask24 _ _))
       simp only [Act.put, List.setIfInBounds_toArray, List.set_cons_zero, List.set_cons_succ])
    | ((with_reducible refine BigFrame.wpQuiet_skip ?_ ?_)
       · simp [Region.wanted, yielded]
       simp only [Act.put, List.setIfInBounds_toArray, List.set_cons_zero, List.set_cons_succ]))
  refine wpQuiet_nil ?_
  intro w2 hN2
  have HC : Hid (w2.heap[w.heap.size]? = some (.cells zeroC.cells 38 (0, 0))) := Hid.mk (hN2.blk (heap_alloc2_old w _ _))
  have HB : Hid (BW w w2) := Hid.mk hN2.a2
  clear hN2
  go_wp2_with (first
    | ((refine wpList_storeC plainC zeroC (.tmp 0) (.tmp 15) w.heap.size rfl rfl rfl rfl rfl HC.out ?_)))
  exact bodyPost_ret (results_cell_row (p := 0) (ty := 38) (by kernel_rfl) _ _ w.heap.size 38 plainC.cells (0, 0) _ rfl (setRow_heap w2 w.heap.size _ plainC.cells 38 (0, 0) HC.out) Tryz.underlying38 rfl (by rw [CF.size]; kernel_rfl)) rfl ⟨rfl, HB.out.setRow (Nat.le_refl _) _⟩
end Go.Proofs.YtncghggejenmbaaGreatDoor
