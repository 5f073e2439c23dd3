/- A configuration as the references have it. -/
import Derived.Test.YtncghggejenmbaaGreatDoorG4
namespace Go.Proofs.YtncghggejenmbaaGreatDoor
open Go.RowKit Go.Proofs
set_option linter.unusedSimpArgs false
set_option linter.unusedVariables false
theorem wpList_loadR {ops : Array Oper} {rest : List Oper} {o : Oper} {a : Act} {w : World} {Q : Exit → Act → World → Prop} (c : CF) (x : Operand) (g : Nat)
    (hw : Region.wanted o (yielded ops a.tmps) = true) (ho : o.op = .load 50 x) (hx : a.eval x = .pointer (some ⟨g, 0, none⟩)) (hg : w.heap[g]? = some (.cells c.cells 50 (0, 0)))
    (h : wpList Tryz.prog ops Q rest (a.put o.dst c.val) w) : wpList Tryz.prog ops Q (o :: rest) a w :=
  wpList_loadg 50 x g c.cells _ hw ho hx hg Tryz.underlying50 rfl (by rw [CF.size]; kernel_rfl) h
theorem wpList_storeR {ops : Array Oper} {rest : List Oper} {o : Oper} {a : Act} {w : World} {Q : Exit → Act → World → Prop} (c c0 : CF) (x y : Operand) (g : Nat)
    (hgd : o.guard = none) (ho : o.op = .store 50 x y) (hd : o.dst = none) (hx : a.eval x = .pointer (some ⟨g, 0, none⟩)) (hy : a.eval y = c.val) (hg : w.heap[g]? = some (.cells c0.cells 50 (0, 0)))
    (h : wpList Tryz.prog ops Q rest a (w.setRow g c.cells)) : wpList Tryz.prog ops Q (o :: rest) a w :=
  wpList_store_row hgd 50 x y ho g c.cells hx hy 50 c0.cells hg (by rw [CF.size]; kernel_rfl) (by rw [CF.size, CF.size]) (by unfold CF.cells; simp [Value.oneCell']) (by rw [hd]; exact h)
set_option maxHeartbeats 400000 in
theorem of91 (a b : Int) (w : World) : Calls Tryz.prog 91 #[.agg #[.int .u32 a, .int .i64 b]] w fun e w' => e = .returned (.agg #[.int .u32 a, .int .i64 b]) ∧ BW w w' := by
  go_enter Tryz.func91, Tryz.ntmps91
  go_wp2
  exact bodyPost_ret (results_cell_row (p := 2) (ty := 42) (by kernel_rfl) _ _ (w.heap.size + 1) 42 _ (0, 0) _ rfl (new2 w _ _) Tryz.underlying42 rfl (by kernel_rfl)) rfl ⟨rfl, (BW.alloc _ _).al _⟩
set_option maxHeartbeats 400000 in
theorem of92 (a b c d : Int) (w : World) : Calls Tryz.prog 92 #[.agg #[.int .u64 a, .int .u64 b, .int .u64 c, .int .u64 d]] w fun e w' => e = .returned (.agg #[.int .u64 a, .int .u64 b, .int .u64 c, .int .u64 d]) ∧ BW w w' := by
  go_enter Tryz.func92, Tryz.ntmps92
  go_wp2
  exact bodyPost_ret (results_cell_row (p := 2) (ty := 45) (by kernel_rfl) _ _ (w.heap.size + 1) 45 _ (0, 0) _ rfl (new2 w _ _) Tryz.underlying45 rfl (by kernel_rfl)) rfl ⟨rfl, (BW.alloc _ _).al _⟩
set_option maxHeartbeats 400000 in
theorem of32 (a b c d e f g : Int) (w : World) : Calls Tryz.prog 32 #[.agg #[.int .u32 a, .int .u32 b, .int .u32 c, .int .u32 d, .int .u32 e, .int .u32 f, .int .u32 g]] w fun z w' => z = .returned (.agg #[.int .u32 a, .int .u32 b, .int .u32 c, .int .u32 d, .int .u32 e, .int .u32 f, .int .u32 g]) ∧ BW w w' := by
  go_enter Tryz.func32, Tryz.ntmps32
  go_wp2
  exact bodyPost_ret (results_cell_row (p := 2) (ty := 48) (by kernel_rfl) _ _ (w.heap.size + 1) 48 _ (0, 0) _ rfl (new2 w _ _) Tryz.underlying48 rfl (by kernel_rfl)) rfl ⟨rfl, (BW.alloc _ _).al _⟩
set_option maxHeartbeats 400000 in
theorem of30 (a b c d e : Int) (w : World) : Calls Tryz.prog 30 #[.agg #[.int .u32 a, .int .i64 b, .int .u32 c, .int .i64 d, .int .u32 e]] w fun z w' => z = .returned (.agg #[.int .u32 a, .int .i64 b, .int .u32 c, .int .i64 d, .int .u32 e]) ∧ BW w w' := by
  go_enter Tryz.func30, Tryz.ntmps30
  go_wp2
  refine wp_region_below_tail 9 (by kernel_rfl) (by kernel_rfl) ?_
  simp only [List.take_succ_cons, List.take_zero, List.drop_succ_cons, List.drop_zero]
  repeat (first
    | ((with_reducible apply wpQuiet_go)
       · simp [Region.wanted, yielded]
       · intro W hW
         have c1 := BW.cells hW
         have c3 := BW.le hW
         have hW' := Hid.mk hW
         clear hW
         unfold Oper.quietAt
         go_simp
         first
           | (with_reducible rfl)
           | (with_reducible exact ⟨rfl, rfl⟩)
           | (with_reducible exact Calls.bw_of hW'.out (of91 _ _ _))
       simp only [Act.put, List.setIfInBounds_toArray, List.set_cons_zero, List.set_cons_succ])
    | ((with_reducible refine BigFrame.wpQuiet_skip ?_ ?_)
       · simp [Region.wanted, yielded]
       simp only [Act.put, List.setIfInBounds_toArray, List.set_cons_zero, List.set_cons_succ]))
  refine wpQuiet_nil ?_
  intro w2 hN2
  have HB : Hid (BW w w2) := Hid.mk hN2.a2
  have HC := Hid.mk (hN2.blk (new2 w _ _))
  clear hN2
  go_wp2_with (first
    | (refine wpList_store_row rfl 44 (.tmp 2) (.tmp 11) rfl (w.heap.size + 1) #[.int .u32 a, .int .i64 b, .int .u32 c, .int .i64 d, .int .u32 e] rfl rfl 44 _ HC.out (by kernel_rfl) rfl (by simp [Value.oneCell']) ?_))
  exact bodyPost_ret (results_cell_row (p := 2) (ty := 44) (by kernel_rfl) _ _ (w.heap.size + 1) 44 #[.int .u32 a, .int .i64 b, .int .u32 c, .int .i64 d, .int .u32 e] (0, 0) _ rfl (setRow_heap w2 _ _ _ 44 (0, 0) HC.out) Tryz.underlying44 rfl (by kernel_rfl)) rfl ⟨rfl, HB.out.setRow (by simp) _⟩
set_option maxHeartbeats 400000 in
theorem of31 (a b c d e f g h : Int) (w : World) : Calls Tryz.prog 31 #[.agg #[.int .i64 a, .int .i64 b, .int .i64 c, .int .i64 d, .int .u64 e, .int .u64 f, .int .u64 g, .int .u64 h]] w fun z w' => z = .returned (.agg #[.int .i64 a, .int .i64 b, .int .i64 c, .int .i64 d, .int .u64 e, .int .u64 f, .int .u64 g, .int .u64 h]) ∧ BW w w' := by
  go_enter Tryz.func31, Tryz.ntmps31
  go_wp2
  refine wp_region_below_tail 12 (by kernel_rfl) (by kernel_rfl) ?_
  simp only [List.take_succ_cons, List.take_zero, List.drop_succ_cons, List.drop_zero]
  repeat (first
    | ((with_reducible apply wpQuiet_go)
       · simp [Region.wanted, yielded]
       · intro W hW
         have c1 := BW.cells hW
         have c3 := BW.le hW
         have hW' := Hid.mk hW
         clear hW
         unfold Oper.quietAt
         go_simp
         first
           | (with_reducible rfl)
           | (with_reducible exact ⟨rfl, rfl⟩)
           | (with_reducible exact Calls.bw_of hW'.out (of92 _ _ _ _ _))
       simp only [Act.put, List.setIfInBounds_toArray, List.set_cons_zero, List.set_cons_succ])
    | ((with_reducible refine BigFrame.wpQuiet_skip ?_ ?_)
       · simp [Region.wanted, yielded]
       simp only [Act.put, List.setIfInBounds_toArray, List.set_cons_zero, List.set_cons_succ]))
  refine wpQuiet_nil ?_
  intro w2 hN2
  have HB : Hid (BW w w2) := Hid.mk hN2.a2
  have HC := Hid.mk (hN2.blk (new2 w _ _))
  clear hN2
  go_wp2_with (first
    | (refine wpList_store_row rfl 47 (.tmp 2) (.tmp 14) rfl (w.heap.size + 1) #[.int .i64 a, .int .i64 b, .int .i64 c, .int .i64 d, .int .u64 e, .int .u64 f, .int .u64 g, .int .u64 h] rfl rfl 47 _ HC.out (by kernel_rfl) rfl (by simp [Value.oneCell']) ?_))
  exact bodyPost_ret (results_cell_row (p := 2) (ty := 47) (by kernel_rfl) _ _ (w.heap.size + 1) 47 #[.int .i64 a, .int .i64 b, .int .i64 c, .int .i64 d, .int .u64 e, .int .u64 f, .int .u64 g, .int .u64 h] (0, 0) _ rfl (setRow_heap w2 _ _ _ 47 (0, 0) HC.out) Tryz.underlying47 rfl (by kernel_rfl)) rfl ⟨rfl, HB.out.setRow (by simp) _⟩
set_option maxRecDepth 100000 in
set_option maxHeartbeats 4000000 in
theorem of9 (c : CF) (w : World) : Calls Tryz.prog 9 #[c.val] w fun z w' => z = .returned c.val ∧ BW w w' := by
  go_enter Tryz.func9, Tryz.ntmps9
  go_wp2
  refine wp_region_below_tail 26 (by kernel_rfl) (by kernel_rfl) ?_
  simp only [List.take_succ_cons, List.take_zero, List.drop_succ_cons, List.drop_zero]
  repeat (first
    | ((with_reducible apply wpQuiet_go)
       · simp [Region.wanted, yielded]
       · intro W hW
         have c1 := BW.cells hW
         have c3 := BW.le hW
         have hW' := Hid.mk hW
         clear hW
         unfold Oper.quietAt
         go_simp
         first
           | (with_reducible rfl)
           | (with_reducible exact ⟨rfl, rfl⟩)
           | (with_reducible exact Calls.bw_of hW'.out (of30 _ _ _ _ _ _))
           | (with_reducible exact Calls.bw_of hW'.out (of31 _ _ _ _ _ _ _ _ _))
           | (with_reducible exact Calls.bw_of hW'.out (of32 _ _ _ _ _ _ _ _))
       simp only [Act.put, List.setIfInBounds_toArray, List.set_cons_zero, List.set_cons_succ])
    | ((with_reducible refine BigFrame.wpQuiet_skip ?_ ?_)
       · simp [Region.wanted, yielded]
       simp only [Act.put, List.setIfInBounds_toArray, List.set_cons_zero, List.set_cons_succ]))
  refine wpQuiet_nil ?_
  intro w2 hN2
  have HB : Hid (BW w w2) := Hid.mk hN2.a2
  have HC : Hid (w2.heap[w.heap.size + 1]? = some (.cells zeroC.cells 50 (0, 0))) := Hid.mk (hN2.blk (new2 w _ _))
  clear hN2
  go_wp2_with (first
    | (refine wpList_storeR c zeroC (.tmp 2) (.tmp 28) (w.heap.size + 1) rfl rfl rfl rfl rfl HC.out ?_))
  exact bodyPost_ret (results_cell_row (p := 2) (ty := 50) (by kernel_rfl) _ _ (w.heap.size + 1) 50 c.cells (0, 0) _ rfl (setRow_heap w2 _ _ c.cells 50 (0, 0) HC.out) Tryz.underlying50 rfl (by rw [CF.size]; kernel_rfl)) rfl ⟨rfl, HB.out.setRow (by simp) _⟩
end Go.Proofs.YtncghggejenmbaaGreatDoor
