/- Plain is what the document tells, and a right configuration's parts are right: the walk. -/
import Derived.Test.YtncghggejenmbaaGreatDoorG6
namespace Go.Proofs.YtncghggejenmbaaGreatDoor
open Go.RowKit Go.Proofs Go.Sort Go.Lib
set_option linter.unusedSimpArgs false
set_option linter.unusedVariables false
set_option maxHeartbeats 400000 in
theorem own20 (a b c d e : Int) (w : World) : Calls Tryz.prog 20 #[.agg #[.int .u32 a, .int .i64 b, .int .u32 c, .int .i64 d, .int .u32 e], .int .i64 0] w fun z w' => z = .returned (.int .u32 a) ∧ BW w w' := by
  go_enter Tryz.func20, Tryz.ntmps20
  go_wp2
  go_ret
  exact ⟨rfl, BW.alloc _ _⟩
def LawPost (w : World) (e : Ending) (w' : World) : Prop := e = .returned (.bool true) ∧ BW w w'
set_option maxRecDepth 100000 in
set_option maxHeartbeats 8000000 in
theorem plainLaw_no (c : CF) (ok : c.Ok) (w : World) (g : G w) (h : confB c = false) : Calls Tryz.prog 5 #[c.val] w (LawPost w) := by
  have HR0 := Hid.mk (right_c c ok false h)
  have Hg := Hid.mk g
  clear g h
  go_enter Tryz.func5, Tryz.ntmps5
  go_wp2_with fail
  refine (alive_any _ (Hg.out.bw (BW.alloc _ _))).mono ?_
  rintro e w1 ⟨rfl, hN1⟩
  have HN1 := Hid.mk hN1.a1
  have HK1 : Hid (w1.heap[w.heap.size]? = some (.cells c.cells 38 (0, 0))) := Hid.mk (hN1.blk (heap_alloc_new w _))
  have hz1 := BW.z1 hN1
  clear hN1
  go_wp2_with fail
  refine (plain_any _).mono ?_
  rintro e w2 ⟨rfl, hN2⟩
  have HN2 := Hid.mk (HN1.out.trans hN2)
  have HK2 : Hid (w2.heap[w.heap.size]? = some (.cells c.cells 38 (0, 0))) := Hid.mk (hN2.blk HK1.out)
  have hz2 := Nat.lt_of_lt_of_le hz1 hN2.le
  clear hN2
  go_wp2_with (first
    | (refine wpList_storeN plainC (.tmp 3) (.tmp 7) rfl rfl rfl rfl rfl ?_))
  refine (least_any _).mono ?_
  rintro e w3 ⟨rfl, hN3⟩
  have HN3 := Hid.mk (HN2.out.trans hN3.a1)
  have HK3 : Hid (w3.heap[w.heap.size]? = some (.cells c.cells 38 (0, 0))) := Hid.mk (hN3.a1.blk HK2.out)
  have HD3 : Hid (w3.heap[w2.heap.size]? = some (.cells plainC.cells 38 (0, 0))) := Hid.mk (hN3.blk (heap_alloc_new w2 _))
  have hz3 := BW.z1 hN3
  clear hN3
  have hself := self38 plainC
  have HD4 : Hid ((w3.alloc (.cells plainC.cells 38)).heap[w2.heap.size]? = some (.cells plainC.cells 38 (0, 0))) := Hid.mk ((BW.alloc w3 _).blk HD3.out)
  have HE4 : Hid ((w3.alloc (.cells plainC.cells 38)).heap[w3.heap.size]? = some (.cells plainC.cells 38 (0, 0))) := Hid.mk (heap_alloc_new w3 _)
  have HK4 : Hid ((w3.alloc (.cells plainC.cells 38)).heap[w.heap.size]? = some (.cells c.cells 38 (0, 0))) := Hid.mk ((BW.alloc w3 _).blk HK3.out)
  go_wp2_with (first
    | (refine wpList_storeN plainC (.tmp 4) (.tmp 16) rfl rfl rfl rfl rfl ?_)
    | ((refine wpList_loadC plainC (.tmp 3) w2.heap.size ?_ rfl rfl HD4.out ?_); (· simp [Region.wanted, yielded]); simp only [Act.put, List.setIfInBounds_toArray, List.set_cons_zero, List.set_cons_succ])
    | ((refine wpList_loadC plainC (.tmp 4) w3.heap.size ?_ rfl rfl HE4.out ?_); (· simp [Region.wanted, yielded]); simp only [Act.put, List.setIfInBounds_toArray, List.set_cons_zero, List.set_cons_succ])
    | ((refine wpList_loadC c (.tmp 1) w.heap.size ?_ rfl rfl HK4.out ?_); (· simp [Region.wanted, yielded]); simp only [Act.put, List.setIfInBounds_toArray, List.set_cons_zero, List.set_cons_succ]))
  refine (HR0.out _).mono ?_
  rintro e w4 ⟨rfl, hN4⟩
  have HN4 := Hid.mk (HN3.out.trans hN4.a1)
  clear hN4
  go_wp2_with fail
  go_ret
  exact ⟨rfl, HN4.out⟩
set_option maxRecDepth 100000 in
set_option maxHeartbeats 8000000 in
theorem plainLaw_yes (c : CF) (ok : c.Ok) (w : World) (g : G w) (h : confB c = true) : Calls Tryz.prog 5 #[c.val] w (LawPost w) := by
  have HR0 := Hid.mk (right_c c ok true h)
  obtain ⟨hm, hr, ht, hs, hl⟩ : macsB c = true ∧ routeB c.ii c.ib c.oi c.ob c.ro = true ∧ tableB c.maps c.flows c.lst c.mst c.udp c.opn c.lng c.qry = true ∧ storesB c = true ∧ lendsB c = true := by
    simpa [confB, Bool.and_eq_true] using h
  simp only [macsB, Bool.and_eq_true, beq_iff_eq] at hm
  obtain ⟨hm0, hn0, -⟩ := hm
  simp only [lendsB, Bool.and_eq_true, beq_iff_eq] at hl
  obtain ⟨hd, ⟨ho, -⟩, hh1, hh2⟩ := hl
  simp only [storesB, Bool.and_eq_true, decide_eq_true_eq] at hs
  obtain ⟨-, ⟨hb1, -⟩, hr1, -⟩ := hs
  have R1 := Hid.mk (fun W => by have := routeRight_any c.ii c.ib c.oi c.ob c.ro W ok.ii.1 ok.ii.2 ok.oi.1 ok.oi.2; rw [hr] at this; exact this)
  have T1 := Hid.mk (fun W => by have := tableRight_any c.maps c.flows c.lst c.mst c.udp c.opn c.lng c.qry W ok.lst.1 ok.lst.2 ok.mst.1 ok.mst.2; rw [ht] at this; exact this)
  have D1 := Hid.mk (fun W => by have := dhcpRight_any c.own c.msk c.fst c.last c.tim c.hld c.qut W ok.fst.1 ok.fst.2 ok.last.1 ok.last.2 ok.own.1 ok.own.2; rw [hd] at this; exact this)
  have em : (c.m0 % 2 != 0) = false := by rw [hm0]; rfl
  have en : (c.n0 % 2 != 0) = false := by rw [hn0]; rfl
  have M1 := Hid.mk (fun W => by have := Group_any c.m0 c.m1 c.m2 c.m3 c.m4 c.m5 W ok.m0.1 ok.m0.2; rw [em] at this; exact this)
  have N1 := Hid.mk (fun W => by have := Group_any c.n0 c.n1 c.n2 c.n3 c.n4 c.n5 W ok.n0.1 ok.n0.2; rw [en] at this; exact this)
  have H1 := Hid.mk (fun W => by have := Host_any c.ii c.ib c.fst W; rw [hh1] at this; exact this)
  have H2 := Hid.mk (fun W => by have := Host_any c.ii c.ib c.last W; rw [hh2] at this; exact this)
  have eo : (c.own == c.ii) = true := by rw [ho]; simp
  have eb : decide (c.bufs ≥ 1) = true := by simpa using hb1
  have er : decide (c.rng ≥ 1) = true := by simpa using hr1
  have eb' : (1 ≤ c.bufs) := hb1
  have er' : (1 ≤ c.rng) := hr1
  clear hm0 hn0 hr ht hd hh1 hh2 em en ho
  have Hg := Hid.mk g
  clear g h
  go_enter Tryz.func5, Tryz.ntmps5
  go_wp2_with fail
  refine (alive_any _ (Hg.out.bw (BW.alloc _ _))).mono ?_
  rintro e w1 ⟨rfl, hN1⟩
  have HN1 := Hid.mk hN1.a1
  have HK1 : Hid (w1.heap[w.heap.size]? = some (.cells c.cells 38 (0, 0))) := Hid.mk (hN1.blk (heap_alloc_new w _))
  have hz1 := BW.z1 hN1
  clear hN1
  go_wp2_with fail
  refine (plain_any _).mono ?_
  rintro e w2 ⟨rfl, hN2⟩
  have HN2 := Hid.mk (HN1.out.trans hN2)
  have HK2 : Hid (w2.heap[w.heap.size]? = some (.cells c.cells 38 (0, 0))) := Hid.mk (hN2.blk HK1.out)
  have hz2 := Nat.lt_of_lt_of_le hz1 hN2.le
  clear hN2
  go_wp2_with (first
    | (refine wpList_storeN plainC (.tmp 3) (.tmp 7) rfl rfl rfl rfl rfl ?_))
  refine (least_any _).mono ?_
  rintro e w3 ⟨rfl, hN3⟩
  have HN3 := Hid.mk (HN2.out.trans hN3.a1)
  have HK3 : Hid (w3.heap[w.heap.size]? = some (.cells c.cells 38 (0, 0))) := Hid.mk (hN3.a1.blk HK2.out)
  have HD3 : Hid (w3.heap[w2.heap.size]? = some (.cells plainC.cells 38 (0, 0))) := Hid.mk (hN3.blk (heap_alloc_new w2 _))
  have hz3 := BW.z1 hN3
  clear hN3
  have hself := self38 plainC
  have HD4 : Hid ((w3.alloc (.cells plainC.cells 38)).heap[w2.heap.size]? = some (.cells plainC.cells 38 (0, 0))) := Hid.mk ((BW.alloc w3 _).blk HD3.out)
  have HE4 : Hid ((w3.alloc (.cells plainC.cells 38)).heap[w3.heap.size]? = some (.cells plainC.cells 38 (0, 0))) := Hid.mk (heap_alloc_new w3 _)
  have HK4 : Hid ((w3.alloc (.cells plainC.cells 38)).heap[w.heap.size]? = some (.cells c.cells 38 (0, 0))) := Hid.mk ((BW.alloc w3 _).blk HK3.out)
  go_wp2_with (first
    | (refine wpList_storeN plainC (.tmp 4) (.tmp 16) rfl rfl rfl rfl rfl ?_)
    | ((refine wpList_loadC plainC (.tmp 3) w2.heap.size ?_ rfl rfl HD4.out ?_); (· simp [Region.wanted, yielded]); simp only [Act.put, List.setIfInBounds_toArray, List.set_cons_zero, List.set_cons_succ])
    | ((refine wpList_loadC plainC (.tmp 4) w3.heap.size ?_ rfl rfl HE4.out ?_); (· simp [Region.wanted, yielded]); simp only [Act.put, List.setIfInBounds_toArray, List.set_cons_zero, List.set_cons_succ])
    | ((refine wpList_loadC c (.tmp 1) w.heap.size ?_ rfl rfl HK4.out ?_); (· simp [Region.wanted, yielded]); simp only [Act.put, List.setIfInBounds_toArray, List.set_cons_zero, List.set_cons_succ]))
  refine (HR0.out _).mono ?_
  rintro e w4 ⟨rfl, hN4⟩
  have HN4 := Hid.mk (HN3.out.trans hN4.a1)
  have HK5 : Hid (w4.heap[w.heap.size]? = some (.cells c.cells 38 (0, 0))) := Hid.mk (hN4.blk HK4.out)
  have hz4 := Nat.lt_trans (Nat.lt_of_lt_of_le hz2 (Nat.le_of_lt hz3)) (BW.z1 hN4)
  clear hN4
  go_wp2_with fail
  have hc1 : ∀ o, w4.cell? ⟨w.heap.size, o, none⟩ = c.cells[o]? := fun o => cell_of_row w4 w.heap.size o c.cells 38 (0, 0) HK5.out
  refine wp_region_below (by kernel_rfl) (by kernel_rfl) ?_
  repeat (first
    | ((with_reducible apply wpQuiet_go)
       · simp [Region.wanted, yielded]
       · intro W hW
         have c1 := BW.cells hW
         have c3 := BW.le hW
         have hW' := Hid.mk hW
         clear hW
         unfold Oper.quietAt
         go_simp
         first
           | (with_reducible rfl)
           | (with_reducible exact ⟨rfl, rfl⟩)
           | (with_reducible exact Calls.bw_of hW'.out (R1.out _))
           | (with_reducible exact Calls.bw_of hW'.out (T1.out _))
           | (with_reducible exact Calls.bw_of hW'.out (D1.out _))
           | (with_reducible exact Calls.bw_of hW'.out (M1.out _))
           | (with_reducible exact Calls.bw_of hW'.out (N1.out _))
           | (with_reducible exact Calls.bw_of hW'.out (H1.out _))
           | (with_reducible exact Calls.bw_of hW'.out (H2.out _))
           | (with_reducible exact Calls.bw_of hW'.out (own20 _ _ _ _ _ _))
       simp only [Act.put, List.setIfInBounds_toArray, List.set_cons_zero, List.set_cons_succ])
    | ((with_reducible refine BigFrame.wpQuiet_skip ?_ ?_)
       · simp [Region.wanted, yielded]
       simp only [Act.put, List.setIfInBounds_toArray, List.set_cons_zero, List.set_cons_succ]))
  refine wpQuiet_nil ?_
  intro w5 hN5
  have HN5 := Hid.mk (HN4.out.trans hN5)
  clear hN5
  go_wp2_with fail
  go_ret
  exact ⟨rfl, HN5.out⟩
theorem plainLaw_any (c : CF) (ok : c.Ok) (w : World) (g : G w) : Calls Tryz.prog 5 #[c.val] w (LawPost w) := by
  cases h : confB c with
  | false => exact plainLaw_no c ok w g h
  | true => exact plainLaw_yes c ok w g h
end Go.Proofs.YtncghggejenmbaaGreatDoor
