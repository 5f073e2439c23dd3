/- The first look: a configuration, as text and back. -/
import Derived.Test.YtncghggejenmbaaGreatDoorG5
import Derived.Test.YtncghggejenmbaaGreatDoorP11
namespace Go.Proofs.YtncghggejenmbaaGreatDoor
open Go.RowKit Go.Proofs Go.Sort Go.Lib
set_option linter.unusedSimpArgs false
set_option linter.unusedVariables false
theorem alloc_setRow (w : World) (cs cs' : Array Value) (t : TypeId) : (w.alloc (.cells cs t)).setRow w.heap.size cs' = w.alloc (.cells cs' t) := by
  unfold World.setRow World.alloc
  simp only [World.mk.injEq, and_true]
  apply Array.ext_getElem?
  intro i
  rw [Array.getElem?_modify]
  by_cases h : w.heap.size = i
  · subst h; simp
  · rw [if_neg h]
    rcases Nat.lt_trichotomy i w.heap.size with h1 | h1 | h1
    · rw [Array.getElem?_push_lt h1, Array.getElem?_push_lt h1]
    · exact absurd h1.symm h
    · rw [Array.getElem?_eq_none (by simp; omega), Array.getElem?_eq_none (by simp; omega)]
theorem wpList_storeN {ops : Array Oper} {rest : List Oper} {o : Oper} {a : Act} {w : World} {Q : Exit → Act → World → Prop} (c : CF) (x y : Operand)
    (hgd : o.guard = none) (ho : o.op = .store 38 x y) (hd : o.dst = none) (hx : a.eval x = .pointer (some ⟨w.heap.size, 0, none⟩)) (hy : a.eval y = c.val)
    (h : wpList Tryz.prog ops Q rest a (w.alloc (.cells c.cells 38))) : wpList Tryz.prog ops Q (o :: rest) a (w.alloc (.cells zeroC.cells 38)) :=
  wpList_storeC c zeroC x y w.heap.size hgd ho hd hx hy (heap_alloc_new w _) (by rw [alloc_setRow]; exact h)
theorem wpList_storeN2 {ops : Array Oper} {rest : List Oper} {o : Oper} {a : Act} {w : World} {Q : Exit → Act → World → Prop} (b : Nat) (hb : b = w.heap.size) (c : CF) (x y : Operand)
    (hgd : o.guard = none) (ho : o.op = .store 38 x y) (hd : o.dst = none) (hx : a.eval x = .pointer (some ⟨b, 0, none⟩)) (hy : a.eval y = c.val)
    (h : wpList Tryz.prog ops Q rest a (w.alloc (.cells c.cells 38))) : wpList Tryz.prog ops Q (o :: rest) a (w.alloc (.cells zeroC.cells 38)) :=
  wpList_storeN c x y hgd ho hd (by rw [hx, hb]) hy h
theorem wpList_storeNR {ops : Array Oper} {rest : List Oper} {o : Oper} {a : Act} {w : World} {Q : Exit → Act → World → Prop} (c : CF) (x y : Operand)
    (hgd : o.guard = none) (ho : o.op = .store 50 x y) (hd : o.dst = none) (hx : a.eval x = .pointer (some ⟨w.heap.size, 0, none⟩)) (hy : a.eval y = c.val)
    (h : wpList Tryz.prog ops Q rest a (w.alloc (.cells c.cells 50))) : wpList Tryz.prog ops Q (o :: rest) a (w.alloc (.cells zeroC.cells 50)) :=
  wpList_storeR c zeroC x y w.heap.size hgd ho hd hx hy (heap_alloc_new w _) (by rw [alloc_setRow]; exact h)
theorem right_c (c : CF) (ok : c.Ok) (b : Bool) (h : confB c = b) : ∀ W, Calls Tryz.prog 14 #[c.val] W fun e w' => e = .returned (.bool b) ∧ BW W w' := fun W => by rw [← h]; exact confRight_any c ok W
set_option maxRecDepth 100000 in
set_option maxHeartbeats 8000000 in
theorem alive_any (w : World) (g : G w) : Calls Tryz.prog 6 #[] w fun e w' => e = .returned (.bool true) ∧ BW w w' := by
  obtain ⟨t, ht, htl⟩ := plain_text
  have hp1 := parse_text plainC_ok plain_conf
  have hlen := textOf_len plainC_ok
  have HX := Hid.mk (fun W g => text_yes plainC plainC_ok W g plain_conf)
  have HXn := Hid.mk (fun W => text_no ringC ringC_ok W ring_conf)
  have HR1 := Hid.mk (right_c plainC plainC_ok true plain_conf)
  have HR0 := Hid.mk (right_c ringC ringC_ok false ring_conf)
  have Hg := Hid.mk g
  generalize textOf plainC = T at ht hp1 hlen HX
  have hT5 : (bstr T).size ≤ 5000 := by show T.length ≤ _ ; omega
  have HP1 : Hid (∀ W, G W → Calls Tryz.prog 7 #[.string (bstr T)] W fun e w' => e = .returned (.tuple #[plainC.val, .int .i64 0, .int .i64 0]) ∧ BW W w') := Hid.mk (fun W gW =>
    (parse_any (bstr T) W gW hT5).mono fun e w' ⟨h1, h2⟩ => ⟨by rw [h1]; show _ = Ending.returned (.tuple #[plainC.val, _, _]); rw [show (bstr T).data.toList = T from rfl, hp1]; rfl, h2⟩)
  have HP2 : Hid (∀ W, G W → Calls Tryz.prog 7 #[.string ⟨#[105, 110, 32, 49, 48, 46, 48, 46, 48, 46, 49, 32, 50, 52, 10, 111, 117, 116, 32, 49, 57, 50, 46, 48, 46, 50, 46, 49, 10]⟩] W fun e w' => e = .returned (.tuple #[zeroC.val, .int .i64 2, .int .i64 10]) ∧ BW W w') := Hid.mk (fun W gW =>
    (parse_any ⟨#[105, 110, 32, 49, 48, 46, 48, 46, 48, 46, 49, 32, 50, 52, 10, 111, 117, 116, 32, 49, 57, 50, 46, 48, 46, 50, 46, 49, 10]⟩ W gW (by decide)).mono fun e w' ⟨h1, h2⟩ => ⟨by
      rw [h1]
      have : parseOf (ByteArray.mk #[105, 110, 32, 49, 48, 46, 48, 46, 48, 46, 49, 32, 50, 52, 10, 111, 117, 116, 32, 49, 57, 50, 46, 48, 46, 50, 46, 49, 10]).data.toList = ⟨zeroC, 2, 10⟩ := bad_parse
      rw [this]; rfl, h2⟩)
  have hT1 : (20 : Int) < ((bstr T).size : Int) := by
    have : (bstr T).size = T.length := rfl
    rw [this, ht]; simp [first15]; omega
  have hT2 : (bstr T).extract 0 15 = ⟨#[105, 110, 32, 49, 48, 46, 48, 46, 48, 46, 49, 32, 50, 52, 10]⟩ := by
    apply ByteArray.ext
    apply Array.ext'
    rw [Lib.extract_from_zero]
    show T.take 15 = first15
    rw [ht]; rfl
  have hT3 : 15 ≤ (bstr T).size := by
    have : (bstr T).size = T.length := rfl
    rw [this, ht]; simp [first15]
  clear ht htl hp1 hlen g
  go_enter Tryz.func6, Tryz.ntmps6
  go_wp2_with fail
  refine (plain_any _).mono ?_
  rintro e w1 ⟨rfl, hN1⟩
  have HN1 := Hid.mk hN1
  clear hN1
  go_wp2_with (first
    | (refine wpList_storeN plainC (.tmp 1) (.tmp 13) rfl rfl rfl rfl rfl ?_)
    | ((refine wpList_loadC plainC (.tmp 1) w1.heap.size ?_ rfl rfl (heap_alloc_new w1 _) ?_); (· simp [Region.wanted, yielded]); simp only [Act.put, List.setIfInBounds_toArray, List.set_cons_zero, List.set_cons_succ]))
  refine (HX.out _ (Hg.out.bw (HN1.out.al _))).mono ?_
  rintro e w2 ⟨rfl, hN2⟩
  have HN2 := Hid.mk (HN1.out.trans hN2.a1)
  have HK2 : Hid (w2.heap[w1.heap.size]? = some (.cells plainC.cells 38 (0, 0))) := Hid.mk (hN2.blk (heap_alloc_new w1 _))
  have hz2 := BW.z1 hN2
  clear hN2
  go_wp2_with fail
  refine (HP1.out _ (Hg.out.bw HN2.out)).mono ?_
  rintro e w3 ⟨rfl, hN3⟩
  have HN3 := Hid.mk (HN2.out.trans hN3)
  have HK3 : Hid (w3.heap[w1.heap.size]? = some (.cells plainC.cells 38 (0, 0))) := Hid.mk (hN3.blk HK2.out)
  have hz3 := Nat.lt_of_lt_of_le hz2 hN3.le
  clear hN3
  go_wp2_with (first
    | (refine wpList_storeN plainC (.tmp 4) (.tmp 22) rfl rfl rfl rfl rfl ?_))
  refine (HP2.out _ (Hg.out.bw (HN3.out.al _))).mono ?_
  rintro e w4 ⟨rfl, hN4⟩
  have HN4 := Hid.mk (HN3.out.trans hN4.a1)
  have HK4 : Hid (w4.heap[w1.heap.size]? = some (.cells plainC.cells 38 (0, 0))) := Hid.mk (hN4.a1.blk HK3.out)
  have HD4 : Hid (w4.heap[w3.heap.size]? = some (.cells plainC.cells 38 (0, 0))) := Hid.mk (hN4.blk (heap_alloc_new w3 _))
  have hz4 := BW.z1 hN4
  have hz4' := Nat.lt_trans hz3 hz4
  clear hN4
  have HK4' : Hid ((w4.alloc (.cells zeroC.cells 38)).heap[w1.heap.size]? = some (.cells plainC.cells 38 (0, 0))) := Hid.mk ((BW.alloc w4 _).blk HK4.out)
  have HE4 : Hid (((w4.alloc (.cells zeroC.cells 38)).alloc (.cells ringC.cells 38)).heap[w4.heap.size + 1]? = some (.cells ringC.cells 38 (0, 0))) := Hid.mk (new2 w4 _ _)
  have hput : plainC.cells.setIfInBounds 30 (.int .i64 0) = ringC.cells := CF.put_30 plainC 0
  go_wp2_with (first
    | (refine wpList_storeN zeroC (.tmp 7) (.tmp 27) rfl rfl rfl rfl rfl ?_)
    | ((refine wpList_loadC plainC (.tmp 1) w1.heap.size ?_ rfl rfl HK4'.out ?_); (· simp [Region.wanted, yielded]); simp only [Act.put, List.setIfInBounds_toArray, List.set_cons_zero, List.set_cons_succ])
    | (refine wpList_storeN2 (w4.heap.size + 1) (by simp) plainC (.tmp 10) (.tmp 30) rfl rfl rfl rfl rfl ?_)
    | ((refine wpList_loadC ringC (.tmp 10) (w4.heap.size + 1) ?_ rfl rfl HE4.out ?_); (· simp [Region.wanted, yielded]); simp only [Act.put, List.setIfInBounds_toArray, List.set_cons_zero, List.set_cons_succ]))
  refine (HXn.out _).mono ?_
  rintro e w5 ⟨rfl, hN5⟩
  have HN5 := Hid.mk (HN4.out.trans hN5.a2)
  have HK5 : Hid (w5.heap[w1.heap.size]? = some (.cells plainC.cells 38 (0, 0))) := Hid.mk (hN5.a2.blk HK4.out)
  have HD5 : Hid (w5.heap[w3.heap.size]? = some (.cells plainC.cells 38 (0, 0))) := Hid.mk (hN5.a2.blk HD4.out)
  have HE5 : Hid (w5.heap[w4.heap.size + 1]? = some (.cells ringC.cells 38 (0, 0))) := Hid.mk (hN5.blk HE4.out)
  clear hN5 hput
  go_wp2_with (first
    | ((refine wpList_loadC plainC (.tmp 1) w1.heap.size ?_ rfl rfl HK5.out ?_); (· simp [Region.wanted, yielded]); simp only [Act.put, List.setIfInBounds_toArray, List.set_cons_zero, List.set_cons_succ]))
  refine (HR1.out _).mono ?_
  rintro e w6 ⟨rfl, hN6⟩
  have HN6 := Hid.mk (HN5.out.trans hN6)
  have HK6 : Hid (w6.heap[w1.heap.size]? = some (.cells plainC.cells 38 (0, 0))) := Hid.mk (hN6.blk HK5.out)
  have HD6 : Hid (w6.heap[w3.heap.size]? = some (.cells plainC.cells 38 (0, 0))) := Hid.mk (hN6.blk HD5.out)
  have HE6 : Hid (w6.heap[w4.heap.size + 1]? = some (.cells ringC.cells 38 (0, 0))) := Hid.mk (hN6.blk HE5.out)
  have hself := self38 plainC
  clear hN6
  go_wp2_with (first
    | ((refine wpList_loadC plainC (.tmp 1) w1.heap.size ?_ rfl rfl HK6.out ?_); (· simp [Region.wanted, yielded]); simp only [Act.put, List.setIfInBounds_toArray, List.set_cons_zero, List.set_cons_succ])
    | ((refine wpList_loadC plainC (.tmp 4) w3.heap.size ?_ rfl rfl HD6.out ?_); (· simp [Region.wanted, yielded]); simp only [Act.put, List.setIfInBounds_toArray, List.set_cons_zero, List.set_cons_succ])
    | ((refine wpList_loadC ringC (.tmp 10) (w4.heap.size + 1) ?_ rfl rfl HE6.out ?_); (· simp [Region.wanted, yielded]); simp only [Act.put, List.setIfInBounds_toArray, List.set_cons_zero, List.set_cons_succ]))
  refine (HR0.out _).mono ?_
  rintro e w7 ⟨rfl, hN7⟩
  have HN7 := Hid.mk (HN6.out.trans hN7)
  clear hN7
  go_wp2_with fail
  go_ret
  exact ⟨rfl, HN7.out⟩
end Go.Proofs.YtncghggejenmbaaGreatDoor
