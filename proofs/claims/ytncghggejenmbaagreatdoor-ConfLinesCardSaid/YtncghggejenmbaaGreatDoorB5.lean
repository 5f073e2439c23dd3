/- Whether a configuration is right. -/
import Derived.Test.YtncghggejenmbaaGreatDoorB4
namespace Go.Proofs.YtncghggejenmbaaGreatDoor
open Go.RowKit
set_option linter.unusedSimpArgs false
set_option linter.unusedVariables false

def lendsB (c : CF) : Bool := dhcpB c.own c.fst c.last c.tim c.hld c.qut && ((c.own == c.ii && c.msk == mask c.ib) && (hostA c.ii c.ib c.fst && hostA c.ii c.ib c.last))
set_option maxHeartbeats 800000 in
theorem lends_any (c : CF) (ok : c.Ok) (w : World) :
    Calls Tryz.prog 36 #[c.val] w fun e w' => e = .returned (.bool (lendsB c)) ∧ BW w w' := by
  have hd := fun w => dhcpRight_any c.own c.msk c.fst c.last c.tim c.hld c.qut w ok.fst.1 ok.fst.2 ok.last.1 ok.last.2 ok.own.1 ok.own.2
  have H1 := Hid.mk hd
  clear hd
  by_cases e1 : c.own = c.ii
  · have e1' : (c.own == c.ii) = true := by simp [e1]
    have E1 := Hid.mk e1; clear e1
    go_enter Tryz.func36, Tryz.ntmps36
    go_wp2
    refine wp_region_below (by kernel_rfl) (by kernel_rfl) ?_
    repeat (first
      | ((with_reducible apply wpQuiet_go)
         · simp [Region.wanted, yielded]
         · intro W hW
           have c1 := BW.cells hW
           have c3 := BW.le hW
           have hW' := Hid.mk hW
           clear hW
           unfold Oper.quietAt
           go_simp
           first
             | (with_reducible rfl)
             | (with_reducible exact ⟨rfl, rfl⟩)
             | (with_reducible exact Calls.bw_of hW'.out (Mask_any _ _ _))
         simp only [Act.put, List.setIfInBounds_toArray, List.set_cons_zero, List.set_cons_succ])
      | ((with_reducible refine BigFrame.wpQuiet_skip ?_ ?_)
         · simp [Region.wanted, yielded]
         simp only [Act.put, List.setIfInBounds_toArray, List.set_cons_zero, List.set_cons_succ]))
    refine wpQuiet_nil ?_
    intro w4 hN
    (first | (replace hB := hB.trans hN) | (have hB := hN)); (try clear hc); (try clear hz); (try clear hz1); (try clear hz2); have hc := BW.cells hB; have hz := BW.z2 hB; have hz1 := Nat.lt_of_succ_lt hz; clear hN
    go_wp2_with (first
      | (go_at_call 17; refine (H1.out _).mono ?_; rintro e w1 ⟨rfl, hN⟩; (first | (replace hB := hB.trans hN) | (have hB := hN)); (try clear hc); (try clear hz); (try clear hz1); (try clear hz2); have hc := BW.cells hB; have hz := BW.z2 hB; have hz1 := Nat.lt_of_succ_lt hz; clear hN)
      | (go_at_call 19; refine (Host_any _ _ _ _).mono ?_; rintro e w2 ⟨rfl, hN⟩; (first | (replace hB := hB.trans hN) | (have hB := hN)); (try clear hc); (try clear hz); (try clear hz1); (try clear hz2); have hc := BW.cells hB; have hz := BW.z2 hB; have hz1 := Nat.lt_of_succ_lt hz; clear hN))
    all_goals go_ret
    all_goals refine ⟨ret_eq (congrArg Value.bool (Bool.eq_iff_iff.2 (by simp_all [lendsB]))), ?_⟩
    all_goals exact hB.a2
  · have e1' : (c.own == c.ii) = false := by simp [e1]
    have E1 := Hid.mk e1; clear e1
    go_enter Tryz.func36, Tryz.ntmps36
    go_wp2
    refine wp_region_below (by kernel_rfl) (by kernel_rfl) ?_
    repeat (first
      | ((with_reducible apply wpQuiet_go)
         · simp [Region.wanted, yielded]
         · intro W hW
           have c1 := BW.cells hW
           have c3 := BW.le hW
           have hW' := Hid.mk hW
           clear hW
           unfold Oper.quietAt
           go_simp
           first
             | (with_reducible rfl)
             | (with_reducible exact ⟨rfl, rfl⟩)
             | (with_reducible exact Calls.bw_of hW'.out (Mask_any _ _ _))
         simp only [Act.put, List.setIfInBounds_toArray, List.set_cons_zero, List.set_cons_succ])
      | ((with_reducible refine BigFrame.wpQuiet_skip ?_ ?_)
         · simp [Region.wanted, yielded]
         simp only [Act.put, List.setIfInBounds_toArray, List.set_cons_zero, List.set_cons_succ]))
    refine wpQuiet_nil ?_
    intro w4 hN
    (first | (replace hB := hB.trans hN) | (have hB := hN)); (try clear hc); (try clear hz); (try clear hz1); (try clear hz2); have hc := BW.cells hB; have hz := BW.z2 hB; have hz1 := Nat.lt_of_succ_lt hz; clear hN
    go_wp2_with (first
      | (go_at_call 17; refine (H1.out _).mono ?_; rintro e w1 ⟨rfl, hN⟩; (first | (replace hB := hB.trans hN) | (have hB := hN)); (try clear hc); (try clear hz); (try clear hz1); (try clear hz2); have hc := BW.cells hB; have hz := BW.z2 hB; have hz1 := Nat.lt_of_succ_lt hz; clear hN))
    all_goals go_ret
    all_goals refine ⟨ret_eq (congrArg Value.bool (Bool.eq_iff_iff.2 (by simp_all [lendsB]))), ?_⟩
    all_goals exact hB.a2
end Go.Proofs.YtncghggejenmbaaGreatDoor
