/- What the program's subnet and map functions compute (third part). -/
import Derived.Test.YtncghggejenmbaaGreatDoorA2
namespace Go.Proofs.YtncghggejenmbaaGreatDoor
open Go.RowKit
set_option linter.unusedSimpArgs false
set_option linter.unusedVariables false
def rightA (ip b : Int) : Bool := hostA ip b ip && singleA ip
def apartA (ip b jp c : Int) : Bool := rightA ip b && (rightA jp c && (!hasA ip b (baseA jp c) && !hasA jp c (baseA ip b)))

set_option maxHeartbeats 400000 in
theorem Right_any (ip b : Int) (w : World) (h0 : 0 ≤ ip) (h1 : ip ≤ 4294967295) :
    Calls Tryz.prog 97 #[.agg #[.int .u32 ip, .int .i64 b]] w fun e w' => e = .returned (.bool (rightA ip b)) ∧ BW w w' := by
  have h := Host_any ip b ip
  cases hh : hostA ip b ip <;> rw [hh] at h
  · have H := Hid.mk h; clear h
    have Hb := Hid.mk hh; clear hh
    go_enter Tryz.func97, Tryz.ntmps97
    go_wp2_with (go_at_call 19; refine (H.out _).mono ?_; rintro e w1 ⟨rfl, hB⟩)
    go_ret
    exact ⟨ret_eq (by rw [rightA, Hb.out]; rfl), hB.a1⟩
  · have H := Hid.mk h; clear h
    have Hb := Hid.mk hh; clear hh
    go_enter Tryz.func97, Tryz.ntmps97
    go_wp2_with (first
      | (go_at_call 19; refine (H.out _).mono ?_; rintro e w1 ⟨rfl, hB⟩; have hc := BW.cells hB; have hz := BW.z1 hB)
      | (go_at_call 41; refine (Single_any _ _ h0 h1).mono ?_; rintro e w2 ⟨rfl, hB2⟩))
    go_ret
    exact ⟨ret_eq (by rw [rightA, Hb.out]; rfl), (hB.trans hB2).a1⟩

set_option maxHeartbeats 1000000 in
theorem Apart_any (ip b jp c : Int) (w : World) (h0 : 0 ≤ ip) (h1 : ip ≤ 4294967295) (h2 : 0 ≤ jp) (h3 : jp ≤ 4294967295) :
    Calls Tryz.prog 37 #[.agg #[.int .u32 ip, .int .i64 b], .agg #[.int .u32 jp, .int .i64 c]] w fun e w' => e = .returned (.bool (apartA ip b jp c)) ∧ BW w w' := by
  have ha := fun w => Right_any ip b w h0 h1
  have hb := fun w => Right_any jp c w h2 h3
  have hd := fun w => Has_any ip b (baseA jp c) w
  cases ea : rightA ip b <;> rw [ea] at ha
  · have Ha := Hid.mk ha; clear ha hb hd
    have Ea := Hid.mk ea; clear ea
    go_enter Tryz.func37, Tryz.ntmps37
    go_wp2
    refine wp_region_below (by kernel_rfl) (by kernel_rfl) ?_
    repeat (first
      | ((with_reducible apply wpQuiet_go)
         · simp [Region.wanted, yielded]
         · intro W hW
           have c1 := BW.cells hW
           have c3 := BW.le hW
           have hW' := Hid.mk hW
           clear hW
           unfold Oper.quietAt
           go_simp
           first
             | (with_reducible rfl)
             | (with_reducible exact ⟨rfl, rfl⟩)
             | (with_reducible exact Calls.bw_of hW'.out (Ha.out _))
         simp only [Act.put, List.setIfInBounds_toArray, List.set_cons_zero, List.set_cons_succ])
      | ((with_reducible refine BigFrame.wpQuiet_skip ?_ ?_)
         · simp [Region.wanted, yielded]
         simp only [Act.put, List.setIfInBounds_toArray, List.set_cons_zero, List.set_cons_succ]))
    refine wpQuiet_nil ?_
    intro w2 hw2
    go_wp2
    go_ret
    exact ⟨ret_eq (by rw [apartA, Ea.out]; rfl), hw2.a2⟩
  · cases eb : rightA jp c <;> rw [eb] at hb
    · have Ha := Hid.mk ha; have Hb := Hid.mk hb; clear ha hb hd
      have Ea := Hid.mk ea; have Eb := Hid.mk eb; clear ea eb
      go_enter Tryz.func37, Tryz.ntmps37
      go_wp2
      refine wp_region_below (by kernel_rfl) (by kernel_rfl) ?_
      repeat (first
        | ((with_reducible apply wpQuiet_go)
           · simp [Region.wanted, yielded]
           · intro W hW
             have c1 := BW.cells hW
             have c3 := BW.le hW
             have hW' := Hid.mk hW
             clear hW
             unfold Oper.quietAt
             go_simp
             first
               | (with_reducible rfl)
               | (with_reducible exact ⟨rfl, rfl⟩)
               | (with_reducible exact Calls.bw_of hW'.out (Ha.out _))
               | (with_reducible exact Calls.bw_of hW'.out (Hb.out _))
           simp only [Act.put, List.setIfInBounds_toArray, List.set_cons_zero, List.set_cons_succ])
        | ((with_reducible refine BigFrame.wpQuiet_skip ?_ ?_)
           · simp [Region.wanted, yielded]
           simp only [Act.put, List.setIfInBounds_toArray, List.set_cons_zero, List.set_cons_succ]))
      refine wpQuiet_nil ?_
      intro w2 hw2
      go_wp2
      go_ret
      exact ⟨ret_eq (by rw [apartA, Ea.out, Eb.out]; rfl), hw2.a2⟩
    · cases ed : hasA ip b (baseA jp c) <;> rw [ed] at hd
      · have Ha := Hid.mk ha; have Hb := Hid.mk hb; have Hd := Hid.mk hd; clear ha hb hd
        have Ea := Hid.mk ea; have Eb := Hid.mk eb; have Ed := Hid.mk ed; clear ea eb ed
        go_enter Tryz.func37, Tryz.ntmps37
        go_wp2
        refine wp_region_below (by kernel_rfl) (by kernel_rfl) ?_
        repeat (first
          | ((with_reducible apply wpQuiet_go)
             · simp [Region.wanted, yielded]
             · intro W hW
               have c1 := BW.cells hW
               have c3 := BW.le hW
               have hW' := Hid.mk hW
               clear hW
               unfold Oper.quietAt
               go_simp
               first
                 | (with_reducible rfl)
                 | (with_reducible exact ⟨rfl, rfl⟩)
                 | (with_reducible exact Calls.bw_of hW'.out (Ha.out _))
                 | (with_reducible exact Calls.bw_of hW'.out (Hb.out _))
                 | (with_reducible exact Calls.bw_of hW'.out (Base_any' _ _ _))
                 | (with_reducible exact Calls.bw_of hW'.out (Hd.out _))
                 | (with_reducible exact Calls.bw_of hW'.out (Has_any _ _ _ _))
             simp only [Act.put, List.setIfInBounds_toArray, List.set_cons_zero, List.set_cons_succ])
          | ((with_reducible refine BigFrame.wpQuiet_skip ?_ ?_)
             · simp [Region.wanted, yielded]
             simp only [Act.put, List.setIfInBounds_toArray, List.set_cons_zero, List.set_cons_succ]))
        refine wpQuiet_nil ?_
        intro w2 hw2
        go_wp2
        go_ret
        exact ⟨ret_eq (by rw [apartA, Ea.out, Eb.out, Ed.out]; rfl), hw2.a2⟩
      · have Ha := Hid.mk ha; have Hb := Hid.mk hb; have Hd := Hid.mk hd; clear ha hb hd
        have Ea := Hid.mk ea; have Eb := Hid.mk eb; have Ed := Hid.mk ed; clear ea eb ed
        go_enter Tryz.func37, Tryz.ntmps37
        go_wp2
        refine wp_region_below (by kernel_rfl) (by kernel_rfl) ?_
        repeat (first
          | ((with_reducible apply wpQuiet_go)
             · simp [Region.wanted, yielded]
             · intro W hW
               have c1 := BW.cells hW
               have c3 := BW.le hW
               have hW' := Hid.mk hW
               clear hW
               unfold Oper.quietAt
               go_simp
               first
                 | (with_reducible rfl)
                 | (with_reducible exact ⟨rfl, rfl⟩)
                 | (with_reducible exact Calls.bw_of hW'.out (Ha.out _))
                 | (with_reducible exact Calls.bw_of hW'.out (Hb.out _))
                 | (with_reducible exact Calls.bw_of hW'.out (Base_any' _ _ _))
                 | (with_reducible exact Calls.bw_of hW'.out (Hd.out _))
             simp only [Act.put, List.setIfInBounds_toArray, List.set_cons_zero, List.set_cons_succ])
          | ((with_reducible refine BigFrame.wpQuiet_skip ?_ ?_)
             · simp [Region.wanted, yielded]
             simp only [Act.put, List.setIfInBounds_toArray, List.set_cons_zero, List.set_cons_succ]))
        refine wpQuiet_nil ?_
        intro w2 hw2
        go_wp2
        go_ret
        exact ⟨ret_eq (by rw [apartA, Ea.out, Eb.out, Ed.out]; rfl), hw2.a2⟩
end Go.Proofs.YtncghggejenmbaaGreatDoor
