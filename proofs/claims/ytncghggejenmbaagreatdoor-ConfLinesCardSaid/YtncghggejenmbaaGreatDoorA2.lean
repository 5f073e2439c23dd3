/- What the program's subnet functions compute (second part). -/
import Derived.Test.YtncghggejenmbaaGreatDoorA1
namespace Go.Proofs.YtncghggejenmbaaGreatDoor
open Go.RowKit
set_option linter.unusedSimpArgs false
set_option linter.unusedVariables false
def baseA (ip b : Int) : Int := Go.bits .and .u32 ip (mask b)
def lastA (ip b : Int) : Int := if bounded b then Go.bits .or .u32 ip (Go.bits .xor .u32 IntKind.u32.max (mask b)) else 0
def hasA (ip b x : Int) : Bool := bounded b && (Go.bits .and .u32 x (mask b) == baseA ip b)
def hostA (ip b x : Int) : Bool := hasA ip b x && (x != baseA ip b && x != lastA ip b)
def singleA (x : Int) : Bool := decide (1 ≤ x / 16777216) && (decide (x / 16777216 ≤ 223) && (x / 16777216 != 127))

theorem Base_any' (ip b : Int) (w : World) :
    Calls Tryz.prog 43 #[.agg #[.int .u32 ip, .int .i64 b]] w fun e w' => e = .returned (.int .u32 (baseA ip b)) ∧ BW w w' := Base_any ip b w

set_option maxHeartbeats 400000 in
theorem Last_any (ip b : Int) (w : World) :
    Calls Tryz.prog 44 #[.agg #[.int .u32 ip, .int .i64 b]] w fun e w' => e = .returned (.int .u32 (lastA ip b)) ∧ BW w w' := by
  cases hb : bounded b
  · have h := bounded_any ip b
    rw [hb] at h
    have H := Hid.mk h; clear h
    have Hb := Hid.mk hb; clear hb
    go_enter Tryz.func44, Tryz.ntmps44
    go_wp2_with (go_at_call 78; refine (H.out _).mono ?_; rintro e w1 ⟨rfl, hB⟩)
    go_ret
    exact ⟨ret_eq (by rw [lastA, Hb.out]; rfl), hB.a1⟩
  · have h := bounded_any ip b
    rw [hb] at h
    have H := Hid.mk h; clear h
    have Hb := Hid.mk hb; clear hb
    go_enter Tryz.func44, Tryz.ntmps44
    go_wp2_with (go_at_call 78; refine (H.out _).mono ?_; rintro e w1 ⟨rfl, hB⟩; have hc := BW.cells hB; have hz := BW.z1 hB)
    refine wp_region_below (by kernel_rfl) (by kernel_rfl) ?_
    repeat (first
      | ((with_reducible apply wpQuiet_go)
         · simp [Region.wanted, yielded]
         · intro W hW
           have c1 := BW.cells hW
           have c3 := BW.le hW
           have hW' := Hid.mk hW
           clear hW
           unfold Oper.quietAt
           go_simp
           first
             | (with_reducible rfl)
             | (with_reducible exact ⟨rfl, rfl⟩)
             | (with_reducible exact Calls.bw_of hW'.out (Mask_any _ _ _))
         simp only [Act.put, List.setIfInBounds_toArray, List.set_cons_zero, List.set_cons_succ])
      | ((with_reducible refine BigFrame.wpQuiet_skip ?_ ?_)
         · simp [Region.wanted, yielded]
         simp only [Act.put, List.setIfInBounds_toArray, List.set_cons_zero, List.set_cons_succ]))
    refine wpQuiet_nil ?_
    intro w2 hw2
    go_wp2
    go_ret
    exact ⟨ret_eq (by rw [lastA, Hb.out]; rfl), (hB.trans hw2).a1⟩

set_option maxHeartbeats 400000 in
theorem Has_any (ip b x : Int) (w : World) :
    Calls Tryz.prog 42 #[.agg #[.int .u32 ip, .int .i64 b], .int .u32 x] w fun e w' => e = .returned (.bool (hasA ip b x)) ∧ BW w w' := by
  cases hb : bounded b
  · have h := bounded_any ip b
    rw [hb] at h
    have H := Hid.mk h; clear h
    have Hb := Hid.mk hb; clear hb
    go_enter Tryz.func42, Tryz.ntmps42
    go_wp2
    refine wp_region_below (by kernel_rfl) (by kernel_rfl) ?_
    repeat (first
      | ((with_reducible apply wpQuiet_go)
         · simp [Region.wanted, yielded]
         · intro W hW
           have c1 := BW.cells hW
           have c3 := BW.le hW
           have hW' := Hid.mk hW
           clear hW
           unfold Oper.quietAt
           go_simp
           first
             | (with_reducible rfl)
             | (with_reducible exact ⟨rfl, rfl⟩)
             | (with_reducible exact Calls.bw_of hW'.out (H.out _))
         simp only [Act.put, List.setIfInBounds_toArray, List.set_cons_zero, List.set_cons_succ])
      | ((with_reducible refine BigFrame.wpQuiet_skip ?_ ?_)
         · simp [Region.wanted, yielded]
         simp only [Act.put, List.setIfInBounds_toArray, List.set_cons_zero, List.set_cons_succ]))
    refine wpQuiet_nil ?_
    intro w2 hw2
    go_wp2
    go_ret
    exact ⟨ret_eq (by rw [hasA, Hb.out]; rfl), hw2.a1⟩
  · have h := bounded_any ip b
    rw [hb] at h
    have H := Hid.mk h; clear h
    have Hb := Hid.mk hb; clear hb
    go_enter Tryz.func42, Tryz.ntmps42
    go_wp2
    refine wp_region_below (by kernel_rfl) (by kernel_rfl) ?_
    repeat (first
      | ((with_reducible apply wpQuiet_go)
         · simp [Region.wanted, yielded]
         · intro W hW
           have c1 := BW.cells hW
           have c3 := BW.le hW
           have hW' := Hid.mk hW
           clear hW
           unfold Oper.quietAt
           go_simp
           first
             | (with_reducible rfl)
             | (with_reducible exact ⟨rfl, rfl⟩)
             | (with_reducible exact Calls.bw_of hW'.out (H.out _))
             | (with_reducible exact Calls.bw_of hW'.out (Mask_any _ _ _))
             | (with_reducible exact Calls.bw_of hW'.out (Base_any' _ _ _))
         simp only [Act.put, List.setIfInBounds_toArray, List.set_cons_zero, List.set_cons_succ])
      | ((with_reducible refine BigFrame.wpQuiet_skip ?_ ?_)
         · simp [Region.wanted, yielded]
         simp only [Act.put, List.setIfInBounds_toArray, List.set_cons_zero, List.set_cons_succ]))
    refine wpQuiet_nil ?_
    intro w2 hw2
    go_wp2
    go_ret
    exact ⟨ret_eq (by rw [hasA, Hb.out]; rfl), hw2.a1⟩

set_option maxHeartbeats 400000 in
theorem Single_any (x : Int) (w : World) (h0 : 0 ≤ x) (h1 : x ≤ 4294967295) :
    Calls Tryz.prog 41 #[.int .u32 x] w fun e w' => e = .returned (.bool (singleA x)) ∧ BW w w' := by
  go_enter Tryz.func41, Tryz.ntmps41
  go_wp2
  all_goals go_ret
  all_goals exact ⟨ret_eq (by simp [singleA, *]; try omega), BW.refl _⟩

set_option maxHeartbeats 400000 in
theorem Host_any (ip b x : Int) (w : World) :
    Calls Tryz.prog 19 #[.agg #[.int .u32 ip, .int .i64 b], .int .u32 x] w fun e w' => e = .returned (.bool (hostA ip b x)) ∧ BW w w' := by
  have h := Has_any ip b x
  cases hh : hasA ip b x <;> rw [hh] at h
  · have H := Hid.mk h; clear h
    have Hb := Hid.mk hh; clear hh
    go_enter Tryz.func19, Tryz.ntmps19
    go_wp2_with (go_at_call 42; refine (H.out _).mono ?_; rintro e w1 ⟨rfl, hB⟩; have hc := BW.cells hB; have hz := BW.z1 hB)
    go_ret
    exact ⟨ret_eq (by rw [hostA, Hb.out]; rfl), hB.a1⟩
  · have H := Hid.mk h; clear h
    have Hb := Hid.mk hh; clear hh
    by_cases hx : x = baseA ip b
    · have hx' : (x != baseA ip b) = false := by simp [hx]
      have Hx := Hid.mk hx; clear hx
      go_enter Tryz.func19, Tryz.ntmps19
      go_wp2_with (first
        | (go_at_call 42; refine (H.out _).mono ?_; rintro e w1 ⟨rfl, hB⟩; have hc := BW.cells hB; have hz := BW.z1 hB)
        | (go_at_call 43; refine (Base_any' _ _ _).mono ?_; rintro e w2 ⟨rfl, hB2⟩; have hc2 := BW.cells hB2; have hz2 := BW.le hB2))
      go_ret
      exact ⟨ret_eq (by rw [hostA, Hb.out, hx']; rfl), (hB.trans hB2).a1⟩
    · have hx' : (x != baseA ip b) = true := by simp [hx]
      have Hx := Hid.mk hx; clear hx
      go_enter Tryz.func19, Tryz.ntmps19
      go_wp2_with (first
        | (go_at_call 42; refine (H.out _).mono ?_; rintro e w1 ⟨rfl, hB⟩; have hc := BW.cells hB; have hz := BW.z1 hB)
        | (go_at_call 43; refine (Base_any' _ _ _).mono ?_; rintro e w2 ⟨rfl, hB2⟩; have hc2 := BW.cells hB2; have hz2 := BW.le hB2)
        | (go_at_call 44; refine (Last_any _ _ _).mono ?_; rintro e w3 ⟨rfl, hB3⟩))
      go_ret
      exact ⟨ret_eq (by rw [hostA, Hb.out, hx']; rfl), ((hB.trans hB2).trans hB3).a1⟩
end Go.Proofs.YtncghggejenmbaaGreatDoor
