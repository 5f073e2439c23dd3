/- Whether a table's, a server's configuration is right. -/
import Derived.Test.YtncghggejenmbaaGreatDoorB2
namespace Go.Proofs.YtncghggejenmbaaGreatDoor
open Go.RowKit
attribute [local go_sem] max2_int min2_int max_two min_two max_three min_three max_four
set_option linter.unusedSimpArgs false
set_option linter.unusedVariables false

set_option maxHeartbeats 400000 in
theorem timesMost_any (u o l q : Int) (w : World) :
    Calls Tryz.prog 99 #[.agg #[.int .u64 u, .int .u64 o, .int .u64 l, .int .u64 q]] w fun e w' => e = .returned (.int .u64 (max u (max o (max l q)))) ∧ BW w w' := by
  go_enter Tryz.func99, Tryz.ntmps99
  go_wp2
  go_ret
  exact ⟨ret_eq rfl, BW.alloc _ _⟩

def timesB (u o l q : Int) : Bool := decide (120 ≤ u ∧ 240 ≤ o ∧ 7440 ≤ l ∧ 60 ≤ q ∧ u ≤ 4294967296 ∧ o ≤ 4294967296 ∧ l ≤ 4294967296 ∧ q ≤ 4294967296)
set_option maxHeartbeats 400000 in
theorem timesRight_any (u o l q : Int) (w : World) :
    Calls Tryz.prog 39 #[.agg #[.int .u64 u, .int .u64 o, .int .u64 l, .int .u64 q]] w fun e w' => e = .returned (.bool (timesB u o l q)) ∧ BW w w' := by
  go_enter Tryz.func39, Tryz.ntmps39
  go_wp2_with (go_at_call 99; refine (timesMost_any _ _ _ _ _).mono ?_; rintro e w1 ⟨rfl, hB⟩)
  all_goals go_ret
  all_goals refine ⟨ret_eq (congrArg Value.bool (Bool.eq_iff_iff.2 (by simp [timesB]; omega))), ?_⟩
  all_goals first | exact BW.alloc _ _ | exact BW.a1 (by assumption)

def tableB (m f l t u o g q : Int) : Bool := decide (1 ≤ m ∧ m ≤ 1024 ∧ 1 ≤ f ∧ f ≤ 4096) && (portsB l t && timesB u o g q)
set_option maxHeartbeats 400000 in
theorem tableRight_any (m f l t u o g q : Int) (w : World) (h0 : -9223372036854775808 ≤ l) (h1 : l ≤ 9223372036854775807) (h2 : -9223372036854775808 ≤ t) (h3 : t ≤ 9223372036854775807) :
    Calls Tryz.prog 16 #[.agg #[.int .i64 m, .int .i64 f, .int .i64 l, .int .i64 t, .int .u64 u, .int .u64 o, .int .u64 g, .int .u64 q]] w fun e w' => e = .returned (.bool (tableB m f l t u o g q)) ∧ BW w w' := by
  have h := fun w => portsNew_any l t w h0 h1 h2 h3
  cases e : portsB l t <;> rw [e] at h
  · have H := Hid.mk h; have E := Hid.mk e; clear h e
    go_enter Tryz.func16, Tryz.ntmps16
    go_wp2_with (go_at_call 38; refine (H.out _).mono ?_; rintro e w1 ⟨x, rfl, hB⟩; have hc := BW.cells hB; have hz := BW.z1 hB)
    all_goals go_ret
    all_goals refine ⟨ret_eq (congrArg Value.bool (Bool.eq_iff_iff.2 (by rw [tableB, E.out]; simp; try omega))), ?_⟩
    all_goals first | exact hB.a1 | exact (hB.trans hB2).a1
  · have H := Hid.mk h; have E := Hid.mk e; clear h e
    go_enter Tryz.func16, Tryz.ntmps16
    go_wp2_with (first
      | (go_at_call 38; refine (H.out _).mono ?_; rintro e w1 ⟨x, rfl, hB⟩; have hc := BW.cells hB; have hz := BW.z1 hB)
      | (go_at_call 39; refine (timesRight_any _ _ _ _ _).mono ?_; rintro e w2 ⟨rfl, hB2⟩))
    all_goals go_ret
    all_goals refine ⟨ret_eq (congrArg Value.bool (Bool.eq_iff_iff.2 (by rw [tableB, E.out]; simp; try omega))), ?_⟩
    all_goals first | exact hB.a1 | exact (hB.trans hB2).a1


def leaseB (f l : Int) : Bool := decide (f ≤ l ∧ l - f < 256)
set_option maxHeartbeats 400000 in
theorem leaseNew_any (f l : Int) (w : World) (h0 : 0 ≤ f) (h1 : f ≤ 4294967295) (h2 : 0 ≤ l) (h3 : l ≤ 4294967295) :
    Calls Tryz.prog 40 #[.int .u32 f, .int .u32 l, .slice none 0 0] w (RetP (okE (leaseB f l)) w) := by
  have hmm := @run_makeMap Tryz.prog
  by_cases hp : f ≤ l ∧ l - f < 256
  · have hpe : okE (leaseB f l) = 0 := by simp [okE, leaseB, hp]
    have Hpe := Hid.mk hpe; clear hpe
    obtain ⟨p1, p2⟩ := hp
    have e0 : (l - f) % 4294967296 = l - f := by omega
    go_enter Tryz.func40, Tryz.ntmps40
    go_wp2
    refine wp_loop_once ?_
    go_wp2
    go_ret2
    exact ⟨_, ret_eq (by rw [Hpe.out]; rfl), ((((BW.refl w).al _).al _).al _).al _⟩
  · go_enter Tryz.func40, Tryz.ntmps40
    go_wp2
    all_goals go_ret2
    all_goals exact ⟨none, ret_eq (by simp [okE, leaseB]; try omega), BW.refl _⟩

def dhcpB (own f l t h q : Int) : Bool := decide (1 ≤ t ∧ 1 ≤ h ∧ 1 ≤ q ∧ t ≤ 2147483648 ∧ h ≤ 2147483648 ∧ q ≤ 2147483648) && (leaseB f l && singleA own)
set_option maxHeartbeats 800000 in
theorem dhcpRight_any (own mk f l t h q : Int) (w : World) (h0 : 0 ≤ f) (h1 : f ≤ 4294967295) (h2 : 0 ≤ l) (h3 : l ≤ 4294967295) (h4 : 0 ≤ own) (h5 : own ≤ 4294967295) :
    Calls Tryz.prog 17 #[.agg #[.int .u32 own, .int .u32 mk, .int .u32 f, .int .u32 l, .int .u32 t, .int .u32 h, .int .u32 q]] w fun e w' => e = .returned (.bool (dhcpB own f l t h q)) ∧ BW w w' := by
  have h := fun w => leaseNew_any f l w h0 h1 h2 h3
  cases e : leaseB f l <;> rw [e] at h
  · have H := Hid.mk h; have E := Hid.mk e; clear h e
    go_enter Tryz.func17, Tryz.ntmps17
    go_wp2_with (go_at_call 40; refine (H.out _).mono ?_; rintro e w1 ⟨x, rfl, hB⟩; have hc := BW.cells hB; have hz := BW.z1 hB)
    all_goals go_ret
    all_goals refine ⟨ret_eq (congrArg Value.bool (Bool.eq_iff_iff.2 (by rw [dhcpB, E.out]; simp; try omega))), ?_⟩
    all_goals exact hB.a1
  · have H := Hid.mk h; have E := Hid.mk e; clear h e
    go_enter Tryz.func17, Tryz.ntmps17
    go_wp2_with (first
      | (go_at_call 40; refine (H.out _).mono ?_; rintro e w1 ⟨x, rfl, hB⟩; have hc := BW.cells hB; have hz := BW.z1 hB)
      | (go_at_call 41; refine (Single_any _ _ h4 h5).mono ?_; rintro e w2 ⟨rfl, hB2⟩))
    all_goals go_ret
    all_goals refine ⟨ret_eq (congrArg Value.bool (Bool.eq_iff_iff.2 (by rw [dhcpB, E.out]; simp; try omega))), ?_⟩
    all_goals first | exact hB.a1 | exact (hB.trans hB2).a1
end Go.Proofs.YtncghggejenmbaaGreatDoor
