/- What the program's subnet functions compute. -/
import Derived.Test.YtncghggejenmbaaGreatDoorH
namespace Go.Proofs.YtncghggejenmbaaGreatDoor
open Go.RowKit
set_option linter.unusedSimpArgs false
def bounded (b : Int) : Bool := decide (8 ≤ b) && decide (b ≤ 30)
def sz (b : Int) : Int := (2:Int)^((32 - b).toNat)
def mask (b : Int) : Int := if bounded b then 4294967296 - sz b else 0

set_option maxHeartbeats 400000 in
theorem bounded_any (ip b : Int) (w : World) :
    Calls Tryz.prog 78 #[.agg #[.int .u32 ip, .int .i64 b]] w fun e w' => e = .returned (.bool (bounded b)) ∧ BW w w' := by
  go_enter Tryz.func78, Tryz.ntmps78
  go_wp2
  all_goals go_ret
  all_goals refine ⟨ret_eq ?_, BW.alloc _ _⟩
  all_goals (simp [bounded]; try omega)

theorem mask_num (k : Nat) (h : 2 ≤ k) (h' : k ≤ 24) : (4294967295 * 2 ^ k % 4294967296 : Int) = 4294967296 - 2 ^ k := by
  have : ∀ k, k < 25 → (4294967295 * 2 ^ k % 4294967296 : Int) = 4294967296 - 2 ^ k ∨ k < 2 := by decide
  rcases this k (by omega) with h1 | h1
  · exact h1
  · omega

set_option maxHeartbeats 400000 in
theorem Mask_any (ip b : Int) (w : World) :
    Calls Tryz.prog 24 #[.agg #[.int .u32 ip, .int .i64 b]] w fun e w' => e = .returned (.int .u32 (mask b)) ∧ BW w w' := by
  cases hb : bounded b
  · have h := bounded_any ip b
    rw [hb] at h
    have H := Hid.mk h; clear h
    go_enter Tryz.func24, Tryz.ntmps24
    go_wp2_with (go_at_call 78; refine (H.out _).mono ?_; rintro e w1 ⟨rfl, hB⟩)
    go_ret
    refine ⟨ret_eq ?_, hB.a1⟩
    simp [mask, hb]
  · have h := bounded_any ip b
    rw [hb] at h
    have H := Hid.mk h; clear h
    have hb' : 8 ≤ b ∧ b ≤ 30 := by simpa [bounded] using hb
    obtain ⟨hb1, hb2⟩ := hb'
    have Hb := Hid.mk hb; clear hb
    go_enter Tryz.func24, Tryz.ntmps24
    go_wp2_with (go_at_call 78; refine (H.out _).mono ?_; rintro e w1 ⟨rfl, hB⟩; have hc := BW.cells hB)
    go_ret
    refine ⟨ret_eq ?_, hB.a1⟩
    rw [mask, Hb.out, if_pos rfl, sz]
    exact congrArg _ (mask_num _ (by omega) (by omega))


set_option maxHeartbeats 400000 in
theorem Base_any (ip b : Int) (w : World) :
    Calls Tryz.prog 43 #[.agg #[.int .u32 ip, .int .i64 b]] w fun e w' => e = .returned (.int .u32 (Go.bits .and .u32 ip (mask b))) ∧ BW w w' := by
  go_enter Tryz.func43, Tryz.ntmps43
  go_wp2
  refine wp_region_below (by kernel_rfl) (by kernel_rfl) ?_
  repeat (first
    | ((with_reducible apply wpQuiet_go)
       · simp [Region.wanted, yielded]
       · intro W hW
         have c1 := BW.cells hW
         have c3 := BW.le hW
         have hW' := Hid.mk hW
         clear hW
         unfold Oper.quietAt
         go_simp
         first
           | (with_reducible rfl)
           | (with_reducible exact ⟨rfl, rfl⟩)
           | (with_reducible exact Calls.bw_of hW'.out (Mask_any _ _ _))
       simp only [Act.put, List.setIfInBounds_toArray, List.set_cons_zero, List.set_cons_succ])
    | ((with_reducible refine BigFrame.wpQuiet_skip ?_ ?_)
       · simp [Region.wanted, yielded]
       simp only [Act.put, List.setIfInBounds_toArray, List.set_cons_zero, List.set_cons_succ]))
  refine wpQuiet_nil ?_
  intro w1 hw1
  go_wp2
  go_ret
  exact ⟨ret_eq rfl, hw1.a1⟩
end Go.Proofs.YtncghggejenmbaaGreatDoor
