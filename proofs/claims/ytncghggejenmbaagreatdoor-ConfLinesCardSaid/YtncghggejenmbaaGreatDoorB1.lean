/- Whether there are such a cache, such a pool, such a ring: what these calls answer. -/
import Derived.Test.YtncghggejenmbaaGreatDoorA3
import Derived.Laws.MakeOwn
namespace Go.Proofs.YtncghggejenmbaaGreatDoor
open Go.RowKit
set_option linter.unusedSimpArgs false
set_option linter.unusedVariables false

set_option maxHeartbeats 400000 in
theorem Group_any (m0 m1 m2 m3 m4 m5 : Int) (w : World) (h0 : 0 ≤ m0) (h1 : m0 ≤ 255) :
    Calls Tryz.prog 18 #[.agg #[.int .u8 m0, .int .u8 m1, .int .u8 m2, .int .u8 m3, .int .u8 m4, .int .u8 m5]] w fun e w' => e = .returned (.bool (m0 % 2 != 0)) ∧ BW w w' := by
  go_enter Tryz.func18, Tryz.ntmps18
  go_wp2
  go_ret
  have e : Go.bits .and .u8 m0 1 = m0 % 2 := bits_mask .u8 8 (by decide) wraps_u8 1 (by decide) m0 h0 (by omega)
  exact ⟨ret_eq (by rw [← e]; rfl), BW.alloc _ _⟩

set_option maxHeartbeats 400000 in
theorem wheelNew_0 (w : World) : Calls Tryz.prog 132 #[.int .u64 0] w (RetP 0 w) := by
  have hmm := @run_makeMap Tryz.prog
  go_enter Tryz.func132, Tryz.ntmps132
  go_wp2
  go_ret2
  exact ⟨_, ret_eq rfl, ((BW.alloc _ _).trans (BW.alloc _ _)).trans (BW.alloc _ _)⟩

def cacheB (r t l p : Int) : Bool := decide (1 ≤ r ∧ r ≤ 256 ∧ 1 ≤ t ∧ t ≤ 64 ∧ 1 ≤ l ∧ 1 ≤ p ∧ l ≤ 4294967296 ∧ p ≤ 4294967296)
set_option maxHeartbeats 400000 in
theorem poolNew_any (n : Int) (w : World) (h0 : -9223372036854775808 ≤ n) (h1 : n ≤ 9223372036854775807) : Calls Tryz.prog 95 #[.int .i64 n] w (RetP (okE (decide (1 ≤ n ∧ n ≤ 1024))) w) := by
  by_cases hn : 1 ≤ n ∧ n ≤ 1024
  · obtain ⟨h2, h3⟩ := hn
    obtain ⟨i, hi, hz0, hz1, hz2⟩ := info_parts (show (Tryz.prog.info? 301).map (fun i => (i.zero, i.size, i.bytes)) = some (some (.agg #[.int .i64 0, .slice none 0 0]), 2, 32) by kernel_rfl)
    have hmk : ∀ W, (Instr.makeSlice 206 (.int .i64 n) (.int .i64 n)).run Tryz.prog W = .ok (.slice (some ⟨W.heap.size, 0, none⟩) n.toNat n.toNat) (W.alloc (.cells (madeCells (Value.agg #[.int .i64 0, .slice none 0 0]).cells (n.toNat * i.size)) 301)) :=
      fun W => run_make W 206 301 i _ Tryz.underlying206 hi hz0 .i64 .i64 n n (by omega) (by omega) (by rw [hz2]; omega) (by omega)
    clear hi hz0 hz1 hz2
    go_enter Tryz.func95, Tryz.ntmps95
    go_wp2
    go_ret2
    exact ⟨_, ret_eq (by simp [okE, h2, h3]; rfl), (BW.alloc _ _).trans (BW.alloc _ _)⟩
  · go_enter Tryz.func95, Tryz.ntmps95
    go_wp2
    all_goals go_ret2
    all_goals exact ⟨none, ret_eq (by simp [okE]; try omega), BW.refl _⟩

set_option maxHeartbeats 400000 in
theorem boundsRight_any (r t l p : Int) (w : World) (h0 : 0 ≤ l) (h1 : 0 ≤ p) (h2 : l ≤ 18446744073709551615) (h3 : p ≤ 18446744073709551615) :
    Calls Tryz.prog 131 #[.agg #[.int .i64 r, .int .i64 t, .int .u64 l, .int .u64 p]] w fun e w' => e = .returned (.bool (cacheB r t l p)) ∧ BW w w' := by
  go_enter Tryz.func131, Tryz.ntmps131
  go_wp2
  all_goals go_ret
  all_goals exact ⟨ret_eq (congrArg Value.bool (Bool.eq_iff_iff.2 (by simp [cacheB]; omega))), BW.alloc _ _⟩

set_option maxHeartbeats 400000 in
theorem cacheNew_any (r t l p : Int) (w : World) (h0 : 0 ≤ l) (h1 : 0 ≤ p) (h2 : l ≤ 18446744073709551615) (h3 : p ≤ 18446744073709551615) :
    Calls Tryz.prog 94 #[.int .i64 r, .int .i64 t, .int .u64 l, .int .u64 p] w (RetP (okE (cacheB r t l p)) w) := by
  have hmm := @run_makeMap Tryz.prog
  have h := fun w => boundsRight_any r t l p w h0 h1 h2 h3
  cases e : cacheB r t l p <;> rw [e] at h
  · have H := Hid.mk h; clear h e
    go_enter Tryz.func94, Tryz.ntmps94
    go_wp2_with (go_at_call 131; refine (H.out _).mono ?_; rintro e w1 ⟨rfl, hB⟩)
    go_ret2
    exact ⟨none, ret_eq rfl, hB.a1⟩
  · have H := Hid.mk h; clear h e
    go_enter Tryz.func94, Tryz.ntmps94
    go_wp2_with fail
    refine (H.out _).mono ?_; rintro e w1 ⟨rfl, hB⟩; have hc := BW.cells hB; have hz := BW.z1 hB
    go_wp2_with fail
    refine (wheelNew_0 _).mono ?_; rintro e w2 ⟨x2, rfl, hB2⟩; have hc2 := BW.cells hB2; have hz2 := Nat.lt_of_lt_of_le hz hB2.le
    go_wp2_with fail
    refine (wheelNew_0 _).mono ?_; rintro e w3 ⟨x3, rfl, hB3⟩; have hc3 := BW.cells hB3; have hz3 := Nat.lt_of_lt_of_le hz2 hB3.le
    go_wp2
    go_ret2
    exact ⟨_, ret_eq rfl, ((((hB.trans hB2).trans hB3).a1.trans (BW.alloc _ _)).trans (BW.alloc _ _)).trans (BW.alloc _ _)⟩

set_option maxHeartbeats 400000 in
theorem ringNew_any (x : Option Addr) (n : Int) (w : World) (h0 : -9223372036854775808 ≤ n) (h1 : n ≤ 9223372036854775807) :
    Calls Tryz.prog 96 #[.pointer x, .int .i64 n, .int .i64 1] w (RetP (okE (decide (1 ≤ n ∧ n ≤ 256))) w) := by
  by_cases hn : 1 ≤ n ∧ n ≤ 256
  · obtain ⟨h2, h3⟩ := hn
    obtain ⟨i, hi, hz0, hz1, hz2⟩ := info_parts (show (Tryz.prog.info? 3).map (fun i => (i.zero, i.size, i.bytes)) = some (some (.int .i64 0), 1, 8) by kernel_rfl)
    have hmk : ∀ W, (Instr.makeSlice 183 (.int .i64 n) (.int .i64 n)).run Tryz.prog W = .ok (.slice (some ⟨W.heap.size, 0, none⟩) n.toNat n.toNat) (W.alloc (.cells (madeCells (Value.int .i64 0).cells (n.toNat * i.size)) 3)) :=
      fun W => run_make W 183 3 i _ Tryz.underlying183 hi hz0 .i64 .i64 n n (by omega) (by omega) (by rw [hz2]; omega) (by omega)
    clear hi hz0 hz1 hz2
    go_enter Tryz.func96, Tryz.ntmps96
    go_wp2
    go_ret2
    exact ⟨_, ret_eq (by simp [okE, h2, h3]; rfl), (BW.alloc _ _).trans (BW.alloc _ _)⟩
  · go_enter Tryz.func96, Tryz.ntmps96
    go_wp2
    all_goals go_ret2
    all_goals exact ⟨none, ret_eq (by simp [okE]; try omega), BW.refl _⟩
end Go.Proofs.YtncghggejenmbaaGreatDoor
