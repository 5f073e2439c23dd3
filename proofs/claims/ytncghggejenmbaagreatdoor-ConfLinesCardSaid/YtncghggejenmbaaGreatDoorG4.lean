/- A configuration is equal to itself. -/
import Derived.Test.YtncghggejenmbaaGreatDoorG3
namespace Go.Proofs.YtncghggejenmbaaGreatDoor
open Go.RowKit Go.Proofs
set_option linter.unusedSimpArgs false
set_option linter.unusedVariables false
theorem self25 (a b : Int) (d : Nat) (W : World) : (Op.equalIn (d + 2) 25 (.agg #[.int .u32 a, .int .i64 b]) (.agg #[.int .u32 a, .int .i64 b])).run Tryz.prog W = .ok true W := by
  rw [run_equalIn_struct W (d + 1) 25 _ _ (by kernel_rfl) (by kernel_rfl)]
  go_simp
theorem self29 (a b c e f g : Int) (d : Nat) (W : World) : (Op.equalIn (d + 2) 29 (.agg #[.int .u8 a, .int .u8 b, .int .u8 c, .int .u8 e, .int .u8 f, .int .u8 g]) (.agg #[.int .u8 a, .int .u8 b, .int .u8 c, .int .u8 e, .int .u8 f, .int .u8 g])).run Tryz.prog W = .ok true W := by
  rw [run_equalIn_six (P := Tryz.prog) W d 29 5 Tryz.underlying29 Tryz.underlying5 (fun _ => by kernel_rfl)]
  simp
theorem self32 (a b c e : Int) (d : Nat) (W : World) : (Op.equalIn (d + 2) 32 (.agg #[.int .u64 a, .int .u64 b, .int .u64 c, .int .u64 e]) (.agg #[.int .u64 a, .int .u64 b, .int .u64 c, .int .u64 e])).run Tryz.prog W = .ok true W := by
  rw [run_equalIn_struct W (d + 1) 32 _ _ (by kernel_rfl) (by kernel_rfl)]
  go_simp
theorem self34 (a b c e f g h i : Int) (d : Nat) (W : World) : (Op.equalIn (d + 3) 34 (.agg #[.int .i64 a, .int .i64 b, .int .i64 c, .int .i64 e, .int .u64 f, .int .u64 g, .int .u64 h, .int .u64 i]) (.agg #[.int .i64 a, .int .i64 b, .int .i64 c, .int .i64 e, .int .u64 f, .int .u64 g, .int .u64 h, .int .u64 i])).run Tryz.prog W = .ok true W := by
  rw [run_equalIn_struct W (d + 2) 34 _ _ (by kernel_rfl) (by kernel_rfl)]
  go_simp
theorem self36 (a b c e f g h : Int) (d : Nat) (W : World) : (Op.equalIn (d + 2) 36 (.agg #[.int .u32 a, .int .u32 b, .int .u32 c, .int .u32 e, .int .u32 f, .int .u32 g, .int .u32 h]) (.agg #[.int .u32 a, .int .u32 b, .int .u32 c, .int .u32 e, .int .u32 f, .int .u32 g, .int .u32 h])).run Tryz.prog W = .ok true W := by
  rw [run_equalIn_struct W (d + 1) 36 _ _ (by kernel_rfl) (by kernel_rfl)]
  go_simp
theorem self27 (a b c e f : Int) (d : Nat) (W : World) : (Op.equalIn (d + 3) 27 (.agg #[.int .u32 a, .int .i64 b, .int .u32 c, .int .i64 e, .int .u32 f]) (.agg #[.int .u32 a, .int .i64 b, .int .u32 c, .int .i64 e, .int .u32 f])).run Tryz.prog W = .ok true W := by
  rw [run_equalIn_struct W (d + 2) 27 _ _ (by kernel_rfl) (by kernel_rfl)]
  go_simp
set_option maxRecDepth 100000 in
set_option maxHeartbeats 2000000 in
theorem self38 (c : CF) (W : World) : (Op.equalIn 10000 38 c.val c.val).run Tryz.prog W = .ok true W := by
  rw [run_equalIn_struct W 9999 38 _ _ (by kernel_rfl) (by kernel_rfl)]
  rw [CF.cells]
  have h27 := fun W => self27 c.ii c.ib c.oi c.ob c.ro 9996 W
  have h29 := fun W => self29 c.m0 c.m1 c.m2 c.m3 c.m4 c.m5 9997 W
  have h29' := fun W => self29 c.n0 c.n1 c.n2 c.n3 c.n4 c.n5 9997 W
  have h34 := fun W => self34 c.maps c.flows c.lst c.mst c.udp c.opn c.lng c.qry 9996 W
  have h36 := fun W => self36 c.own c.msk c.fst c.last c.tim c.hld c.qut 9997 W
  go_simp
theorem self28 (a b c e f g : Int) (d : Nat) (W : World) : (Op.equalIn (d + 2) 28 (.agg #[.int .u8 a, .int .u8 b, .int .u8 c, .int .u8 e, .int .u8 f, .int .u8 g]) (.agg #[.int .u8 a, .int .u8 b, .int .u8 c, .int .u8 e, .int .u8 f, .int .u8 g])).run Tryz.prog W = .ok true W := by
  rw [run_equalIn_six (P := Tryz.prog) W d 28 5 Tryz.underlying28 Tryz.underlying5 (fun _ => by kernel_rfl)]
  simp
theorem self45 (a b c e : Int) (d : Nat) (W : World) : (Op.equalIn (d + 2) 45 (.agg #[.int .u64 a, .int .u64 b, .int .u64 c, .int .u64 e]) (.agg #[.int .u64 a, .int .u64 b, .int .u64 c, .int .u64 e])).run Tryz.prog W = .ok true W := by
  rw [run_equalIn_struct W (d + 1) 45 _ _ (by kernel_rfl) (by kernel_rfl)]
  go_simp
theorem self47 (a b c e f g h i : Int) (d : Nat) (W : World) : (Op.equalIn (d + 3) 47 (.agg #[.int .i64 a, .int .i64 b, .int .i64 c, .int .i64 e, .int .u64 f, .int .u64 g, .int .u64 h, .int .u64 i]) (.agg #[.int .i64 a, .int .i64 b, .int .i64 c, .int .i64 e, .int .u64 f, .int .u64 g, .int .u64 h, .int .u64 i])).run Tryz.prog W = .ok true W := by
  rw [run_equalIn_struct W (d + 2) 47 _ _ (by kernel_rfl) (by kernel_rfl)]
  go_simp
theorem self48 (a b c e f g h : Int) (d : Nat) (W : World) : (Op.equalIn (d + 2) 48 (.agg #[.int .u32 a, .int .u32 b, .int .u32 c, .int .u32 e, .int .u32 f, .int .u32 g, .int .u32 h]) (.agg #[.int .u32 a, .int .u32 b, .int .u32 c, .int .u32 e, .int .u32 f, .int .u32 g, .int .u32 h])).run Tryz.prog W = .ok true W := by
  rw [run_equalIn_struct W (d + 1) 48 _ _ (by kernel_rfl) (by kernel_rfl)]
  go_simp
theorem self44 (a b c e f : Int) (d : Nat) (W : World) : (Op.equalIn (d + 3) 44 (.agg #[.int .u32 a, .int .i64 b, .int .u32 c, .int .i64 e, .int .u32 f]) (.agg #[.int .u32 a, .int .i64 b, .int .u32 c, .int .i64 e, .int .u32 f])).run Tryz.prog W = .ok true W := by
  rw [run_equalIn_struct W (d + 2) 44 _ _ (by kernel_rfl) (by kernel_rfl)]
  go_simp
set_option maxRecDepth 100000 in
set_option maxHeartbeats 2000000 in
theorem self50 (c : CF) (W : World) : (Op.equalIn 10000 50 c.val c.val).run Tryz.prog W = .ok true W := by
  rw [run_equalIn_struct W 9999 50 _ _ (by kernel_rfl) (by kernel_rfl)]
  rw [CF.cells]
  have h44 := fun W => self44 c.ii c.ib c.oi c.ob c.ro 9996 W
  have h28 := fun W => self28 c.m0 c.m1 c.m2 c.m3 c.m4 c.m5 9997 W
  have h28' := fun W => self28 c.n0 c.n1 c.n2 c.n3 c.n4 c.n5 9997 W
  have h47 := fun W => self47 c.maps c.flows c.lst c.mst c.udp c.opn c.lng c.qry 9996 W
  have h48 := fun W => self48 c.own c.msk c.fst c.last c.tim c.hld c.qut 9997 W
  go_simp
end Go.Proofs.YtncghggejenmbaaGreatDoor
