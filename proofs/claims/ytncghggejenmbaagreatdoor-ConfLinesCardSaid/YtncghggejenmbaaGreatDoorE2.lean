/- A byte in base 16, by the library. -/
import Derived.Test.YtncghggejenmbaaGreatDoorD2
import Derived.Test.YtncghggejenmbaaGreatDoorC3
namespace Go.Proofs.YtncghggejenmbaaGreatDoor
open Go.RowKit Go.Proofs Go.Sort Go.Lib
set_option linter.unusedSimpArgs false
set_option linter.unusedVariables false
set_option maxRecDepth 100000 in
set_option maxHeartbeats 800000 in
theorem tz16_any (w : World) (hc : w.cell? ⟨7, 15, none⟩ = some (.int .u8 4)) : Calls Tryz.prog 180 #[.int .u64 16] w fun e w' => e = .returned (.int .i64 4) ∧ w = w' := by
  have e15 : IntKind.u64.wrap (bits BinOp.and IntKind.u64 16 (IntKind.u64.wrap (-16)) * 285870213051353865) / 288230376151711744 = 15 := by kernel_rfl
  go_enter Tryz.func180, Tryz.ntmps180
  go_wp2
  go_ret
  exact ⟨rfl, rfl⟩
theorem tz_any (w : World) (hc : w.cell? ⟨7, 15, none⟩ = some (.int .u8 4)) : Calls Tryz.prog 174 #[.int .u64 16] w fun e w' => e = .returned (.int .i64 4) ∧ w = w' := by
  go_enter Tryz.func174, Tryz.ntmps174
  go_wp2_with (go_at_call 180; refine (tz16_any _ hc).mono ?_; rintro e w1 ⟨rfl, rfl⟩)
  go_ret
  exact ⟨rfl, rfl⟩
theorem pow2_any (w : World) : Calls Tryz.prog 173 #[.int .i64 16] w fun e w' => e = .returned (.bool true) ∧ w = w' := by
  go_enter Tryz.func173, Tryz.ntmps173
  go_wp2
  go_ret
  exact ⟨rfl, rfl⟩
theorem hexAt (n : Nat) (h : n < 16) (h' : n < (⟨#[48, 49, 50, 51, 52, 53, 54, 55, 56, 57, 97, 98, 99, 100, 101, 102, 103, 104, 105, 106, 107, 108, 109, 110, 111, 112, 113, 114, 115, 116, 117, 118, 119, 120, 121, 122]⟩ : ByteArray).size) :
    (⟨#[48, 49, 50, 51, 52, 53, 54, 55, 56, 57, 97, 98, 99, 100, 101, 102, 103, 104, 105, 106, 107, 108, 109, 110, 111, 112, 113, 114, 115, 116, 117, 118, 119, 120, 121, 122]⟩ : ByteArray)[n]'h' = hexDigit n := by
  have key : ∀ m : Fin 16, (⟨#[48, 49, 50, 51, 52, 53, 54, 55, 56, 57, 97, 98, 99, 100, 101, 102, 103, 104, 105, 106, 107, 108, 109, 110, 111, 112, 113, 114, 115, 116, 117, 118, 119, 120, 121, 122]⟩ : ByteArray)[m.val]'(Nat.lt_trans m.isLt (by decide)) = hexDigit m.val := by decide
  exact key ⟨n, h⟩
theorem z255 : Tryz.zeroCells255.size = 65 := by kernel_rfl
theorem cv1 (w : World) (x : UInt8) : (convert 90 9 (Value.slice (some ⟨w.heap.size, 64, none⟩) 1 1)).run Tryz.prog (w.alloc (Obj.cells (Tryz.zeroCells255.setIfInBounds 64 (Value.int IntKind.u8 ↑x.toNat)) 255)) = .ok (.string ⟨#[x]⟩) (w.alloc (Obj.cells (Tryz.zeroCells255.setIfInBounds 64 (Value.int IntKind.u8 ↑x.toNat)) 255)) := by
  refine run_convert_bytes_back (P := Tryz.prog) _ 90 9 5 ⟨w.heap.size, 64, none⟩ 1 [x] Tryz.underlying90 Tryz.underlying5 Tryz.underlying9 (fun j hj => ?_)
  have : j = 0 := by simpa using hj
  subst this
  simp [Addr.add, World.cell?_alloc_new, z255]
theorem cv2 (w : World) (x y : UInt8) : (convert 90 9 (Value.slice (some ⟨w.heap.size, 63, none⟩) 2 2)).run Tryz.prog (w.alloc (Obj.cells ((Tryz.zeroCells255.setIfInBounds 64 (Value.int IntKind.u8 ↑x.toNat)).setIfInBounds 63 (Value.int IntKind.u8 ↑y.toNat)) 255)) = .ok (.string ⟨#[y, x]⟩) (w.alloc (Obj.cells ((Tryz.zeroCells255.setIfInBounds 64 (Value.int IntKind.u8 ↑x.toNat)).setIfInBounds 63 (Value.int IntKind.u8 ↑y.toNat)) 255)) := by
  refine run_convert_bytes_back (P := Tryz.prog) _ 90 9 5 ⟨w.heap.size, 63, none⟩ 2 [y, x] Tryz.underlying90 Tryz.underlying5 Tryz.underlying9 (fun j hj => ?_)
  have : j = 0 ∨ j = 1 := by have : j < 2 := by simpa using hj
                             omega
  rcases this with rfl | rfl
  · simp [Addr.add, World.cell?_alloc_new, z255]
  · simp [Addr.add, World.cell?_alloc_new, z255]
set_option maxRecDepth 100000 in
set_option maxHeartbeats 800000 in
theorem fmtHexLo (n : Nat) (hn : n < 16) (w : World) (hs : 7 < w.heap.size) (hc : w.cell? ⟨7, 15, none⟩ = some (.int .u8 4)) :
    Calls Tryz.prog 155 #[.slice none 0 0, .int .u64 (n : Int), .int .i64 16, .bool false, .bool false] w fun e w' => e = .returned (.tuple #[.slice none 0 0, .string ⟨#[hexDigit n]⟩]) ∧ BW w w' := by
  have hcv := cv1 w
  go_enter Tryz.func155, Tryz.ntmps155
  go_wp2_with (first
    | (go_at_call 174; refine (tz_any _ (by go_simp)).mono ?_; rintro e w1 ⟨rfl, rfl⟩)
    | (go_at_call 173; refine (pow2_any _).mono ?_; rintro e w1 ⟨rfl, rfl⟩))
  refine wp_loop_once ?_
  go_wp2
  go_ret2
  refine ⟨?_, BW.alloc _ _⟩
  have := hexAt n hn (Nat.lt_trans hn (by decide))
  exact ret_eq (congrArg (fun x => Value.tuple #[Value.slice none 0 0, .string ⟨#[x]⟩]) this)
set_option maxRecDepth 100000 in
set_option maxHeartbeats 800000 in
theorem fmtHexHi (n : Nat) (hn : 16 ≤ n) (hn2 : n < 256) (w : World) (hs : 7 < w.heap.size) (hc : w.cell? ⟨7, 15, none⟩ = some (.int .u8 4)) :
    Calls Tryz.prog 155 #[.slice none 0 0, .int .u64 (n : Int), .int .i64 16, .bool false, .bool false] w fun e w' => e = .returned (.tuple #[.slice none 0 0, .string ⟨#[hexDigit (n / 16), hexDigit (n % 16)]⟩]) ∧ BW w w' := by
  have hcv := cv2 w
  have hb : bits BinOp.and IntKind.u64 (n : Int) 15 = (n : Int) % 16 := bits_mask .u64 8 (by decide) (fun m h0 h1 => by rw [IntKind.wrap_u64]; omega) 4 (by decide) n (by omega) (by omega)
  have hm : n % 16 < 16 := Nat.mod_lt _ (by omega)
  have hd : n / 16 < 16 := by omega
  have hd1 : (0 : Int) ≤ (n : Int) / 16 := by omega
  have hd3 : (n : Int) / 16 < 16 := by omega
  go_enter Tryz.func155, Tryz.ntmps155
  go_wp2_with (first
    | (go_at_call 174; refine (tz_any _ (by go_simp)).mono ?_; rintro e w1 ⟨rfl, rfl⟩)
    | (go_at_call 173; refine (pow2_any _).mono ?_; rintro e w1 ⟨rfl, rfl⟩))
  refine wp_loop_rounds 2 ?_
  rw [rounds_succ]
  go_wp2
  rw [rounds_succ]
  go_wp2
  go_ret2
  have e1 := hexAt (n / 16) hd (Nat.lt_trans hd (by decide))
  have e2 := hexAt (n % 16) hm (Nat.lt_trans hm (by decide))
  refine ⟨?_, BW.alloc _ _⟩
  exact ret_eq ((congrArg (fun x => Value.tuple #[Value.slice none 0 0, .string ⟨#[x, _]⟩]) e1).trans (congrArg (fun x => Value.tuple #[Value.slice none 0 0, .string ⟨#[_, x]⟩]) e2))
def hexText (n : Nat) : List UInt8 := if n < 16 then [hexDigit n] else hx n
theorem fmtHex_any (n : Nat) (hn : n < 256) (w : World) (hs : 7 < w.heap.size) (hc : w.cell? ⟨7, 15, none⟩ = some (.int .u8 4)) :
    Calls Tryz.prog 155 #[.slice none 0 0, .int .u64 (n : Int), .int .i64 16, .bool false, .bool false] w fun e w' => e = .returned (.tuple #[.slice none 0 0, .string ⟨(hexText n).toArray⟩]) ∧ BW w w' := by
  unfold hexText
  split
  · exact fmtHexLo n ‹_› w hs hc
  · exact fmtHexHi n (by omega) hn w hs hc
set_option maxHeartbeats 1600000 in
theorem fmtUint16_any (n : Nat) (hn : n < 256) (w : World) (hs : 7 < w.heap.size) (hc : w.cell? ⟨7, 15, none⟩ = some (.int .u8 4)) :
    Calls Tryz.prog 137 #[.int .u64 (n : Int), .int .i64 16] w fun e w' => e = .returned (.string ⟨(hexText n).toArray⟩) ∧ BW w w' := by
  go_enter Tryz.func137, Tryz.ntmps137
  go_wp2_with (go_at_call 155; refine (fmtHex_any n hn _ (by go_simp) (by go_simp)).mono ?_; rintro e w1 ⟨rfl, hN⟩)
  all_goals go_ret
  all_goals exact ⟨rfl, hN⟩
theorem fmtUintHex_any (n : Nat) (hn : n < 256) (w : World) (hs : 7 < w.heap.size) (hc : w.cell? ⟨7, 15, none⟩ = some (.int .u8 4)) :
    Calls Tryz.prog 105 #[.int .u64 (n : Int), .int .i64 16] w fun e w' => e = .returned (.string ⟨(hexText n).toArray⟩) ∧ BW w w' := by
  go_enter Tryz.func105, Tryz.ntmps105
  go_wp2_with (go_at_call 137; refine (fmtUint16_any n hn _ hs hc).mono ?_; rintro e w1 ⟨rfl, hN⟩)
  go_ret
  exact ⟨rfl, hN⟩
end Go.Proofs.YtncghggejenmbaaGreatDoor
