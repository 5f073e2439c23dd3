/- How an Ip and a Mac are read into a configuration's cells. -/
import Derived.Test.YtncghggejenmbaaGreatDoorC2
import Derived.StillTailTactics
namespace Go.Proofs.YtncghggejenmbaaGreatDoor
open Go.RowKit Go.Proofs
set_option linter.unusedSimpArgs false
set_option linter.unusedVariables false
/-- An Ip's text. -/
def ipText (n : Nat) : List UInt8 := Lib.decDigits (n / 16777216) ++ 46 :: (Lib.decDigits (n / 65536 % 256) ++ 46 :: (Lib.decDigits (n / 256 % 256) ++ 46 :: Lib.decDigits (n % 256)))
def IpR (s : List UInt8) (n : Nat) (b : Bool) : Prop := n < 4294967296 ∧ (b = true → ipText n = s) ∧ ∀ m, m < 4294967296 → ipText m = s → n = m ∧ b = true
def eForm (b : Bool) : Int := if b then 0 else 10
def IpPost (s : List UInt8) (w : World) (e : Ending) (w' : World) : Prop := ∃ (n : Nat) (b : Bool), IpR s n b ∧ e = .returned (.tuple #[.int .u32 (n : Int), .int .i64 (eForm b)]) ∧ BW w w'
def IpSaid (G : World → Prop) : Prop := ∀ (s : ByteArray) (w : World), G w → s.size ≤ 5000 → Calls Tryz.prog 103 #[.string s] w (IpPost s.data.toList w)
def RdIpPost (cb off : Nat) (s : List UInt8) (w : World) (e : Ending) (w' : World) : Prop :=
  ∃ (n : Nat) (b : Bool) (w1 : World), IpR s n b ∧ BW w w1 ∧ e = .returned (.bool b) ∧ w' = w1.setCell ⟨cb, off, none⟩ (.int .u32 (n : Int))
theorem eForm_ok (b : Bool) : ((eForm b == 0) : Bool) = b := by cases b <;> rfl

set_option maxRecDepth 100000 in
set_option maxHeartbeats 400000 in
theorem rdIp_any {G : World → Prop} (num : IpSaid G) (acc off ob cb : Nat) (x : Int) (s : ByteArray) (w : World) (hG : G w) (hs : s.size ≤ 5000) (ha : Acc acc off)
    (ho : w.cell? ⟨ob, 0, none⟩ = some (.func (.func acc) #[] #[])) (hx : w.cell? ⟨cb, off, none⟩ = some (.int .u32 x)) (fx : w.frozen? ⟨cb, off, none⟩ = false) (hne : ob ≠ cb) :
    Calls Tryz.prog 102 #[.pointer (some ⟨cb, 0, none⟩), .string s, .pointer (some ⟨ob, 0, none⟩)] w (RdIpPost cb off s.data.toList w) := by
  have lo : ob < w.heap.size := block_lt_of_cell ho
  have lx : cb < w.heap.size := block_lt_of_cell hx
  obtain ⟨hen, hacc⟩ := ha
  have Hacc := Hid.mk hacc
  have Hn := Hid.mk num
  have HG := Hid.mk hG
  have hne' : cb ≠ ob := fun h => hne h.symm
  clear hacc num hG
  go_enter Tryz.func102, Tryz.ntmps102
  go_wp2_with (first
    | (go_at_call 103; refine (Hn.out _ _ HG.out hs).mono ?_; rintro e w1 ⟨n, b, hR, rfl, hN⟩; have hc := BW.cells hN; have hf := BW.frozens hN)
    | (go_at_fn acc; refine (Hacc.out _ _).mono ?_; rintro e w2 ⟨rfl, rfl⟩))
  go_ret
  exact ⟨n, b, w1, hR, hN, ret_eq (congrArg Value.bool (eForm_ok b)), rfl⟩

/-- A Mac's text. -/
def hexDigit (n : Nat) : UInt8 := if n < 10 then (48 + n).toUInt8 else (87 + n).toUInt8
def hx (n : Nat) : List UInt8 := [hexDigit (n / 16), hexDigit (n % 16)]
def macText (a b c d e f : Nat) : List UInt8 := hx a ++ 58 :: (hx b ++ 58 :: (hx c ++ 58 :: (hx d ++ 58 :: (hx e ++ 58 :: hx f))))
structure M6 where
  a : Nat
  b : Nat
  c : Nat
  d : Nat
  e : Nat
  f : Nat
def M6.In (m : M6) : Prop := m.a < 256 ∧ m.b < 256 ∧ m.c < 256 ∧ m.d < 256 ∧ m.e < 256 ∧ m.f < 256
def M6.text (m : M6) : List UInt8 := macText m.a m.b m.c m.d m.e m.f
abbrev M6.val (m : M6) : Value := .agg #[.int .u8 (m.a : Int), .int .u8 (m.b : Int), .int .u8 (m.c : Int), .int .u8 (m.d : Int), .int .u8 (m.e : Int), .int .u8 (m.f : Int)]
def MacR (s : List UInt8) (m : M6) (b : Bool) : Prop := m.In ∧ (b = true → m.text = s) ∧ ∀ k : M6, k.In → k.text = s → m = k ∧ b = true
def MacPost (s : List UInt8) (w : World) (e : Ending) (w' : World) : Prop := ∃ (m : M6) (b : Bool), MacR s m b ∧ e = .returned (.tuple #[m.val, .int .i64 (eForm b)]) ∧ BW w w'
def MacSaid (G : World → Prop) : Prop := ∀ (s : ByteArray) (w : World), G w → s.size ≤ 5000 → Calls Tryz.prog 111 #[.string s] w (MacPost s.data.toList w)
def World.set6 (w : World) (cb off : Nat) (m : M6) : World := (((((w.setCell ⟨cb, off, none⟩ (.int .u8 (m.a : Int))).setCell ⟨cb, off + 1, none⟩ (.int .u8 (m.b : Int))).setCell ⟨cb, off + 2, none⟩ (.int .u8 (m.c : Int))).setCell ⟨cb, off + 3, none⟩ (.int .u8 (m.d : Int))).setCell ⟨cb, off + 4, none⟩ (.int .u8 (m.e : Int))).setCell ⟨cb, off + 5, none⟩ (.int .u8 (m.f : Int))
def RdMacPost (cb off : Nat) (s : List UInt8) (w : World) (e : Ending) (w' : World) : Prop :=
  ∃ (m : M6) (b : Bool) (w1 : World), MacR s m b ∧ BW w w1 ∧ e = .returned (.bool b) ∧ BW (World.set6 w1 cb off m) w'

set_option maxRecDepth 100000 in
set_option maxHeartbeats 400000 in
theorem rdMac_any {G : World → Prop} (num : MacSaid G) (acc off ob cb : Nat) (x0 x1 x2 x3 x4 x5 : Int) (s : ByteArray) (w : World) (hG : G w) (hs : s.size ≤ 5000) (ha : Acc acc off)
    (ho : w.cell? ⟨ob, 0, none⟩ = some (.func (.func acc) #[] #[])) (hne : ob ≠ cb)
    (hx0 : w.cell? ⟨cb, off, none⟩ = some (.int .u8 x0)) (fx0 : w.frozen? ⟨cb, off, none⟩ = false) (hx1 : w.cell? ⟨cb, off + 1, none⟩ = some (.int .u8 x1)) (fx1 : w.frozen? ⟨cb, off + 1, none⟩ = false)
    (hx2 : w.cell? ⟨cb, off + 2, none⟩ = some (.int .u8 x2)) (fx2 : w.frozen? ⟨cb, off + 2, none⟩ = false) (hx3 : w.cell? ⟨cb, off + 3, none⟩ = some (.int .u8 x3)) (fx3 : w.frozen? ⟨cb, off + 3, none⟩ = false)
    (hx4 : w.cell? ⟨cb, off + 4, none⟩ = some (.int .u8 x4)) (fx4 : w.frozen? ⟨cb, off + 4, none⟩ = false) (hx5 : w.cell? ⟨cb, off + 5, none⟩ = some (.int .u8 x5)) (fx5 : w.frozen? ⟨cb, off + 5, none⟩ = false) :
    Calls Tryz.prog 110 #[.pointer (some ⟨cb, 0, none⟩), .string s, .pointer (some ⟨ob, 0, none⟩)] w (RdMacPost cb off s.data.toList w) := by
  have lo : ob < w.heap.size := block_lt_of_cell ho
  have lx : cb < w.heap.size := block_lt_of_cell hx0
  obtain ⟨hen, hacc⟩ := ha
  have Hacc := Hid.mk hacc
  have Hn := Hid.mk num
  have HG := Hid.mk hG
  have hne' : cb ≠ ob := fun h => hne h.symm
  clear hacc num hG
  go_enter Tryz.func110, Tryz.ntmps110
  go_wp2_with (first
    | (go_at_call 111; refine (Hn.out _ _ HG.out hs).mono ?_; rintro e w1 ⟨m, b, hR, rfl, hN⟩; have hc := BW.cells hN; have hf := BW.frozens hN; have hz := Nat.lt_of_lt_of_le lo hN.le; have hz1 := Nat.lt_of_lt_of_le lx hN.le))
  go_outline
  refine wp_region_still_tail 5 (by kernel_rfl) (by kernel_rfl) ?_
  simp only [List.take_succ_cons, List.take_zero, List.drop_succ_cons, List.drop_zero]
  change wpStill _ _ (World.drew _) _ _ _
  still_step
  still_step
  still_call ((Hacc.out _ _).mono fun _ _ h => ⟨h.1, h.2.symm⟩)
  still_step
  still_step
  refine wpStill_nil ?_
  change wpList _ _ _ _ _ (World.drew _)
  go_wp2
  go_ret
  exact ⟨m, b, w1, hR, hN, ret_eq (congrArg Value.bool (eForm_ok b)), ((BW.refl _).al _).dr⟩
end Go.Proofs.YtncghggejenmbaaGreatDoor
