/- How a number is read into a configuration's cell. -/
import Derived.Test.YtncghggejenmbaaGreatDoorC1
import Derived.Lib.ItoaNum
import Derived.Laws.Bits64
import Derived.Shelf.Abstract
namespace Go.Proofs.YtncghggejenmbaaGreatDoor
open Go.RowKit Go.Proofs
set_option linter.unusedSimpArgs false
set_option linter.unusedVariables false
theorem setCell_twice (w : World) (a : Addr) (v v' : Value) : (w.setCell a v).setCell a v' = w.setCell a v' := by
  unfold World.setCell
  simp only [World.mk.injEq, and_true]
  apply Array.ext_getElem?
  intro i
  simp only [Array.getElem?_modify]
  split
  · cases w.heap[i]? with
    | none => rfl
    | some o => cases o <;> simp <;> split <;> simp_all
  · rfl
/-- The signs are a number of at most 2^32, as it is written. -/
def NumOk (s : List UInt8) (n : Nat) : Prop := n ≤ 4294967296 ∧ Lib.decDigits n = s
def NumR (s : List UInt8) (n : Nat) (b : Bool) : Prop := n < 18446744073709551616 ∧ (b = true → NumOk s n) ∧ ∀ m, NumOk s m → n = m ∧ b = true
def NumPost (s : List UInt8) (w : World) (e : Ending) (w' : World) : Prop := ∃ (n : Nat) (b : Bool), NumR s n b ∧ e = .returned (.tuple #[.int .u64 (n : Int), .bool b]) ∧ BW w w'
def NumberSaid (G : World → Prop) : Prop := ∀ (s : ByteArray) (w : World), G w → s.size ≤ 5000 → Calls Tryz.prog 107 #[.string s] w (NumPost s.data.toList w)
def RdPost (cb off : Nat) (k : IntKind) (f : Nat → Int) (s : List UInt8) (w : World) (e : Ending) (w' : World) : Prop :=
  ∃ (n : Nat) (b : Bool) (w1 : World), NumR s n b ∧ BW w w1 ∧ e = .returned (.bool b) ∧ w' = w1.setCell ⟨cb, off, none⟩ (.int k (f n))

theorem u64_wrap64 (n : Nat) (h : n < 18446744073709551616) : IntKind.u64.wrap (wrap64 (n : Int)) = (n : Int) := by
  rw [IntKind.wrap_u64]; unfold wrap64; omega
theorem IntKind.wrap_u64_of (n : Nat) (h : n < 18446744073709551616) : IntKind.u64.wrap (n : Int) = (n : Int) := by rw [IntKind.wrap_u64]; omega
set_option maxRecDepth 100000 in
set_option maxHeartbeats 400000 in
theorem rdInt_any {G : World → Prop} (num : NumberSaid G) (acc off ob cb : Nat) (x : Int) (s : ByteArray) (w : World) (hG : G w) (hs : s.size ≤ 5000) (ha : Acc acc off)
    (ho : w.cell? ⟨ob, 0, none⟩ = some (.func (.func acc) #[] #[])) (hx : w.cell? ⟨cb, off, none⟩ = some (.int .i64 x)) (fx : w.frozen? ⟨cb, off, none⟩ = false) (hne : ob ≠ cb) :
    Calls Tryz.prog 106 #[.pointer (some ⟨cb, 0, none⟩), .string s, .pointer (some ⟨ob, 0, none⟩)] w (RdPost cb off .i64 (fun n => wrap64 n) s.data.toList w) := by
  have lo : ob < w.heap.size := block_lt_of_cell ho
  have lx : cb < w.heap.size := block_lt_of_cell hx
  obtain ⟨hen, hacc⟩ := ha
  have Hacc := Hid.mk hacc
  have Hn := Hid.mk num
  have HG := Hid.mk hG
  have hne' : cb ≠ ob := fun h => hne h.symm
  clear hacc num hG
  go_enter Tryz.func106, Tryz.ntmps106
  go_wp2_with (first
    | (go_at_call 107; refine (Hn.out _ _ HG.out hs).mono ?_; rintro e w1 ⟨n, b, hR, rfl, hN⟩; have hc := BW.cells hN; have hf := BW.frozens hN)
    | (go_at_fn acc; refine (Hacc.out _ _).mono ?_; rintro e w2 ⟨rfl, rfl⟩))
  · have : (IntKind.u64.wrap (wrap64 (n : Int)) != (n : Int)) = true := by assumption
    exact absurd this (by rw [u64_wrap64 n hR.1]; simp)
  · go_ret
    exact ⟨n, b, w1, hR, hN, rfl, rfl⟩

set_option maxRecDepth 100000 in
set_option maxHeartbeats 400000 in
theorem rdU64_any {G : World → Prop} (num : NumberSaid G) (acc off ob cb : Nat) (x : Int) (s : ByteArray) (w : World) (hG : G w) (hs : s.size ≤ 5000) (ha : Acc acc off)
    (ho : w.cell? ⟨ob, 0, none⟩ = some (.func (.func acc) #[] #[])) (hx : w.cell? ⟨cb, off, none⟩ = some (.int .u64 x)) (fx : w.frozen? ⟨cb, off, none⟩ = false) (hne : ob ≠ cb) :
    Calls Tryz.prog 113 #[.pointer (some ⟨cb, 0, none⟩), .string s, .pointer (some ⟨ob, 0, none⟩)] w (RdPost cb off .u64 (fun n => n) s.data.toList w) := by
  have lo : ob < w.heap.size := block_lt_of_cell ho
  have lx : cb < w.heap.size := block_lt_of_cell hx
  obtain ⟨hen, hacc⟩ := ha
  have Hacc := Hid.mk hacc
  have Hn := Hid.mk num
  have HG := Hid.mk hG
  have hne' : cb ≠ ob := fun h => hne h.symm
  clear hacc num hG
  go_enter Tryz.func113, Tryz.ntmps113
  go_wp2_with (first
    | (go_at_call 107; refine (Hn.out _ _ HG.out hs).mono ?_; rintro e w1 ⟨n, b, hR, rfl, hN⟩; have hc := BW.cells hN; have hf := BW.frozens hN; have hw := IntKind.wrap_u64_of n hR.1)
    | (go_at_fn acc; refine (Hacc.out _ _).mono ?_; rintro e w2 ⟨rfl, rfl⟩))
  go_ret
  exact ⟨n, b, w1, hR, hN, rfl, rfl⟩

set_option maxRecDepth 100000 in
set_option maxHeartbeats 400000 in
theorem rdU32_any {G : World → Prop} (num : NumberSaid G) (acc off ob cb : Nat) (x : Int) (s : ByteArray) (w : World) (hG : G w) (hs : s.size ≤ 5000) (ha : Acc acc off)
    (ho : w.cell? ⟨ob, 0, none⟩ = some (.func (.func acc) #[] #[])) (hx : w.cell? ⟨cb, off, none⟩ = some (.int .u32 x)) (fx : w.frozen? ⟨cb, off, none⟩ = false) (hne : ob ≠ cb) :
    Calls Tryz.prog 115 #[.pointer (some ⟨cb, 0, none⟩), .string s, .pointer (some ⟨ob, 0, none⟩)] w (RdPost cb off .u32 (fun n => if n < 4294967296 then n else 4294967295) s.data.toList w) := by
  have lo : ob < w.heap.size := block_lt_of_cell ho
  have lx : cb < w.heap.size := block_lt_of_cell hx
  obtain ⟨hen, hacc⟩ := ha
  have Hacc := Hid.mk hacc
  have Hn := Hid.mk num
  have HG := Hid.mk hG
  have hne' : cb ≠ ob := fun h => hne h.symm
  clear hacc num hG
  go_enter Tryz.func115, Tryz.ntmps115
  go_wp2_with (first
    | (go_at_call 107; refine (Hn.out _ _ HG.out hs).mono ?_; rintro e w1 ⟨n, b, hR, rfl, hN⟩; have hc := BW.cells hN; have hf := BW.frozens hN)
    | (go_at_fn acc; refine (Hacc.out _ _).mono ?_; rintro e w2 ⟨rfl, rfl⟩))
  · have h1 : (((n : Int) % 4294967296) != (n : Int)) = true := by assumption
    have h2 : ¬ n < 4294967296 := fun h => by simp at h1; omega
    go_ret
    exact ⟨n, b, w1, hR, hN, rfl, by rw [setCell_twice]; simp [h2]⟩
  · have h1 : (((n : Int) % 4294967296) != (n : Int)) = false := by assumption
    have h2 : n < 4294967296 := by simp at h1; omega
    go_ret
    exact ⟨n, b, w1, hR, hN, rfl, by have h3 : (n : Int) % 4294967296 = n := by omega
                                     simp [h2, h3]⟩
end Go.Proofs.YtncghggejenmbaaGreatDoor
