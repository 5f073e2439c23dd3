/- How each field's reader turns a configuration's block. -/
import Derived.Test.YtncghggejenmbaaGreatDoorC3
namespace Go.Proofs.YtncghggejenmbaaGreatDoor
open Go.RowKit Go.Proofs
set_option linter.unusedSimpArgs false
set_option linter.unusedVariables false
/-- Below the heap's size nothing has changed but block cb. -/
structure BX (cb : Nat) (w w' : World) : Prop where
  os : w'.os = w.os
  tape : w'.tape = w.tape
  output : w'.output = w.output
  size : w.heap.size ≤ w'.heap.size
  block : ∀ k, k < w.heap.size → k ≠ cb → w'.heap[k]? = w.heap[k]?
theorem BX.refl (cb : Nat) (w : World) : BX cb w w := ⟨rfl, rfl, rfl, Nat.le_refl _, fun _ _ _ => rfl⟩
theorem BX.trans {cb : Nat} {a b c : World} (h : BX cb a b) (k : BX cb b c) : BX cb a c :=
  ⟨k.os.trans h.os, k.tape.trans h.tape, k.output.trans h.output, Nat.le_trans h.size k.size, fun i hi hn => (k.block i (Nat.lt_of_lt_of_le hi h.size) hn).trans (h.block i hi hn)⟩
theorem BX.of {cb : Nat} {w w' : World} (h : BW w w') : BX cb w w' := ⟨h.os, h.tape, h.output, h.size, fun k hk _ => Below.block h k hk⟩
theorem BX.set (w : World) (cb o : Nat) (v : Value) : BX cb w (w.setCell ⟨cb, o, none⟩ v) :=
  ⟨rfl, rfl, rfl, by simp [World.setCell], fun k _ hn => Below.heap_setCell w _ v k hn⟩
theorem BX.bw {cb : Nat} {w w' : World} (h : BX cb w w') (hcb : w.heap.size ≤ cb) : BW w w' := ⟨h.os, h.tape, h.output, h.size, fun k hk => h.block k hk (by omega)⟩
theorem BX.cell {cb : Nat} {w w' : World} (h : BX cb w w') {b : Nat} (o : Nat) (hb : b < w.heap.size) (hn : b ≠ cb) : w'.cell? ⟨b, o, none⟩ = w.cell? ⟨b, o, none⟩ := World.cell?_of_block (w := w) (h.block b hb hn)
theorem BX.cells {cb : Nat} {w w' : World} (h : BX cb w w') : ∀ b o, b < w.heap.size → b ≠ cb → w'.cell? ⟨b, o, none⟩ = w.cell? ⟨b, o, none⟩ := fun b o hb hn => h.cell o hb hn

inductive Kd where
  | ip
  | int
  | u64
  | u32
  | mac
def rdF : Kd → Nat
  | .ip => 102
  | .int => 106
  | .u64 => 113
  | .u32 => 115
  | .mac => 110
def wrF : Kd → Nat
  | .ip => 100
  | .int => 104
  | .u64 => 112
  | .u32 => 114
  | .mac => 108
structure Fld where
  k : Kd
  acc : Nat
  off : Nat
/-- A number is laid at a field. -/
def CF.put (c : CF) (off : Nat) (v : Int) : CF :=
  match off with
  | 0 => { c with ii := v }
  | 1 => { c with ib := v }
  | 2 => { c with oi := v }
  | 3 => { c with ob := v }
  | 4 => { c with ro := v }
  | 5 => { c with m0 := v }
  | 6 => { c with m1 := v }
  | 7 => { c with m2 := v }
  | 8 => { c with m3 := v }
  | 9 => { c with m4 := v }
  | 10 => { c with m5 := v }
  | 11 => { c with n0 := v }
  | 12 => { c with n1 := v }
  | 13 => { c with n2 := v }
  | 14 => { c with n3 := v }
  | 15 => { c with n4 := v }
  | 16 => { c with n5 := v }
  | 17 => { c with maps := v }
  | 18 => { c with flows := v }
  | 19 => { c with lst := v }
  | 20 => { c with mst := v }
  | 21 => { c with udp := v }
  | 22 => { c with opn := v }
  | 23 => { c with lng := v }
  | 24 => { c with qry := v }
  | 25 => { c with room := v }
  | 26 => { c with wt := v }
  | 27 => { c with life := v }
  | 28 => { c with pat := v }
  | 29 => { c with bufs := v }
  | 30 => { c with rng := v }
  | 31 => { c with own := v }
  | 32 => { c with msk := v }
  | 33 => { c with fst := v }
  | 34 => { c with last := v }
  | 35 => { c with tim := v }
  | 36 => { c with hld := v }
  | 37 => { c with qut := v }
  | _ => c
theorem CF.put_0 (c : CF) (v : Int) : c.cells.setIfInBounds 0 (.int .u32 v) = (c.put 0 v).cells := by rw [show c.put 0 v = { c with ii := v } from rfl]; simp [CF.cells]
theorem CF.put_1 (c : CF) (v : Int) : c.cells.setIfInBounds 1 (.int .i64 v) = (c.put 1 v).cells := by rw [show c.put 1 v = { c with ib := v } from rfl]; simp [CF.cells]
theorem CF.put_2 (c : CF) (v : Int) : c.cells.setIfInBounds 2 (.int .u32 v) = (c.put 2 v).cells := by rw [show c.put 2 v = { c with oi := v } from rfl]; simp [CF.cells]
theorem CF.put_3 (c : CF) (v : Int) : c.cells.setIfInBounds 3 (.int .i64 v) = (c.put 3 v).cells := by rw [show c.put 3 v = { c with ob := v } from rfl]; simp [CF.cells]
theorem CF.put_4 (c : CF) (v : Int) : c.cells.setIfInBounds 4 (.int .u32 v) = (c.put 4 v).cells := by rw [show c.put 4 v = { c with ro := v } from rfl]; simp [CF.cells]
theorem CF.put_5 (c : CF) (v : Int) : c.cells.setIfInBounds 5 (.int .u8 v) = (c.put 5 v).cells := by rw [show c.put 5 v = { c with m0 := v } from rfl]; simp [CF.cells]
theorem CF.put_6 (c : CF) (v : Int) : c.cells.setIfInBounds 6 (.int .u8 v) = (c.put 6 v).cells := by rw [show c.put 6 v = { c with m1 := v } from rfl]; simp [CF.cells]
theorem CF.put_7 (c : CF) (v : Int) : c.cells.setIfInBounds 7 (.int .u8 v) = (c.put 7 v).cells := by rw [show c.put 7 v = { c with m2 := v } from rfl]; simp [CF.cells]
theorem CF.put_8 (c : CF) (v : Int) : c.cells.setIfInBounds 8 (.int .u8 v) = (c.put 8 v).cells := by rw [show c.put 8 v = { c with m3 := v } from rfl]; simp [CF.cells]
theorem CF.put_9 (c : CF) (v : Int) : c.cells.setIfInBounds 9 (.int .u8 v) = (c.put 9 v).cells := by rw [show c.put 9 v = { c with m4 := v } from rfl]; simp [CF.cells]
theorem CF.put_10 (c : CF) (v : Int) : c.cells.setIfInBounds 10 (.int .u8 v) = (c.put 10 v).cells := by rw [show c.put 10 v = { c with m5 := v } from rfl]; simp [CF.cells]
theorem CF.put_11 (c : CF) (v : Int) : c.cells.setIfInBounds 11 (.int .u8 v) = (c.put 11 v).cells := by rw [show c.put 11 v = { c with n0 := v } from rfl]; simp [CF.cells]
theorem CF.put_12 (c : CF) (v : Int) : c.cells.setIfInBounds 12 (.int .u8 v) = (c.put 12 v).cells := by rw [show c.put 12 v = { c with n1 := v } from rfl]; simp [CF.cells]
theorem CF.put_13 (c : CF) (v : Int) : c.cells.setIfInBounds 13 (.int .u8 v) = (c.put 13 v).cells := by rw [show c.put 13 v = { c with n2 := v } from rfl]; simp [CF.cells]
theorem CF.put_14 (c : CF) (v : Int) : c.cells.setIfInBounds 14 (.int .u8 v) = (c.put 14 v).cells := by rw [show c.put 14 v = { c with n3 := v } from rfl]; simp [CF.cells]
theorem CF.put_15 (c : CF) (v : Int) : c.cells.setIfInBounds 15 (.int .u8 v) = (c.put 15 v).cells := by rw [show c.put 15 v = { c with n4 := v } from rfl]; simp [CF.cells]
theorem CF.put_16 (c : CF) (v : Int) : c.cells.setIfInBounds 16 (.int .u8 v) = (c.put 16 v).cells := by rw [show c.put 16 v = { c with n5 := v } from rfl]; simp [CF.cells]
theorem CF.put_17 (c : CF) (v : Int) : c.cells.setIfInBounds 17 (.int .i64 v) = (c.put 17 v).cells := by rw [show c.put 17 v = { c with maps := v } from rfl]; simp [CF.cells]
theorem CF.put_18 (c : CF) (v : Int) : c.cells.setIfInBounds 18 (.int .i64 v) = (c.put 18 v).cells := by rw [show c.put 18 v = { c with flows := v } from rfl]; simp [CF.cells]
theorem CF.put_19 (c : CF) (v : Int) : c.cells.setIfInBounds 19 (.int .i64 v) = (c.put 19 v).cells := by rw [show c.put 19 v = { c with lst := v } from rfl]; simp [CF.cells]
theorem CF.put_20 (c : CF) (v : Int) : c.cells.setIfInBounds 20 (.int .i64 v) = (c.put 20 v).cells := by rw [show c.put 20 v = { c with mst := v } from rfl]; simp [CF.cells]
theorem CF.put_21 (c : CF) (v : Int) : c.cells.setIfInBounds 21 (.int .u64 v) = (c.put 21 v).cells := by rw [show c.put 21 v = { c with udp := v } from rfl]; simp [CF.cells]
theorem CF.put_22 (c : CF) (v : Int) : c.cells.setIfInBounds 22 (.int .u64 v) = (c.put 22 v).cells := by rw [show c.put 22 v = { c with opn := v } from rfl]; simp [CF.cells]
theorem CF.put_23 (c : CF) (v : Int) : c.cells.setIfInBounds 23 (.int .u64 v) = (c.put 23 v).cells := by rw [show c.put 23 v = { c with lng := v } from rfl]; simp [CF.cells]
theorem CF.put_24 (c : CF) (v : Int) : c.cells.setIfInBounds 24 (.int .u64 v) = (c.put 24 v).cells := by rw [show c.put 24 v = { c with qry := v } from rfl]; simp [CF.cells]
theorem CF.put_25 (c : CF) (v : Int) : c.cells.setIfInBounds 25 (.int .i64 v) = (c.put 25 v).cells := by rw [show c.put 25 v = { c with room := v } from rfl]; simp [CF.cells]
theorem CF.put_26 (c : CF) (v : Int) : c.cells.setIfInBounds 26 (.int .i64 v) = (c.put 26 v).cells := by rw [show c.put 26 v = { c with wt := v } from rfl]; simp [CF.cells]
theorem CF.put_27 (c : CF) (v : Int) : c.cells.setIfInBounds 27 (.int .u64 v) = (c.put 27 v).cells := by rw [show c.put 27 v = { c with life := v } from rfl]; simp [CF.cells]
theorem CF.put_28 (c : CF) (v : Int) : c.cells.setIfInBounds 28 (.int .u64 v) = (c.put 28 v).cells := by rw [show c.put 28 v = { c with pat := v } from rfl]; simp [CF.cells]
theorem CF.put_29 (c : CF) (v : Int) : c.cells.setIfInBounds 29 (.int .i64 v) = (c.put 29 v).cells := by rw [show c.put 29 v = { c with bufs := v } from rfl]; simp [CF.cells]
theorem CF.put_30 (c : CF) (v : Int) : c.cells.setIfInBounds 30 (.int .i64 v) = (c.put 30 v).cells := by rw [show c.put 30 v = { c with rng := v } from rfl]; simp [CF.cells]
theorem CF.put_31 (c : CF) (v : Int) : c.cells.setIfInBounds 31 (.int .u32 v) = (c.put 31 v).cells := by rw [show c.put 31 v = { c with own := v } from rfl]; simp [CF.cells]
theorem CF.put_32 (c : CF) (v : Int) : c.cells.setIfInBounds 32 (.int .u32 v) = (c.put 32 v).cells := by rw [show c.put 32 v = { c with msk := v } from rfl]; simp [CF.cells]
theorem CF.put_33 (c : CF) (v : Int) : c.cells.setIfInBounds 33 (.int .u32 v) = (c.put 33 v).cells := by rw [show c.put 33 v = { c with fst := v } from rfl]; simp [CF.cells]
theorem CF.put_34 (c : CF) (v : Int) : c.cells.setIfInBounds 34 (.int .u32 v) = (c.put 34 v).cells := by rw [show c.put 34 v = { c with last := v } from rfl]; simp [CF.cells]
theorem CF.put_35 (c : CF) (v : Int) : c.cells.setIfInBounds 35 (.int .u32 v) = (c.put 35 v).cells := by rw [show c.put 35 v = { c with tim := v } from rfl]; simp [CF.cells]
theorem CF.put_36 (c : CF) (v : Int) : c.cells.setIfInBounds 36 (.int .u32 v) = (c.put 36 v).cells := by rw [show c.put 36 v = { c with hld := v } from rfl]; simp [CF.cells]
theorem CF.put_37 (c : CF) (v : Int) : c.cells.setIfInBounds 37 (.int .u32 v) = (c.put 37 v).cells := by rw [show c.put 37 v = { c with qut := v } from rfl]; simp [CF.cells]
def CF.put6 (c : CF) (off : Nat) (m : M6) : CF := (((((c.put off m.a).put (off + 1) m.b).put (off + 2) m.c).put (off + 3) m.d).put (off + 4) m.e).put (off + 5) m.f
/-- What a field's reader makes of signs. -/
def FldR (f : Fld) (c : CF) (s : List UInt8) (b : Bool) (c' : CF) : Prop :=
  match f.k with
  | .ip => ∃ n : Nat, IpR s n b ∧ c' = c.put f.off (n : Int)
  | .int => ∃ n : Nat, NumR s n b ∧ c' = c.put f.off (wrap64 (n : Int))
  | .u64 => ∃ n : Nat, NumR s n b ∧ c' = c.put f.off (n : Int)
  | .u32 => ∃ n : Nat, NumR s n b ∧ c' = c.put f.off (if n < 4294967296 then (n : Int) else 4294967295)
  | .mac => ∃ m : M6, MacR s m b ∧ c' = c.put6 f.off m
def FldPost (f : Fld) (cb : Nat) (c : CF) (s : List UInt8) (w : World) (e : Ending) (w' : World) : Prop :=
  ∃ (b : Bool) (c' : CF), e = .returned (.bool b) ∧ BX cb w w' ∧ w'.heap[cb]? = some (.cells c'.cells 38 (0, 0)) ∧ FldR f c s b c'
def ConfAt (cb : Nat) (c : CF) (w : World) : Prop := w.heap[cb]? = some (.cells c.cells 38 (0, 0))
def RdSaid (G : World → Prop) (f : Fld) : Prop := ∀ (cb ob : Nat) (s : ByteArray) (w : World) (c : CF), G w → s.size ≤ 5000 → ConfAt cb c w → ob ≠ cb → w.cell? ⟨ob, 0, none⟩ = some (.func (.func f.acc) #[] #[]) →
  Calls Tryz.prog (rdF f.k) #[.pointer (some ⟨cb, 0, none⟩), .string s, .pointer (some ⟨ob, 0, none⟩)] w (FldPost f cb c s.data.toList w)
theorem ConfAt.set {cb : Nat} {c c' : CF} {w w1 : World} (h : ConfAt cb c w) (hb : BW w w1) (o : Nat) (v : Value) (hc : c.cells.setIfInBounds o v = c'.cells) : ConfAt cb c' (w1.setCell ⟨cb, o, none⟩ v) := by
  have h1 : w1.heap[cb]? = some (.cells c.cells 38 (0, 0)) := hb.blk h
  have h2 := heap_setCell_same w1 cb o c.cells 38 v h1
  rw [hc] at h2
  exact h2
theorem ConfAt.cell {cb : Nat} {c : CF} {w : World} (h : ConfAt cb c w) (o : Nat) : w.cell? ⟨cb, o, none⟩ = c.cells[o]? := cell_of_row w cb o c.cells 38 (0, 0) h
theorem ConfAt.frozen {cb : Nat} {c : CF} {w : World} (h : ConfAt cb c w) (o : Nat) : w.frozen? ⟨cb, o, none⟩ = false := frozen_of_row w cb o c.cells 38 h
theorem rd46 {G : World → Prop} (num : IpSaid G) : RdSaid G ⟨.ip, 46, 0⟩ := fun cb ob s w c hG hs hc hne ho =>
  (rdIp_any num 46 0 ob cb _ s w hG hs acc46 ho ((hc.cell 0).trans (CF.get0 c)) (hc.frozen 0) hne).mono fun e w' ⟨n, b, w1, hR, hB, he, hw⟩ => by
    have hw' : w' = w1.setCell ⟨cb, 0, none⟩ (.int .u32 (n : Int)) := hw
    subst hw'
    generalize hv : (n : Int) = v
    exact ⟨b, c.put 0 v, he, (BX.of hB).trans (BX.set _ _ _ _), hc.set hB 0 _ (CF.put_0 c v), n, hR, by rw [← hv]⟩
theorem rd48 {G : World → Prop} (num : NumberSaid G) : RdSaid G ⟨.int, 48, 1⟩ := fun cb ob s w c hG hs hc hne ho =>
  (rdInt_any num 48 1 ob cb _ s w hG hs acc48 ho ((hc.cell 1).trans (CF.get1 c)) (hc.frozen 1) hne).mono fun e w' ⟨n, b, w1, hR, hB, he, hw⟩ => by
    have hw' : w' = w1.setCell ⟨cb, 1, none⟩ (.int .i64 (wrap64 (n : Int))) := hw
    subst hw'
    generalize hv : (wrap64 (n : Int)) = v
    exact ⟨b, c.put 1 v, he, (BX.of hB).trans (BX.set _ _ _ _), hc.set hB 1 _ (CF.put_1 c v), n, hR, by rw [← hv]⟩
theorem rd49 {G : World → Prop} (num : IpSaid G) : RdSaid G ⟨.ip, 49, 2⟩ := fun cb ob s w c hG hs hc hne ho =>
  (rdIp_any num 49 2 ob cb _ s w hG hs acc49 ho ((hc.cell 2).trans (CF.get2 c)) (hc.frozen 2) hne).mono fun e w' ⟨n, b, w1, hR, hB, he, hw⟩ => by
    have hw' : w' = w1.setCell ⟨cb, 2, none⟩ (.int .u32 (n : Int)) := hw
    subst hw'
    generalize hv : (n : Int) = v
    exact ⟨b, c.put 2 v, he, (BX.of hB).trans (BX.set _ _ _ _), hc.set hB 2 _ (CF.put_2 c v), n, hR, by rw [← hv]⟩
theorem rd50 {G : World → Prop} (num : NumberSaid G) : RdSaid G ⟨.int, 50, 3⟩ := fun cb ob s w c hG hs hc hne ho =>
  (rdInt_any num 50 3 ob cb _ s w hG hs acc50 ho ((hc.cell 3).trans (CF.get3 c)) (hc.frozen 3) hne).mono fun e w' ⟨n, b, w1, hR, hB, he, hw⟩ => by
    have hw' : w' = w1.setCell ⟨cb, 3, none⟩ (.int .i64 (wrap64 (n : Int))) := hw
    subst hw'
    generalize hv : (wrap64 (n : Int)) = v
    exact ⟨b, c.put 3 v, he, (BX.of hB).trans (BX.set _ _ _ _), hc.set hB 3 _ (CF.put_3 c v), n, hR, by rw [← hv]⟩
theorem rd51 {G : World → Prop} (num : IpSaid G) : RdSaid G ⟨.ip, 51, 4⟩ := fun cb ob s w c hG hs hc hne ho =>
  (rdIp_any num 51 4 ob cb _ s w hG hs acc51 ho ((hc.cell 4).trans (CF.get4 c)) (hc.frozen 4) hne).mono fun e w' ⟨n, b, w1, hR, hB, he, hw⟩ => by
    have hw' : w' = w1.setCell ⟨cb, 4, none⟩ (.int .u32 (n : Int)) := hw
    subst hw'
    generalize hv : (n : Int) = v
    exact ⟨b, c.put 4 v, he, (BX.of hB).trans (BX.set _ _ _ _), hc.set hB 4 _ (CF.put_4 c v), n, hR, by rw [← hv]⟩
theorem rd53 {G : World → Prop} (num : MacSaid G) : RdSaid G ⟨.mac, 53, 5⟩ := fun cb ob s w c hG hs hc hne ho =>
  (rdMac_any num 53 5 ob cb _ _ _ _ _ _ s w hG hs acc53 ho hne ((hc.cell 5).trans (CF.get5 c)) (hc.frozen 5) ((hc.cell 6).trans (CF.get6 c)) (hc.frozen 6) ((hc.cell 7).trans (CF.get7 c)) (hc.frozen 7) ((hc.cell 8).trans (CF.get8 c)) (hc.frozen 8) ((hc.cell 9).trans (CF.get9 c)) (hc.frozen 9) ((hc.cell 10).trans (CF.get10 c)) (hc.frozen 10)).mono fun e w' ⟨m, b, w1, hR, hB, he, hw⟩ => by
    have h0 : ConfAt cb (c.put 5 m.a) _ := hc.set hB 5 _ (CF.put_5 c m.a)
    have h1 : ConfAt cb ((c.put 5 m.a).put 6 m.b) _ := h0.set (BW.refl _) 6 (.int .u8 (m.b : Int)) (CF.put_6 _ m.b)
    have h2 : ConfAt cb (((c.put 5 m.a).put 6 m.b).put 7 m.c) _ := h1.set (BW.refl _) 7 (.int .u8 (m.c : Int)) (CF.put_7 _ m.c)
    have h3 : ConfAt cb ((((c.put 5 m.a).put 6 m.b).put 7 m.c).put 8 m.d) _ := h2.set (BW.refl _) 8 (.int .u8 (m.d : Int)) (CF.put_8 _ m.d)
    have h4 : ConfAt cb (((((c.put 5 m.a).put 6 m.b).put 7 m.c).put 8 m.d).put 9 m.e) _ := h3.set (BW.refl _) 9 (.int .u8 (m.e : Int)) (CF.put_9 _ m.e)
    have h5 : ConfAt cb (c.put6 5 m) _ := h4.set (BW.refl _) 10 (.int .u8 (m.f : Int)) (CF.put_10 _ m.f)
    exact ⟨b, c.put6 5 m, he, (BX.of hB).trans ((((((BX.set _ _ _ _).trans (BX.set _ _ _ _)).trans (BX.set _ _ _ _)).trans (BX.set _ _ _ _)).trans (BX.set _ _ _ _)).trans (BX.set _ _ _ _) |>.trans (BX.of hw)), hw.blk h5, m, hR, rfl⟩
theorem rd54 {G : World → Prop} (num : MacSaid G) : RdSaid G ⟨.mac, 54, 11⟩ := fun cb ob s w c hG hs hc hne ho =>
  (rdMac_any num 54 11 ob cb _ _ _ _ _ _ s w hG hs acc54 ho hne ((hc.cell 11).trans (CF.get11 c)) (hc.frozen 11) ((hc.cell 12).trans (CF.get12 c)) (hc.frozen 12) ((hc.cell 13).trans (CF.get13 c)) (hc.frozen 13) ((hc.cell 14).trans (CF.get14 c)) (hc.frozen 14) ((hc.cell 15).trans (CF.get15 c)) (hc.frozen 15) ((hc.cell 16).trans (CF.get16 c)) (hc.frozen 16)).mono fun e w' ⟨m, b, w1, hR, hB, he, hw⟩ => by
    have h0 : ConfAt cb (c.put 11 m.a) _ := hc.set hB 11 _ (CF.put_11 c m.a)
    have h1 : ConfAt cb ((c.put 11 m.a).put 12 m.b) _ := h0.set (BW.refl _) 12 (.int .u8 (m.b : Int)) (CF.put_12 _ m.b)
    have h2 : ConfAt cb (((c.put 11 m.a).put 12 m.b).put 13 m.c) _ := h1.set (BW.refl _) 13 (.int .u8 (m.c : Int)) (CF.put_13 _ m.c)
    have h3 : ConfAt cb ((((c.put 11 m.a).put 12 m.b).put 13 m.c).put 14 m.d) _ := h2.set (BW.refl _) 14 (.int .u8 (m.d : Int)) (CF.put_14 _ m.d)
    have h4 : ConfAt cb (((((c.put 11 m.a).put 12 m.b).put 13 m.c).put 14 m.d).put 15 m.e) _ := h3.set (BW.refl _) 15 (.int .u8 (m.e : Int)) (CF.put_15 _ m.e)
    have h5 : ConfAt cb (c.put6 11 m) _ := h4.set (BW.refl _) 16 (.int .u8 (m.f : Int)) (CF.put_16 _ m.f)
    exact ⟨b, c.put6 11 m, he, (BX.of hB).trans ((((((BX.set _ _ _ _).trans (BX.set _ _ _ _)).trans (BX.set _ _ _ _)).trans (BX.set _ _ _ _)).trans (BX.set _ _ _ _)).trans (BX.set _ _ _ _) |>.trans (BX.of hw)), hw.blk h5, m, hR, rfl⟩
theorem rd55 {G : World → Prop} (num : NumberSaid G) : RdSaid G ⟨.int, 55, 17⟩ := fun cb ob s w c hG hs hc hne ho =>
  (rdInt_any num 55 17 ob cb _ s w hG hs acc55 ho ((hc.cell 17).trans (CF.get17 c)) (hc.frozen 17) hne).mono fun e w' ⟨n, b, w1, hR, hB, he, hw⟩ => by
    have hw' : w' = w1.setCell ⟨cb, 17, none⟩ (.int .i64 (wrap64 (n : Int))) := hw
    subst hw'
    generalize hv : (wrap64 (n : Int)) = v
    exact ⟨b, c.put 17 v, he, (BX.of hB).trans (BX.set _ _ _ _), hc.set hB 17 _ (CF.put_17 c v), n, hR, by rw [← hv]⟩
theorem rd56 {G : World → Prop} (num : NumberSaid G) : RdSaid G ⟨.int, 56, 18⟩ := fun cb ob s w c hG hs hc hne ho =>
  (rdInt_any num 56 18 ob cb _ s w hG hs acc56 ho ((hc.cell 18).trans (CF.get18 c)) (hc.frozen 18) hne).mono fun e w' ⟨n, b, w1, hR, hB, he, hw⟩ => by
    have hw' : w' = w1.setCell ⟨cb, 18, none⟩ (.int .i64 (wrap64 (n : Int))) := hw
    subst hw'
    generalize hv : (wrap64 (n : Int)) = v
    exact ⟨b, c.put 18 v, he, (BX.of hB).trans (BX.set _ _ _ _), hc.set hB 18 _ (CF.put_18 c v), n, hR, by rw [← hv]⟩
theorem rd57 {G : World → Prop} (num : NumberSaid G) : RdSaid G ⟨.int, 57, 19⟩ := fun cb ob s w c hG hs hc hne ho =>
  (rdInt_any num 57 19 ob cb _ s w hG hs acc57 ho ((hc.cell 19).trans (CF.get19 c)) (hc.frozen 19) hne).mono fun e w' ⟨n, b, w1, hR, hB, he, hw⟩ => by
    have hw' : w' = w1.setCell ⟨cb, 19, none⟩ (.int .i64 (wrap64 (n : Int))) := hw
    subst hw'
    generalize hv : (wrap64 (n : Int)) = v
    exact ⟨b, c.put 19 v, he, (BX.of hB).trans (BX.set _ _ _ _), hc.set hB 19 _ (CF.put_19 c v), n, hR, by rw [← hv]⟩
theorem rd58 {G : World → Prop} (num : NumberSaid G) : RdSaid G ⟨.int, 58, 20⟩ := fun cb ob s w c hG hs hc hne ho =>
  (rdInt_any num 58 20 ob cb _ s w hG hs acc58 ho ((hc.cell 20).trans (CF.get20 c)) (hc.frozen 20) hne).mono fun e w' ⟨n, b, w1, hR, hB, he, hw⟩ => by
    have hw' : w' = w1.setCell ⟨cb, 20, none⟩ (.int .i64 (wrap64 (n : Int))) := hw
    subst hw'
    generalize hv : (wrap64 (n : Int)) = v
    exact ⟨b, c.put 20 v, he, (BX.of hB).trans (BX.set _ _ _ _), hc.set hB 20 _ (CF.put_20 c v), n, hR, by rw [← hv]⟩
theorem rd60 {G : World → Prop} (num : NumberSaid G) : RdSaid G ⟨.u64, 60, 21⟩ := fun cb ob s w c hG hs hc hne ho =>
  (rdU64_any num 60 21 ob cb _ s w hG hs acc60 ho ((hc.cell 21).trans (CF.get21 c)) (hc.frozen 21) hne).mono fun e w' ⟨n, b, w1, hR, hB, he, hw⟩ => by
    have hw' : w' = w1.setCell ⟨cb, 21, none⟩ (.int .u64 (n : Int)) := hw
    subst hw'
    generalize hv : (n : Int) = v
    exact ⟨b, c.put 21 v, he, (BX.of hB).trans (BX.set _ _ _ _), hc.set hB 21 _ (CF.put_21 c v), n, hR, by rw [← hv]⟩
theorem rd61 {G : World → Prop} (num : NumberSaid G) : RdSaid G ⟨.u64, 61, 22⟩ := fun cb ob s w c hG hs hc hne ho =>
  (rdU64_any num 61 22 ob cb _ s w hG hs acc61 ho ((hc.cell 22).trans (CF.get22 c)) (hc.frozen 22) hne).mono fun e w' ⟨n, b, w1, hR, hB, he, hw⟩ => by
    have hw' : w' = w1.setCell ⟨cb, 22, none⟩ (.int .u64 (n : Int)) := hw
    subst hw'
    generalize hv : (n : Int) = v
    exact ⟨b, c.put 22 v, he, (BX.of hB).trans (BX.set _ _ _ _), hc.set hB 22 _ (CF.put_22 c v), n, hR, by rw [← hv]⟩
theorem rd62 {G : World → Prop} (num : NumberSaid G) : RdSaid G ⟨.u64, 62, 23⟩ := fun cb ob s w c hG hs hc hne ho =>
  (rdU64_any num 62 23 ob cb _ s w hG hs acc62 ho ((hc.cell 23).trans (CF.get23 c)) (hc.frozen 23) hne).mono fun e w' ⟨n, b, w1, hR, hB, he, hw⟩ => by
    have hw' : w' = w1.setCell ⟨cb, 23, none⟩ (.int .u64 (n : Int)) := hw
    subst hw'
    generalize hv : (n : Int) = v
    exact ⟨b, c.put 23 v, he, (BX.of hB).trans (BX.set _ _ _ _), hc.set hB 23 _ (CF.put_23 c v), n, hR, by rw [← hv]⟩
theorem rd63 {G : World → Prop} (num : NumberSaid G) : RdSaid G ⟨.u64, 63, 24⟩ := fun cb ob s w c hG hs hc hne ho =>
  (rdU64_any num 63 24 ob cb _ s w hG hs acc63 ho ((hc.cell 24).trans (CF.get24 c)) (hc.frozen 24) hne).mono fun e w' ⟨n, b, w1, hR, hB, he, hw⟩ => by
    have hw' : w' = w1.setCell ⟨cb, 24, none⟩ (.int .u64 (n : Int)) := hw
    subst hw'
    generalize hv : (n : Int) = v
    exact ⟨b, c.put 24 v, he, (BX.of hB).trans (BX.set _ _ _ _), hc.set hB 24 _ (CF.put_24 c v), n, hR, by rw [← hv]⟩
theorem rd64 {G : World → Prop} (num : NumberSaid G) : RdSaid G ⟨.int, 64, 25⟩ := fun cb ob s w c hG hs hc hne ho =>
  (rdInt_any num 64 25 ob cb _ s w hG hs acc64 ho ((hc.cell 25).trans (CF.get25 c)) (hc.frozen 25) hne).mono fun e w' ⟨n, b, w1, hR, hB, he, hw⟩ => by
    have hw' : w' = w1.setCell ⟨cb, 25, none⟩ (.int .i64 (wrap64 (n : Int))) := hw
    subst hw'
    generalize hv : (wrap64 (n : Int)) = v
    exact ⟨b, c.put 25 v, he, (BX.of hB).trans (BX.set _ _ _ _), hc.set hB 25 _ (CF.put_25 c v), n, hR, by rw [← hv]⟩
theorem rd65 {G : World → Prop} (num : NumberSaid G) : RdSaid G ⟨.int, 65, 26⟩ := fun cb ob s w c hG hs hc hne ho =>
  (rdInt_any num 65 26 ob cb _ s w hG hs acc65 ho ((hc.cell 26).trans (CF.get26 c)) (hc.frozen 26) hne).mono fun e w' ⟨n, b, w1, hR, hB, he, hw⟩ => by
    have hw' : w' = w1.setCell ⟨cb, 26, none⟩ (.int .i64 (wrap64 (n : Int))) := hw
    subst hw'
    generalize hv : (wrap64 (n : Int)) = v
    exact ⟨b, c.put 26 v, he, (BX.of hB).trans (BX.set _ _ _ _), hc.set hB 26 _ (CF.put_26 c v), n, hR, by rw [← hv]⟩
theorem rd66 {G : World → Prop} (num : NumberSaid G) : RdSaid G ⟨.u64, 66, 27⟩ := fun cb ob s w c hG hs hc hne ho =>
  (rdU64_any num 66 27 ob cb _ s w hG hs acc66 ho ((hc.cell 27).trans (CF.get27 c)) (hc.frozen 27) hne).mono fun e w' ⟨n, b, w1, hR, hB, he, hw⟩ => by
    have hw' : w' = w1.setCell ⟨cb, 27, none⟩ (.int .u64 (n : Int)) := hw
    subst hw'
    generalize hv : (n : Int) = v
    exact ⟨b, c.put 27 v, he, (BX.of hB).trans (BX.set _ _ _ _), hc.set hB 27 _ (CF.put_27 c v), n, hR, by rw [← hv]⟩
theorem rd67 {G : World → Prop} (num : NumberSaid G) : RdSaid G ⟨.u64, 67, 28⟩ := fun cb ob s w c hG hs hc hne ho =>
  (rdU64_any num 67 28 ob cb _ s w hG hs acc67 ho ((hc.cell 28).trans (CF.get28 c)) (hc.frozen 28) hne).mono fun e w' ⟨n, b, w1, hR, hB, he, hw⟩ => by
    have hw' : w' = w1.setCell ⟨cb, 28, none⟩ (.int .u64 (n : Int)) := hw
    subst hw'
    generalize hv : (n : Int) = v
    exact ⟨b, c.put 28 v, he, (BX.of hB).trans (BX.set _ _ _ _), hc.set hB 28 _ (CF.put_28 c v), n, hR, by rw [← hv]⟩
theorem rd68 {G : World → Prop} (num : NumberSaid G) : RdSaid G ⟨.int, 68, 29⟩ := fun cb ob s w c hG hs hc hne ho =>
  (rdInt_any num 68 29 ob cb _ s w hG hs acc68 ho ((hc.cell 29).trans (CF.get29 c)) (hc.frozen 29) hne).mono fun e w' ⟨n, b, w1, hR, hB, he, hw⟩ => by
    have hw' : w' = w1.setCell ⟨cb, 29, none⟩ (.int .i64 (wrap64 (n : Int))) := hw
    subst hw'
    generalize hv : (wrap64 (n : Int)) = v
    exact ⟨b, c.put 29 v, he, (BX.of hB).trans (BX.set _ _ _ _), hc.set hB 29 _ (CF.put_29 c v), n, hR, by rw [← hv]⟩
theorem rd69 {G : World → Prop} (num : NumberSaid G) : RdSaid G ⟨.int, 69, 30⟩ := fun cb ob s w c hG hs hc hne ho =>
  (rdInt_any num 69 30 ob cb _ s w hG hs acc69 ho ((hc.cell 30).trans (CF.get30 c)) (hc.frozen 30) hne).mono fun e w' ⟨n, b, w1, hR, hB, he, hw⟩ => by
    have hw' : w' = w1.setCell ⟨cb, 30, none⟩ (.int .i64 (wrap64 (n : Int))) := hw
    subst hw'
    generalize hv : (wrap64 (n : Int)) = v
    exact ⟨b, c.put 30 v, he, (BX.of hB).trans (BX.set _ _ _ _), hc.set hB 30 _ (CF.put_30 c v), n, hR, by rw [← hv]⟩
theorem rd70 {G : World → Prop} (num : IpSaid G) : RdSaid G ⟨.ip, 70, 33⟩ := fun cb ob s w c hG hs hc hne ho =>
  (rdIp_any num 70 33 ob cb _ s w hG hs acc70 ho ((hc.cell 33).trans (CF.get33 c)) (hc.frozen 33) hne).mono fun e w' ⟨n, b, w1, hR, hB, he, hw⟩ => by
    have hw' : w' = w1.setCell ⟨cb, 33, none⟩ (.int .u32 (n : Int)) := hw
    subst hw'
    generalize hv : (n : Int) = v
    exact ⟨b, c.put 33 v, he, (BX.of hB).trans (BX.set _ _ _ _), hc.set hB 33 _ (CF.put_33 c v), n, hR, by rw [← hv]⟩
theorem rd71 {G : World → Prop} (num : IpSaid G) : RdSaid G ⟨.ip, 71, 34⟩ := fun cb ob s w c hG hs hc hne ho =>
  (rdIp_any num 71 34 ob cb _ s w hG hs acc71 ho ((hc.cell 34).trans (CF.get34 c)) (hc.frozen 34) hne).mono fun e w' ⟨n, b, w1, hR, hB, he, hw⟩ => by
    have hw' : w' = w1.setCell ⟨cb, 34, none⟩ (.int .u32 (n : Int)) := hw
    subst hw'
    generalize hv : (n : Int) = v
    exact ⟨b, c.put 34 v, he, (BX.of hB).trans (BX.set _ _ _ _), hc.set hB 34 _ (CF.put_34 c v), n, hR, by rw [← hv]⟩
theorem rd73 {G : World → Prop} (num : NumberSaid G) : RdSaid G ⟨.u32, 73, 35⟩ := fun cb ob s w c hG hs hc hne ho =>
  (rdU32_any num 73 35 ob cb _ s w hG hs acc73 ho ((hc.cell 35).trans (CF.get35 c)) (hc.frozen 35) hne).mono fun e w' ⟨n, b, w1, hR, hB, he, hw⟩ => by
    have hw' : w' = w1.setCell ⟨cb, 35, none⟩ (.int .u32 (if n < 4294967296 then (n : Int) else 4294967295)) := hw
    subst hw'
    generalize hv : (if n < 4294967296 then (n : Int) else 4294967295) = v
    exact ⟨b, c.put 35 v, he, (BX.of hB).trans (BX.set _ _ _ _), hc.set hB 35 _ (CF.put_35 c v), n, hR, by rw [← hv]⟩
theorem rd74 {G : World → Prop} (num : NumberSaid G) : RdSaid G ⟨.u32, 74, 36⟩ := fun cb ob s w c hG hs hc hne ho =>
  (rdU32_any num 74 36 ob cb _ s w hG hs acc74 ho ((hc.cell 36).trans (CF.get36 c)) (hc.frozen 36) hne).mono fun e w' ⟨n, b, w1, hR, hB, he, hw⟩ => by
    have hw' : w' = w1.setCell ⟨cb, 36, none⟩ (.int .u32 (if n < 4294967296 then (n : Int) else 4294967295)) := hw
    subst hw'
    generalize hv : (if n < 4294967296 then (n : Int) else 4294967295) = v
    exact ⟨b, c.put 36 v, he, (BX.of hB).trans (BX.set _ _ _ _), hc.set hB 36 _ (CF.put_36 c v), n, hR, by rw [← hv]⟩
theorem rd75 {G : World → Prop} (num : NumberSaid G) : RdSaid G ⟨.u32, 75, 37⟩ := fun cb ob s w c hG hs hc hne ho =>
  (rdU32_any num 75 37 ob cb _ s w hG hs acc75 ho ((hc.cell 37).trans (CF.get37 c)) (hc.frozen 37) hne).mono fun e w' ⟨n, b, w1, hR, hB, he, hw⟩ => by
    have hw' : w' = w1.setCell ⟨cb, 37, none⟩ (.int .u32 (if n < 4294967296 then (n : Int) else 4294967295)) := hw
    subst hw'
    generalize hv : (if n < 4294967296 then (n : Int) else 4294967295) = v
    exact ⟨b, c.put 37 v, he, (BX.of hB).trans (BX.set _ _ _ _), hc.set hB 37 _ (CF.put_37 c v), n, hR, by rw [← hv]⟩
end Go.Proofs.YtncghggejenmbaaGreatDoor
