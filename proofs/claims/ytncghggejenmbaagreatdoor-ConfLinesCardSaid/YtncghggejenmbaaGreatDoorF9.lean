/- (line).read. -/
import Derived.Test.YtncghggejenmbaaGreatDoorF8
import Derived.Test.YtncghggejenmbaaGreatDoorP5
import Derived.LoopTactic
namespace Go.Proofs.YtncghggejenmbaaGreatDoor
open Go.RowKit Go.Proofs Go.Sort Go.Lib
set_option linter.unusedSimpArgs false
set_option linter.unusedVariables false
theorem PairsAt.at : ∀ (fs : List Fld) (l : List Value) (W : World), PairsAt fs l W → ∀ (k : Nat) (f : Fld), fs[k]? = some f → ∃ v0 v1, l[2 * k]? = some v0 ∧ l[2 * k + 1]? = some v1 ∧ ValAt f v0 v1 W
  | [], _, _, _, k, f, hk => by simp at hk
  | g :: fs, l, W, ⟨v0, v1, rest, hl, hv, hr⟩, 0, f, hk => by
    simp at hk; subst hk; subst hl
    exact ⟨v0, v1, rfl, rfl, hv⟩
  | g :: fs, l, W, ⟨v0, v1, rest, hl, hv, hr⟩, k + 1, f, hk => by
    obtain ⟨u0, u1, h0, h1, h2⟩ := PairsAt.at fs rest W hr k f (by simpa using hk)
    subst hl
    exact ⟨u0, u1, by rw [show 2 * (k + 1) = 2 * k + 1 + 1 by omega]; simpa using h0, by rw [show 2 * (k + 1) + 1 = 2 * k + 1 + 1 + 1 by omega]; simpa using h1, h2⟩
def ReadPost (cb : Nat) (r : ByteArray × List Fld) (c : CF) (s : List UInt8) (w : World) (e : Ending) (w' : World) : Prop :=
  ∃ (b : Bool) (c' : CF), e = .returned (.bool b) ∧ BX cb w w' ∧ ConfAt cb c' w' ∧ rowOf r c s = if b then some c' else none
/-- Between two values of a line. -/
structure RdI (cb : Nat) (fs : List Fld) (c : CF) (ps : List (List UInt8)) (w2 : World) (k : Nat) (W : World) : Prop where
  bx : BX cb w2 W
  cf : ∃ c', ConfAt cb c' W ∧ fieldsOf fs c ps = fieldsOf (fs.drop k) c' (ps.drop k)
theorem rdF_enters (k : Kd) : ∀ (args : Array Value) (W : World), (callFunc (rdF k) args).run Tryz.prog W = .ok (.enter (rdF k) args) W := by
  cases k with
  | ip => exact enters_of Tryz.func102 (by kernel_rfl) rfl
  | int => exact enters_of Tryz.func106 (by kernel_rfl) rfl
  | u64 => exact enters_of Tryz.func113 (by kernel_rfl) rfl
  | u32 => exact enters_of Tryz.func115 (by kernel_rfl) rfl
  | mac => exact enters_of Tryz.func110 (by kernel_rfl) rfl
theorem BX.bwo {cb : Nat} {w0 w w' : World} (h : BX cb w w') (h0 : BW w0 w) (hcb : w0.heap.size ≤ cb) : BW w0 w' :=
  ⟨h.os.trans h0.os, h.tape.trans h0.tape, h.output.trans h0.output, Nat.le_trans h0.le h.size, fun k hk => (h.block k (Nat.lt_of_lt_of_le hk h0.le) (by omega)).trans (Below.block h0 k hk)⟩
set_option maxRecDepth 100000 in
set_option maxHeartbeats 4000000 in
theorem read_any (fs : List Fld) (hf : ∀ f ∈ fs, RdSaid G f) (hfl : fs.length ≤ 100) (wd : ByteArray) (v : Value) (cb : Nat) (c : CF) (s : ByteArray) (w0 w : World) (g0 : G w0) (hw0 : BW w0 w) (hcb0 : w0.heap.size ≤ cb) (hs : s.size ≤ 5000) (hv : ValsAt fs v w) (hc : ConfAt cb c w) :
    Calls Tryz.prog 23 #[.agg #[.string wd, v], .pointer (some ⟨cb, 0, none⟩), .string s] w (ReadPost cb (wd, fs) c s.data.toList w) := by
  obtain ⟨V, vs, rfl, hV, hP⟩ := hv
  have g := g0.bw hw0
  have Hg0 := Hid.mk g0
  have Hw0 := Hid.mk hw0
  obtain ⟨mx, hmx⟩ := g.maxLen
  clear g0 hw0
  have hl0 : 0 < w.heap.size := block_lt_of_cell hmx
  have Hg := Hid.mk g; clear g
  have Hsp := Hid.mk (fun (W : World) (hW : BW w W) => Tryz.strings_Split s ⟨#[32]⟩ mx W (by omega) ((BW.cells hW 0 0 hl0).trans hmx) (by decide))
  have hlen := splitB_all ⟨#[32]⟩ (by decide) 0 _ s rfl
  have hwd := words_split s
  have hsz : ∀ p ∈ splitB ⟨#[32]⟩ 0 (countB s ⟨#[32]⟩) s, p.size ≤ 5000 := fun p hp => Nat.le_trans (splitB_size _ _ _ _ hp) hs
  have hcnt : countB s ⟨#[32]⟩ ≤ 5000 := Nat.le_trans (countB_le ⟨#[32]⟩ (by decide) _ s (Nat.le_refl _)) hs
  generalize countB s ⟨#[32]⟩ = n at Hsp hlen hwd hsz hcnt
  generalize splitB ⟨#[32]⟩ 0 n s = ps at Hsp hlen hwd hsz
  clear hmx
  rcases ps with _ | ⟨p0, rest⟩
  · simp at hlen
  have Hwd := Hid.mk hwd
  have Hsz := Hid.mk hsz
  have hlen' : rest.length = n := by simpa using hlen
  clear hwd hsz hlen
  have HR : Hid (rowOf (wd, fs) c s.data.toList = if p0.data.toList = wd.data.toList then fieldsOf fs c (rest.map (·.data.toList)) else none) := by
    show _ = _
    have h := Hwd.out
    simp only [rowOf, ← h, List.map_cons]
  by_cases h0 : p0 = wd
  case neg =>
    have hq : (p0.toList == wd.toList) = false := by
      simp only [ByteArray.toList_eq, beq_eq_false_iff_ne, ne_eq]
      intro h
      exact h0 (ByteArray.ext (Array.ext' h))
    go_enter Tryz.func23, Tryz.ntmps23
    go_wp2_with (go_at_call 77; refine (Hsp.out _ (by exact (BW.refl _).al _)).mono ?_; rintro e w1 ⟨rfl, rfl⟩)
    refine wp_region_below (by kernel_rfl) (by kernel_rfl) ?_
    repeat (first
      | ((with_reducible apply wpQuiet_go)
         · simp [Region.wanted, yielded]
         · intro W hW
           have c1 := BW.cells hW
           have c3 := BW.le hW
           have hW' := Hid.mk hW
           clear hW
           unfold Oper.quietAt
           go_simp
           first
             | (with_reducible rfl)
             | (with_reducible exact ⟨rfl, rfl⟩)
         simp only [Act.put, List.setIfInBounds_toArray, List.set_cons_zero, List.set_cons_succ])
      | ((with_reducible refine BigFrame.wpQuiet_skip ?_ ?_)
         · simp [Region.wanted, yielded]
         simp only [Act.put, List.setIfInBounds_toArray, List.set_cons_zero, List.set_cons_succ]))
    refine wpQuiet_nil ?_
    intro wq hB
    go_wp2
    go_ret
    refine ⟨false, c, rfl, BX.of hB.a2, hB.a2.blk hc, ?_⟩
    rw [HR.out, if_neg (fun h => h0 (ByteArray.ext (Array.ext' h)))]
    rfl
  case pos =>
    subst h0
    by_cases h1 : n = fs.length
    case neg =>
      have hq : ((n : Int) + 1 != (fs.length : Int) + 1) = true := by
        simp only [bne_iff_ne, ne_eq]; omega
      have hw1 : IntKind.i64.wrap ((fs.length : Int) + 1) = (fs.length : Int) + 1 := by rw [IntKind.wrap_i64]; omega
      go_enter Tryz.func23, Tryz.ntmps23
      go_wp2_with (go_at_call 77; refine (Hsp.out _ (by exact (BW.refl _).al _)).mono ?_; rintro e w1 ⟨rfl, rfl⟩)
      refine wp_region_below (by kernel_rfl) (by kernel_rfl) ?_
      repeat (first
        | ((with_reducible apply wpQuiet_go)
           · simp [Region.wanted, yielded]
           · intro W hW
             have c1 := BW.cells hW
             have c3 := BW.le hW
             have hW' := Hid.mk hW
             clear hW
             unfold Oper.quietAt
             go_simp
             first
               | (with_reducible rfl)
               | (with_reducible exact ⟨rfl, rfl⟩)
           simp only [Act.put, List.setIfInBounds_toArray, List.set_cons_zero, List.set_cons_succ])
        | ((with_reducible refine BigFrame.wpQuiet_skip ?_ ?_)
           · simp [Region.wanted, yielded]
           simp only [Act.put, List.setIfInBounds_toArray, List.set_cons_zero, List.set_cons_succ]))
      refine wpQuiet_nil ?_
      intro wq hB
      go_wp2
      go_ret
      refine ⟨false, c, rfl, BX.of hB.a2, hB.a2.blk hc, ?_⟩
      rw [HR.out, fieldsOf_len _ _ _ (by simpa [hlen'] using h1)]
      simp
    case pos =>
      subst h1
      have hw1 : IntKind.i64.wrap ((fs.length : Int) + 1) = (fs.length : Int) + 1 := by rw [IntKind.wrap_i64]; omega
      go_enter Tryz.func23, Tryz.ntmps23
      go_wp2_with (go_at_call 77; refine (Hsp.out _ (by exact (BW.refl _).al _)).mono ?_; rintro e w1 ⟨rfl, rfl⟩)
      refine wp_region_below (by kernel_rfl) (by kernel_rfl) ?_
      repeat (first
        | ((with_reducible apply wpQuiet_go)
           · simp [Region.wanted, yielded]
           · intro W hW
             have c1 := BW.cells hW
             have c3 := BW.le hW
             have hW' := Hid.mk hW
             clear hW
             unfold Oper.quietAt
             go_simp
             first
               | (with_reducible rfl)
               | (with_reducible exact ⟨rfl, rfl⟩)
           simp only [Act.put, List.setIfInBounds_toArray, List.set_cons_zero, List.set_cons_succ])
        | ((with_reducible refine BigFrame.wpQuiet_skip ?_ ?_)
           · simp [Region.wanted, yielded]
           simp only [Act.put, List.setIfInBounds_toArray, List.set_cons_zero, List.set_cons_succ]))
      refine wpQuiet_nil ?_
      intro wq hB
      have hcl := BW.cells hB
      have hz := BW.z2 hB
      have hz1 := Nat.lt_of_succ_lt hz
      go_wp2
      have hVl : V < w.heap.size := by
        rcases Nat.lt_or_ge V w.heap.size with h' | h'
        · exact h'
        · simp [Array.getElem?_eq_none h'] at hV
      have hcbl : cb < w.heap.size := by
        rcases Nat.lt_or_ge cb w.heap.size with h' | h'
        · exact h'
        · unfold ConfAt at hc; simp [Array.getElem?_eq_none h'] at hc
      have hVc : V ≠ cb := by
        intro h
        have hc' := hc
        unfold ConfAt at hc'
        rw [← h, hV] at hc'
        simp at hc'
      have hpz : (rest.map (·.data.toList)).length = fs.length := by simpa using hlen'
      have Hf := Hid.mk hf
      have HP := Hid.mk hP
      have HV := Hid.mk hV
      have HB := Hid.mk hB
      have Hcl := Hid.mk hcl
      have Hc := Hid.mk hc
      clear hf hP hV hB hcl hc
      go_loopw [30] (fun i wr => ∃ k : Nat, k ≤ fs.length ∧ i = .int .i64 k ∧ RdI cb fs c (rest.map (·.data.toList)) wq k wr) (fun i _ => fs.length - (RowKit.intOf i).toNat)
      case atStart => exact ⟨0, Nat.zero_le _, rfl, ⟨BX.refl _ _, c, HB.out.a2.blk Hc.out, by simp⟩⟩
      case round =>
        obtain ⟨k, hk, rfl, hI⟩ := hrel
        by_cases hlt : k < fs.length
        · obtain ⟨v0, v1, e0, e1, ob, rfl, rfl, hob⟩ := HP.out.at _ _ _ k fs[k] (by simp [hlt])
          have hobl : ob < w.heap.size := by
            rcases Nat.lt_or_ge ob w.heap.size with h' | h'
            · exact h'
            · simp [Array.getElem?_eq_none h'] at hob
          have hbx := hI.bx
          have hzz := hbx.size
          have hV' : wr.heap[V]? = some (.cells vs 99 (0, 0)) := (hbx.block V (by omega) hVc).trans (HB.out.a2.blk HV.out)
          have c0 : wr.cell? ⟨V, k * 2, none⟩ = some (.func (.func (wrF fs[k].k)) #[] #[.pointer (some ⟨ob, 0, none⟩)]) := by
            rw [cell_of_row wr V (k * 2) vs 99 (0, 0) hV', Nat.mul_comm]; simpa using e0
          have c1 : wr.cell? ⟨V, k * 2 + 1, none⟩ = some (.func (.func (rdF fs[k].k)) #[] #[.pointer (some ⟨ob, 0, none⟩)]) := by
            rw [cell_of_row wr V (k * 2 + 1) vs 99 (0, 0) hV', Nat.mul_comm]; simpa using e1
          have c2 : wr.cell? ⟨w.heap.size + 1, k + 1, none⟩ = some (.string rest[k]) := by
            rw [hbx.cell (b := w.heap.size + 1) (k + 1) (by omega) (by omega), Hcl.out _ _ (by simp)]
            go_simp
          have Hhob := Hid.mk hob
          have HV' := Hid.mk hV'
          have HI := Hid.mk hI
          have hobc : ob ≠ cb := by
            intro h
            have hc' := Hc.out
            unfold ConfAt at hc'
            rw [← h, hob] at hc'
            simp at hc'
            cases hkk : fs[k].k <;> simp [hkk, boxT] at hc'
          have hoc : wr.cell? ⟨ob, 0, none⟩ = some (.func (.func fs[k].acc) #[] #[]) := by
            rw [hbx.cell (b := ob) 0 (by omega) hobc, HB.out.a2.cells _ _ hobl, cell_of_row w ob 0 _ _ (0, 0) hob]; rfl
          have hen := rdF_enters fs[k].k
          have hmem : fs[k] ∈ fs := List.getElem_mem _
          have hpsz : rest[k].size ≤ 5000 := Hsz.out _ (by simp)
          clear hI hob hV' e0 e1 hbx
          obtain ⟨c', hcf, hfo⟩ := HI.out.cf
          have Hcf := Hid.mk hcf
          have Hfo := Hid.mk hfo
          clear hcf hfo
          go_wp2
          refine wp_region_still_tail 8 (by kernel_rfl) (by kernel_rfl) ?_
          simp only [List.take_succ_cons, List.take_zero, List.drop_succ_cons, List.drop_zero]
          change wpStill _ _ (World.drew _) _ _ _
          have hz2 := Nat.lt_of_lt_of_le hz hzz
          have hk1 : IntKind.i64.wrap ((k : Int) + 1) = (k : Int) + 1 := by rw [IntKind.wrap_i64]; omega
          have hk2 : (0 : Int) ≤ (k : Int) + 1 := by omega
          have hk3 : ((k : Int) + 1).toNat = k + 1 := by omega
          have hk4 : (k : Int) + 1 < (fs.length : Int) + 1 := by omega
          repeat still_step
          refine wpStill_nil ?_
          change wpList _ _ _ _ _ (World.drew _)
          have Hrd := Hid.mk (Hf.out _ hmem)
          have hobr : ob < wr.heap.size := by omega
          have hcbr : cb < wr.heap.size := by omega
          clear hmem hk1 hk2 hk3 hk4
          have hBa : BW wr ((wr.alloc (.cells #[.func (.func (wrF fs[k].k)) #[] #[.pointer (some ⟨ob, 0, none⟩)], .func (.func (rdF fs[k].k)) #[] #[.pointer (some ⟨ob, 0, none⟩)]] 99)).drew) := (BW.alloc _ _).dr
          have HBa := Hid.mk hBa
          clear hBa
          have HG2 : Hid (G ((wr.alloc (.cells #[.func (.func (wrF fs[k].k)) #[] #[.pointer (some ⟨ob, 0, none⟩)], .func (.func (rdF fs[k].k)) #[] #[.pointer (some ⟨ob, 0, none⟩)]] 99)).drew)) :=
            Hid.mk (Hg0.out.bw ((HI.out.bx.bwo (Hw0.out.trans HB.out.a2) hcb0).trans HBa.out))
          have Hoc := Hid.mk hoc
          go_wp2_with fail
          refine (Hrd.out cb ob rest[k] _ c' HG2.out hpsz (HBa.out.blk Hcf.out) hobc ((HBa.out.cells _ _ hobr).trans Hoc.out)).mono ?_
          rintro e w3 ⟨b, c3, rfl, hX, hC, hR⟩
          have hFo : fieldsOf fs c (rest.map (·.data.toList)) = (if b then some c3 else none).bind fun c' => fieldsOf (fs.drop (k + 1)) c' ((rest.map (·.data.toList)).drop (k + 1)) := by
            rw [Hfo.out, List.drop_eq_getElem_cons hlt, List.drop_eq_getElem_cons (l := rest.map (·.data.toList)) (by simp; omega), fieldsOf, ← fieldOf_of hR]
            simp
          have HFo := Hid.mk hFo
          have HX := Hid.mk ((HI.out.bx.trans (BX.of HBa.out)).trans hX)
          have HC := Hid.mk hC
          clear hFo hX hC hR
          cases b with
          | false =>
            go_wp2
            go_ret
            refine ⟨false, c3, rfl, (BX.of HB.out.a2).trans HX.out, HC.out, ?_⟩
            rw [HR.out, HFo.out]
            simp
          | true =>
            go_wp2
            go_roundw
            case rel => exact ⟨k + 1, by omega, by go_num, ⟨HX.out, c3, HC.out, by rw [HFo.out]; rfl⟩⟩
            case measure => simp [RowKit.intOf]; omega
        · have HI := Hid.mk hI
          obtain rfl : k = fs.length := by omega
          clear hI
          go_wp2
          go_ret
          obtain ⟨c', hcf, hfo⟩ := HI.out.cf
          refine ⟨true, c', rfl, (BX.of HB.out.a2).trans HI.out.bx, hcf, ?_⟩
          rw [HR.out, hfo, List.drop_eq_nil_of_le (Nat.le_refl _), List.drop_eq_nil_of_le (by rw [hpz]; exact Nat.le_refl _)]
          simp [fieldsOf]
end Go.Proofs.YtncghggejenmbaaGreatDoor
