/- A configuration's Text. -/
import Derived.Test.YtncghggejenmbaaGreatDoorP8
namespace Go.Proofs.YtncghggejenmbaaGreatDoor
open Go.RowKit Go.Proofs Go.Sort Go.Lib
set_option linter.unusedSimpArgs false
set_option linter.unusedVariables false
/-- A builder that holds signs, and what it keeps. -/
structure TI (b : Nat) (acc : List UInt8) (wq W : World) : Prop where
  bd : IsBuilderF 92 5 b b (byteCells acc) W
  bl : Below b wq W
  ok : OthersKept 5 (some b) wq W
theorem isBuilderF_bw {T e : TypeId} {B b : Nat} {bs : List Value} {w w' : World} (h : IsBuilderF T e B b bs w) (k : BW w w') : IsBuilderF T e B b bs w' := by
  have key : ∀ p, BuilderAtF T e B b p bs w → BuilderAtF T e B b p bs w' := by
    rintro p ⟨hB, v, hb, ⟨hl, ho⟩, hn⟩
    refine ⟨hB, v, k.blk hb, ⟨hl, ?_⟩, hn⟩
    rcases ho with ho | ⟨g, cap, cur, fz, hv, h1, h2, h3⟩
    · exact .inl ho
    · exact .inr ⟨g, cap, cur, fz, hv, h1, k.blk h2, h3⟩
  exact h.elim (fun x => .inl (key _ x)) (fun x => .inr (key _ x))
theorem othersKept_bw {e : TypeId} {b : Option Nat} {w w' : World} (k : BW w w') : OthersKept e b w w' := fun i o hi _ _ => k.blk hi
theorem TI.bw {b : Nat} {acc : List UInt8} {wq W W' : World} (h : TI b acc wq W) (k : BW W W') (hb : b ≤ W.heap.size) : TI b acc wq W' :=
  ⟨isBuilderF_bw h.bd k, Below.trans h.bl (Below.mono k hb), h.ok.trans (othersKept_bw k)⟩
theorem TI.le {b : Nat} {acc : List UInt8} {wq W : World} (h : TI b acc wq W) : wq.heap.size ≤ W.heap.size := h.bl.size
theorem TI.blk {b : Nat} {acc : List UInt8} {wq W : World} (h : TI b acc wq W) {k : Nat} {o : Obj} (hk : wq.heap[k]? = some o) (hb : k ≠ b) (ho : ∀ c fz, o ≠ .cells c 5 fz) : W.heap[k]? = some o :=
  h.ok k o hk (fun e => hb (Option.some.inj e)) ho
theorem TI.bwo {b : Nat} {acc : List UInt8} {w wq W : World} (h : TI b acc wq W) (k : BW w wq) (hb : w.heap.size ≤ b) : BW w W := Below.trans k (Below.mono h.bl hb)
def WsPost (b : Nat) (acc : List UInt8) (s : ByteArray) (w : World) (e : Ending) (w' : World) : Prop := e = .returned (.tuple #[.int .i64 s.size, .nilIface]) ∧ TI b (acc ++ s.data.toList) w w'
theorem ws_any (b : Nat) (acc : List UInt8) (s : ByteArray) (w : World) (h : IsBuilderF 92 5 b b (byteCells acc) w) (hl : acc.length + s.size ≤ 140737488355328) (hb : b ≤ w.heap.size) :
    Calls Tryz.prog 33 #[.pointer (some ⟨b, 0, none⟩), .string s] w (WsPost b acc s w) :=
  (Any.Builder_WriteString_k { Tryz.lays156 with } Tryz.Builder_Extra_156 b b (byteCells acc) s w h (by rw [byteCells_length]; exact hl) hb).mono fun e w' ⟨he, h1, h2, h3⟩ =>
    ⟨he, .inr (by rw [strCells_eq, ← byteCells_append] at h1; exact h1), h2, h3⟩
theorem wrF_enters (k : Kd) : ∀ (args : Array Value) (W : World), (callFunc (wrF k) args).run Tryz.prog W = .ok (.enter (wrF k) args) W := by
  cases k with
  | ip => exact enters_of Tryz.func100 (by kernel_rfl) rfl
  | int => exact enters_of Tryz.func104 (by kernel_rfl) rfl
  | u64 => exact enters_of Tryz.func112 (by kernel_rfl) rfl
  | u32 => exact enters_of Tryz.func114 (by kernel_rfl) rfl
  | mac => exact enters_of Tryz.func108 (by kernel_rfl) rfl
def TextPost (b : Bool) (l : List UInt8) (w : World) (e : Ending) (w' : World) : Prop := e = .returned (.tuple #[.string (bstr l), .bool b]) ∧ BW w w'
set_option maxRecDepth 100000 in
set_option maxHeartbeats 4000000 in
theorem text_no (c : CF) (ok : c.Ok) (w : World) (h : confB c = false) : Calls Tryz.prog 10 #[c.val] w (TextPost false [] w) := by
  have HCR : Hid (∀ W, Calls Tryz.prog 14 #[c.val] W fun e w' => e = .returned (.bool false) ∧ BW W w') := Hid.mk (fun W => by rw [← h]; exact confRight_any c ok W)
  clear h
  have HC1 : Hid ((w.alloc (.cells c.cells 38)).heap[w.heap.size]? = some (.cells c.cells 38 (0, 0))) := Hid.mk (heap_alloc_new w _)
  go_enter Tryz.func10, Tryz.ntmps10
  go_wp2_with (first
    | ((refine wpList_loadC c (.tmp 1) w.heap.size ?_ rfl rfl HC1.out ?_); (· simp [Region.wanted, yielded]); simp only [Act.put, List.setIfInBounds_toArray, List.set_cons_zero, List.set_cons_succ]))
  refine (HCR.out _).mono ?_
  rintro e w6 ⟨rfl, hN6⟩
  have HN6 := Hid.mk hN6
  clear hN6
  go_wp2
  go_ret2
  exact ⟨rfl, HN6.out.a1⟩
set_option maxRecDepth 100000 in
set_option maxHeartbeats 4000000 in
theorem text_yes (c : CF) (ok : c.Ok) (w : World) (g : G w) (h : confB c = true) : Calls Tryz.prog 10 #[c.val] w (TextPost true (textOf c) w) := by
  have HCR : Hid (∀ W, Calls Tryz.prog 14 #[c.val] W fun e w' => e = .returned (.bool true) ∧ BW W w') := Hid.mk (fun W => by rw [← h]; exact confRight_any c ok W)
  have Hg := Hid.mk g
  have Hok := Hid.mk ok
  clear h g ok
  have HC1 : Hid ((w.alloc (.cells c.cells 38)).heap[w.heap.size]? = some (.cells c.cells 38 (0, 0))) := Hid.mk (heap_alloc_new w _)
  go_enter Tryz.func10, Tryz.ntmps10
  go_wp2_with (first
    | ((refine wpList_loadC c (.tmp 1) w.heap.size ?_ rfl rfl HC1.out ?_); (· simp [Region.wanted, yielded]); simp only [Act.put, List.setIfInBounds_toArray, List.set_cons_zero, List.set_cons_succ]))
  refine (HCR.out _).mono ?_
  rintro e w6 ⟨rfl, hN6⟩
  have HN6 := Hid.mk hN6
  have hz6 := BW.z1 hN6
  clear hN6
  go_wp2_with fail
  refine (lines_any _).mono ?_
  rintro e w1 ⟨B, cs, rfl, hB, hN, hR⟩
  have HB := Hid.mk hB
  have HR := Hid.mk hR
  have HN := Hid.mk hN
  have hz1 := BW.z1 hN
  have HBw1 : Hid (BW w w1) := Hid.mk (HN6.out.a1.trans hN.a1)
  have HC1' : Hid (ConfAt w.heap.size c w1) := Hid.mk (hN.a1.blk (HN6.out.blk HC1.out))
  have HT0 : Hid (TI w6.heap.size [] w1 w1) := Hid.mk ⟨.inl ⟨Nat.le_refl _, _, hN.blk (heap_alloc_new w6 _), ⟨rfl, .inl ⟨rfl, rfl⟩⟩, by simp [Value.ownBlock]⟩, Below.refl _ _, OthersKept.refl _ _ _⟩
  have hBb : B ≠ w6.heap.size := by
    intro h
    have h2 := hN.blk (heap_alloc_new w6 (.cells #[.pointer none, .slice none 0 0] 92))
    rw [← h, hB] at h2
    simp at h2
  have hRl : rowSpecs.length = 22 := rfl
  have hwb : w.heap.size < w6.heap.size := hz6
  clear hB hR hN
  generalize w6.heap.size = b at HT0 hBb hwb hz1
  have Hz6 := Hid.mk hz6
  go_wp2
  go_loopw [14] (fun i wr => ∃ k : Nat, k ≤ 22 ∧ i = .int .i64 k ∧ TI b ((rowSpecs.take k).flatMap fun r => rowText r c) w1 wr) (fun i _ => 22 - (RowKit.intOf i).toNat)
  case atStart => exact ⟨0, by omega, rfl, HT0.out⟩
  case round =>
    obtain ⟨k, hk, rfl, hI⟩ := hrel
    have HI := Hid.mk hI
    have hzr := hI.le
    clear hI
    by_cases hlt : k < 22
    · obtain ⟨v, e0, e1, hv⟩ := HR.out.at _ _ _ k rowSpecs[k] (List.getElem?_eq_getElem (by rw [hRl]; exact hlt))
      have hmem : rowSpecs[k] ∈ rowSpecs := List.getElem_mem _
      have Hwr := Hid.mk (rows_wr _ hmem)
      have Hsm := Hid.mk (rows_small _ hmem)
      have Hfl := Hid.mk (fun f hf => fieldText_len Hok.out _ hmem f hf)
      have HI' : Hid ((rowSpecs.take (k + 1)).flatMap (fun r => rowText r c) = (rowSpecs.take k).flatMap (fun r => rowText r c) ++ rowText rowSpecs[k] c) := Hid.mk (by
        rw [List.take_succ_eq_append_getElem (by rw [hRl]; exact hlt), List.flatMap_append, List.flatMap_cons, List.flatMap_nil, List.append_nil]
        rfl)
      have hacc : ((rowSpecs.take k).flatMap (fun r => rowText r c)).length ≤ 1320 := by
        have h1 := flat_len (fun r => rowText r c) 60 (rowSpecs.take k) (fun r hr => rowText_len Hok.out r (List.mem_of_mem_take hr))
        have h2 : (rowSpecs.take k).length ≤ 22 := by rw [List.length_take]; omega
        have h3 : (rowSpecs.take k).length * 60 ≤ 22 * 60 := Nat.mul_le_mul_right _ h2
        omega
      generalize (rowSpecs.take k).flatMap (fun r => rowText r c) = acc at HI HI' hacc
      generalize hA1 : (rowSpecs.take (k + 1)).flatMap (fun r => rowText r c) = acc1 at HI'
      have HA1 := Hid.mk hA1
      clear hA1
      generalize rowSpecs[k] = r at e0 e1 hv Hwr Hsm Hfl HI'
      obtain ⟨wd, fs⟩ := r
      obtain ⟨V, vs, rfl, hV, hP⟩ := hv
      have hB' : wr.heap[B]? = some (.cells cs 70 (0, 0)) := HI.out.blk HB.out hBb (by intro c fz h; simp at h)
      have c0 : wr.cell? ⟨B, k * 2, none⟩ = some (.string wd) := by
        rw [cell_of_row wr B (k * 2) cs 70 (0, 0) hB', Nat.mul_comm]; simpa using e0
      have c1 : wr.cell? ⟨B, k * 2 + 1, none⟩ = some (.slice (some ⟨V, 0, none⟩) fs.length fs.length) := by
        rw [cell_of_row wr B (k * 2 + 1) cs 70 (0, 0) hB', Nat.mul_comm]; simpa using e1
      have hk1 : (k : Int) < 22 := by omega
      have HV := Hid.mk hV
      have HP := Hid.mk hP
      clear e0 e1 hmem hB' hV hP
      have hbr : b < wr.heap.size := by omega
      go_wp2_with fail
      refine (ws_any b acc wd _ (isBuilderF_bw HI.out.bd (BW.alloc wr _)) (by have := Hsm.out.1; omega) (by simp; omega)).mono ?_
      rintro e w3 ⟨rfl, hT3⟩
      have HT3' : Hid (TI b (acc ++ wd.data.toList) w1 w3) := Hid.mk ⟨hT3.bd, Below.trans (Below.trans HI.out.bl (Below.mono (BW.alloc wr _) (by omega))) hT3.bl, (HI.out.ok.trans (othersKept_bw (BW.alloc wr _))).trans hT3.ok⟩
      have d1 : w3.cell? ⟨wr.heap.size, 1, none⟩ = some (.slice (some ⟨V, 0, none⟩) fs.length fs.length) := by
        rw [cell_of_row w3 wr.heap.size 1 _ 70 (0, 0) (hT3.blk (heap_alloc_new wr _) (by omega) (by intro c fz h; simp at h))]; rfl
      have hz3 := HT3'.out.le
      have Hsm1 : Hid (fs.length ≤ 2) := Hid.mk Hsm.out.2
      have hw8 : wd.data.toList.length ≤ 8 := by have := Hsm.out.1; rw [Lib.size_eq] at this; exact this
      have hfl2 : fs.length ≤ 2 := Hsm.out.2
      clear hT3
      go_wp2_with fail
      go_loopw [24] (fun i w4 => ∃ j : Nat, j ≤ fs.length ∧ i = .int .i64 j ∧ TI b (acc ++ wd.data.toList ++ (fs.take j).flatMap fun f => 32 :: fieldText f c) w1 w4) (fun i _ => fs.length - (RowKit.intOf i).toNat)
      case atStart => exact ⟨0, by omega, rfl, by simp only [List.take_zero, List.flatMap_nil, List.append_nil]; exact HT3'.out⟩
      case round =>
        obtain ⟨j, hj, rfl, hJ⟩ := hrel
        have HJ := Hid.mk hJ
        have hzj := hJ.le
        clear hJ
        by_cases hlj : j < fs.length
        · obtain ⟨v0, v1, e0, e1, ob, rfl, rfl, hob⟩ := HP.out.at _ _ _ j fs[j] (List.getElem?_eq_getElem hlj)
          have hmem : fs[j] ∈ fs := List.getElem_mem _
          have Hw := Hid.mk (Hwr.out _ hmem)
          have hfl3 := Hfl.out _ hmem
          have hen := wrF_enters fs[j].k
          have HJ' : Hid ((fs.take (j + 1)).flatMap (fun f => 32 :: fieldText f c) = (fs.take j).flatMap (fun f => 32 :: fieldText f c) ++ (32 :: fieldText fs[j] c)) := Hid.mk (by
            rw [List.take_succ_eq_append_getElem hlj, List.flatMap_append, List.flatMap_cons, List.flatMap_nil, List.append_nil])
          have hacc2 : ((fs.take j).flatMap (fun f => 32 :: fieldText f c)).length ≤ 42 := by
            have h1 := flat_len (fun f => 32 :: fieldText f c) 21 (fs.take j) (fun f hf => by have := Hfl.out f (List.mem_of_mem_take hf); simp only [List.length_cons]; omega)
            have h2 : (fs.take j).length ≤ 2 := by rw [List.length_take]; omega
            have h3 : (fs.take j).length * 21 ≤ 2 * 21 := Nat.mul_le_mul_right _ h2
            omega
          have hV' : wr.heap[V]? = some (.cells vs 99 (0, 0)) := HJ.out.blk HV.out (by
            intro h
            have h2 := HT0.out.bd
            rcases h2 with h2 | h2 <;>
            · obtain ⟨_, vv, hh, _⟩ := h2
              have h3 := HV.out
              rw [h, hh] at h3
              simp at h3) (by intro c fz h; simp at h)
          have hob' : wr.heap[ob]? = some (.cells #[.func (.func fs[j].acc) #[] #[]] (boxT fs[j].k) (0, 0)) := HJ.out.blk hob (by
            intro h
            have h2 := HT0.out.bd
            rcases h2 with h2 | h2 <;>
            · obtain ⟨_, vv, hh, _⟩ := h2
              have h3 := hob
              rw [h, hh] at h3
              simp at h3) (by intro c fz h; cases hkk : fs[j].k <;> simp [hkk, boxT] at h)
          have hobl := some_lt hob'
          have c0 : wr.cell? ⟨V, j * 2, none⟩ = some (.func (.func (wrF fs[j].k)) #[] #[.pointer (some ⟨ob, 0, none⟩)]) := by
            rw [cell_of_row wr V (j * 2) vs 99 (0, 0) hV', Nat.mul_comm]; simpa using e0
          have c1 : wr.cell? ⟨V, j * 2 + 1, none⟩ = some (.func (.func (rdF fs[j].k)) #[] #[.pointer (some ⟨ob, 0, none⟩)]) := by
            rw [cell_of_row wr V (j * 2 + 1) vs 99 (0, 0) hV', Nat.mul_comm]; simpa using e1
          have hcc : ConfAt w.heap.size c wr := HJ.out.blk HC1'.out (by omega) (by intro c fz h; simp at h)
          generalize (fs.take j).flatMap (fun f => 32 :: fieldText f c) = acc2 at HJ HJ' hacc2
          generalize hA3 : (fs.take (j + 1)).flatMap (fun f => 32 :: fieldText f c) = acc3 at HJ'
          have HA3 := Hid.mk hA3
          clear hA3
          have HBa := Hid.mk (BW.alloc wr (.cells #[.func (.func (wrF fs[j].k)) #[] #[.pointer (some ⟨ob, 0, none⟩)], .func (.func (rdF fs[j].k)) #[] #[.pointer (some ⟨ob, 0, none⟩)]] 99))
          have HG2 := Hid.mk (Hg.out.bw ((HJ.out.bwo HBw1.out (by omega)).trans HBa.out))
          have Hcc := Hid.mk (HBa.out.blk hcc)
          have Hoc := Hid.mk ((HBa.out.cells ob 0 hobl).trans ((cell_of_row wr ob 0 _ _ (0, 0) hob').trans rfl))
          have HJ2 := Hid.mk (HJ.out.bw HBa.out (by omega))
          have hbr2 : b ≤ (wr.alloc (.cells #[.func (.func (wrF fs[j].k)) #[] #[.pointer (some ⟨ob, 0, none⟩)], .func (.func (rdF fs[j].k)) #[] #[.pointer (some ⟨ob, 0, none⟩)]] 99)).heap.size := by simp; omega
          have Hbr2 := Hid.mk hbr2
          clear e0 e1 hob hV' hob' hcc hmem hbr2
          go_wp2_with fail
          refine (Hw.out w.heap.size ob _ c HG2.out Hok.out Hcc.out Hoc.out).mono ?_
          rintro e w5 ⟨rfl, hN5⟩
          have HN5 := Hid.mk hN5
          clear hN5
          have hsm : ¬ 9223372036854775807 < 1 + (bstr (fieldText fs[j] c)).size := by
            rw [Lib.size_eq]; show ¬ 9223372036854775807 < 1 + (fieldText fs[j] c).length; omega
          have hb5 : b ≤ w5.heap.size := Nat.le_trans Hbr2.out HN5.out.le
          have HJ5 := Hid.mk (HJ2.out.bw HN5.out Hbr2.out)
          go_wp2_with fail
          refine (ws_any b (acc ++ wd.data.toList ++ acc2) _ w5 HJ5.out.bd (by
            have e1 : (ByteArray.mk #[32] ++ bstr (fieldText fs[j] c)).size = 1 + (fieldText fs[j] c).length := by rw [ByteArray.size_append]; rfl
            rw [e1]; simp only [List.length_append]; omega) hb5).mono ?_
          rintro e w7 ⟨rfl, hT7⟩
          have HT7 : Hid (TI b (acc ++ wd.data.toList ++ acc3) w1 w7) := Hid.mk ⟨by
            rw [HJ'.out, ← List.append_assoc]
            have := hT7.bd
            simpa [bstr] using this, Below.trans HJ5.out.bl hT7.bl, HJ5.out.ok.trans hT7.ok⟩
          clear hT7
          go_wp2_with fail
          refine ⟨⟨j + 1, by omega, by go_num, by rw [HA3.out]; exact HT7.out⟩, ?_⟩
          simp only [RowKit.intOf]
          omega
        · obtain rfl : j = fs.length := by omega
          have HJ2 : Hid (TI b (acc ++ wd.data.toList ++ fs.flatMap (fun f => 32 :: fieldText f c)) w1 wr) := Hid.mk (by
            have := HJ.out
            rwa [List.take_length] at this)
          have hacc2 : (fs.flatMap (fun f => 32 :: fieldText f c)).length ≤ 42 := by
            have h1 := flat_len (fun f => 32 :: fieldText f c) 21 fs (fun f hf => by have := Hfl.out f hf; simp only [List.length_cons]; omega)
            have h3 : fs.length * 21 ≤ 2 * 21 := Nat.mul_le_mul_right _ hfl2
            omega
          have hbw : b ≤ wr.heap.size := by omega
          clear hlj HJ
          go_wp2_with fail
          refine (ws_any b _ ⟨#[10]⟩ wr HJ2.out.bd (by
            have e1 : (ByteArray.mk #[10]).size = 1 := rfl
            rw [e1]; simp only [List.length_append]; omega) hbw).mono ?_
          rintro e w7 ⟨rfl, hT7⟩
          have HT7 : Hid (TI b acc1 w1 w7) := Hid.mk ⟨by
            rw [HI'.out, rowText]
            have := hT7.bd
            simpa [List.append_assoc] using this, Below.trans HJ2.out.bl hT7.bl, HJ2.out.ok.trans hT7.ok⟩
          clear hT7
          go_wp2_with fail
          refine ⟨⟨k + 1, by omega, by go_num, by rw [HA1.out]; exact HT7.out⟩, ?_⟩
          simp only [RowKit.intOf]
          omega
    · obtain rfl : k = 22 := by omega
      have HI2 : Hid (TI b (textOf c) w1 wr) := Hid.mk (by
        have := HI.out
        rwa [List.take_of_length_le (by rw [hRl]; exact Nat.le_refl _)] at this)
      have hbw : b ≤ wr.heap.size := by omega
      clear hlt HI
      go_wp2_with fail
      refine (Tryz.Builder_String_any_k b b (textOf c) wr HI2.out.bd hbw).mono ?_
      rintro e w7 ⟨rfl, h7, h8, h9⟩
      have HB7 : Hid (BW w w7) := Hid.mk (Below.trans (HI2.out.bwo HBw1.out (by omega)) (Below.mono h8 (by omega)))
      clear h7 h8 h9
      go_wp2_with fail
      go_ret2
      exact ⟨rfl, HB7.out⟩
theorem text_any (c : CF) (ok : c.Ok) (w : World) (g : G w) : Calls Tryz.prog 10 #[c.val] w (TextPost (confB c) (if confB c then textOf c else []) w) := by
  cases h : confB c with
  | false => exact text_no c ok w h
  | true => exact text_yes c ok w g h
end Go.Proofs.YtncghggejenmbaaGreatDoor
