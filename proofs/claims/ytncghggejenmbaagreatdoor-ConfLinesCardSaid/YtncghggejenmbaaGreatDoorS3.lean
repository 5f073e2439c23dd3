/- Texts of two configurations, mixed line by line: the law's walk. -/
import Derived.Test.YtncghggejenmbaaGreatDoorS12
namespace Go.Proofs.YtncghggejenmbaaGreatDoor
open Go.RowKit Go.Proofs Go.Sort Go.Lib
set_option linter.unusedSimpArgs false
set_option linter.unusedVariables false
theorem bit_form (ch k : Nat) : (((ch : Int) / 2 ^ k).tmod 2 == 1) = decide (ch / 2 ^ k % 2 = 1) := by
  have e1 : ((ch : Int) / 2 ^ k) = ((ch / 2 ^ k : Nat) : Int) := by rw [Int.natCast_ediv]; congr 1
  rw [e1, Int.tmod_eq_emod_of_nonneg (Int.natCast_nonneg _)]
  generalize ch / 2 ^ k = m
  rw [Bool.eq_iff_iff]
  simp only [beq_iff_eq, decide_eq_true_eq]
  omega
set_option maxRecDepth 100000 in
set_option maxHeartbeats 8000000 in
theorem linesLaw_a (a b : CF) (oa : a.Ok) (ob : b.Ok) (ch : Nat) (w : World) (g : G w) (h : confB a = false) : Calls Tryz.prog 4 #[a.val, b.val, .int .u32 (ch : Int)] w (LawPost w) := by
  have HTa := Hid.mk (fun W => text_no a oa W h)
  have HTb := Hid.mk (fun W (gW : G W) => text_any b ob W gW)
  have Hg := Hid.mk g
  clear g h
  go_enter Tryz.func4, Tryz.ntmps4
  go_wp2_with fail
  refine (alive_any _ (Hg.out.bw ((BW.alloc _ _).al _))).mono ?_
  rintro e w1 ⟨rfl, hN1⟩
  have HN1 := Hid.mk hN1.a2
  have HA1 : Hid (w1.heap[w.heap.size]? = some (.cells a.cells 38 (0, 0))) := Hid.mk (hN1.blk (heap_alloc2_old w _ _))
  have HB1 : Hid (w1.heap[w.heap.size + 1]? = some (.cells b.cells 38 (0, 0))) := Hid.mk (hN1.blk (new2 w _ _))
  clear hN1
  go_wp2_with (first
    | ((refine wpList_loadC a (.tmp 3) w.heap.size ?_ rfl rfl HA1.out ?_); (· simp [Region.wanted, yielded]); simp only [Act.put, List.setIfInBounds_toArray, List.set_cons_zero, List.set_cons_succ]))
  refine (HTa.out _).mono ?_
  rintro e w2 ⟨rfl, hN2⟩
  have HN2 := Hid.mk (HN1.out.trans hN2)
  have HB2 : Hid (w2.heap[w.heap.size + 1]? = some (.cells b.cells 38 (0, 0))) := Hid.mk (hN2.blk HB1.out)
  clear hN2
  go_wp2_with (first
    | ((refine wpList_loadC b (.tmp 4) (w.heap.size + 1) ?_ rfl rfl HB2.out ?_); (· simp [Region.wanted, yielded]); simp only [Act.put, List.setIfInBounds_toArray, List.set_cons_zero, List.set_cons_succ]))
  refine (HTb.out _ (Hg.out.bw HN2.out)).mono ?_
  rintro e w3 ⟨rfl, hN3⟩
  have HN3 := Hid.mk (HN2.out.trans hN3)
  clear hN3
  go_wp2_with fail
  all_goals go_ret
  all_goals exact ⟨rfl, HN3.out⟩
set_option maxRecDepth 100000 in
set_option maxHeartbeats 8000000 in
theorem linesLaw_b (a b : CF) (oa : a.Ok) (ob : b.Ok) (ch : Nat) (w : World) (g : G w) (h : confB a = true) (h' : confB b = false) : Calls Tryz.prog 4 #[a.val, b.val, .int .u32 (ch : Int)] w (LawPost w) := by
  have HTa := Hid.mk (fun W (gW : G W) => text_yes a oa W gW h)
  have HTb := Hid.mk (fun W => text_no b ob W h')
  have Hg := Hid.mk g
  clear g h h'
  go_enter Tryz.func4, Tryz.ntmps4
  go_wp2_with fail
  refine (alive_any _ (Hg.out.bw ((BW.alloc _ _).al _))).mono ?_
  rintro e w1 ⟨rfl, hN1⟩
  have HN1 := Hid.mk hN1.a2
  have HA1 : Hid (w1.heap[w.heap.size]? = some (.cells a.cells 38 (0, 0))) := Hid.mk (hN1.blk (heap_alloc2_old w _ _))
  have HB1 : Hid (w1.heap[w.heap.size + 1]? = some (.cells b.cells 38 (0, 0))) := Hid.mk (hN1.blk (new2 w _ _))
  clear hN1
  go_wp2_with (first
    | ((refine wpList_loadC a (.tmp 3) w.heap.size ?_ rfl rfl HA1.out ?_); (· simp [Region.wanted, yielded]); simp only [Act.put, List.setIfInBounds_toArray, List.set_cons_zero, List.set_cons_succ]))
  refine (HTa.out _ (Hg.out.bw HN1.out)).mono ?_
  rintro e w2 ⟨rfl, hN2⟩
  have HN2 := Hid.mk (HN1.out.trans hN2)
  have HB2 : Hid (w2.heap[w.heap.size + 1]? = some (.cells b.cells 38 (0, 0))) := Hid.mk (hN2.blk HB1.out)
  clear hN2
  go_wp2_with (first
    | ((refine wpList_loadC b (.tmp 4) (w.heap.size + 1) ?_ rfl rfl HB2.out ?_); (· simp [Region.wanted, yielded]); simp only [Act.put, List.setIfInBounds_toArray, List.set_cons_zero, List.set_cons_succ]))
  refine (HTb.out _).mono ?_
  rintro e w3 ⟨rfl, hN3⟩
  have HN3 := Hid.mk (HN2.out.trans hN3)
  clear hN3
  go_wp2_with fail
  go_ret
  exact ⟨rfl, HN3.out⟩
set_option maxRecDepth 100000 in
set_option maxHeartbeats 8000000 in
theorem linesLaw_yes (a b : CF) (oa : a.Ok) (ob : b.Ok) (ch : Nat) (hch : ch < 4294967296) (w : World) (g : G w) (h : confB a = true) (h' : confB b = true) : Calls Tryz.prog 4 #[a.val, b.val, .int .u32 (ch : Int)] w (LawPost w) := by
  have HTa := Hid.mk (fun W (gW : G W) => text_yes a oa W gW h)
  have HTb := Hid.mk (fun W (gW : G W) => text_yes b ob W gW h')
  have HCa := Hid.mk (cut_rows oa h)
  have HCb := Hid.mk (cut_rows ob h')
  have Hg := Hid.mk g
  have Ha := Hid.mk h
  have Hb := Hid.mk h'
  have hRl : rowSpecs.length = 22 := rfl
  clear g h h'
  go_enter Tryz.func4, Tryz.ntmps4
  go_wp2_with fail
  refine (alive_any _ (Hg.out.bw ((BW.alloc _ _).al _))).mono ?_
  rintro e w1 ⟨rfl, hN1⟩
  have HN1 := Hid.mk hN1.a2
  have HA1 : Hid (w1.heap[w.heap.size]? = some (.cells a.cells 38 (0, 0))) := Hid.mk (hN1.blk (heap_alloc2_old w _ _))
  have HB1 : Hid (w1.heap[w.heap.size + 1]? = some (.cells b.cells 38 (0, 0))) := Hid.mk (hN1.blk (new2 w _ _))
  clear hN1
  go_wp2_with (first
    | ((refine wpList_loadC a (.tmp 3) w.heap.size ?_ rfl rfl HA1.out ?_); (· simp [Region.wanted, yielded]); simp only [Act.put, List.setIfInBounds_toArray, List.set_cons_zero, List.set_cons_succ]))
  refine (HTa.out _ (Hg.out.bw HN1.out)).mono ?_
  rintro e w2 ⟨rfl, hN2⟩
  have HN2 := Hid.mk (HN1.out.trans hN2)
  have HB2 : Hid (w2.heap[w.heap.size + 1]? = some (.cells b.cells 38 (0, 0))) := Hid.mk (hN2.blk HB1.out)
  have HA2 : Hid (w2.heap[w.heap.size]? = some (.cells a.cells 38 (0, 0))) := Hid.mk (hN2.blk HA1.out)
  clear hN2
  go_wp2_with (first
    | ((refine wpList_loadC b (.tmp 4) (w.heap.size + 1) ?_ rfl rfl HB2.out ?_); (· simp [Region.wanted, yielded]); simp only [Act.put, List.setIfInBounds_toArray, List.set_cons_zero, List.set_cons_succ]))
  refine (HTb.out _ (Hg.out.bw HN2.out)).mono ?_
  rintro e w3 ⟨rfl, hN3⟩
  have HN3 := Hid.mk (HN2.out.trans hN3)
  have HB3 : Hid (w3.heap[w.heap.size + 1]? = some (.cells b.cells 38 (0, 0))) := Hid.mk (hN3.blk HB2.out)
  have HA3 : Hid (w3.heap[w.heap.size]? = some (.cells a.cells 38 (0, 0))) := Hid.mk (hN3.blk HA2.out)
  clear hN3
  go_wp2_with fail
  refine (HCa.out _).mono ?_
  rintro e w4 ⟨ga, ca, rfl, hga, hca, hN4⟩
  have HN4 := Hid.mk (HN3.out.trans hN4)
  have HB4 : Hid (w4.heap[w.heap.size + 1]? = some (.cells b.cells 38 (0, 0))) := Hid.mk (hN4.blk HB3.out)
  have HA4 : Hid (w4.heap[w.heap.size]? = some (.cells a.cells 38 (0, 0))) := Hid.mk (hN4.blk HA3.out)
  have HCA4 := Hid.mk hca
  clear hN4 hca
  go_wp2_with fail
  refine (HCb.out _).mono ?_
  rintro e w5 ⟨gb, cb, rfl, hgb, hcb, hN5⟩
  have HN5 := Hid.mk (HN4.out.trans hN5)
  have HB5 : Hid (w5.heap[w.heap.size + 1]? = some (.cells b.cells 38 (0, 0))) := Hid.mk (hN5.blk HB4.out)
  have HA5 : Hid (w5.heap[w.heap.size]? = some (.cells a.cells 38 (0, 0))) := Hid.mk (hN5.blk HA4.out)
  have HCB5 := Hid.mk hcb
  have HCA5 : Hid (∀ (k : Nat) (hk : k < rowSpecs.length), w5.cell? ⟨ga, k, none⟩ = some (.string (bstr (rowText rowSpecs[k] a)))) := Hid.mk (fun k hk => (hN5.cells ga k hga).trans (HCA4.out k hk))
  clear hN5 hcb
  go_wp2_with fail
  go_loop [13, 14] (fun t i => ∃ k : Nat, k ≤ 22 ∧ i = .int .i64 k ∧ t = .string (bstr (mixTo a b ch k))) (fun _ i => 22 - (RowKit.intOf i).toNat)
  case atStart => exact ⟨0, by omega, rfl, rfl⟩
  case round =>
    obtain ⟨k, hk, rfl, rfl⟩ := hrel
    by_cases hlt : k < 22
    · have hk1 : (k : Int) < 22 := by omega
      have ca1 := HCA5.out k (by omega)
      have cb1 := HCB5.out k (by omega)
      have hm := mixTo_len oa ob ch k hk
      have hk60 : k * 60 ≤ 22 * 60 := Nat.mul_le_mul_right _ hk
      have hra : (rowText rowSpecs[k] a).length ≤ 60 := rowText_len oa _ (List.getElem_mem _)
      have hrb : (rowText rowSpecs[k] b).length ≤ 60 := rowText_len ob _ (List.getElem_mem _)
      have sa : ¬ 9223372036854775807 < (bstr (mixTo a b ch k)).size + (bstr (rowText rowSpecs[k] a)).size := by
        show ¬ 9223372036854775807 < (mixTo a b ch k).length + (rowText rowSpecs[k] a).length
        omega
      have sb : ¬ 9223372036854775807 < (bstr (mixTo a b ch k)).size + (bstr (rowText rowSpecs[k] b)).size := by
        show ¬ 9223372036854775807 < (mixTo a b ch k).length + (rowText rowSpecs[k] b).length
        omega
      have Hnx := Hid.mk (mixTo_next a b ch k (by omega))
      have hbf := bit_form ch k
      clear hm hk60 hra hrb
      by_cases hbit : ch / 2 ^ k % 2 = 1
      · have hbt : (((ch : Int) / 2 ^ k).tmod 2 == 1) = true := by rw [hbf]; simpa using hbit
        have Hbit := Hid.mk hbit
        clear hbf hbit
        go_wp2_with fail
        refine ⟨⟨k + 1, by omega, by go_num, ?_⟩, ?_⟩
        · rw [Hnx.out, pickC, if_pos Hbit.out]
          exact congrArg Value.string (ByteArray.ext (Array.ext' (by simp [bstr])))
        · simp only [RowKit.intOf]
          omega
      · have hbt : (((ch : Int) / 2 ^ k).tmod 2 == 1) = false := by rw [hbf]; simpa using hbit
        have Hbit := Hid.mk hbit
        clear hbf hbit
        go_wp2_with fail
        refine ⟨⟨k + 1, by omega, by go_num, ?_⟩, ?_⟩
        · rw [Hnx.out, pickC, if_neg Hbit.out]
          exact congrArg Value.string (ByteArray.ext (Array.ext' (by simp [bstr])))
        · simp only [RowKit.intOf]
          omega
    · obtain rfl : k = 22 := by omega
      clear hlt
      have hm22 := mixTo_len oa ob ch 22 (Nat.le_refl _)
      have hS := pickS_len a b ch
      have hSo : ∀ s ∈ pickS a b ch, s.Ok ∧ confB s = true := fun s hs => by
        rcases pickS_mem a b ch s hs with rfl | rfl
        · exact ⟨oa, Ha.out⟩
        · exact ⟨ob, Hb.out⟩
      have hpm := parse_mixed (pickS a b ch) hS hSo
      have hmo := mix_ok (pickS a b ch) hS (fun s hs => (hSo s hs).1)
      have hmt := mix_text (pickS a b ch) hS
      have hz : ch % 4194304 = 0 → (mixC rowSpecs (pickS a b ch) zeroC).fin = a := fun h => by rw [pick_zero a b ch h]; exact all_mix Ha.out
      have ho : ch % 4194304 = 4194303 → (mixC rowSpecs (pickS a b ch) zeroC).fin = b := fun h => by rw [pick_ones a b ch h]; exact all_mix Hb.out
      rw [← mixTo_all] at hpm hmt
      generalize (mixC rowSpecs (pickS a b ch) zeroC).fin = m at hpm hmo hmt hz ho
      have HPm := Hid.mk (fun (W : World) (gW : G W) => parse_any (bstr (mixTo a b ch 22)) W gW (by show (mixTo a b ch 22).length ≤ 5000; omega))
      have Hpm := Hid.mk hpm
      have Hmt := Hid.mk hmt
      have Hz := Hid.mk hz
      have Ho := Hid.mk ho
      clear hm22 hS hSo hpm hmt hz ho
      cases hb : confB m with
      | false =>
        have HP : Hid (∀ W, G W → Calls Tryz.prog 7 #[.string (bstr (mixTo a b ch 22))] W fun e w' => e = .returned (.tuple #[zeroC.val, .int .i64 0, .int .i64 11]) ∧ BW W w') := Hid.mk (fun W gW =>
          (HPm.out W gW).mono fun e w' ⟨h1, h2⟩ => ⟨by rw [h1]; show Ending.returned (.tuple #[(parseOf (mixTo a b ch 22)).c.val, _, .int .i64 (parseOf (mixTo a b ch 22)).e]) = _; rw [show (bstr (mixTo a b ch 22)).data.toList = mixTo a b ch 22 from rfl, Hpm.out, hb]; rfl, h2⟩)
        clear hb
        have hself : ∀ W, (Op.equalIn 10000 38 zeroC.val (.agg #[.int .u32 0, .int .i64 0, .int .u32 0, .int .i64 0, .int .u32 0, .int .u8 0, .int .u8 0, .int .u8 0, .int .u8 0, .int .u8 0, .int .u8 0, .int .u8 0, .int .u8 0, .int .u8 0, .int .u8 0, .int .u8 0, .int .u8 0, .int .i64 0, .int .i64 0, .int .i64 0, .int .i64 0, .int .u64 0, .int .u64 0, .int .u64 0, .int .u64 0, .int .i64 0, .int .i64 0, .int .u64 0, .int .u64 0, .int .i64 0, .int .i64 0, .int .u32 0, .int .u32 0, .int .u32 0, .int .u32 0, .int .u32 0, .int .u32 0, .int .u32 0])).run Tryz.prog W = .ok true W := self38 zeroC
        go_wp2_with fail
        refine (HP.out _ (Hg.out.bw HN5.out)).mono ?_
        rintro e w6 ⟨rfl, hN6⟩
        have HN6 := Hid.mk (HN5.out.trans hN6)
        have HZ6 : Hid ((w6.alloc (.cells zeroC.cells 38)).heap[w6.heap.size]? = some (.cells zeroC.cells 38 (0, 0))) := Hid.mk (heap_alloc_new w6 _)
        clear hN6
        go_wp2_with (first
          | (refine wpList_storeN zeroC (.tmp 15) (.tmp 74) rfl rfl rfl rfl rfl ?_)
          | ((refine wpList_loadC zeroC (.tmp 15) w6.heap.size ?_ rfl rfl HZ6.out ?_); (· simp [Region.wanted, yielded]); simp only [Act.put, List.setIfInBounds_toArray, List.set_cons_zero, List.set_cons_succ]))
        go_ret
        exact ⟨rfl, HN6.out.al _⟩
      | true =>
        have HP : Hid (∀ W, G W → Calls Tryz.prog 7 #[.string (bstr (mixTo a b ch 22))] W fun e w' => e = .returned (.tuple #[m.val, .int .i64 0, .int .i64 0]) ∧ BW W w') := Hid.mk (fun W gW =>
          (HPm.out W gW).mono fun e w' ⟨h1, h2⟩ => ⟨by rw [h1]; show Ending.returned (.tuple #[(parseOf (mixTo a b ch 22)).c.val, _, .int .i64 (parseOf (mixTo a b ch 22)).e]) = _; rw [show (bstr (mixTo a b ch 22)).data.toList = mixTo a b ch 22 from rfl, Hpm.out, hb]; rfl, h2⟩)
        have HTm : Hid (∀ W, G W → Calls Tryz.prog 10 #[m.val] W (TextPost true (mixTo a b ch 22) W)) := Hid.mk (fun W gW => by rw [← Hmt.out]; exact text_yes m hmo W gW hb)
        clear hb
        have hself := self38 m
        go_wp2_with fail
        refine (HP.out _ (Hg.out.bw HN5.out)).mono ?_
        rintro e w6 ⟨rfl, hN6⟩
        have HN6 := Hid.mk (HN5.out.trans hN6)
        have HZ6 : Hid ((w6.alloc (.cells m.cells 38)).heap[w6.heap.size]? = some (.cells m.cells 38 (0, 0))) := Hid.mk (heap_alloc_new w6 _)
        have HB6 : Hid (w6.heap[w.heap.size + 1]? = some (.cells b.cells 38 (0, 0))) := Hid.mk (hN6.blk HB5.out)
        have HA6 : Hid (w6.heap[w.heap.size]? = some (.cells a.cells 38 (0, 0))) := Hid.mk (hN6.blk HA5.out)
        clear hN6
        go_wp2_with (first
          | (refine wpList_storeN m (.tmp 15) (.tmp 74) rfl rfl rfl rfl rfl ?_)
          | ((refine wpList_loadC m (.tmp 15) w6.heap.size ?_ rfl rfl HZ6.out ?_); (· simp [Region.wanted, yielded]); simp only [Act.put, List.setIfInBounds_toArray, List.set_cons_zero, List.set_cons_succ]))
        refine (HTm.out _ (Hg.out.bw (HN6.out.al _))).mono ?_
        rintro e w7 ⟨rfl, hN7⟩
        have HN7 := Hid.mk (HN6.out.trans hN7.a1)
        have HZ7 : Hid (w7.heap[w6.heap.size]? = some (.cells m.cells 38 (0, 0))) := Hid.mk (hN7.blk HZ6.out)
        have HB7 : Hid (w7.heap[w.heap.size + 1]? = some (.cells b.cells 38 (0, 0))) := Hid.mk (hN7.a1.blk HB6.out)
        have HA7 : Hid (w7.heap[w.heap.size]? = some (.cells a.cells 38 (0, 0))) := Hid.mk (hN7.a1.blk HA6.out)
        clear hN7
        by_cases h0 : ch % 4194304 = 0
        · have hma := Hz.out h0
          subst hma
          have e0 : (((ch : Int)).tmod 4194304 != 0) = false := by
            rw [Int.tmod_eq_emod_of_nonneg (by omega)]; simp; omega
          have e0' : (((ch : Int)) % 4194304 != 0) = false := by
            simp; omega
          have e1 : (((ch : Int)).tmod 4194304 != 4194303) = true := by
            rw [Int.tmod_eq_emod_of_nonneg (by omega)]; simp; omega
          have e1' : (((ch : Int)) % 4194304 != 4194303) = true := by
            simp; omega
          clear h0
          go_wp2_with (first
            | ((refine wpList_loadC m (.tmp 15) w6.heap.size ?_ rfl rfl HZ7.out ?_); (· simp [Region.wanted, yielded]); simp only [Act.put, List.setIfInBounds_toArray, List.set_cons_zero, List.set_cons_succ])
            | ((refine wpList_loadC m (.tmp 3) w.heap.size ?_ rfl rfl HA7.out ?_); (· simp [Region.wanted, yielded]); simp only [Act.put, List.setIfInBounds_toArray, List.set_cons_zero, List.set_cons_succ]))
          go_ret
          exact ⟨rfl, HN7.out⟩
        · by_cases h1 : ch % 4194304 = 4194303
          · have hma := Ho.out h1
            subst hma
            have e0 : (((ch : Int)).tmod 4194304 != 0) = true := by
              rw [Int.tmod_eq_emod_of_nonneg (by omega)]; simp; omega
            have e0' : (((ch : Int)) % 4194304 != 0) = true := by
              simp; omega
            have e1 : (((ch : Int)).tmod 4194304 != 4194303) = false := by
              rw [Int.tmod_eq_emod_of_nonneg (by omega)]; simp; omega
            have e1' : (((ch : Int)) % 4194304 != 4194303) = false := by
              simp; omega
            clear h0 h1
            go_wp2_with (first
              | ((refine wpList_loadC m (.tmp 15) w6.heap.size ?_ rfl rfl HZ7.out ?_); (· simp [Region.wanted, yielded]); simp only [Act.put, List.setIfInBounds_toArray, List.set_cons_zero, List.set_cons_succ])
              | ((refine wpList_loadC m (.tmp 4) (w.heap.size + 1) ?_ rfl rfl HB7.out ?_); (· simp [Region.wanted, yielded]); simp only [Act.put, List.setIfInBounds_toArray, List.set_cons_zero, List.set_cons_succ]))
            go_ret
            exact ⟨rfl, HN7.out⟩
          · have e0 : (((ch : Int)).tmod 4194304 != 0) = true := by
              rw [Int.tmod_eq_emod_of_nonneg (by omega)]; simp; omega
            have e0' : (((ch : Int)) % 4194304 != 0) = true := by
              simp; omega
            have e1 : (((ch : Int)).tmod 4194304 != 4194303) = true := by
              rw [Int.tmod_eq_emod_of_nonneg (by omega)]; simp; omega
            have e1' : (((ch : Int)) % 4194304 != 4194303) = true := by
              simp; omega
            clear h0 h1
            go_wp2_with fail
            go_ret
            exact ⟨rfl, HN7.out⟩
theorem linesLaw_any (a b : CF) (oa : a.Ok) (ob : b.Ok) (ch : Nat) (hch : ch < 4294967296) (w : World) (g : G w) : Calls Tryz.prog 4 #[a.val, b.val, .int .u32 (ch : Int)] w (LawPost w) := by
  cases h : confB a with
  | false => exact linesLaw_a a b oa ob ch w g h
  | true =>
    cases h' : confB b with
    | false => exact linesLaw_b a b oa ob ch w g h h'
    | true => exact linesLaw_yes a b oa ob ch hch w g h h'
end Go.Proofs.YtncghggejenmbaaGreatDoor
