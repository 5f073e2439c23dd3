/- conf.Parse. -/
import Derived.Test.YtncghggejenmbaaGreatDoorF9
import Derived.Test.YtncghggejenmbaaGreatDoorP7
import Derived.Test.YtncghggejenmbaaGreatDoorH2
namespace Go.Proofs.YtncghggejenmbaaGreatDoor
open Go.RowKit Go.Proofs Go.Sort Go.Lib
set_option linter.unusedSimpArgs false
set_option linter.unusedVariables false
theorem some_lt {w : World} {b : Nat} {o : Obj} (h : w.heap[b]? = some o) : b < w.heap.size := by
  rcases Nat.lt_or_ge b w.heap.size with h' | h'
  · exact h'
  · simp [Array.getElem?_eq_none h'] at h
theorem BX.blk {cb : Nat} {w w' : World} (h : BX cb w w') {b : Nat} {o : Obj} (hb : w.heap[b]? = some o) (hn : b ≠ cb) : w'.heap[b]? = some o := (h.block b (some_lt hb) hn).trans hb
theorem ValAt.bx {cb : Nat} {w w' : World} {f : Fld} {v0 v1 : Value} (h : ValAt f v0 v1 w) (hx : BX cb w w') (hc : w.heap.size ≤ cb ∨ ∃ c, ConfAt cb c w) : ValAt f v0 v1 w' := by
  obtain ⟨ob, rfl, rfl, hob⟩ := h
  refine ⟨ob, rfl, rfl, hx.blk hob ?_⟩
  rintro rfl
  rcases hc with hc | ⟨c, hc⟩
  · have := some_lt hob; omega
  · unfold ConfAt at hc
    rw [hob] at hc
    simp at hc
    cases hkk : f.k <;> simp [hkk, boxT] at hc
theorem PairsAt.bx {cb : Nat} {w w' : World} (hx : BX cb w w') (hc : w.heap.size ≤ cb ∨ ∃ c, ConfAt cb c w) : ∀ (fs : List Fld) (l : List Value), PairsAt fs l w → PairsAt fs l w'
  | [], _, h => h
  | f :: fs, _, ⟨v0, v1, rest, hl, hv, hr⟩ => ⟨v0, v1, rest, hl, hv.bx hx hc, PairsAt.bx hx hc fs rest hr⟩
theorem ValsAt.bx {cb : Nat} {w w' : World} {fs : List Fld} {v : Value} (h : ValsAt fs v w) (hx : BX cb w w') (hc : w.heap.size ≤ cb ∨ ∃ c, ConfAt cb c w) : ValsAt fs v w' := by
  obtain ⟨V, vs, rfl, hV, hP⟩ := h
  refine ⟨V, vs, rfl, hx.blk hV ?_, PairsAt.bx hx hc _ _ hP⟩
  rintro rfl
  rcases hc with hc | ⟨c, hc⟩
  · have := some_lt hV; omega
  · unfold ConfAt at hc
    rw [hV] at hc
    simp at hc
theorem ValsAt.bw {w w' : World} {fs : List Fld} {v : Value} (h : ValsAt fs v w) (hx : BW w w') : ValsAt fs v w' := h.bx (BX.of hx : BX w.heap.size w w') (.inl (Nat.le_refl _))
theorem RowsAt.at : ∀ (R : List (ByteArray × List Fld)) (l : List Value) (W : World), RowsAt R l W → ∀ (k : Nat) (r : ByteArray × List Fld), R[k]? = some r → ∃ v, l[2 * k]? = some (.string r.1) ∧ l[2 * k + 1]? = some v ∧ ValsAt r.2 v W
  | [], _, _, _, k, f, hk => by simp at hk
  | g :: fs, l, W, ⟨v, rest, hl, hv, hr⟩, 0, f, hk => by
    simp at hk; subst hk; subst hl
    exact ⟨v, rfl, rfl, hv⟩
  | g :: fs, l, W, ⟨v, rest, hl, hv, hr⟩, k + 1, f, hk => by
    obtain ⟨u, h0, h1, h2⟩ := RowsAt.at fs rest W hr k f (by simpa using hk)
    subst hl
    exact ⟨u, by rw [show 2 * (k + 1) = 2 * k + 1 + 1 by omega]; simpa using h0, by rw [show 2 * (k + 1) + 1 = 2 * k + 1 + 1 + 1 by omega]; simpa using h1, h2⟩
theorem rows_rd : ∀ r ∈ rowSpecs, ∀ f ∈ r.2, RdSaid G f := by
  intro r hr f hf
  have ip := ip_said
  have nm := number_any
  have mc := mac_said
  simp only [rowSpecs, List.mem_cons, List.not_mem_nil, or_false] at hr
  rcases hr with rfl | rfl | rfl | rfl | rfl | rfl | rfl | rfl | rfl | rfl | rfl | rfl | rfl | rfl | rfl | rfl | rfl | rfl | rfl | rfl | rfl | rfl <;>
    simp only [List.mem_cons, List.not_mem_nil, or_false] at hf <;>
    (first
      | (rcases hf with rfl | rfl)
      | subst hf) <;>
    (first
      | exact rd46 ip | exact rd49 ip | exact rd51 ip | exact rd70 ip | exact rd71 ip
      | exact rd53 mc | exact rd54 mc
      | exact rd48 nm | exact rd50 nm | exact rd55 nm | exact rd56 nm | exact rd57 nm | exact rd58 nm | exact rd60 nm | exact rd61 nm | exact rd62 nm | exact rd63 nm | exact rd64 nm | exact rd65 nm | exact rd66 nm | exact rd67 nm | exact rd68 nm | exact rd69 nm | exact rd73 nm | exact rd74 nm | exact rd75 nm)
theorem rows_len : ∀ r ∈ rowSpecs, r.2.length ≤ 100 := by
  intro r hr
  simp only [rowSpecs, List.mem_cons, List.not_mem_nil, or_false] at hr
  rcases hr with rfl | rfl | rfl | rfl | rfl | rfl | rfl | rfl | rfl | rfl | rfl | rfl | rfl | rfl | rfl | rfl | rfl | rfl | rfl | rfl | rfl | rfl <;> simp
def ParsePost (s : List UInt8) (w : World) (e : Ending) (w' : World) : Prop := e = .returned (.tuple #[(parseOf s).c.val, .int .i64 ((parseOf s).n : Int), .int .i64 (parseOf s).e]) ∧ BW w w'
/-- Between two lines. -/
structure PsI (cb : Nat) (s : List UInt8) (wq : World) (k : Nat) (t : ByteArray) (W : World) : Prop where
  bx : BX cb wq W
  sz : t.size ≤ 5000
  cf : ∃ c', ConfAt cb c' W ∧ c'.Ok ∧ parseOf s = parseFrom (rowSpecs.drop k) k c' t.data.toList
theorem cut_any (t : ByteArray) (w : World) (g : G w) (ht : t.size ≤ 5000) : Calls Tryz.prog 22 #[.string t, .string ⟨#[10]⟩] w fun e w' =>
    e = .returned (.tuple #[.string ⟨(Lib.cut t.data.toList [10]).1.toArray⟩, .string ⟨(Lib.cut t.data.toList [10]).2.1.toArray⟩, .bool (Lib.cut t.data.toList [10]).2.2]) ∧ BW w w' := by
  obtain ⟨mx, hmx⟩ := g.maxLen
  refine (Tryz.strings_Cut t ⟨#[10]⟩ mx w (by omega) hmx).mono ?_
  rintro e w' ⟨rfl, n, rfl⟩
  exact ⟨rfl, rfl, rfl, rfl, Nat.le_refl _, fun k hk => rfl⟩
theorem BW.setRow {w W : World} (h : BW w W) {g : Nat} (hg : w.heap.size ≤ g) (cs : Array Value) : BW w (W.setRow g cs) := by
  refine ⟨h.os, h.tape, h.output, ?_, fun k hk => ?_⟩
  · have := h.le
    simpa [World.setRow] using this
  · have := Below.block h k hk
    simp only [World.setRow, Array.getElem?_modify]
    rw [if_neg (by omega)]
    exact this
theorem wpList_storeC {ops : Array Oper} {rest : List Oper} {o : Oper} {a : Act} {w : World} {Q : Exit → Act → World → Prop} (c c0 : CF) (x y : Operand) (g : Nat)
    (hgd : o.guard = none) (ho : o.op = .store 38 x y) (hd : o.dst = none) (hx : a.eval x = .pointer (some ⟨g, 0, none⟩)) (hy : a.eval y = c.val) (hg : w.heap[g]? = some (.cells c0.cells 38 (0, 0)))
    (h : wpList Tryz.prog ops Q rest a (w.setRow g c.cells)) : wpList Tryz.prog ops Q (o :: rest) a w :=
  wpList_store_row hgd 38 x y ho g c.cells hx hy 38 c0.cells hg (by rw [CF.size]; kernel_rfl) (by rw [CF.size, CF.size]) (by unfold CF.cells; simp [Value.oneCell']) (by rw [hd]; exact h)
theorem parse_res {W : World} {z : Nat} {tmps : Array Value} {c : CF} {x k : Value} (hp : tmps.getD 2 undef = .pointer (some ⟨z, 0, none⟩)) (hq : tmps.getD 3 undef = x) (hr : tmps.getD 4 undef = k)
    (hc : W.heap[z]? = some (.cells c.cells 38 (0, 0))) : (results Tryz.f7 tmps).run Tryz.prog W = .ok (.tuple #[c.val, x, k]) W := by
  have hp' : tmps[2]?.getD undef = .pointer (some ⟨z, 0, none⟩) := by simpa using hp
  have hq' : tmps[3]?.getD undef = x := by simpa using hq
  have hr' : tmps[4]?.getD undef = k := by simpa using hr
  have hrr : Tryz.f7.results = #[.cell 2 38, .tmp 3, .tmp 4] := by kernel_rfl
  have hl := run_loadVar_row (P := Tryz.prog) W z 38 38 c.cells (0, 0) _ hc Tryz.underlying38 rfl (by rw [CF.size]; kernel_rfl)
  simp [results, hrr, hp', hq', hr', asAddr, Result.andThen, Sem.run_bind, hl]
theorem parse_leave {s : List UInt8} {w W : World} {a : Act} {c c0 : CF} {n : Nat} {e : Int} (hp : a.tmps.getD 2 undef = .pointer (some ⟨w.heap.size, 0, none⟩)) (hq : a.tmps.getD 3 undef = .int .i64 (n : Int)) (hr : a.tmps.getD 4 undef = .int .i64 e) (hd : a.defers = [])
    (hc : W.heap[w.heap.size]? = some (.cells c0.cells 38 (0, 0))) (hb : BW w W) (h : parseOf s = ⟨c, n, e⟩) : bodyPost Tryz.prog Tryz.f7 (ParsePost s w) .ret a (W.setRow w.heap.size c.cells) :=
  bodyPost_ret (parse_res hp hq hr (setRow_heap W w.heap.size _ c.cells 38 (0, 0) hc)) hd ⟨by rw [h], hb.setRow (Nat.le_refl _) _⟩
set_option maxRecDepth 100000 in
set_option maxHeartbeats 4000000 in
theorem parse_any (s : ByteArray) (w : World) (g : G w) (hs : s.size ≤ 5000) : Calls Tryz.prog 7 #[.string s] w (ParsePost s.data.toList w) := by
  have Hg := Hid.mk g
  clear g
  go_enter Tryz.func7, Tryz.ntmps7
  go_wp2_with (go_at_call 21; refine (lines_any _).mono ?_; rintro e w1 ⟨B, cs, rfl, hB, hN, hR⟩)
  have HB := Hid.mk hB
  have HN := Hid.mk hN
  have HR := Hid.mk hR
  have hz1 := BW.z2 hN
  have hz := Nat.lt_of_succ_lt hz1
  have hBl := some_lt hB
  have HC : Hid (ConfAt (w.heap.size + 1) zeroC w1) := Hid.mk (hN.blk (new2 w _ _))
  have HC0 : Hid (w1.heap[w.heap.size]? = some (.cells zeroC.cells 38 (0, 0))) := Hid.mk (hN.blk (heap_alloc2_old w _ _))
  have hBz : B ≠ w.heap.size + 1 := by
    intro h
    have hc' := HC.out
    unfold ConfAt at hc'
    rw [← h, hB] at hc'
    simp at hc'
  have hRl : rowSpecs.length = 22 := rfl
  have HG1 := Hid.mk (Hg.out.bw hN.a2)
  clear hB hN hR
  go_loopw [0, 13] (fun tv iv wr => ∃ (k : Nat) (t : ByteArray), k ≤ 22 ∧ iv = .int .i64 k ∧ tv = .string t ∧ PsI (w.heap.size + 1) s.data.toList w1 k t wr) (fun _ iv _ => 22 - (RowKit.intOf iv).toNat)
  case atStart => exact ⟨0, s, by omega, rfl, rfl, ⟨BX.refl _ _, hs, zeroC, HC.out, zeroC_ok, rfl⟩⟩
  case round =>
    obtain ⟨k, t, hk, rfl, rfl, hI⟩ := hrel
    obtain ⟨c', hcf, hok, hpf⟩ := hI.cf
    have Hok := Hid.mk hok
    have ht5 := hI.sz
    have hsz := hI.bx.size
    have HI := Hid.mk hI
    have Hcf := Hid.mk hcf
    have Hpf := Hid.mk hpf
    have HGr := Hid.mk (Hg.out.bw (hI.bx.bwo HN.out.a2 (by omega)))
    clear hI hcf hpf hok
    by_cases hlt : k < 22
    · obtain ⟨v, e0, e1, hv⟩ := HR.out.at _ _ _ k rowSpecs[k] (List.getElem?_eq_getElem (by rw [hRl]; exact hlt))
      have hv' := hv.bx HI.out.bx (.inr ⟨_, HC.out⟩)
      have hmem : rowSpecs[k] ∈ rowSpecs := List.getElem_mem _
      have Hrd := Hid.mk (rows_rd _ hmem)
      have Hro := Hid.mk (row_ok _ hmem)
      have Hln := Hid.mk (rows_len _ hmem)
      have hdrop : rowSpecs.drop k = rowSpecs[k] :: rowSpecs.drop (k + 1) := List.drop_eq_getElem_cons (by rw [hRl]; exact hlt)
      have Hpf' : Hid (parseOf s.data.toList = parseFrom (rowSpecs[k] :: rowSpecs.drop (k + 1)) k c' t.data.toList) := by
        have h := Hpf.out
        rw [hdrop] at h
        exact h
      generalize rowSpecs[k] = r at e0 e1 hv' Hrd Hln Hro Hpf'
      obtain ⟨V, vs, rfl, hV, hP⟩ := id hv'
      have Hv := Hid.mk hv'
      have hB' : wr.heap[B]? = some (.cells cs 70 (0, 0)) := HI.out.bx.blk HB.out hBz
      have c0 : wr.cell? ⟨B, k * 2, none⟩ = some (.string r.1) := by
        rw [cell_of_row wr B (k * 2) cs 70 (0, 0) hB', Nat.mul_comm]; simpa using e0
      have c1 : wr.cell? ⟨B, k * 2 + 1, none⟩ = some (.slice (some ⟨V, 0, none⟩) r.2.length r.2.length) := by
        rw [cell_of_row wr B (k * 2 + 1) cs 70 (0, 0) hB', Nat.mul_comm]; simpa using e1
      have hk1 : (k : Int) < 22 := by omega
      clear e0 e1 hv hv' hmem hdrop hV hP hB' Hpf
      go_wp2_with fail
      refine (cut_any t _ (HGr.out.bw (BW.alloc _ _)) ht5).mono ?_
      rintro e w3 ⟨rfl, hN3⟩
      have HN3 := Hid.mk hN3
      have hcl := cut_len t.data.toList
      have hp : parseOf s.data.toList = if (Lib.cut t.data.toList [10]).2.2 = true then
          match rowOf r c' (Lib.cut t.data.toList [10]).1 with
          | some c' => parseFrom (rowSpecs.drop (k + 1)) (k + 1) c' (Lib.cut t.data.toList [10]).2.1
          | none => ⟨zeroC, k + 1, 10⟩
        else ⟨zeroC, k + 1, 10⟩ := Hpf'.out
      generalize Lib.cut t.data.toList [10] = q at hp hcl
      obtain ⟨q1, q2, b⟩ := q
      have Hp := Hid.mk hp
      have Hcl := Hid.mk hcl
      clear hp hcl hN3
      have hc3 := BW.cells HN3.out
      have hz3 := BW.z1 HN3.out
      have hk2 : IntKind.i64.wrap ((k : Int) + 1) = (k : Int) + 1 := by rw [IntKind.wrap_i64]; omega
      have HC3 : Hid (w3.heap[w.heap.size]? = some (.cells zeroC.cells 38 (0, 0))) := Hid.mk (HN3.out.blk ((BW.alloc wr _).blk (HI.out.bx.blk HC0.out (by omega))))
      have HB3 : Hid (BW w w3) := Hid.mk (((HI.out.bx.bwo HN.out.a2 (by omega)).trans (BW.alloc wr _)).trans HN3.out)
      have hkc : ((k : Int) + 1) = ((k + 1 : Nat) : Int) := by omega
      have Hkc := Hid.mk hkc
      clear hkc
      cases b with
      | false =>
        have hpe : parseOf s.data.toList = ⟨zeroC, k + 1, 10⟩ := by rw [Hp.out]; rfl
        have Hpe := Hid.mk hpe
        clear hpe
        go_wp2_with (first
          | ((refine wpList_storeC zeroC zeroC (.tmp 2) (.tmp 32) w.heap.size rfl rfl rfl rfl rfl HC3.out ?_)))
        exact parse_leave (n := k + 1) rfl (by rw [← Hkc.out]; rfl) rfl rfl HC3.out HB3.out Hpe.out
      | true =>
        have hpe : parseOf s.data.toList = match rowOf r c' q1 with
          | some c' => parseFrom (rowSpecs.drop (k + 1)) (k + 1) c' q2
          | none => ⟨zeroC, k + 1, 10⟩ := by rw [Hp.out]; rfl
        have Hpe := Hid.mk hpe
        have q1z : (ByteArray.mk q1.toArray).size ≤ 5000 := by have := Hcl.out.1; rw [Lib.size_eq]; simp at this ⊢; rw [Lib.size_eq] at ht5; simp at ht5; omega
        have q2z : (ByteArray.mk q2.toArray).size ≤ 5000 := by have := Hcl.out.2; rw [Lib.size_eq]; simp at this ⊢; rw [Lib.size_eq] at ht5; simp at ht5; omega
        clear hpe
        have hv3 : ValsAt r.2 (.slice (some ⟨V, 0, none⟩) r.2.length r.2.length) w3 := Hv.out.bw ((BW.alloc wr _).trans HN3.out)
        have HV3 := Hid.mk hv3
        have Hcf3 : Hid (ConfAt (w.heap.size + 1) c' w3) := Hid.mk (HN3.out.blk ((BW.alloc wr _).blk Hcf.out))
        clear hv3
        go_wp2_with fail
        refine (read_any r.2 Hrd.out Hln.out r.1 _ (w.heap.size + 1) c' ⟨q1.toArray⟩ w w3 Hg.out HB3.out (by omega) q1z HV3.out Hcf3.out).mono ?_
        rintro e w4 ⟨b, c4, rfl, hX, hC4, hR4⟩
        have HX := Hid.mk hX
        have HC4 := Hid.mk hC4
        have HR4 := Hid.mk hR4
        have HC5 : Hid (w4.heap[w.heap.size]? = some (.cells zeroC.cells 38 (0, 0))) := Hid.mk (hX.blk HC3.out (by omega))
        have HB4 : Hid (BW w w4) := Hid.mk (hX.bwo HB3.out (by omega))
        clear hX hC4 hR4
        cases b with
        | false =>
          have hpe : parseOf s.data.toList = ⟨zeroC, k + 1, 10⟩ := by
            have h4 := HR4.out
            simp only [Bool.false_eq_true, if_false] at h4
            rw [Hpe.out]
            show (match rowOf r c' q1 with | some c' => _ | none => _) = _
            rw [h4]
          have Hpe2 := Hid.mk hpe
          clear hpe
          go_wp2_with (first
            | ((refine wpList_storeC zeroC zeroC (.tmp 2) (.tmp 32) w.heap.size rfl rfl rfl rfl rfl HC5.out ?_)))
          exact parse_leave (n := k + 1) rfl (by rw [← Hkc.out]; rfl) rfl rfl HC5.out HB4.out Hpe2.out
        | true =>
          have hrow : rowOf r c' q1 = some c4 := by have := HR4.out; simpa using this
          have hpe : parseOf s.data.toList = parseFrom (rowSpecs.drop (k + 1)) (k + 1) c4 q2 := by
            rw [Hpe.out]
            show (match rowOf r c' q1 with | some c' => _ | none => _) = _
            rw [hrow]
          have Hrow := Hid.mk hrow
          have Hpe2 := Hid.mk hpe
          clear hpe hrow
          go_wp2_with fail
          refine ⟨⟨k + 1, ⟨q2.toArray⟩, by omega, by rw [← Hkc.out], rfl, ⟨HI.out.bx.trans ((BX.of (BW.alloc wr _)).trans ((BX.of HN3.out).trans HX.out)), q2z, c4, HC4.out, Hro.out _ _ _ Hok.out Hrow.out, Hpe2.out⟩⟩, ?_⟩
          simp only [RowKit.intOf]
          omega
    · obtain rfl : k = 22 := by omega
      clear hlt
      have HCr : Hid (wr.heap[w.heap.size]? = some (.cells zeroC.cells 38 (0, 0))) := Hid.mk (HI.out.bx.blk HC0.out (by omega))
      have HBr : Hid (BW w wr) := Hid.mk (HI.out.bx.bwo HN.out.a2 (by omega))
      have hpe : parseOf s.data.toList = parseEnd 22 c' t.data.toList := Hpf.out
      have Hpe := Hid.mk hpe
      clear hpe
      by_cases ht : t.data.toList = []
      · have ht' : t.toList.isEmpty = true := by rw [ByteArray.toList_eq, ht]; rfl
        have Ht := Hid.mk ht
        have hzr : w.heap.size + 1 < wr.heap.size := by omega
        have k0 : wr.cell? ⟨w.heap.size + 1, 0, none⟩ = some (.int .u32 c'.ii) := (Hcf.out.cell 0).trans (CF.get0 c')
        have k1 : wr.cell? ⟨w.heap.size + 1, 1, none⟩ = some (.int .i64 c'.ib) := (Hcf.out.cell 1).trans (CF.get1 c')
        clear ht
        go_wp2_with fail
        refine wp_region_below_tail 8 (by kernel_rfl) (by kernel_rfl) ?_
        simp only [List.take_succ_cons, List.take_zero, List.drop_succ_cons, List.drop_zero]
        repeat (first
          | ((with_reducible apply wpQuiet_go)
             · simp [Region.wanted, yielded]
             · intro W hW
               have c1 := BW.cells hW
               have c3 := BW.le hW
               have hW' := Hid.mk hW
               clear hW
               unfold Oper.quietAt
               go_simp
               first
                 | (with_reducible rfl)
                 | (with_reducible exact ⟨rfl, rfl⟩)
                 | (with_reducible exact Calls.bw_of hW'.out (Mask_any _ _ _))
             simp only [Act.put, List.setIfInBounds_toArray, List.set_cons_zero, List.set_cons_succ])
          | ((with_reducible refine BigFrame.wpQuiet_skip ?_ ?_)
             · simp [Region.wanted, yielded]
             simp only [Act.put, List.setIfInBounds_toArray, List.set_cons_zero, List.set_cons_succ]))
        refine wpQuiet_nil ?_
        intro w2 hN2
        have HN2 := Hid.mk hN2
        have Hcf2 : Hid (ConfAt (w.heap.size + 1) c' w2) := Hid.mk (hN2.blk Hcf.out)
        have m31 : w2.cell? ⟨w.heap.size + 1, 31, none⟩ = some (.int .u32 c'.own) := (Hcf2.out.cell 31).trans (CF.get31 c')
        have m32 : w2.cell? ⟨w.heap.size + 1, 32, none⟩ = some (.int .u32 c'.msk) := (Hcf2.out.cell 32).trans (CF.get32 c')
        have f31 : w2.frozen? ⟨w.heap.size + 1, 31, none⟩ = false := Hcf2.out.frozen 31
        have f32 : w2.frozen? ⟨w.heap.size + 1, 32, none⟩ = false := Hcf2.out.frozen 32
        have HCw : Hid (ConfAt (w.heap.size + 1) c'.fin ((w2.setCell ⟨w.heap.size + 1, 31, none⟩ (.int .u32 c'.ii)).setCell ⟨w.heap.size + 1, 32, none⟩ (.int .u32 (mask c'.ib)))) :=
          Hid.mk ((Hcf2.out.set (BW.refl _) 31 _ (CF.put_31 c' c'.ii)).set (BW.refl _) 32 _ (CF.put_32 (c'.put 31 c'.ii) (mask c'.ib)))
        have HBw : Hid (BW w ((w2.setCell ⟨w.heap.size + 1, 31, none⟩ (.int .u32 c'.ii)).setCell ⟨w.heap.size + 1, 32, none⟩ (.int .u32 (mask c'.ib)))) :=
          Hid.mk (((HBr.out.trans hN2).set (by simp) _).set (by simp) _)
        have HCz : Hid (((w2.setCell ⟨w.heap.size + 1, 31, none⟩ (.int .u32 c'.ii)).setCell ⟨w.heap.size + 1, 32, none⟩ (.int .u32 (mask c'.ib))).heap[w.heap.size]? = some (.cells zeroC.cells 38 (0, 0))) :=
          Hid.mk (by rw [Below.heap_setCell _ _ _ _ (by simp), Below.heap_setCell _ _ _ _ (by simp)]; exact hN2.blk HCr.out)
        have hfo := fin_ok Hok.out
        have HCR := Hid.mk (confRight_any c'.fin hfo)
        have hpe2 : parseOf s.data.toList = if confB c'.fin = true then ⟨c'.fin, 0, 0⟩ else ⟨zeroC, 0, 11⟩ := by rw [Hpe.out, parseEnd, if_pos Ht.out]
        generalize c'.fin = cf at HCw hfo HCR hpe2
        have Hpe2 := Hid.mk hpe2
        clear hN2 hfo hpe2
        cases hb : confB cf with
        | false =>
          have Hb := Hid.mk hb
          have HCR' : Hid (∀ W, Calls Tryz.prog 14 #[cf.val] W fun e w' => e = .returned (.bool false) ∧ BW W w') := Hid.mk (fun W => by rw [← Hb.out]; exact HCR.out W)
          have hpe3 : parseOf s.data.toList = ⟨zeroC, 0, 11⟩ := by rw [Hpe2.out, Hb.out]; rfl
          have Hpe3 := Hid.mk hpe3
          clear hb hpe3
          go_wp2_with (first
            | ((refine wpList_loadC cf (.tmp 5) (w.heap.size + 1) ?_ rfl rfl HCw.out ?_); (· simp [Region.wanted, yielded]); simp only [Act.put, List.setIfInBounds_toArray, List.set_cons_zero, List.set_cons_succ]))
          refine (HCR'.out _).mono ?_
          rintro e w6 ⟨rfl, hN6⟩
          have HN6 := Hid.mk hN6
          have HC6 : Hid (w6.heap[w.heap.size]? = some (.cells zeroC.cells 38 (0, 0))) := Hid.mk (hN6.blk HCz.out)
          clear hN6
          go_wp2_with (first
            | ((refine wpList_storeC zeroC zeroC (.tmp 2) (.tmp 58) w.heap.size rfl rfl rfl rfl rfl HC6.out ?_)))
          exact parse_leave (n := 0) rfl rfl rfl rfl HC6.out (HBw.out.trans HN6.out) Hpe3.out
        | true =>
          have Hb := Hid.mk hb
          have HCR' : Hid (∀ W, Calls Tryz.prog 14 #[cf.val] W fun e w' => e = .returned (.bool true) ∧ BW W w') := Hid.mk (fun W => by rw [← Hb.out]; exact HCR.out W)
          have hpe3 : parseOf s.data.toList = ⟨cf, 0, 0⟩ := by rw [Hpe2.out, Hb.out]; rfl
          have Hpe3 := Hid.mk hpe3
          clear hb hpe3
          go_wp2_with (first
            | ((refine wpList_loadC cf (.tmp 5) (w.heap.size + 1) ?_ rfl rfl HCw.out ?_); (· simp [Region.wanted, yielded]); simp only [Act.put, List.setIfInBounds_toArray, List.set_cons_zero, List.set_cons_succ]))
          refine (HCR'.out _).mono ?_
          rintro e w6 ⟨rfl, hN6⟩
          have HN6 := Hid.mk hN6
          have HC6 : Hid (w6.heap[w.heap.size]? = some (.cells zeroC.cells 38 (0, 0))) := Hid.mk (hN6.blk HCz.out)
          have HD6 : Hid (w6.heap[w.heap.size + 1]? = some (.cells cf.cells 38 (0, 0))) := Hid.mk (hN6.blk HCw.out)
          clear hN6
          go_wp2_with (first
            | ((refine wpList_loadC cf (.tmp 5) (w.heap.size + 1) ?_ rfl rfl HD6.out ?_); (· simp [Region.wanted, yielded]); simp only [Act.put, List.setIfInBounds_toArray, List.set_cons_zero, List.set_cons_succ])
            | ((refine wpList_storeC cf zeroC (.tmp 2) (.tmp 59) w.heap.size rfl rfl rfl rfl rfl HC6.out ?_)))
          exact parse_leave (n := 0) rfl rfl rfl rfl HC6.out (HBw.out.trans HN6.out) Hpe3.out
      · have ht' : t.toList.isEmpty = false := by
          rw [ByteArray.toList_eq]
          cases hh : t.data.toList with
          | nil => exact absurd hh ht
          | cons a b => rfl
        have hpe2 : parseOf s.data.toList = ⟨zeroC, 23, 10⟩ := by rw [Hpe.out, parseEnd, if_neg ht]
        have Hpe2 := Hid.mk hpe2
        clear hpe2 ht
        go_wp2_with fail
        refine (lines_any _).mono ?_
        rintro e w5 ⟨B5, cs5, rfl, hB5, hN5, hR5⟩
        have HC5 : Hid (w5.heap[w.heap.size]? = some (.cells zeroC.cells 38 (0, 0))) := Hid.mk (hN5.blk HCr.out)
        have HB5 : Hid (BW w w5) := Hid.mk (HBr.out.trans hN5)
        clear hB5 hN5 hR5
        go_wp2_with (first
          | ((refine wpList_storeC zeroC zeroC (.tmp 2) (.tmp 39) w.heap.size rfl rfl rfl rfl rfl HC5.out ?_)))
        exact parse_leave (n := 23) rfl rfl rfl rfl HC5.out HB5.out Hpe2.out
end Go.Proofs.YtncghggejenmbaaGreatDoor
