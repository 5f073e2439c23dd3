/- Plain: a text's lines, each with its end. The law's own cut: a text's lines. Texts of two configurations, mixed line by line: the walk. (joined by wip/bundle.py) -/
import Derived.Test.YtncghggejenmbaaGreatDoorP10
import Derived.Test.YtncghggejenmbaaGreatDoorD3
import Derived.Test.YtncghggejenmbaaGreatDoorG7
namespace Go.Proofs.YtncghggejenmbaaGreatDoor
open Go.RowKit Go.Proofs Go.Lib
set_option linter.unusedSimpArgs false
set_option linter.unusedVariables false
def lns : List UInt8 → List UInt8 → List (List UInt8)
  | _, [] => []
  | cur, c :: r => if c = 10 then (cur ++ [10]) :: lns [] r else lns (cur ++ [c]) r
theorem lns_line : ∀ (a : List UInt8) (cur t : List UInt8), (10 : UInt8) ∉ a → lns cur (a ++ 10 :: t) = (cur ++ a ++ [10]) :: lns [] t
  | [], cur, t, _ => by simp [lns]
  | c :: a, cur, t, h => by
    have hc : c ≠ 10 := fun e => h (by simp [e])
    simp only [List.cons_append, lns, if_neg hc]
    rw [lns_line a (cur ++ [c]) t (fun hm => h (List.mem_cons_of_mem _ hm))]
    simp
theorem lns_text {s : CF} (hS : ∀ r ∈ rowSpecs, ∀ f ∈ r.2, Fit f s) : ∀ (R : List (ByteArray × List Fld)), (∀ r ∈ R, r ∈ rowSpecs) → lns [] (R.flatMap fun r => rowText r s) = R.map fun r => rowText r s
  | [], _ => rfl
  | r :: R, hR => by
    have hr := hR r List.mem_cons_self
    simp only [List.flatMap_cons, List.map_cons, rowText_line, List.append_assoc]
    show lns [] (lineText r s ++ 10 :: R.flatMap fun r => rowText r s) = _
    rw [lns_line _ [] _ (line_noend r hr s (hS r hr)), lns_text hS R (fun r hr => hR r (List.mem_cons_of_mem _ hr))]
    rfl
theorem take_next (L : List UInt8) (fr k : Nat) (h1 : fr ≤ k) (h2 : k < L.length) : (L.drop fr).take (k + 1 - fr) = (L.drop fr).take (k - fr) ++ [L[k]] := by
  rw [show k + 1 - fr = (k - fr) + 1 by omega, List.take_succ_eq_append_getElem (by simp; omega)]
  simp only [List.getElem_drop]
  congr 3
  omega
theorem extract_list (s : ByteArray) (a b : Nat) (h : a ≤ b) : (s.extract a b).data.toList = (s.data.toList.drop a).take (b - a) := by
  rw [Lib.extract_data]
end Go.Proofs.YtncghggejenmbaaGreatDoor
namespace Go.Proofs.YtncghggejenmbaaGreatDoor
open Go.RowKit Go.Proofs Go.Sort Go.Lib
set_option linter.unusedSimpArgs false
set_option linter.unusedVariables false
def CutPost (s : ByteArray) (w : World) (e : Ending) (w' : World) : Prop :=
  ∃ (v : Value) (l : List ByteArray), e = .returned v ∧ l.map (·.data.toList) = lns [] s.data.toList ∧ w'.ownsRow w.heap.size 9 1 v l.length (l.map Value.string) ∧ BW w w'
structure CutI (s : ByteArray) (w : World) (v : Value) (fr k : Nat) (wr : World) : Prop where
  fk : fr ≤ k
  own : ∃ l : List ByteArray, l.length ≤ k ∧ wr.ownsRow w.heap.size 9 1 v l.length (l.map Value.string) ∧ l.map (·.data.toList) ++ lns ((s.data.toList.drop fr).take (k - fr)) (s.data.toList.drop k) = lns [] s.data.toList
  bw : BW w wr
set_option maxRecDepth 100000 in
set_option maxHeartbeats 1600000 in
theorem cut11_any (s : ByteArray) (hs : s.size ≤ 5000) (w : World) : Calls Tryz.prog 11 #[.string s] w (CutPost s w) := by
  obtain ⟨i0, hi, hz0, hz1, hz2⟩ := info_parts (show (Tryz.prog.info? 9).map (fun i => (i.zero, i.size, i.bytes)) = some (some (.string ⟨#[]⟩), 1, 16) by kernel_rfl)
  have hsl : s.data.toList.length = s.size := (Lib.size_eq s).symm
  go_enter Tryz.func11, Tryz.ntmps11
  go_wp2
  go_loopw [3, 4, 5] (fun v f i wr => ∃ fr k : Nat, k ≤ s.size ∧ f = .int .i64 fr ∧ i = .int .i64 k ∧ CutI s w v fr k wr) (fun _ _ i _ => s.size - (RowKit.intOf i).toNat)
  case atStart => exact ⟨0, 0, by omega, rfl, rfl, ⟨Nat.le_refl _, ⟨[], Nat.le_refl _, ⟨rfl, .inr ⟨w.heap.size, 0, #[], rfl, Nat.le_refl _, heap_alloc_new w _, Nat.le_refl _, by decide, rfl, rfl⟩⟩, rfl⟩, BW.alloc _ _⟩⟩
  case round =>
    obtain ⟨fr, k, hk, rfl, rfl, hI⟩ := hrel
    have HI := Hid.mk hI
    have hfk := hI.fk
    clear hI
    by_cases hlt : k < s.size
    · have hL : k < s.data.toList.length := by omega
      have hdrop : s.data.toList.drop k = s[k] :: s.data.toList.drop (k + 1) := List.drop_eq_getElem_cons hL
      have htake := take_next s.data.toList fr k hfk hL
      have Hd := Hid.mk hdrop
      have Ht := Hid.mk htake
      clear hdrop htake
      by_cases h10 : s[k] = 10
      · have hq : ((s[k].toNat : Int) == 10) = true := by rw [h10]; rfl
        have H10 := Hid.mk h10
        clear h10
        obtain ⟨l, hll, hown, heq⟩ := HI.out.own
        have Heq := Hid.mk heq
        have Hown := Hid.mk hown
        have hbw := HI.out.bw.le
        clear heq hown
        go_wp2_with (first
          | (at_builtin; refine wpList_append_own _ rfl _ _ 57 rfl w.heap.size 9 i0 (.string ⟨#[]⟩) 1 16 Tryz.underlying57 hi hz0 hz1 hz2 rfl (by decide) _ _ _ rfl (Hown.out.alloc _) ⟨wr.heap.size, 0, none⟩ 1 1 [.string (s.extract fr (k + 1))] rfl rfl (cell_one_new _ _ _) (by simp [Value.oneCell']) (by unfold maxLen; omega) (by omega) (by (try simp); omega) ?_; intro v' w2 hown' hgrow _))
        go_roundw
        case rel =>
          refine ⟨k + 1, k + 1, by omega, by go_num, by go_num, ⟨Nat.le_refl _, ⟨l ++ [s.extract fr (k + 1)], by simp; omega, by simpa using hown', ?_⟩, (HI.out.bw.al _).own (Hown.out.alloc _) hgrow⟩⟩
          have h1 := Heq.out
          rw [Hd.out, lns, if_pos H10.out] at h1
          rw [← h1]
          simp only [List.map_append, List.map_cons, List.map_nil, List.append_assoc, Nat.sub_self, List.take_zero, List.singleton_append]
          rw [extract_list s fr (k + 1) (by omega), Ht.out]
          show _ = _ ++ ((_ ++ [10]) :: _)
          rw [← H10.out]
          rfl
        case measure => simp [RowKit.intOf]; omega
      · have hq : ((s[k].toNat : Int) == 10) = false := by
          simp only [beq_eq_false_iff_ne, ne_eq]
          intro h
          exact h10 (UInt8.toNat_inj.1 (by rw [show (10 : UInt8).toNat = 10 from rfl]; omega))
        have H10 := Hid.mk h10
        clear h10
        go_wp2_with fail
        go_roundw
        case rel =>
          obtain ⟨l, hll, hown, heq⟩ := HI.out.own
          refine ⟨fr, k + 1, by omega, rfl, by go_num, ⟨by omega, ⟨l, by omega, hown, ?_⟩, HI.out.bw⟩⟩
          rw [Hd.out, lns, if_neg H10.out] at heq
          rw [← heq, Ht.out]
          rfl
        case measure => simp [RowKit.intOf]; omega
    · obtain rfl : k = s.size := by omega
      go_wp2_with fail
      go_ret
      obtain ⟨l, hll, hown, heq⟩ := HI.out.own
      refine ⟨_, l, rfl, ?_, hown, HI.out.bw⟩
      have hz : s.data.toList.drop s.size = [] := List.drop_eq_nil_of_le (by omega)
      rw [hz, lns, List.append_nil] at heq
      exact heq
end Go.Proofs.YtncghggejenmbaaGreatDoor
namespace Go.Proofs.YtncghggejenmbaaGreatDoor
open Go.RowKit Go.Proofs Go.Sort Go.Lib
set_option linter.unusedSimpArgs false
set_option linter.unusedVariables false
def pickC (a b : CF) (ch i : Nat) : CF := if ch / 2 ^ i % 2 = 1 then b else a
def pickS (a b : CF) (ch : Nat) : List CF := (List.range 22).map (pickC a b ch)
theorem pickS_len (a b : CF) (ch : Nat) : (pickS a b ch).length = 22 := by simp [pickS]
theorem pickC_or (a b : CF) (ch i : Nat) : pickC a b ch i = a ∨ pickC a b ch i = b := by unfold pickC; split <;> simp
theorem pickS_mem (a b : CF) (ch : Nat) : ∀ s ∈ pickS a b ch, s = a ∨ s = b := by
  intro s hs
  obtain ⟨i, _, rfl⟩ := List.mem_map.1 hs
  exact pickC_or a b ch i
theorem mixText_snoc : ∀ (R : List (ByteArray × List Fld)) (S : List CF) (r : ByteArray × List Fld) (s : CF), R.length = S.length → mixText (R ++ [r]) (S ++ [s]) = mixText R S ++ rowText r s
  | [], [], r, s, _ => by simp [mixText]
  | [], _ :: _, _, _, h => by simp at h
  | _ :: _, [], _, _, h => by simp at h
  | r' :: R, s' :: S, r, s, h => by
    simp only [List.cons_append, mixText, List.append_assoc]
    rw [mixText_snoc R S r s (by simpa using h)]
def mixTo (a b : CF) (ch k : Nat) : List UInt8 := mixText (rowSpecs.take k) ((pickS a b ch).take k)
theorem mixTo_next (a b : CF) (ch k : Nat) (hk : k < rowSpecs.length) : mixTo a b ch (k + 1) = mixTo a b ch k ++ rowText rowSpecs[k] (pickC a b ch k) := by
  have hl : rowSpecs.length = 22 := rfl
  unfold mixTo
  rw [List.take_succ_eq_append_getElem hk, List.take_succ_eq_append_getElem (by rw [pickS_len]; omega), mixText_snoc _ _ _ _ (by simp [pickS_len, hl])]
  simp [pickS]
theorem mixTo_all (a b : CF) (ch : Nat) : mixTo a b ch 22 = mixText rowSpecs (pickS a b ch) := by
  unfold mixTo
  rw [List.take_of_length_le (by exact Nat.le_refl 22), List.take_of_length_le (by rw [pickS_len]; exact Nat.le_refl _)]
theorem mixTo_len {a b : CF} (oa : a.Ok) (ob : b.Ok) (ch : Nat) : ∀ k, k ≤ 22 → (mixTo a b ch k).length ≤ k * 60
  | 0, _ => by simp [mixTo, mixText]
  | k + 1, h => by
    have hl : rowSpecs.length = 22 := rfl
    rw [mixTo_next a b ch k (by omega), List.length_append]
    have h1 := mixTo_len oa ob ch k (by omega)
    have h2 : (rowText rowSpecs[k] (pickC a b ch k)).length ≤ 60 := rowText_len (by rcases pickC_or a b ch k with e | e <;> rw [e] <;> assumption) _ (List.getElem_mem _)
    rw [Nat.succ_mul]; omega
theorem pick_zero (a b : CF) (ch : Nat) (h : ch % 4194304 = 0) : pickS a b ch = List.replicate 22 a := by
  unfold pickS
  apply List.ext_getElem (by simp)
  intro i h1 h2
  simp only [List.getElem_map, List.getElem_range, List.getElem_replicate]
  have hi : i < 22 := by simpa using h1
  unfold pickC
  rw [if_neg]
  have hb : Nat.testBit ch i = false := by
    have : Nat.testBit (ch % 2 ^ 22) i = Nat.testBit ch i := by rw [Nat.testBit_mod_two_pow]; simp [hi]
    rw [← this, show ch % 2 ^ 22 = 0 from h]; simp
  rw [Nat.testBit_eq_decide_div_mod_eq] at hb
  simpa using hb
theorem pick_ones (a b : CF) (ch : Nat) (h : ch % 4194304 = 4194303) : pickS a b ch = List.replicate 22 b := by
  unfold pickS
  apply List.ext_getElem (by simp)
  intro i h1 h2
  simp only [List.getElem_map, List.getElem_range, List.getElem_replicate]
  have hi : i < 22 := by simpa using h1
  unfold pickC
  rw [if_pos]
  have hb : Nat.testBit ch i = true := by
    have : Nat.testBit (ch % 2 ^ 22) i = Nat.testBit ch i := by rw [Nat.testBit_mod_two_pow]; simp [hi]
    rw [← this, show ch % 2 ^ 22 = 2 ^ 22 - 1 from h, Nat.testBit_two_pow_sub_one]; simp [hi]
  rw [Nat.testBit_eq_decide_div_mod_eq] at hb
  simpa using hb
theorem cut_rows {c : CF} (ok : c.Ok) (h : confB c = true) (w : World) : Calls Tryz.prog 11 #[.string (bstr (textOf c))] w fun e w' => ∃ g cap, e = .returned (.slice (some ⟨g, 0, none⟩) 22 cap) ∧ g < w'.heap.size ∧
    (∀ (k : Nat) (hk : k < rowSpecs.length), w'.cell? ⟨g, k, none⟩ = some (.string (bstr (rowText rowSpecs[k] c)))) ∧ BW w w' := by
  have hl : rowSpecs.length = 22 := rfl
  have hlen := textOf_len ok
  refine (cut11_any (bstr (textOf c)) (by show (textOf c).length ≤ 5000; omega) w).mono ?_
  rintro e w' ⟨v, l, rfl, hm, hown, hB⟩
  have hm2 : l.map (·.data.toList) = rowSpecs.map fun r => rowText r c := by
    rw [hm]; exact lns_text (fits ok h) rowSpecs (fun r hr => hr)
  have hll : l.length = 22 := by
    have := congrArg List.length hm2
    simpa [hl] using this
  obtain ⟨gb, cap, rfl, hgb, hcap, hlen2, hcells⟩ := own_strings hown (by omega)
  refine ⟨gb, cap, by rw [hll], hgb, fun k hk => ?_, hB⟩
  have hk' : k < l.length := by omega
  have h1 := hcells k l[k] (List.getElem?_eq_getElem hk')
  rw [Nat.zero_add] at h1
  rw [h1]
  congr 2
  have h2 : (l.map (·.data.toList))[k]'(by simpa using hk') = (rowSpecs.map fun r => rowText r c)[k]'(by simpa using hk) := by simp only [hm2]
  simp only [List.getElem_map] at h2
  apply ByteArray.ext
  apply Array.ext'
  exact h2
end Go.Proofs.YtncghggejenmbaaGreatDoor
