/- Plain: a text whose lines are lines of configurations. -/
import Derived.Test.YtncghggejenmbaaGreatDoorP9
namespace Go.Proofs.YtncghggejenmbaaGreatDoor
open Go.RowKit Go.Proofs Go.Lib
set_option linter.unusedSimpArgs false
set_option linter.unusedVariables false
theorem nospace {l : List UInt8} (h : ∀ c ∈ l, 46 ≤ c.toNat) : (32 : UInt8) ∉ l ∧ (10 : UInt8) ∉ l :=
  ⟨fun hc => by have := h _ hc; revert this; decide, fun hc => by have := h _ hc; revert this; decide⟩
theorem rows_word : ∀ r ∈ rowSpecs, ∀ c ∈ r.1.data.toList, 46 ≤ c.toNat := by
  intro r hr
  simp only [rowSpecs, List.mem_cons, List.not_mem_nil, or_false] at hr
  rcases hr with rfl | rfl | rfl | rfl | rfl | rfl | rfl | rfl | rfl | rfl | rfl | rfl | rfl | rfl | rfl | rfl | rfl | rfl | rfl | rfl | rfl | rfl <;> decide
/-- A line, without its end. -/
def lineText (r : ByteArray × List Fld) (s : CF) : List UInt8 := r.1.data.toList ++ r.2.flatMap (fun f => 32 :: fieldText f s)
theorem rowText_line (r : ByteArray × List Fld) (s : CF) : rowText r s = lineText r s ++ [10] := rfl
theorem cut_line (a t : List UInt8) (h : (10 : UInt8) ∉ a) : Lib.cut (a ++ 10 :: t) [10] = (a, t, true) := by
  unfold Lib.cut
  rw [index_head 10 t a h, if_pos (by omega)]
  simp
theorem cut_none (a : List UInt8) (h : (10 : UInt8) ∉ a) : Lib.cut a [10] = (a, [], false) := by
  unfold Lib.cut
  rw [index_gone 10 a h, if_neg (by decide)]
theorem split_fields (wd : List UInt8) (hw : (32 : UInt8) ∉ wd) (ts : List (List UInt8)) (h : ∀ t ∈ ts, (32 : UInt8) ∉ t) : Lib.split (wd ++ ts.flatMap (fun t => 32 :: t)) [32] = wd :: ts := by
  induction ts generalizing wd with
  | nil => simp only [List.flatMap_nil, List.append_nil]; exact split_last 32 wd hw
  | cons t ts ih =>
    simp only [List.flatMap_cons, List.cons_append]
    rw [split_head 32 _ wd hw, ih t (h t List.mem_cons_self) (fun u hu => h u (List.mem_cons_of_mem _ hu))]
theorem flat_map (fs : List Fld) (s : CF) : fs.flatMap (fun f => 32 :: fieldText f s) = (fs.map fun f => fieldText f s).flatMap (fun t => 32 :: t) := by
  induction fs with
  | nil => rfl
  | cons f fs ih => simp [ih]
def takeAll (c : CF) (fs : List Fld) (s : CF) : CF := fs.foldl (fun c f => c.take f s) c
theorem fieldsOf_text (s : CF) : ∀ (fs : List Fld) (c : CF), (∀ f ∈ fs, Fit f s) → fieldsOf fs c (fs.map fun f => fieldText f s) = some (takeAll c fs s)
  | [], c, _ => rfl
  | f :: fs, c, h => by
    simp only [List.map_cons, fieldsOf, fieldOf_text (c := c) (h f List.mem_cons_self), Option.bind_some]
    exact fieldsOf_text s fs (c.take f s) (fun g hg => h g (List.mem_cons_of_mem _ hg))
theorem rowOf_text (r : ByteArray × List Fld) (hr : r ∈ rowSpecs) (c s : CF) (h : ∀ f ∈ r.2, Fit f s) : rowOf r c (lineText r s) = some (takeAll c r.2 s) := by
  unfold rowOf lineText
  rw [flat_map, split_fields _ (nospace (rows_word r hr)).1 _ (fun t ht => by
    obtain ⟨f, hf, rfl⟩ := List.mem_map.1 ht
    exact (nospace (fieldText_ge (h f hf))).1)]
  simp only [if_true]
  exact fieldsOf_text s r.2 c h
theorem line_noend (r : ByteArray × List Fld) (hr : r ∈ rowSpecs) (s : CF) (h : ∀ f ∈ r.2, Fit f s) : (10 : UInt8) ∉ lineText r s := by
  unfold lineText
  intro hm
  rcases List.mem_append.1 hm with hm | hm
  · exact (nospace (rows_word r hr)).2 hm
  · obtain ⟨f, hf, hm⟩ := List.mem_flatMap.1 hm
    rcases List.mem_cons.1 hm with hm | hm
    · revert hm; decide
    · exact (nospace (fieldText_ge (h f hf))).2 hm
theorem parse_step (r : ByteArray × List Fld) (hr : r ∈ rowSpecs) (R : List (ByteArray × List Fld)) (k : Nat) (c s : CF) (h : ∀ f ∈ r.2, Fit f s) (t : List UInt8) :
    parseFrom (r :: R) k c (rowText r s ++ t) = parseFrom R (k + 1) (takeAll c r.2 s) t := by
  rw [rowText_line, List.append_assoc]
  show parseFrom (r :: R) k c (lineText r s ++ 10 :: t) = _
  rw [parseFrom, cut_line _ _ (line_noend r hr s h)]
  simp only [if_true, rowOf_text r hr c s h]
/-- A text of lines, each of its own configuration. -/
def mixText : List (ByteArray × List Fld) → List CF → List UInt8
  | r :: R, s :: S => rowText r s ++ mixText R S
  | _, _ => []
def mixC : List (ByteArray × List Fld) → List CF → CF → CF
  | r :: R, s :: S, c => mixC R S (takeAll c r.2 s)
  | _, _, c => c
theorem parse_mix : ∀ (R : List (ByteArray × List Fld)) (S : List CF) (k : Nat) (c : CF), (∀ r ∈ R, r ∈ rowSpecs) → S.length = R.length → (∀ s ∈ S, ∀ r ∈ rowSpecs, ∀ f ∈ r.2, Fit f s) →
    parseFrom R k c (mixText R S) = parseEnd (k + R.length) (mixC R S c) []
  | [], [], k, c, _, _, _ => rfl
  | [], s :: S, k, c, _, hl, _ => by simp at hl
  | r :: R, [], k, c, _, hl, _ => by simp at hl
  | r :: R, s :: S, k, c, hR, hl, hS => by
    simp only [mixText, mixC]
    have hr := hR r List.mem_cons_self
    rw [parse_step r hr R k c s (hS s List.mem_cons_self r hr) (mixText R S),
      parse_mix R S (k + 1) _ (fun r hr => hR r (List.mem_cons_of_mem _ hr)) (by simpa using hl) (fun s hs => hS s (List.mem_cons_of_mem _ hs))]
    simp only [List.length_cons]
    rw [show k + 1 + R.length = k + (R.length + 1) by omega]
theorem mix22 (s0 s1 s2 s3 s4 s5 s6 s7 s8 s9 s10 s11 s12 s13 s14 s15 s16 s17 s18 s19 s20 s21 : CF) :
    mixC rowSpecs [s0, s1, s2, s3, s4, s5, s6, s7, s8, s9, s10, s11, s12, s13, s14, s15, s16, s17, s18, s19, s20, s21] zeroC =
      ⟨s0.ii, s0.ib, s1.oi, s1.ob, s2.ro, s3.m0, s3.m1, s3.m2, s3.m3, s3.m4, s3.m5, s4.n0, s4.n1, s4.n2, s4.n3, s4.n4, s4.n5, s5.maps, s6.flows, s7.lst, s7.mst, s8.udp, s9.opn, s10.lng, s11.qry, s12.room, s13.wt, s14.life, s15.pat, s16.bufs, s17.rng, 0, 0, s18.fst, s18.last, s19.tim, s20.hld, s21.qut⟩ := by kernel_rfl
theorem list22 (S : List CF) (h : S.length = 22) : ∃ s0 s1 s2 s3 s4 s5 s6 s7 s8 s9 s10 s11 s12 s13 s14 s15 s16 s17 s18 s19 s20 s21, S = [s0, s1, s2, s3, s4, s5, s6, s7, s8, s9, s10, s11, s12, s13, s14, s15, s16, s17, s18, s19, s20, s21] := by
  rcases S with _ | ⟨s0, _ | ⟨s1, _ | ⟨s2, _ | ⟨s3, _ | ⟨s4, _ | ⟨s5, _ | ⟨s6, _ | ⟨s7, _ | ⟨s8, _ | ⟨s9, _ | ⟨s10, _ | ⟨s11, _ | ⟨s12, _ | ⟨s13, _ | ⟨s14, _ | ⟨s15, _ | ⟨s16, _ | ⟨s17, _ | ⟨s18, _ | ⟨s19, _ | ⟨s20, _ | ⟨s21, _ | ⟨s22, S⟩⟩⟩⟩⟩⟩⟩⟩⟩⟩⟩⟩⟩⟩⟩⟩⟩⟩⟩⟩⟩⟩⟩ <;> simp at h
  exact ⟨s0, s1, s2, s3, s4, s5, s6, s7, s8, s9, s10, s11, s12, s13, s14, s15, s16, s17, s18, s19, s20, s21, rfl⟩
theorem mix_text (S : List CF) (h : S.length = 22) : textOf (mixC rowSpecs S zeroC).fin = mixText rowSpecs S := by
  obtain ⟨s0, s1, s2, s3, s4, s5, s6, s7, s8, s9, s10, s11, s12, s13, s14, s15, s16, s17, s18, s19, s20, s21, rfl⟩ := list22 S h
  rw [mix22]
  rfl
theorem all_text (s : CF) : textOf s = mixText rowSpecs (List.replicate 22 s) := rfl
theorem conf_own {s : CF} (h : confB s = true) : s.own = s.ii ∧ s.msk = mask s.ib := by
  have h1 : lendsB s = true := by
    simp only [confB, Bool.and_eq_true] at h
    exact h.2.2.2.2
  simp only [lendsB, Bool.and_eq_true, beq_iff_eq] at h1
  exact h1.2.1
theorem all_mix {s : CF} (h : confB s = true) : (mixC rowSpecs (List.replicate 22 s) zeroC).fin = s := by
  obtain ⟨h1, h2⟩ := conf_own h
  show (mixC rowSpecs [s, s, s, s, s, s, s, s, s, s, s, s, s, s, s, s, s, s, s, s, s, s] zeroC).fin = s
  rw [mix22]
  obtain ⟨⟩ := s
  simp only at h1 h2
  subst h1 h2
  rfl
theorem parse_mixed (S : List CF) (h : S.length = 22) (hS : ∀ s ∈ S, s.Ok ∧ confB s = true) :
    parseOf (mixText rowSpecs S) = if confB (mixC rowSpecs S zeroC).fin = true then ⟨(mixC rowSpecs S zeroC).fin, 0, 0⟩ else ⟨zeroC, 0, 11⟩ := by
  unfold parseOf
  rw [parse_mix rowSpecs S 0 zeroC (fun r hr => hr) h (fun s hs => fits (hS s hs).1 (hS s hs).2)]
  rfl
theorem parse_text {s : CF} (ok : s.Ok) (h : confB s = true) : parseOf (textOf s) = ⟨s, 0, 0⟩ := by
  rw [all_text, parse_mixed _ (by simp) (fun x hx => by rw [List.eq_of_mem_replicate hx]; exact ⟨ok, h⟩), all_mix h, if_pos h]
theorem mix_ok (S : List CF) (h : S.length = 22) (hS : ∀ s ∈ S, s.Ok) : (mixC rowSpecs S zeroC).fin.Ok := by
  obtain ⟨s0, s1, s2, s3, s4, s5, s6, s7, s8, s9, s10, s11, s12, s13, s14, s15, s16, s17, s18, s19, s20, s21, rfl⟩ := list22 S h
  rw [mix22]
  simp only [List.mem_cons, List.not_mem_nil, or_false, forall_eq_or_imp, forall_eq] at hS
  obtain ⟨h0, h1, h2, h3, h4, h5, h6, h7, h8, h9, h10, h11, h12, h13, h14, h15, h16, h17, h18, h19, h20, h21⟩ := hS
  exact fin_ok ⟨h0.ii, h0.ib, h1.oi, h1.ob, h2.ro, h3.m0, h3.m1, h3.m2, h3.m3, h3.m4, h3.m5, h4.n0, h4.n1, h4.n2, h4.n3, h4.n4, h4.n5, h5.maps, h6.flows, h7.lst, h7.mst, h8.udp, h9.opn, h10.lng, h11.qry, h12.room, h13.wt, h14.life, h15.pat, h16.bufs, h17.rng, zeroC_ok.own, zeroC_ok.msk, h18.fst, h18.last, h19.tim, h20.hld, h21.qut⟩
end Go.Proofs.YtncghggejenmbaaGreatDoor
