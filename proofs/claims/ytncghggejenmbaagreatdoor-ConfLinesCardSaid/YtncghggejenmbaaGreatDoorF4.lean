/- strings.SplitSeq's iterator, at a separator of one byte. -/
import Derived.Test.YtncghggejenmbaaGreatDoorF3
import Derived.RangeFuncNested
import Derived.RangeFuncBound
import Derived.RangeFuncCalls
import Derived.RangeFuncLeaves
import Derived.Shelf.Abstract
import Derived.Shelf.RegionOpen
import Derived.WalkKit
import Derived.OwnWalkIn
import Derived.TacticsInMore
import Derived.LoopNIn
import Derived.LoopIn
namespace Go.Proofs.YtncghggejenmbaaGreatDoor
open Go.RowKit Go.Proofs Go.Sort Go.Lib Go.Shelf
attribute [local go_sem] Oper.semAt_some
set_option linter.unusedSimpArgs false
set_option linter.unusedVariables false
abbrev dotB : ByteArray := ⟨#[46]⟩
def pcs (k : Nat) (s : ByteArray) : List ByteArray := splitB dotB 0 k s
def boxSize (w : World) (b : Nat) : Nat := match w.cell? ⟨b, 0, none⟩ with
  | some (.string s) => s.size
  | _ => 0
set_option maxRecDepth 100000 in
set_option maxHeartbeats 4000000 in
theorem iter_in (n : Nat) (hn : 2 ≤ n) (l b1 b2 b3 : Nat) (h12 : b1 ≠ b2) (h32 : b3 ≠ b2) (s : ByteArray) (h5 : s.size ≤ 5000) (J Jx : List ByteArray → World → Prop)
    (hJs : ∀ pre W v, J pre W → J pre (W.setCell ⟨b2, 0, none⟩ v))
    (hJc : ∀ pre W, J pre W → W.cell? ⟨b1, 0, none⟩ = some (.string dotB) ∧ W.cell? ⟨b3, 0, none⟩ = some (.int .i64 0) ∧ W.frozen? ⟨b2, 0, none⟩ = false)
    (hY : ∀ pre x W, J pre W → x.size ≤ 5000 → YieldAt Fence.wide (n - 1) Tryz.prog l #[.string x] W fun e W' => (e = .returned (.bool true) ∧ J (pre ++ [x]) W' ∧ W'.cell? ⟨b2, 0, none⟩ = W.cell? ⟨b2, 0, none⟩) ∨ (e = .returned (.bool false) ∧ Jx (pre ++ [x]) W'))
    (W : World) (hs : W.cell? ⟨b2, 0, none⟩ = some (.string s)) (h0 : J [] W) :
    CallsIn Fence.wide n Tryz.prog 163 #[.func (.yield l) #[] #[], .pointer (some ⟨b1, 0, none⟩), .pointer (some ⟨b2, 0, none⟩), .pointer (some ⟨b3, 0, none⟩)] W fun e W' => (∃ v, e = .returned v) ∧ (J (pcs s.size s) W' ∨ ∃ pre x, pre ++ [x] <+: pcs s.size s ∧ Jx (pre ++ [x]) W') := by
  obtain ⟨c1, c3, f2⟩ := hJc _ _ h0
  have h1n : 1 ≤ n := by omega
  refine callsIn_of_wp Tryz.func163 rfl trivial ?_ rfl
  simp only [Tryz.ntmps163, List.size_toArray, List.length_cons, List.length_nil, Nat.reduceAdd, Nat.reduceSub, Array.replicate_succ, Array.replicate_zero, List.push_toArray, List.append_toArray, List.nil_append, List.cons_append]
  gi_wp2
  gi_loopw [7] (fun p wr => ∃ (pre : List ByteArray) (rest : ByteArray) (k : Nat), wr.cell? ⟨b2, 0, none⟩ = some (.string rest) ∧ rest.size ≤ k ∧ rest.size ≤ 5000 ∧ pre ++ pcs k rest = pcs s.size s ∧ J pre wr) (fun p wr => boxSize wr b2)
  case atStart => exact ⟨[], s, s.size, hs, Nat.le_refl _, h5, rfl, h0⟩
  case round =>
    obtain ⟨pre, rest, k, hr, hk, hr5, hp, hj⟩ := hrel
    obtain ⟨d1, d3, g2⟩ := hJc _ _ hj
    have hix0 : indexB rest dotB = Lib.indexByte rest.data.toList 46 := Lib.index_one _ _
    rcases indexB_cases rest dotB with hm | ⟨i, hi, hle⟩
    · obtain ⟨fn, tm, asg, bd, hy, hR⟩ := hY pre rest wr hj hr5
      have hm' := Hid.mk (hix0.symm.trans hm)
      have hpc : pcs k rest = [rest] := splitB_miss _ _ _ _ hm
      rw [hpc] at hp
      clear hm hix0 hpc
      gi_wp2_with (refine ⟨trivial, ?_⟩; gi_at_call 144; refine (callsIn_wide.2 (Tryz.strings_Index_one rest 46 _)).mono ?_; rw [hm'.out]; rintro e w1 ⟨rfl, rfl⟩)
      refine hR.mono ?_
      rintro e W' (⟨rfl, hJ', hk'⟩ | ⟨rfl, hJx'⟩)
      · gi_wp2
        go_end0
        exact ⟨⟨_, rfl⟩, .inl (by rw [← hp]; exact hJ')⟩
      · gi_wp2
        go_end0
        exact ⟨⟨_, rfl⟩, .inr ⟨pre, rest, by rw [hp]; exact List.prefix_refl _, hJx'⟩⟩
    · obtain ⟨fn, tm, asg, bd, hy, hR⟩ := hY pre (rest.extract 0 i) wr hj (by simp; omega)
      have hm' := Hid.mk (hix0.symm.trans hi)
      have hle' : (i : Int) + 1 ≤ rest.size := by have : i + 1 ≤ rest.size := hle; omega
      have hpk : pcs k rest = [rest.extract 0 i] ++ pcs (k - 1) (rest.extract (i + 1) rest.size) := by
        obtain ⟨k', rfl⟩ : ∃ k', k = k' + 1 := ⟨k - 1, by omega⟩
        exact splitB_hit dotB 0 k' rest i hi
      have hw0 : wrap64 (i : Int) = (i : Int) := by unfold wrap64; omega
      have hw1 : wrap64 ((i : Int) + 1) = (i : Int) + 1 := by unfold wrap64; omega
      clear hix0
      gi_wp2_with (refine ⟨trivial, ?_⟩; gi_at_call 144; refine (callsIn_wide.2 (Tryz.strings_Index_one rest 46 _)).mono ?_; rw [hm'.out]; rintro e w1 ⟨rfl, rfl⟩)
      refine hR.mono ?_
      rintro e W' (⟨rfl, hJ', hk'⟩ | ⟨rfl, hJx'⟩)
      · obtain ⟨e1, e3, g2'⟩ := hJc _ _ hJ'
        have hr' := hk'.trans hr
        gi_wp2
        have hsz : (rest.extract (i + 1) rest.size).size + 1 ≤ rest.size := by simp; omega
        refine ⟨⟨pre ++ [rest.extract 0 i], rest.extract (i + 1) rest.size, k - 1, World.cell?_setCell_same' _ _ _ (by rw [hr']; rfl), by omega, by omega, ?_, hJs _ _ _ hJ'⟩, ?_⟩
        · rw [← hp, List.append_assoc]
          congr 1
          exact hpk.symm
        · unfold boxSize
          rw [World.cell?_setCell_same' _ _ _ (by rw [hr']; rfl), hr]
          simp only
          omega
      · gi_wp2
        (try simp only [Exit.inBlock, Exit.then])
        refine bodyPost_ret (results_none rfl _ _ _) rfl ?_
        exact ⟨⟨_, rfl⟩, .inr ⟨pre, rest.extract 0 i, ⟨pcs (k - 1) (rest.extract (i + 1) rest.size), by rw [List.append_assoc, ← hpk]; exact hp⟩, hJx'⟩⟩
end Go.Proofs.YtncghggejenmbaaGreatDoor
