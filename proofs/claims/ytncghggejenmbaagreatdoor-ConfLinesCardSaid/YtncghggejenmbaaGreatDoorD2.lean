/- A number of a configuration's text. -/
import Derived.Test.YtncghggejenmbaaGreatDoorD1
import Derived.Test.YtncghggejenmbaaGreatDoorP1
import Derived.WideLaws
namespace Go.Proofs.YtncghggejenmbaaGreatDoor
open Go.RowKit Go.Proofs Go.Sort Go.Lib
set_option linter.unusedSimpArgs false
set_option linter.unusedVariables false
theorem var_bw {w w' : World} {n : String} {cs : Array Value} (h : BW w w') (hv : w.var? Tryz.prog n = some cs) : w'.var? Tryz.prog n = some cs := by
  unfold World.var? at hv ⊢
  cases hg : Tryz.prog.globalNamed n with
  | none => rw [hg] at hv; simp at hv
  | some g =>
    rw [hg] at hv
    simp only [Option.bind_some] at hv ⊢
    cases hb : w.heap[g]? with
    | none => rw [hb] at hv; simp at hv
    | some o => rw [h.blk hb, ← hb]; exact hv
theorem G.bw {w w' : World} (g : G w) (h : BW w w') : G w' := by
  obtain ⟨⟨m, hm⟩, hp, ⟨t, p, hs⟩, ⟨t2, p2, hr⟩, htz⟩ := g
  exact ⟨⟨m, (BW.cells h 0 0 (block_lt_of_cell hm)).trans hm⟩, var_bw h hp, ⟨t, p, var_bw h hs⟩, ⟨t2, p2, var_bw h hr⟩, (BW.cells h 7 15 (block_lt_of_cell htz)).trans htz⟩
theorem bw_freeze {w W : World} (h : BW w W) {a : Addr} (ha : w.heap.size ≤ a.block) (n : Nat) : BW w (W.freeze a n) := by
  unfold World.freeze
  split
  · exact h
  · refine ⟨h.os, h.tape, h.output, by simpa using h.size, fun k hk => ?_⟩
    have := Below.block h k hk
    simp only [Array.getElem?_modify]
    rw [if_neg (by omega)]
    exact this
theorem bw_bytesWorld (w : World) (t : TypeId) (s : ByteArray) : BW w (Lib.bytesWorld w t s) := by
  unfold Lib.bytesWorld
  exact bw_freeze ((BW.refl w).dr.al _) (Nat.le_refl _) 1
theorem bw_or {w w1 : World} {t : TypeId} {s : ByteArray} (h : w1 = w ∨ w1 = Lib.bytesWorld w t s) : BW w w1 := by
  rcases h with h | h
  · rw [h]; exact BW.refl _
  · rw [h]; exact bw_bytesWorld _ _ _
theorem str_eq {s : ByteArray} {l : List UInt8} : s = ⟨l.toArray⟩ ↔ s.data.toList = l := by
  constructor
  · rintro rfl; simp
  · rintro rfl; rfl
theorem numR_ok {s : List UInt8} {u : Nat} (hu : u < 18446744073709551616) (hp : parseUintB 64 s = .ok u) : NumR s u (decide (u ≤ 4294967296) && (decDigits u == s)) := by
  refine ⟨hu, fun h => ?_, fun m hm => ?_⟩
  · simp at h; exact h
  · obtain ⟨h1, h2⟩ := hm
    subst h2
    rw [parseB64_dec m (by omega)] at hp
    injection hp with hp
    subst hp
    simp [h1]
theorem numR_bad {s : List UInt8} {u : Nat} (hu : u < 18446744073709551616) (hp : ∀ m, parseUintB 64 s ≠ .ok m) : NumR s u false :=
  ⟨hu, fun h => Bool.noConfusion h, fun m hm => absurd (by have h2 := hm.2; rw [← h2]; exact parseB64_dec m (by have := hm.1; omega)) (hp m)⟩

set_option maxRecDepth 100000 in
set_option maxHeartbeats 800000 in
theorem number_any : NumberSaid G := by
  intro s w g hs
  have hsz : s.data.toList.length ≤ 5000 := hs
  cases hp : parseUintB 64 s.data.toList with
  | ok u =>
    have hu : u ≤ 18446744073709551615 := parseUintB_le hp
    have hR := numR_ok (by omega) hp
    have Hc := Hid.mk (Tryz.strconv_ParseUint_10_at64_ok s (by omega) u hp w)
    have Hp := Hid.mk hp; clear hp
    have HR := Hid.mk hR; clear hR
    have HG := Hid.mk g; clear g
    by_cases h32 : u ≤ 4294967296
    · have e1 : (((u : Int)) ≤ 4294967296) := by omega
      go_enter Tryz.func107, Tryz.ntmps107
      go_wp2_with (first
        | (go_at_call 136; refine Hc.out.mono ?_; rintro e w1 ⟨rfl, hw1⟩; have hN : BW w w1 := bw_or hw1; clear hw1; have HG1 := Hid.mk (HG.out.bw hN))
        | (go_at_call 105; refine (fmtUint_any u (by omega) _ HG1.out.pow).mono ?_; rintro e w2 ⟨rfl, hN2⟩))
      go_ret2
      exact ⟨u, (decDigits u == s.data.toList), by have := HR.out; simpa [h32] using this, by rw [← ByteArray.toList_eq]; rfl, hN.trans hN2⟩
    · have e1 : ¬ (((u : Int)) ≤ 4294967296) := by omega
      go_enter Tryz.func107, Tryz.ntmps107
      go_wp2_with (first
        | (go_at_call 136; refine Hc.out.mono ?_; rintro e w1 ⟨rfl, hw1⟩; have hN : BW w w1 := bw_or hw1; clear hw1; have HG1 := Hid.mk (HG.out.bw hN)))
      go_ret2
      exact ⟨u, false, by have := HR.out; simpa [h32] using this, rfl, hN⟩
  | range =>
    have hR := numR_bad (u := 18446744073709551615) (by omega) (s := s.data.toList) (fun m => by rw [hp]; simp)
    obtain ⟨t, p, hv⟩ := g.ran
    have Hc := Hid.mk (Tryz.strconv_ParseUint_10_at64_range_var s (by omega) hp t p w hv)
    have HR := Hid.mk hR; clear hR hp hv
    go_enter Tryz.func107, Tryz.ntmps107
    go_wp2_with (first
      | (go_at_call 136; refine Hc.out.mono ?_; rintro e w1 ⟨N, rfl, hN0, hN1, hN⟩; have hN' : BW w w1 := hN))
    go_ret2
    exact ⟨18446744073709551615, false, HR.out, rfl, hN'⟩
  | _ =>
    have hR := numR_bad (u := 0) (by omega) (s := s.data.toList) (fun m => by rw [hp]; simp)
    obtain ⟨t, p, hv⟩ := g.syn
    have Hc := Hid.mk (Tryz.strconv_ParseUint_10_at64_syntax_var s (by omega) hp t p w hv)
    have HR := Hid.mk hR; clear hR hp hv
    go_enter Tryz.func107, Tryz.ntmps107
    go_wp2_with (first
      | (go_at_call 136; refine Hc.out.mono ?_; rintro e w1 ⟨N, rfl, hN0, hN1, hN⟩; have hN' : BW w w1 := hN))
    go_ret2
    exact ⟨0, false, HR.out, rfl, hN'⟩
end Go.Proofs.YtncghggejenmbaaGreatDoor
