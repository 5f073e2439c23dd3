/- An Ip's text, by the program. -/
import Derived.Test.YtncghggejenmbaaGreatDoorD2
import Derived.Test.YtncghggejenmbaaGreatDoorC3
import Derived.OwnWalk
import Derived.Maps.AppendAt
namespace Go.Proofs.YtncghggejenmbaaGreatDoor
open Go.RowKit Go.Proofs Go.Sort Go.Lib
set_option linter.unusedSimpArgs false
set_option linter.unusedVariables false
def bstr (l : List UInt8) : ByteArray := ⟨l.toArray⟩
def ipByte (n j : Nat) : Nat := n / 2 ^ (24 - 8 * j) % 256
def ipParts (n : Nat) : List ByteArray := [bstr (decDigits (ipByte n 0)), bstr (decDigits (ipByte n 1)), bstr (decDigits (ipByte n 2)), bstr (decDigits (ipByte n 3))]
theorem ipText_join (n : Nat) (hn : n < 4294967296) : Lib.join ((ipParts n).map (·.data.toList)) (⟨#[46]⟩ : ByteArray).data.toList = ipText n := by
  have e0 : ipByte n 0 = n / 16777216 := by unfold ipByte; simp only [Nat.reduceMul, Nat.reduceSub, Nat.reducePow]; omega
  have e1 : ipByte n 1 = n / 65536 % 256 := rfl
  have e2 : ipByte n 2 = n / 256 % 256 := rfl
  have e3 : ipByte n 3 = n % 256 := by unfold ipByte; simp
  simp [ipParts, Lib.join, bstr, ipText, e0, e1, e2, e3]
theorem u32_and255 (x : Int) (h0 : 0 ≤ x) (h1 : x < 4294967296) : Go.bits .and .u32 x 255 = x % 256 := bits_mask .u32 32 (by decide) (fun n h0 h1 => by rw [IntKind.wrap_u32]; omega) 8 (by decide) x h0 h1
theorem G.al {w : World} (g : G w) (o : Obj) : G (w.alloc o) := g.bw (BW.alloc w o)
theorem ownsRow_block_le {w : World} {b t sz n : Nat} {v : Value} {xs : List Value} (h : w.ownsRow b t sz v n xs) {k : Nat} (hk : v.ownBlock = some k) : b ≤ k := by
  obtain ⟨_, ⟨rfl, _⟩ | ⟨g, cap, cur, rfl, hb, _⟩⟩ := h
  · cases hk
  · cases hk; exact hb
theorem own_strings {w : World} {b t n : Nat} {v : Value} {xs : List ByteArray} (h : w.ownsRow b t 1 v n (xs.map Value.string)) (hn : n ≠ 0) :
    ∃ g cap, v = .slice (some ⟨g, 0, none⟩) n cap ∧ g < w.heap.size ∧ n ≤ cap ∧ n = xs.length ∧ ∀ (j : Nat) x, xs[j]? = some x → w.cell? ⟨g, 0 + j, none⟩ = some (.string x) := by
  obtain ⟨hl, ⟨_, h0⟩ | ⟨g, cap, cur, rfl, hb, hg, hc, _, _, ht⟩⟩ := h
  · exact absurd h0 hn
  · have hlt : g < w.heap.size := by
      rcases Nat.lt_or_ge g w.heap.size with h' | h'
      · exact h'
      · simp [Array.getElem?_eq_none h'] at hg
    refine ⟨g, cap, rfl, hlt, hc, by simpa using hl.symm, fun j x hx => ?_⟩
    rw [cell_of_row w g (0 + j) cur t (0, 0) hg, Nat.zero_add]
    have h1 : (cur.toList.take (n * 1))[j]? = some (Value.string x) := by rw [ht]; simp [hx]
    have hj : j < n * 1 := by
      rcases Nat.lt_or_ge j (n * 1) with h' | h'
      · exact h'
      · rw [List.getElem?_eq_none (by simp; omega)] at h1; cases h1
    rw [List.getElem?_take_of_lt hj] at h1
    simpa using h1
theorem itoa_byte (x : Int) (k : Nat) (h : x = (k : Int)) (hk : k < 256) (w : World) (g : G w) : Calls Tryz.prog 133 #[.int .i64 x] w fun e w' => e = .returned (.string (bstr (decDigits k))) ∧ BW w w' := by
  subst h
  refine (Tryz.strconv_Itoa (k : Int) (by omega) (by omega) w g.pow).mono ?_
  rintro e w' ⟨rfl, a, os, rfl⟩
  exact ⟨by rw [itoa_nonneg]; rfl, bw_grow' _ _ _⟩
theorem own_bw {w W : World} (h : BW w W) {b t sz n : Nat} {v : Value} {xs : List Value} (ho : w.ownsRow b t sz v n xs) : W.ownsRow b t sz v n xs := by
  obtain ⟨hl, h0 | ⟨g, cap, cur, rfl, hb, hg, r⟩⟩ := ho
  · exact ⟨hl, .inl h0⟩
  · exact ⟨hl, .inr ⟨g, cap, cur, rfl, hb, h.blk hg, r⟩⟩
theorem BW.own {w W W' : World} (h : BW w W) {t : TypeId} {sz n : Nat} {v : Value} {xs : List Value} (ho : W.ownsRow w.heap.size t sz v n xs) (hg : W.grownBy W' v.ownBlock) : BW w W' :=
  Below.grown h hg h.size (fun k hk => ownsRow_block_le ho hk)

set_option maxRecDepth 100000 in
set_option maxHeartbeats 1600000 in
theorem ipText_any (n : Nat) (hn : n < 4294967296) (w : World) (g : G w) :
    Calls Tryz.prog 101 #[.int .u32 (n : Int)] w fun e w' => e = .returned (.string (bstr (ipText n))) ∧ BW w w' := by
  obtain ⟨i0, hi, hz0, hz1, hz2⟩ := info_parts (show (Tryz.prog.info? 9).map (fun i => (i.zero, i.size, i.bytes)) = some (some (.string ⟨#[]⟩), 1, 16) by kernel_rfl)
  have Hg := Hid.mk g; clear g
  go_enter Tryz.func101, Tryz.ntmps101
  go_wp2
  go_loopw [3, 4] (fun v s wr => ∃ j : Nat, j ≤ 4 ∧ s = .int .i64 (24 - 8 * (j : Int)) ∧ wr.ownsRow w.heap.size 9 1 v j (((ipParts n).take j).map Value.string) ∧ BW w wr) (fun _ s _ => (8 + RowKit.intOf s).toNat)
  case atStart => exact ⟨0, by omega, rfl, World.ownsRow_nil _ _ _ _, BW.refl _⟩
  case round =>
    obtain ⟨j, hj, rfl, hown, hbw⟩ := hrel
    have Hb := Hid.mk hbw; clear hbw
    have hjj : j = 0 ∨ j = 1 ∨ j = 2 ∨ j = 3 ∨ j = 4 := by omega
    have r1 : Go.bits .and .u32 ((n : Int) / 16777216) 255 = (n : Int) / 16777216 % 256 := u32_and255 _ (by omega) (by omega)
    have r2 : Go.bits .and .u32 ((n : Int) / 65536) 255 = (n : Int) / 65536 % 256 := u32_and255 _ (by omega) (by omega)
    have r3 : Go.bits .and .u32 ((n : Int) / 256) 255 = (n : Int) / 256 % 256 := u32_and255 _ (by omega) (by omega)
    have r4 : Go.bits .and .u32 (n : Int) 255 = (n : Int) % 256 := u32_and255 _ (by omega) (by omega)
    rcases hjj with rfl | rfl | rfl | rfl | rfl
    · have hb1 : ((n : Int) / 16777216 % 256 : Int) = (ipByte n 0 : Int) := by unfold ipByte; simp only [Nat.reduceMul, Nat.reduceSub, Nat.reducePow]; omega
      have Hb1 := Hid.mk hb1; clear hb1
      go_wp2_with (first
        | (go_at_call 133; refine (itoa_byte _ (ipByte n 0) Hb1.out (by unfold ipByte; omega) _ (Hg.out.bw Hb.out)).mono ?_; rintro e w1 ⟨rfl, hN⟩)
        | (at_builtin; refine wpList_append_own _ rfl _ _ 57 rfl w.heap.size 9 i0 (.string ⟨#[]⟩) 1 16 Tryz.underlying57 hi hz0 hz1 hz2 rfl (by decide) _ _ _ rfl ((own_bw hN hown).alloc _) ⟨w1.heap.size, 0, none⟩ 1 1 [.string (bstr (decDigits (ipByte n 0)))] rfl rfl (cell_one_new _ _ _) (by simp [Value.oneCell']) (by simp [maxLen]) (by simp) (by have := (Hb.out.trans hN).le; simp; omega) ?_; intro v' w2 hown' hgrow _))
      go_roundw
      case rel => exact ⟨1, by omega, by go_num, by simpa [ipParts] using hown', ((Hb.out.trans hN).al _).own ((own_bw hN hown).alloc _) hgrow⟩
      case measure => simp [RowKit.intOf]
    · have hb1 : ((n : Int) / 65536 % 256 : Int) = (ipByte n 1 : Int) := by unfold ipByte; simp only [Nat.reduceMul, Nat.reduceSub, Nat.reducePow]; omega
      have Hb1 := Hid.mk hb1; clear hb1
      go_wp2_with (first
        | (go_at_call 133; refine (itoa_byte _ (ipByte n 1) Hb1.out (by unfold ipByte; omega) _ (Hg.out.bw Hb.out)).mono ?_; rintro e w1 ⟨rfl, hN⟩)
        | (at_builtin; refine wpList_append_own _ rfl _ _ 57 rfl w.heap.size 9 i0 (.string ⟨#[]⟩) 1 16 Tryz.underlying57 hi hz0 hz1 hz2 rfl (by decide) _ _ _ rfl ((own_bw hN hown).alloc _) ⟨w1.heap.size, 0, none⟩ 1 1 [.string (bstr (decDigits (ipByte n 1)))] rfl rfl (cell_one_new _ _ _) (by simp [Value.oneCell']) (by simp [maxLen]) (by simp) (by have := (Hb.out.trans hN).le; simp; omega) ?_; intro v' w2 hown' hgrow _))
      go_roundw
      case rel => exact ⟨2, by omega, by go_num, by simpa [ipParts] using hown', ((Hb.out.trans hN).al _).own ((own_bw hN hown).alloc _) hgrow⟩
      case measure => simp [RowKit.intOf]
    · have hb1 : ((n : Int) / 256 % 256 : Int) = (ipByte n 2 : Int) := by unfold ipByte; simp only [Nat.reduceMul, Nat.reduceSub, Nat.reducePow]; omega
      have Hb1 := Hid.mk hb1; clear hb1
      go_wp2_with (first
        | (go_at_call 133; refine (itoa_byte _ (ipByte n 2) Hb1.out (by unfold ipByte; omega) _ (Hg.out.bw Hb.out)).mono ?_; rintro e w1 ⟨rfl, hN⟩)
        | (at_builtin; refine wpList_append_own _ rfl _ _ 57 rfl w.heap.size 9 i0 (.string ⟨#[]⟩) 1 16 Tryz.underlying57 hi hz0 hz1 hz2 rfl (by decide) _ _ _ rfl ((own_bw hN hown).alloc _) ⟨w1.heap.size, 0, none⟩ 1 1 [.string (bstr (decDigits (ipByte n 2)))] rfl rfl (cell_one_new _ _ _) (by simp [Value.oneCell']) (by simp [maxLen]) (by simp) (by have := (Hb.out.trans hN).le; simp; omega) ?_; intro v' w2 hown' hgrow _))
      go_roundw
      case rel => exact ⟨3, by omega, by go_num, by simpa [ipParts] using hown', ((Hb.out.trans hN).al _).own ((own_bw hN hown).alloc _) hgrow⟩
      case measure => simp [RowKit.intOf]
    · have hb1 : ((n : Int) % 256 : Int) = (ipByte n 3 : Int) := by unfold ipByte; simp only [Nat.reduceMul, Nat.reduceSub, Nat.reducePow]; omega
      have Hb1 := Hid.mk hb1; clear hb1
      go_wp2_with (first
        | (go_at_call 133; refine (itoa_byte _ (ipByte n 3) Hb1.out (by unfold ipByte; omega) _ (Hg.out.bw Hb.out)).mono ?_; rintro e w1 ⟨rfl, hN⟩)
        | (at_builtin; refine wpList_append_own _ rfl _ _ 57 rfl w.heap.size 9 i0 (.string ⟨#[]⟩) 1 16 Tryz.underlying57 hi hz0 hz1 hz2 rfl (by decide) _ _ _ rfl ((own_bw hN hown).alloc _) ⟨w1.heap.size, 0, none⟩ 1 1 [.string (bstr (decDigits (ipByte n 3)))] rfl rfl (cell_one_new _ _ _) (by simp [Value.oneCell']) (by simp [maxLen]) (by simp) (by have := (Hb.out.trans hN).le; simp; omega) ?_; intro v' w2 hown' hgrow _))
      go_roundw
      case rel => exact ⟨4, by omega, by go_num, by simpa [ipParts] using hown', ((Hb.out.trans hN).al _).own ((own_bw hN hown).alloc _) hgrow⟩
      case measure => simp [RowKit.intOf]
    · obtain ⟨gb, cap, rfl, hgb, hcap, hlen, hcells⟩ := own_strings hown (by simp)
      have hJ := Hid.mk (Tryz.strings_Join gb 0 cap (ipParts n) ⟨#[46]⟩ wr hcells hgb (by simp [ipParts]) (by simpa [ipParts] using hcap) (by
        have h0 := dec_len_byte (ipByte n 0) (by unfold ipByte; omega)
        have h1 := dec_len_byte (ipByte n 1) (by unfold ipByte; omega)
        have h2 := dec_len_byte (ipByte n 2) (by unfold ipByte; omega)
        have h3 := dec_len_byte (ipByte n 3) (by unfold ipByte; omega)
        simp [ipParts, Lib.join, bstr]
        omega))
      clear hown hcells hlen hcap
      go_wp2_with (go_at_call 134; refine hJ.out.mono ?_; rintro e w1 ⟨rfl, hN⟩)
      go_ret
      exact ⟨ret_eq (by rw [ipText_join n hn]; rfl), Hb.out.trans hN⟩
end Go.Proofs.YtncghggejenmbaaGreatDoor
