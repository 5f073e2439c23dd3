/- A Mac's text, by the program. (printed by gen_e3.py) -/
import Derived.Test.YtncghggejenmbaaGreatDoorE2
import Derived.Test.YtncghggejenmbaaGreatDoorD3
namespace Go.Proofs.YtncghggejenmbaaGreatDoor
open Go.RowKit Go.Proofs Go.Sort Go.Lib
set_option linter.unusedSimpArgs false
set_option linter.unusedVariables false
def macParts (m : M6) : List ByteArray := [bstr (hx m.a), bstr (hx m.b), bstr (hx m.c), bstr (hx m.d), bstr (hx m.e), bstr (hx m.f)]
theorem macText_join (m : M6) : Lib.join ((macParts m).map (·.data.toList)) (⟨#[58]⟩ : ByteArray).data.toList = m.text := by
  simp [macParts, Lib.join, bstr, M6.text, macText]
theorem hexText_cases (n : Nat) (hn : n < 256) : (∃ x, hexText n = [x] ∧ hx n = [48, x]) ∨ (∃ x y, hexText n = [x, y] ∧ hx n = [x, y]) := by
  unfold hexText
  split
  · rename_i h
    have e0 : n / 16 = 0 := by omega
    have e1 : n % 16 = n := by omega
    refine .inl ⟨_, rfl, ?_⟩
    simp [hx, e0, e1, hexDigit]
  · exact .inr ⟨_, _, rfl, rfl⟩
theorem cat0 (x : UInt8) : (⟨#[48]⟩ ++ ⟨#[x]⟩ : ByteArray) = ⟨#[48, x]⟩ := rfl
theorem cat1 (x : UInt8) : (⟨#[48, x]⟩ : ByteArray).extract 0 2 = ⟨#[48, x]⟩ := rfl
theorem cat2 (x y : UInt8) : (⟨#[48]⟩ ++ ⟨#[x, y]⟩ : ByteArray) = ⟨#[48, x, y]⟩ := rfl
theorem cat3 (x y : UInt8) : (⟨#[48, x, y]⟩ : ByteArray).extract 1 3 = ⟨#[x, y]⟩ := rfl
theorem idx0 (x0 x1 x2 x3 x4 x5 : Value) (W : World) : (Instr.index 29 (.agg #[x0, x1, x2, x3, x4, x5]) (.int .i64 0)).run Tryz.prog W = .ok x0 W := by
  simp [Instr.index, asIntOf, run_underlying Tryz.underlying29, part]
theorem idx1 (x0 x1 x2 x3 x4 x5 : Value) (W : World) : (Instr.index 29 (.agg #[x0, x1, x2, x3, x4, x5]) (.int .i64 1)).run Tryz.prog W = .ok x1 W := by
  simp [Instr.index, asIntOf, run_underlying Tryz.underlying29, part]
theorem idx2 (x0 x1 x2 x3 x4 x5 : Value) (W : World) : (Instr.index 29 (.agg #[x0, x1, x2, x3, x4, x5]) (.int .i64 2)).run Tryz.prog W = .ok x2 W := by
  simp [Instr.index, asIntOf, run_underlying Tryz.underlying29, part]
theorem idx3 (x0 x1 x2 x3 x4 x5 : Value) (W : World) : (Instr.index 29 (.agg #[x0, x1, x2, x3, x4, x5]) (.int .i64 3)).run Tryz.prog W = .ok x3 W := by
  simp [Instr.index, asIntOf, run_underlying Tryz.underlying29, part]
theorem idx4 (x0 x1 x2 x3 x4 x5 : Value) (W : World) : (Instr.index 29 (.agg #[x0, x1, x2, x3, x4, x5]) (.int .i64 4)).run Tryz.prog W = .ok x4 W := by
  simp [Instr.index, asIntOf, run_underlying Tryz.underlying29, part]
theorem idx5 (x0 x1 x2 x3 x4 x5 : Value) (W : World) : (Instr.index 29 (.agg #[x0, x1, x2, x3, x4, x5]) (.int .i64 5)).run Tryz.prog W = .ok x5 W := by
  simp [Instr.index, asIntOf, run_underlying Tryz.underlying29, part]
set_option maxRecDepth 100000 in
set_option maxHeartbeats 4000000 in
theorem macText_any (m : M6) (hm : m.In) (w : World) (g : G w) (hs : 7 < w.heap.size) (hc : w.cell? ⟨7, 15, none⟩ = some (.int .u8 4)) :
    Calls Tryz.prog 109 #[m.val] w fun e w' => e = .returned (.string (bstr m.text)) ∧ BW w w' := by
  obtain ⟨i0, hi, hz0, hz1, hz2⟩ := info_parts (show (Tryz.prog.info? 9).map (fun i => (i.zero, i.size, i.bytes)) = some (some (.string ⟨#[]⟩), 1, 16) by kernel_rfl)
  have Hg := Hid.mk g; clear g
  obtain ⟨ma, mb, mc, md, me, mf⟩ := m
  obtain ⟨m0, m1, m2, m3, m4, m5⟩ := hm
  simp only at m0 m1 m2 m3 m4 m5
  go_enter Tryz.func109, Tryz.ntmps109
  go_wp2
  go_loopw [3, 8] (fun v i wr => ∃ j : Nat, j ≤ 6 ∧ i = .int .i64 (j : Int) ∧ wr.ownsRow w.heap.size 9 1 v j (((macParts ⟨ma, mb, mc, md, me, mf⟩).take j).map Value.string) ∧ BW w wr) (fun _ i _ => (6 - RowKit.intOf i).toNat)
  case atStart => exact ⟨0, by omega, rfl, World.ownsRow_nil _ _ _ _, BW.alloc _ _⟩
  case round =>
    obtain ⟨j, hj, rfl, hown, hbw⟩ := hrel
    have Hb := Hid.mk hbw; clear hbw
    have hjj : j = 0 ∨ j = 1 ∨ j = 2 ∨ j = 3 ∨ j = 4 ∨ j = 5 ∨ j = 6 := by omega
    rcases hjj with rfl | rfl | rfl | rfl | rfl | rfl | rfl
    · rcases hexText_cases ma m0 with ⟨x, e1, e2⟩ | ⟨x, y, e1, e2⟩
      · have hid := idx0
        have k0 := cat0; have k1 := cat1; have k2 := cat2; have k3 := cat3
        go_wp2_with (first
          | (go_at_call 105; refine (fmtUintHex_any ma m0 _ (Nat.lt_of_lt_of_le hs Hb.out.le) ((BW.cells Hb.out 7 15 hs).trans hc)).mono ?_; rw [e1]; rintro e w1 ⟨rfl, hN⟩)
          | (at_builtin; refine wpList_append_own _ rfl _ _ 57 rfl w.heap.size 9 i0 (.string ⟨#[]⟩) 1 16 Tryz.underlying57 hi hz0 hz1 hz2 rfl (by decide) _ _ _ rfl ((own_bw hN hown).alloc _) ⟨w1.heap.size, 0, none⟩ 1 1 [.string ⟨#[48, x]⟩] rfl rfl (cell_one_new _ _ _) (by simp [Value.oneCell']) (by simp [maxLen]) (by simp) (by have := (Hb.out.trans hN).le; simp; omega) ?_; intro v' w2 hown' hgrow _))
        go_roundw
        case rel => exact ⟨1, by omega, by go_num, by simpa [macParts, bstr, e2] using hown', ((Hb.out.trans hN).al _).own ((own_bw hN hown).alloc _) hgrow⟩
        case measure => simp [RowKit.intOf]
      · have hid := idx0
        have k0 := cat0; have k1 := cat1; have k2 := cat2; have k3 := cat3
        go_wp2_with (first
          | (go_at_call 105; refine (fmtUintHex_any ma m0 _ (Nat.lt_of_lt_of_le hs Hb.out.le) ((BW.cells Hb.out 7 15 hs).trans hc)).mono ?_; rw [e1]; rintro e w1 ⟨rfl, hN⟩)
          | (at_builtin; refine wpList_append_own _ rfl _ _ 57 rfl w.heap.size 9 i0 (.string ⟨#[]⟩) 1 16 Tryz.underlying57 hi hz0 hz1 hz2 rfl (by decide) _ _ _ rfl ((own_bw hN hown).alloc _) ⟨w1.heap.size, 0, none⟩ 1 1 [.string ⟨#[x, y]⟩] rfl rfl (cell_one_new _ _ _) (by simp [Value.oneCell']) (by simp [maxLen]) (by simp) (by have := (Hb.out.trans hN).le; simp; omega) ?_; intro v' w2 hown' hgrow _))
        go_roundw
        case rel => exact ⟨1, by omega, by go_num, by simpa [macParts, bstr, e2] using hown', ((Hb.out.trans hN).al _).own ((own_bw hN hown).alloc _) hgrow⟩
        case measure => simp [RowKit.intOf]
    · rcases hexText_cases mb m1 with ⟨x, e1, e2⟩ | ⟨x, y, e1, e2⟩
      · have hid := idx1
        have k0 := cat0; have k1 := cat1; have k2 := cat2; have k3 := cat3
        go_wp2_with (first
          | (go_at_call 105; refine (fmtUintHex_any mb m1 _ (Nat.lt_of_lt_of_le hs Hb.out.le) ((BW.cells Hb.out 7 15 hs).trans hc)).mono ?_; rw [e1]; rintro e w1 ⟨rfl, hN⟩)
          | (at_builtin; refine wpList_append_own _ rfl _ _ 57 rfl w.heap.size 9 i0 (.string ⟨#[]⟩) 1 16 Tryz.underlying57 hi hz0 hz1 hz2 rfl (by decide) _ _ _ rfl ((own_bw hN hown).alloc _) ⟨w1.heap.size, 0, none⟩ 1 1 [.string ⟨#[48, x]⟩] rfl rfl (cell_one_new _ _ _) (by simp [Value.oneCell']) (by simp [maxLen]) (by simp) (by have := (Hb.out.trans hN).le; simp; omega) ?_; intro v' w2 hown' hgrow _))
        go_roundw
        case rel => exact ⟨2, by omega, by go_num, by simpa [macParts, bstr, e2] using hown', ((Hb.out.trans hN).al _).own ((own_bw hN hown).alloc _) hgrow⟩
        case measure => simp [RowKit.intOf]
      · have hid := idx1
        have k0 := cat0; have k1 := cat1; have k2 := cat2; have k3 := cat3
        go_wp2_with (first
          | (go_at_call 105; refine (fmtUintHex_any mb m1 _ (Nat.lt_of_lt_of_le hs Hb.out.le) ((BW.cells Hb.out 7 15 hs).trans hc)).mono ?_; rw [e1]; rintro e w1 ⟨rfl, hN⟩)
          | (at_builtin; refine wpList_append_own _ rfl _ _ 57 rfl w.heap.size 9 i0 (.string ⟨#[]⟩) 1 16 Tryz.underlying57 hi hz0 hz1 hz2 rfl (by decide) _ _ _ rfl ((own_bw hN hown).alloc _) ⟨w1.heap.size, 0, none⟩ 1 1 [.string ⟨#[x, y]⟩] rfl rfl (cell_one_new _ _ _) (by simp [Value.oneCell']) (by simp [maxLen]) (by simp) (by have := (Hb.out.trans hN).le; simp; omega) ?_; intro v' w2 hown' hgrow _))
        go_roundw
        case rel => exact ⟨2, by omega, by go_num, by simpa [macParts, bstr, e2] using hown', ((Hb.out.trans hN).al _).own ((own_bw hN hown).alloc _) hgrow⟩
        case measure => simp [RowKit.intOf]
    · rcases hexText_cases mc m2 with ⟨x, e1, e2⟩ | ⟨x, y, e1, e2⟩
      · have hid := idx2
        have k0 := cat0; have k1 := cat1; have k2 := cat2; have k3 := cat3
        go_wp2_with (first
          | (go_at_call 105; refine (fmtUintHex_any mc m2 _ (Nat.lt_of_lt_of_le hs Hb.out.le) ((BW.cells Hb.out 7 15 hs).trans hc)).mono ?_; rw [e1]; rintro e w1 ⟨rfl, hN⟩)
          | (at_builtin; refine wpList_append_own _ rfl _ _ 57 rfl w.heap.size 9 i0 (.string ⟨#[]⟩) 1 16 Tryz.underlying57 hi hz0 hz1 hz2 rfl (by decide) _ _ _ rfl ((own_bw hN hown).alloc _) ⟨w1.heap.size, 0, none⟩ 1 1 [.string ⟨#[48, x]⟩] rfl rfl (cell_one_new _ _ _) (by simp [Value.oneCell']) (by simp [maxLen]) (by simp) (by have := (Hb.out.trans hN).le; simp; omega) ?_; intro v' w2 hown' hgrow _))
        go_roundw
        case rel => exact ⟨3, by omega, by go_num, by simpa [macParts, bstr, e2] using hown', ((Hb.out.trans hN).al _).own ((own_bw hN hown).alloc _) hgrow⟩
        case measure => simp [RowKit.intOf]
      · have hid := idx2
        have k0 := cat0; have k1 := cat1; have k2 := cat2; have k3 := cat3
        go_wp2_with (first
          | (go_at_call 105; refine (fmtUintHex_any mc m2 _ (Nat.lt_of_lt_of_le hs Hb.out.le) ((BW.cells Hb.out 7 15 hs).trans hc)).mono ?_; rw [e1]; rintro e w1 ⟨rfl, hN⟩)
          | (at_builtin; refine wpList_append_own _ rfl _ _ 57 rfl w.heap.size 9 i0 (.string ⟨#[]⟩) 1 16 Tryz.underlying57 hi hz0 hz1 hz2 rfl (by decide) _ _ _ rfl ((own_bw hN hown).alloc _) ⟨w1.heap.size, 0, none⟩ 1 1 [.string ⟨#[x, y]⟩] rfl rfl (cell_one_new _ _ _) (by simp [Value.oneCell']) (by simp [maxLen]) (by simp) (by have := (Hb.out.trans hN).le; simp; omega) ?_; intro v' w2 hown' hgrow _))
        go_roundw
        case rel => exact ⟨3, by omega, by go_num, by simpa [macParts, bstr, e2] using hown', ((Hb.out.trans hN).al _).own ((own_bw hN hown).alloc _) hgrow⟩
        case measure => simp [RowKit.intOf]
    · rcases hexText_cases md m3 with ⟨x, e1, e2⟩ | ⟨x, y, e1, e2⟩
      · have hid := idx3
        have k0 := cat0; have k1 := cat1; have k2 := cat2; have k3 := cat3
        go_wp2_with (first
          | (go_at_call 105; refine (fmtUintHex_any md m3 _ (Nat.lt_of_lt_of_le hs Hb.out.le) ((BW.cells Hb.out 7 15 hs).trans hc)).mono ?_; rw [e1]; rintro e w1 ⟨rfl, hN⟩)
          | (at_builtin; refine wpList_append_own _ rfl _ _ 57 rfl w.heap.size 9 i0 (.string ⟨#[]⟩) 1 16 Tryz.underlying57 hi hz0 hz1 hz2 rfl (by decide) _ _ _ rfl ((own_bw hN hown).alloc _) ⟨w1.heap.size, 0, none⟩ 1 1 [.string ⟨#[48, x]⟩] rfl rfl (cell_one_new _ _ _) (by simp [Value.oneCell']) (by simp [maxLen]) (by simp) (by have := (Hb.out.trans hN).le; simp; omega) ?_; intro v' w2 hown' hgrow _))
        go_roundw
        case rel => exact ⟨4, by omega, by go_num, by simpa [macParts, bstr, e2] using hown', ((Hb.out.trans hN).al _).own ((own_bw hN hown).alloc _) hgrow⟩
        case measure => simp [RowKit.intOf]
      · have hid := idx3
        have k0 := cat0; have k1 := cat1; have k2 := cat2; have k3 := cat3
        go_wp2_with (first
          | (go_at_call 105; refine (fmtUintHex_any md m3 _ (Nat.lt_of_lt_of_le hs Hb.out.le) ((BW.cells Hb.out 7 15 hs).trans hc)).mono ?_; rw [e1]; rintro e w1 ⟨rfl, hN⟩)
          | (at_builtin; refine wpList_append_own _ rfl _ _ 57 rfl w.heap.size 9 i0 (.string ⟨#[]⟩) 1 16 Tryz.underlying57 hi hz0 hz1 hz2 rfl (by decide) _ _ _ rfl ((own_bw hN hown).alloc _) ⟨w1.heap.size, 0, none⟩ 1 1 [.string ⟨#[x, y]⟩] rfl rfl (cell_one_new _ _ _) (by simp [Value.oneCell']) (by simp [maxLen]) (by simp) (by have := (Hb.out.trans hN).le; simp; omega) ?_; intro v' w2 hown' hgrow _))
        go_roundw
        case rel => exact ⟨4, by omega, by go_num, by simpa [macParts, bstr, e2] using hown', ((Hb.out.trans hN).al _).own ((own_bw hN hown).alloc _) hgrow⟩
        case measure => simp [RowKit.intOf]
    · rcases hexText_cases me m4 with ⟨x, e1, e2⟩ | ⟨x, y, e1, e2⟩
      · have hid := idx4
        have k0 := cat0; have k1 := cat1; have k2 := cat2; have k3 := cat3
        go_wp2_with (first
          | (go_at_call 105; refine (fmtUintHex_any me m4 _ (Nat.lt_of_lt_of_le hs Hb.out.le) ((BW.cells Hb.out 7 15 hs).trans hc)).mono ?_; rw [e1]; rintro e w1 ⟨rfl, hN⟩)
          | (at_builtin; refine wpList_append_own _ rfl _ _ 57 rfl w.heap.size 9 i0 (.string ⟨#[]⟩) 1 16 Tryz.underlying57 hi hz0 hz1 hz2 rfl (by decide) _ _ _ rfl ((own_bw hN hown).alloc _) ⟨w1.heap.size, 0, none⟩ 1 1 [.string ⟨#[48, x]⟩] rfl rfl (cell_one_new _ _ _) (by simp [Value.oneCell']) (by simp [maxLen]) (by simp) (by have := (Hb.out.trans hN).le; simp; omega) ?_; intro v' w2 hown' hgrow _))
        go_roundw
        case rel => exact ⟨5, by omega, by go_num, by simpa [macParts, bstr, e2] using hown', ((Hb.out.trans hN).al _).own ((own_bw hN hown).alloc _) hgrow⟩
        case measure => simp [RowKit.intOf]
      · have hid := idx4
        have k0 := cat0; have k1 := cat1; have k2 := cat2; have k3 := cat3
        go_wp2_with (first
          | (go_at_call 105; refine (fmtUintHex_any me m4 _ (Nat.lt_of_lt_of_le hs Hb.out.le) ((BW.cells Hb.out 7 15 hs).trans hc)).mono ?_; rw [e1]; rintro e w1 ⟨rfl, hN⟩)
          | (at_builtin; refine wpList_append_own _ rfl _ _ 57 rfl w.heap.size 9 i0 (.string ⟨#[]⟩) 1 16 Tryz.underlying57 hi hz0 hz1 hz2 rfl (by decide) _ _ _ rfl ((own_bw hN hown).alloc _) ⟨w1.heap.size, 0, none⟩ 1 1 [.string ⟨#[x, y]⟩] rfl rfl (cell_one_new _ _ _) (by simp [Value.oneCell']) (by simp [maxLen]) (by simp) (by have := (Hb.out.trans hN).le; simp; omega) ?_; intro v' w2 hown' hgrow _))
        go_roundw
        case rel => exact ⟨5, by omega, by go_num, by simpa [macParts, bstr, e2] using hown', ((Hb.out.trans hN).al _).own ((own_bw hN hown).alloc _) hgrow⟩
        case measure => simp [RowKit.intOf]
    · rcases hexText_cases mf m5 with ⟨x, e1, e2⟩ | ⟨x, y, e1, e2⟩
      · have hid := idx5
        have k0 := cat0; have k1 := cat1; have k2 := cat2; have k3 := cat3
        go_wp2_with (first
          | (go_at_call 105; refine (fmtUintHex_any mf m5 _ (Nat.lt_of_lt_of_le hs Hb.out.le) ((BW.cells Hb.out 7 15 hs).trans hc)).mono ?_; rw [e1]; rintro e w1 ⟨rfl, hN⟩)
          | (at_builtin; refine wpList_append_own _ rfl _ _ 57 rfl w.heap.size 9 i0 (.string ⟨#[]⟩) 1 16 Tryz.underlying57 hi hz0 hz1 hz2 rfl (by decide) _ _ _ rfl ((own_bw hN hown).alloc _) ⟨w1.heap.size, 0, none⟩ 1 1 [.string ⟨#[48, x]⟩] rfl rfl (cell_one_new _ _ _) (by simp [Value.oneCell']) (by simp [maxLen]) (by simp) (by have := (Hb.out.trans hN).le; simp; omega) ?_; intro v' w2 hown' hgrow _))
        go_roundw
        case rel => exact ⟨6, by omega, by go_num, by simpa [macParts, bstr, e2] using hown', ((Hb.out.trans hN).al _).own ((own_bw hN hown).alloc _) hgrow⟩
        case measure => simp [RowKit.intOf]
      · have hid := idx5
        have k0 := cat0; have k1 := cat1; have k2 := cat2; have k3 := cat3
        go_wp2_with (first
          | (go_at_call 105; refine (fmtUintHex_any mf m5 _ (Nat.lt_of_lt_of_le hs Hb.out.le) ((BW.cells Hb.out 7 15 hs).trans hc)).mono ?_; rw [e1]; rintro e w1 ⟨rfl, hN⟩)
          | (at_builtin; refine wpList_append_own _ rfl _ _ 57 rfl w.heap.size 9 i0 (.string ⟨#[]⟩) 1 16 Tryz.underlying57 hi hz0 hz1 hz2 rfl (by decide) _ _ _ rfl ((own_bw hN hown).alloc _) ⟨w1.heap.size, 0, none⟩ 1 1 [.string ⟨#[x, y]⟩] rfl rfl (cell_one_new _ _ _) (by simp [Value.oneCell']) (by simp [maxLen]) (by simp) (by have := (Hb.out.trans hN).le; simp; omega) ?_; intro v' w2 hown' hgrow _))
        go_roundw
        case rel => exact ⟨6, by omega, by go_num, by simpa [macParts, bstr, e2] using hown', ((Hb.out.trans hN).al _).own ((own_bw hN hown).alloc _) hgrow⟩
        case measure => simp [RowKit.intOf]
    · obtain ⟨gb, cap, rfl, hgb, hcap, hlen, hcells⟩ := own_strings hown (by simp)
      have hJ := Hid.mk (Tryz.strings_Join gb 0 cap (macParts ⟨ma, mb, mc, md, me, mf⟩) ⟨#[58]⟩ wr hcells hgb (by simp [macParts]) (by simpa [macParts] using hcap) (by
        simp [macParts, Lib.join, bstr, hx]))
      clear hown hcells hlen hcap
      go_wp2_with (go_at_call 134; refine hJ.out.mono ?_; rintro e w1 ⟨rfl, hN⟩)
      go_ret
      exact ⟨ret_eq (by rw [macText_join]; rfl), Hb.out.trans hN⟩
end Go.Proofs.YtncghggejenmbaaGreatDoor
