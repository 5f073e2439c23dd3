/- strconv.ParseUint(s, 16, 8). -/
import Derived.Test.YtncghggejenmbaaGreatDoorD2
import Derived.Test.YtncghggejenmbaaGreatDoorC3
import Derived.Lib.ParseIntBMem
import Derived.Laws.Strings3
import Derived.BigCall
import Derived.BigGuard
namespace Go.Proofs.YtncghggejenmbaaGreatDoor
open Go.RowKit Go.Proofs Go.Sort Go.Lib Go.Shelf
set_option linter.unusedSimpArgs false
set_option linter.unusedVariables false
/-- A hexadecimal digit's number, or none. -/
def hexOf (c : Nat) : Option Nat := if 48 ≤ c ∧ c ≤ 57 then some (c - 48) else if 97 ≤ (c ||| 32) ∧ (c ||| 32) ≤ 102 then some ((c ||| 32) - 87) else none
def pHex : Nat → List UInt8 → NumEnd Nat
  | acc, [] => .ok acc
  | acc, c :: t => match hexOf c.toNat with
    | none => Lib.NumEnd.syntax
    | some d => if 255 < acc * 16 + d then .range else pHex (acc * 16 + d) t
set_option maxRecDepth 100000 in
theorem pHex_hx (k : Nat) (hk : k < 256) : pHex 0 (hx k) = .ok k := by
  have : ∀ k : Fin 256, hexOf (hexDigit (k.val / 16)).toNat = some (k.val / 16) ∧ hexOf (hexDigit (k.val % 16)).toNat = some (k.val % 16) := by decide
  obtain ⟨h1, h2⟩ := this ⟨k, hk⟩
  simp only at h1 h2
  simp only [hx, pHex, h1, h2]
  rw [if_neg (by omega), if_neg (by omega)]
  congr 1; omega
set_option maxRecDepth 100000 in
theorem lowerNat (c : Nat) (hc : c < 256) : Go.bits .or .u8 (c : Int) 32 = ((c ||| 32 : Nat) : Int) ∧ (c ||| 32) < 256 := by
  have : ∀ c : Fin 256, Go.bits .or .u8 (c.val : Int) 32 = ((c.val ||| 32 : Nat) : Int) ∧ (c.val ||| 32) < 256 := by decide
  exact this ⟨c, hc⟩
theorem lower_any (c : Int) (w : World) : Calls Tryz.prog 164 #[.int .u8 c] w fun e w' => e = .returned (.int .u8 (Go.bits .or .u8 c 32)) ∧ w' = w := AnyPu.internal_strconv_lower { Tryz.laysPu14 with } c w
set_option maxHeartbeats 32000000 in
set_option maxRecDepth 100000 in
theorem hex150 (t : ByteArray) (hne : t.size ≠ 0) (hmax : t.size ≤ 9223372036854775806) (w : World) :
    Calls Tryz.prog 150 #[.string t, .int .i64 16, .int .i64 8] w fun e w' => e = .returned (Lib.uintTupleM 249 255 (pHex 0 t.data.toList)) ∧ w' = Lib.bytesWorld w 5 t := by
  have hemp : t.toList.isEmpty = false := by
    rw [← decide_eq_emptyBytes]
    exact decide_eq_false (fun h => hne (by rw [h]; rfl))
  have hcv := Lib.run_convert_string_bytes (P := Tryz.prog) w 9 90 5 t (u := .string) Tryz.underlying9 Tryz.underlying90 Tryz.underlying5
  have hB : ∀ j, j < t.size → (Lib.bytesWorld w 5 t).cell? ⟨w.heap.size, j, none⟩ = some (.int .u8 (t.data.toList.getD j 0).toNat) := fun j hj => Lib.bytesWorld_cell w 5 t j hj
  obtain ⟨W1, hW1⟩ : ∃ W1, W1 = Lib.bytesWorld w 5 t := ⟨_, rfl⟩
  rw [← hW1] at hcv hB ⊢
  clear hW1
  obtain ⟨bs, hL⟩ : ∃ bs, bs = t.data.toList := ⟨_, rfl⟩
  have hLn : bs.length = t.size := by rw [hL, Lib.size_eq]
  rw [← hL] at hB ⊢
  clear hL
  have hmv : IntKind.u64.wrap (IntKind.u64.wrap 256 - 1) = 255 := by
    rw [IntKind.wrap_u64, IntKind.wrap_u64]
    decide
  go_enter Tryz.func150, Tryz.ntmps150
  go_wp2
  go_loop [12, 13, 101] (fun vu vn vi => ∃ (k acc : Nat) (a : Int), vu = .bool false ∧ vn = .int .u64 a ∧ vi = .int .i64 k ∧ k ≤ t.size ∧ Hid (a = (acc : Int) ∧ acc ≤ 255 ∧ pHex 0 bs = pHex acc (bs.drop k)))
    (fun _ _ vi => t.size - (RowKit.intOf vi).toNat)
  case atStart => exact ⟨0, 0, 0, rfl, rfl, rfl, by omega, rfl, by omega, rfl⟩
  case round =>
    obtain ⟨k, acc, a, rfl, rfl, rfl, hk, hh⟩ := hrel
    obtain ⟨ha, hacc, hdec⟩ := hh.out
    clear hh
    have a0 : 0 ≤ a := by omega
    have a1 : a ≤ 255 := by omega
    by_cases hkn : k < t.size
    · have hc := hB k hkn
      have hdrop : bs.drop k = bs[k]'(by omega) :: bs.drop (k + 1) := List.drop_eq_getElem_cons (by omega)
      have hget : bs.getD k 0 = bs[k]'(by omega) := by simp [List.getD, List.getElem?_eq_getElem (show k < bs.length by omega)]
      rw [hdrop] at hdec
      rw [hget] at hc
      generalize bs[k]'(by omega) = c at hc hdec
      have hc256 : c.toNat < 256 := c.toNat_lt
      clear hB hdrop hget
      obtain ⟨hlo, hlo2⟩ := lowerNat c.toNat hc256
      generalize hlc : c.toNat ||| 32 = l at hlo hlo2
      by_cases hdig : 48 ≤ c.toNat ∧ c.toNat ≤ 57
      · obtain ⟨hd0, hd1⟩ := hdig
        have hof : hexOf c.toNat = some (c.toNat - 48) := by simp [hexOf, hd0, hd1]
        by_cases hov : 255 < acc * 16 + (c.toNat - 48)
        · have hF : pHex acc (c :: bs.drop (k + 1)) = .range := by simp [pHex, hof, hov]
          rw [hF] at hdec
          have iov : 255 < a * 16 + ((c.toNat : Int) - 48) := by omega
          clear hacc hF hov ha hlo hlc
          go_wp2
          go_ret2
          exact ⟨rfl, rfl⟩
        · have hF : pHex acc (c :: bs.drop (k + 1)) = pHex (acc * 16 + (c.toNat - 48)) (bs.drop (k + 1)) := by simp [pHex, hof, hov]
          have HN : Hid (a * 16 + ((c.toNat : Int) - 48) = ((acc * 16 + (c.toNat - 48) : Nat) : Int) ∧ acc * 16 + (c.toNat - 48) ≤ 255 ∧ pHex 0 bs = pHex (acc * 16 + (c.toNat - 48)) (bs.drop (k + 1))) := Lib.hid ⟨by omega, by omega, hdec.trans hF⟩
          have iov : a * 16 + ((c.toNat : Int) - 48) ≤ 255 := by omega
          clear hacc hF hov hdec ha hlo hlc
          go_wp2
          refine ⟨⟨k + 1, acc * 16 + (c.toNat - 48), a * 16 + ((c.toNat : Int) - 48), rfl, (by first | rfl | (congr 1; omega)), (by first | rfl | (congr 1; omega)), by omega, HN⟩, by simp [RowKit.intOf]; omega⟩
      · by_cases hdl : 97 ≤ l ∧ l ≤ 102
        · obtain ⟨hd0, hd1⟩ := hdl
          have hof : hexOf c.toNat = some (l - 87) := by simp [hexOf, hdig, hlc, hd0, hd1]
          have hd2 : l ≤ 122 := by omega
          have hn95 : ¬ ((c.toNat : Int) = 95) := by
            intro h
            have : c.toNat = 95 := by omega
            rw [this] at hlc
            have : (95 : Nat) ||| 32 = 127 := by decide
            omega
          have hd3 : (l : Int) - 97 + 10 < 16 := by omega
          have hndig : ¬ (48 ≤ (c.toNat : Int) ∧ (c.toNat : Int) ≤ 57) := by omega
          by_cases hov : 255 < acc * 16 + (l - 87)
          · have hF : pHex acc (c :: bs.drop (k + 1)) = .range := by simp [pHex, hof, hov]
            rw [hF] at hdec
            have iov : 255 < a * 16 + ((l : Int) - 97 + 10) := by omega
            clear hacc hF hov ha hlc hdig
            go_wp2_with (go_at_call 164; refine (lower_any _ _).mono ?_; rintro e w' ⟨rfl, rfl⟩)
            all_goals go_ret2
            all_goals exact ⟨by rw [hdec]; rfl, rfl⟩
          · have hF : pHex acc (c :: bs.drop (k + 1)) = pHex (acc * 16 + (l - 87)) (bs.drop (k + 1)) := by simp [pHex, hof, hov]
            have HN : Hid (a * 16 + ((l : Int) - 97 + 10) = ((acc * 16 + (l - 87) : Nat) : Int) ∧ acc * 16 + (l - 87) ≤ 255 ∧ pHex 0 bs = pHex (acc * 16 + (l - 87)) (bs.drop (k + 1))) := Lib.hid ⟨by omega, by omega, hdec.trans hF⟩
            have iov : a * 16 + ((l : Int) - 97 + 10) ≤ 255 := by omega
            clear hacc hF hov hdec ha hlc hdig
            go_wp2_with (go_at_call 164; refine (lower_any _ _).mono ?_; rintro e w' ⟨rfl, rfl⟩)
            all_goals refine ⟨⟨k + 1, acc * 16 + (l - 87), a * 16 + ((l : Int) - 97 + 10), rfl, (by first | rfl | (congr 1; omega)), (by first | rfl | (congr 1; omega)), by omega, HN⟩, by simp [RowKit.intOf]; omega⟩
        · have hF : pHex acc (c :: bs.drop (k + 1)) = Lib.NumEnd.syntax := by simp [pHex, hexOf, hdig, hlc, hdl]
          rw [hF] at hdec
          have hu0 : Go.bits .or .u8 95 32 = 127 := by decide
          have hdz : ¬ (48 ≤ (c.toNat : Int) ∧ (c.toNat : Int) ≤ 57) := by omega
          have hdy : (l : Int) < 97 ∨ 102 < (l : Int) := by omega
          clear hacc hF ha hlc hdig hdl
          go_wp2_with (go_at_call 164; refine (lower_any _ _).mono ?_; rintro e w' ⟨rfl, rfl⟩)
          all_goals go_ret2
          all_goals first | exact ⟨rfl, rfl⟩ | exact ⟨by rw [hdec]; rfl, rfl⟩
    · have hkk : k = t.size := by omega
      subst hkk
      have hF : pHex acc (bs.drop t.size) = .ok acc := by rw [List.drop_eq_nil_of_le (by omega)]; rfl
      rw [hF] at hdec
      subst ha
      clear hacc hF a0 a1
      go_wp2
      go_ret2
      exact ⟨rfl, rfl⟩
end Go.Proofs.YtncghggejenmbaaGreatDoor
