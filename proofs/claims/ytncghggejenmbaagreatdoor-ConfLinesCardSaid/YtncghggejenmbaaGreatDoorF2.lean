/- strconv.ParseUint(s, 16, 8), the exported one. -/
import Derived.Test.YtncghggejenmbaaGreatDoorF1
namespace Go.Proofs.YtncghggejenmbaaGreatDoor
open Go.RowKit Go.Proofs Go.Sort Go.Lib Go.Shelf
set_option linter.unusedSimpArgs false
set_option linter.unusedVariables false
/-- An error or none. -/
def ErrIs (err : Value) : Bool → Prop
  | true => err = .nilIface
  | false => ∃ t p, err = .iface t p
def HexPost (s : List UInt8) (w : World) (e : Ending) (w' : World) : Prop := ∃ (u : Nat) (b : Bool) (err : Value), e = .returned (.tuple #[.int .u64 (u : Int), err]) ∧ ErrIs err b ∧ u ≤ 255 ∧ (∀ k, k < 256 → s = hx k → u = k ∧ b = true) ∧ BW w w'
theorem pHex_le (l : List UInt8) : ∀ acc u, acc ≤ 255 → pHex acc l = .ok u → u ≤ 255 := by
  induction l with
  | nil => intro acc u h e; cases e; exact h
  | cons c t ih =>
    intro acc u h e
    simp only [pHex] at e
    split at e
    · cases e
    · split at e
      · cases e
      · exact ih _ _ (by omega) e
theorem hexOk (s : List UInt8) (u : Nat) (h : pHex 0 s = .ok u) (k : Nat) (hk : k < 256) (e : s = hx k) : u = k ∧ (Bool.true = Bool.true) := by
  rw [e, pHex_hx k hk] at h; cases h; exact ⟨rfl, rfl⟩
theorem hexBad (s : List UInt8) (u : Nat) (h : ∀ m, pHex 0 s ≠ .ok m) (k : Nat) (hk : k < 256) (e : s = hx k) : u = k ∧ false = true := by
  rw [e, pHex_hx k hk] at h; exact absurd rfl (h _)
theorem bw_bytes (w : World) (t : ByteArray) : BW w (Lib.bytesWorld w 5 t) := bw_or (.inr rfl)
set_option maxRecDepth 100000 in
set_option maxHeartbeats 1600000 in
theorem hexPub (s : ByteArray) (hs : s.size ≤ 5000) (w : World) (g : G w) : Calls Tryz.prog 136 #[.string s, .int .i64 16, .int .i64 8] w (HexPost s.data.toList w) := by
  have Hg := Hid.mk g; clear g
  have hH : Calls Tryz.prog 150 #[.string s, .int .i64 16, .int .i64 8] w fun e w' => e = .returned (Lib.uintTupleM 249 255 (if s.size = 0 then Lib.NumEnd.syntax else pHex 0 s.data.toList)) ∧ BW w w' := by
    by_cases h0 : s.size = 0
    · rw [if_pos h0]
      have : s = ⟨#[]⟩ := by
        apply ByteArray.ext
        apply Array.ext'
        exact List.eq_nil_of_length_eq_zero ((Lib.size_eq s).symm.trans h0)
      subst this
      exact (Tryz.internal_strconv_ParseUint_empty 16 8 w).mono fun e w' ⟨h, h'⟩ => ⟨h, h' ▸ BW.refl _⟩
    · rw [if_neg h0]
      exact (hex150 s h0 (by omega) w).mono fun e w' ⟨h, h'⟩ => ⟨h, h' ▸ bw_bytes _ _⟩
  have hhx : ∀ k, hx k ≠ [] := fun k => by simp [hx]
  cases hp : (if s.size = 0 then Lib.NumEnd.syntax else pHex 0 s.data.toList) with
  | ok u =>
    rw [hp] at hH
    have h1 : pHex 0 s.data.toList = .ok u := by split at hp <;> first | cases hp; done | exact hp
    have hu := pHex_le _ _ _ (by omega) h1
    have hk := Hid.mk (hexOk _ _ h1)
    have HH := Hid.mk hH
    clear hp h1 hH
    go_enter Tryz.func136, Tryz.ntmps136
    go_wp2_with (go_at_call 150; refine HH.out.mono ?_; rintro e w1 ⟨rfl, hN⟩; simp only [Lib.uintTupleM])
    go_ret2
    exact ⟨u, true, _, rfl, rfl, hu, fun k h1 h2 => ⟨(hk.out k h1 h2).1, rfl⟩, hN⟩
  | range =>
    rw [hp] at hH
    have hk := Hid.mk (hexBad s.data.toList 255 (fun m h => by split at hp <;> first | cases hp; done | (rw [h] at hp; cases hp)))
    have HH := Hid.mk hH
    obtain ⟨t, p, hv⟩ := Hg.out.ran
    have hc0 : w.cell? ⟨3, 0, none⟩ = some (.iface t p) := (show w.cell? ⟨Tryz.laysPu14_ren.g 1, 0, none⟩ = some (.iface t p) from (by have h0 := World.var?_cell Tryz.laysPu14.m1 hv 0; simpa using h0))
    have Hc := Hid.mk hc0
    clear hp hH hv hc0
    go_enter Tryz.func136, Tryz.ntmps136
    go_wp2_with (first
      | (go_at_call 150; refine HH.out.mono ?_; rintro e w1 ⟨rfl, hN⟩; simp only [Lib.uintTupleM])
      | (go_at_call 151; refine (AnyPu.strconv_toError_range { Tryz.laysPu14 with } _ s 16 8 _ _ (by omega) ((BW.cells hN 3 0 (block_lt_of_cell Hc.out)).trans Hc.out) (.inr ⟨t, p, rfl⟩)).mono ?_; rintro e w2 ⟨N, rfl, hN0, hN1, hN2⟩; have hN' : BW w1 w2 := hN2))
    go_ret2
    exact ⟨255, false, _, rfl, ⟨_, _, rfl⟩, by omega, hk.out, hN.trans hN'⟩
  | _ =>
    rw [hp] at hH
    have hk := Hid.mk (show ∀ k, k < 256 → s.data.toList = hx k → 0 = k ∧ false = true from fun k hk e => by
      by_cases h0 : s.size = 0
      · have : s.data.toList = [] := List.eq_nil_of_length_eq_zero ((Lib.size_eq s).symm.trans h0)
        rw [this] at e; cases e
      · rw [if_neg h0, e, pHex_hx k hk] at hp; cases hp)
    have HH := Hid.mk hH
    obtain ⟨t, p, hv⟩ := Hg.out.syn
    have hc0 : w.cell? ⟨2, 0, none⟩ = some (.iface t p) := (show w.cell? ⟨Tryz.laysPu14_ren.g 0, 0, none⟩ = some (.iface t p) from (by have h0 := World.var?_cell Tryz.laysPu14.m0 hv 0; simpa using h0))
    have Hc := Hid.mk hc0
    clear hp hH hv hc0
    go_enter Tryz.func136, Tryz.ntmps136
    go_wp2_with (first
      | (go_at_call 150; refine HH.out.mono ?_; rintro e w1 ⟨rfl, hN⟩; simp only [Lib.uintTupleM])
      | (go_at_call 151; refine (AnyPu.strconv_toError_syntax { Tryz.laysPu14 with } _ s 16 8 _ _ (by omega) ((BW.cells hN 2 0 (block_lt_of_cell Hc.out)).trans Hc.out) (.inr ⟨t, p, rfl⟩)).mono ?_; rintro e w2 ⟨N, rfl, hN0, hN1, hN2⟩; have hN' : BW w1 w2 := hN2))
    go_ret2
    exact ⟨0, false, _, rfl, ⟨_, _, rfl⟩, by omega, hk.out, hN.trans hN'⟩
end Go.Proofs.YtncghggejenmbaaGreatDoor
