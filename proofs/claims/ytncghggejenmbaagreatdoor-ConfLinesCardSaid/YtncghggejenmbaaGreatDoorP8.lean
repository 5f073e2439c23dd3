/- Plain: a configuration's text, and how long it is. -/
import Derived.Test.YtncghggejenmbaaGreatDoorG1
namespace Go.Proofs.YtncghggejenmbaaGreatDoor
open Go.RowKit Go.Proofs Go.Lib
set_option linter.unusedSimpArgs false
set_option linter.unusedVariables false
def rowText (r : ByteArray × List Fld) (c : CF) : List UInt8 := r.1.data.toList ++ r.2.flatMap (fun f => 32 :: fieldText f c) ++ [10]
def textOf (c : CF) : List UInt8 := rowSpecs.flatMap fun r => rowText r c
theorem dec_len (n : Nat) (h : n < 18446744073709551616) : (decDigits n).length ≤ 20 := by
  rw [Lib.decDigits_length]
  by_cases h1 : 1 ≤ n
  · have := Lib.numDigits_eq n h1 h
    split at this <;> omega
  · have : n = 0 := by omega
    subst this
    simp [Lib.nDigits]
theorem ipText_len (n : Nat) (h : n < 4294967296) : (ipText n).length ≤ 15 := by
  have h0 := dec_len_byte (n / 16777216) (by omega)
  have h1 := dec_len_byte (n / 65536 % 256) (by omega)
  have h2 := dec_len_byte (n / 256 % 256) (by omega)
  have h3 := dec_len_byte (n % 256) (by omega)
  simp only [ipText, List.length_append, List.length_cons]
  omega
theorem get_in {c : CF} (h : c.Ok) (f : Fld) (hk : f.k = .ip) (hr : ∃ r ∈ rowSpecs, f ∈ r.2) : InW (c.get f.off) := by
  obtain ⟨r, hr, hf⟩ := hr
  simp only [rowSpecs, List.mem_cons, List.not_mem_nil, or_false] at hr
  rcases hr with rfl | rfl | rfl | rfl | rfl | rfl | rfl | rfl | rfl | rfl | rfl | rfl | rfl | rfl | rfl | rfl | rfl | rfl | rfl | rfl | rfl | rfl <;>
    simp only [List.mem_cons, List.not_mem_nil, or_false] at hf <;>
    (first
      | (rcases hf with rfl | rfl)
      | subst hf) <;>
    (first
      | exact Kd.noConfusion hk
      | exact h.ii
      | exact h.oi
      | exact h.ro
      | exact h.fst
      | exact h.last)
theorem fieldText_len {c : CF} (h : c.Ok) (r : ByteArray × List Fld) (hr : r ∈ rowSpecs) (f : Fld) (hf : f ∈ r.2) : (fieldText f c).length ≤ 20 := by
  have hi := get_in h f
  obtain ⟨k, acc, off⟩ := f
  cases k with
  | ip =>
    have h1 := hi rfl ⟨r, hr, hf⟩
    unfold InW at h1
    have := ipText_len (c.get off).toNat (by simp only at h1; omega)
    show (ipText (c.get off).toNat).length ≤ 20
    omega
  | int => exact dec_len _ (u64N_lt _)
  | u64 => exact dec_len _ (u64N_lt _)
  | u32 => exact dec_len _ (u64N_lt _)
  | mac =>
    show (c.mac off).text.length ≤ 20
    simp [M6.text, macText, hx]
theorem flat_len {α : Type} (g : α → List UInt8) (b : Nat) : ∀ (l : List α), (∀ x ∈ l, (g x).length ≤ b) → (l.flatMap g).length ≤ l.length * b
  | [], _ => by simp
  | x :: l, h => by
    have h1 := h x List.mem_cons_self
    have h2 := flat_len g b l (fun y hy => h y (List.mem_cons_of_mem _ hy))
    simp only [List.flatMap_cons, List.length_append, List.length_cons]
    rw [Nat.succ_mul]; omega
theorem rows_small : ∀ r ∈ rowSpecs, r.1.size ≤ 8 ∧ r.2.length ≤ 2 := by
  intro r hr
  simp only [rowSpecs, List.mem_cons, List.not_mem_nil, or_false] at hr
  rcases hr with rfl | rfl | rfl | rfl | rfl | rfl | rfl | rfl | rfl | rfl | rfl | rfl | rfl | rfl | rfl | rfl | rfl | rfl | rfl | rfl | rfl | rfl <;> decide
theorem rowText_len {c : CF} (h : c.Ok) (r : ByteArray × List Fld) (hr : r ∈ rowSpecs) : (rowText r c).length ≤ 60 := by
  obtain ⟨h1, h2⟩ := rows_small r hr
  have h3 := flat_len (fun f => 32 :: fieldText f c) 21 r.2 (fun f hf => by have := fieldText_len h r hr f hf; simp only [List.length_cons]; omega)
  have h4 : r.1.data.toList.length = r.1.size := (Lib.size_eq r.1).symm
  simp only [rowText, List.length_append, List.length_cons, List.length_nil, h4]
  have : r.2.length * 21 ≤ 2 * 21 := Nat.mul_le_mul_right _ h2
  omega
theorem textOf_len {c : CF} (h : c.Ok) : (textOf c).length ≤ 1320 :=
  flat_len (fun r => rowText r c) 60 rowSpecs (fun r hr => rowText_len h r hr)
end Go.Proofs.YtncghggejenmbaaGreatDoor
