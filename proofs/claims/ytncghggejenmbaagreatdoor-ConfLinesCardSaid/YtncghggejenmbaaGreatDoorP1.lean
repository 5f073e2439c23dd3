/- Decimal numerals: what is written is read as it was. -/
import Derived.Lib.ItoaNum
import Derived.Lib.ItoaMem
import Derived.Lib.ParseIntBCases
namespace Go.Proofs.YtncghggejenmbaaGreatDoor
open Go.Lib
theorem dec_eq (u : Nat) : decDigits u = if u < 10 then [UInt8.ofNat (48 + u)] else decDigits (u / 10) ++ [UInt8.ofNat (48 + u % 10)] := by
  rw [decDigits]; split <;> rfl
theorem dec_ne (u : Nat) : decDigits u ≠ [] := by rw [dec_eq]; split <;> simp
theorem digit_nat (k : Nat) (h : k < 10) : (UInt8.ofNat (48 + k)).toNat = 48 + k := by
  rw [UInt8.toNat_ofNat']; omega
theorem parseM_append (M : Nat) : ∀ (l : List UInt8) (a u : Nat) (r : List UInt8), parseUintM M a l = .ok u → parseUintM M a (l ++ r) = parseUintM M u r
  | [], a, u, r, h => by simp [parseUintM] at h; subst h; rfl
  | c :: l, a, u, r, h => by
    simp only [parseUintM, List.cons_append] at h ⊢
    by_cases h1 : 48 ≤ c.toNat ∧ c.toNat ≤ 57
    · rw [if_pos h1] at h ⊢
      by_cases h2 : 1844674407370955162 ≤ a
      · rw [if_pos h2] at h; cases h
      · rw [if_neg h2] at h ⊢
        by_cases h3 : M < a * 10 + (c.toNat - 48)
        · rw [if_pos h3] at h; cases h
        · rw [if_neg h3] at h ⊢
          exact parseM_append M l _ u r h
    · rw [if_neg h1] at h; cases h
theorem parseM_one (M a k : Nat) (hk : k < 10) (h : a * 10 + k ≤ M) (hM : M ≤ 18446744073709551615) : parseUintM M a [UInt8.ofNat (48 + k)] = .ok (a * 10 + k) := by
  simp only [parseUintM, digit_nat k hk]
  rw [if_pos ⟨by omega, by omega⟩, if_neg (by omega), if_neg (by omega)]
  congr 1
  omega
theorem parseM_dec (M : Nat) (hM : M ≤ 18446744073709551615) : ∀ m : Nat, m ≤ M → parseUintM M 0 (decDigits m) = .ok m := by
  intro m
  induction m using Nat.strongRecOn with
  | _ m ih =>
    intro h
    rw [dec_eq]
    split
    · rename_i h10
      have := parseM_one M 0 m h10 (by omega) hM
      simpa using this
    · rename_i h10
      rw [parseM_append M _ 0 (m / 10) _ (ih (m / 10) (by omega) (by omega)), parseM_one M (m / 10) (m % 10) (by omega) (by omega) hM]
      congr 1
      omega
theorem parseB64_dec (m : Nat) (h : m < 18446744073709551616) : parseUintB 64 (decDigits m) = .ok m := by
  rw [parseUintB, if_neg (dec_ne m)]
  exact parseM_dec _ (by decide) m (by omega)
theorem parseB8_dec (m : Nat) (h : m < 256) : parseUintB 8 (decDigits m) = .ok m := by
  rw [parseUintB, if_neg (dec_ne m)]
  exact parseM_dec _ (by decide) m (by omega)
theorem dec_inj (a b : Nat) (ha : a < 18446744073709551616) (hb : b < 18446744073709551616) (h : decDigits a = decDigits b) : a = b := by
  have h1 := parseB64_dec a ha
  have h2 := parseB64_dec b hb
  rw [h, h2] at h1
  injection h1 with h1
  exact h1.symm
/-- A numeral's signs are digits. -/
theorem dec_digits (m : Nat) : ∀ c ∈ decDigits m, 48 ≤ c.toNat ∧ c.toNat ≤ 57 := by
  induction m using Nat.strongRecOn with
  | _ m ih =>
    rw [dec_eq]
    split
    · intro c hc
      simp only [List.mem_singleton] at hc
      subst hc
      rw [digit_nat _ (by assumption)]; omega
    · intro c hc
      rw [List.mem_append] at hc
      rcases hc with hc | hc
      · exact ih (m / 10) (by omega) c hc
      · simp only [List.mem_singleton] at hc
        subst hc
        rw [digit_nat _ (by omega)]; omega
theorem dec_len_byte (m : Nat) (h : m < 256) : (decDigits m).length ≤ 3 := by
  rw [dec_eq]
  split
  · simp
  · rw [dec_eq]
    split
    · simp
    · rw [dec_eq]
      split
      · simp
      · omega
end Go.Proofs.YtncghggejenmbaaGreatDoor
