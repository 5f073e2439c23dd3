/- Plain: a text cut at one byte. -/
import Derived.Test.YtncghggejenmbaaGreatDoorC3
import Derived.Lib.SplitLaws
namespace Go.Proofs.YtncghggejenmbaaGreatDoor
open Go.RowKit Go.Proofs Go.Lib
set_option linter.unusedSimpArgs false
set_option linter.unusedVariables false
theorem index_head (c : UInt8) (t : List UInt8) : ∀ (a : List UInt8), c ∉ a → Lib.index (a ++ c :: t) [c] = a.length := by
  intro a h
  rw [Lib.index_one]
  induction a with
  | nil => simp [Lib.indexByte]
  | cons b a ih =>
    have hb : b ≠ c := fun e => h (by simp [e])
    have := ih (fun e => h (by simp [e]))
    simp [Lib.indexByte, hb, this]
theorem split_head (c : UInt8) (t a : List UInt8) (h : c ∉ a) : Lib.split (a ++ c :: t) [c] = a :: Lib.split t [c] := by
  have hc : Lib.count (a ++ c :: t) [c] = Lib.count t [c] + 1 := by
    rw [Lib.count_one, Lib.count_one, List.count_append, List.count_cons_self, List.count_eq_zero_of_not_mem h, Nat.zero_add]
  unfold Lib.split
  rw [hc, Lib.splitK, index_head c t a h]
  have : ((a.length : Int) == -1) = false := by simp
  rw [this]
  simp
theorem split_last (c : UInt8) (a : List UInt8) (h : c ∉ a) : Lib.split a [c] = [a] := by
  have hc : Lib.count a [c] = 0 := by rw [Lib.count_one, List.count_eq_zero_of_not_mem h]
  unfold Lib.split
  rw [hc]; rfl
set_option maxRecDepth 100000 in
theorem hx_colon : ∀ k, k < 256 → (58 : UInt8) ∉ hx k := by
  have : ∀ k : Fin 256, (58 : UInt8) ∉ hx k.val := by decide
  exact fun k h => this ⟨k, h⟩
theorem split_mac (m : M6) (hm : m.In) : Lib.split m.text [58] = [hx m.a, hx m.b, hx m.c, hx m.d, hx m.e, hx m.f] := by
  obtain ⟨h0, h1, h2, h3, h4, h5⟩ := hm
  unfold M6.text macText
  rw [split_head _ _ _ (hx_colon _ h0), split_head _ _ _ (hx_colon _ h1), split_head _ _ _ (hx_colon _ h2), split_head _ _ _ (hx_colon _ h3), split_head _ _ _ (hx_colon _ h4), split_last _ _ (hx_colon _ h5)]
end Go.Proofs.YtncghggejenmbaaGreatDoor
