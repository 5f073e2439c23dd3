/- Plain: an Ip's text, cut at its dots and put together again. -/
import Derived.Test.YtncghggejenmbaaGreatDoorP3
import Derived.Test.YtncghggejenmbaaGreatDoorP1
import Derived.Lib.ParseIntBMem
namespace Go.Proofs.YtncghggejenmbaaGreatDoor
open Go.RowKit Go.Proofs Go.Lib
set_option linter.unusedSimpArgs false
set_option linter.unusedVariables false
theorem splitK_head (c : UInt8) (t a : List UInt8) (h : c ∉ a) (k : Nat) : splitK [c] 0 (k + 1) (a ++ c :: t) = a :: splitK [c] 0 k t := by
  rw [splitK, index_head c t a h]
  have : ((a.length : Int) == -1) = false := by simp
  rw [this]
  simp
theorem index_gone (c : UInt8) : ∀ (a : List UInt8), c ∉ a → Lib.index a [c] = -1 := by
  intro a h
  rw [Lib.index_one]
  induction a with
  | nil => rfl
  | cons b a ih =>
    have hb : b ≠ c := fun e => h (by simp [e])
    have := ih (fun e => h (by simp [e]))
    simp [Lib.indexByte, hb, this]
theorem splitK_last (c : UInt8) (a : List UInt8) (h : c ∉ a) (k : Nat) : splitK [c] 0 k a = [a] := by
  cases k with
  | zero => rfl
  | succ k => rw [splitK, index_gone c a h]; rfl
def byteVal (p : ByteArray) : Nat := match parseUintB 8 p.data.toList with
  | .ok u => u
  | _ => 0
def ipAcc (l : List ByteArray) : Nat := l.foldl (fun a p => a * 256 % 4294967296 + byteVal p) 0
theorem ipAcc_snoc (l : List ByteArray) (p : ByteArray) : ipAcc (l ++ [p]) = ipAcc l * 256 % 4294967296 + byteVal p := by simp [ipAcc]
theorem byteVal_lt (p : ByteArray) : byteVal p < 256 := by
  unfold byteVal
  split
  · rename_i u h
    have := parseUintB_le h
    simp at this
    omega
  · omega
theorem ipAcc_lt (l : List ByteArray) : ipAcc l < 4294967296 := by
  have key : ∀ (l : List ByteArray) (a : Nat), a < 4294967296 → l.foldl (fun a p => a * 256 % 4294967296 + byteVal p) a < 4294967296 := by
    intro l
    induction l with
    | nil => intro a h; exact h
    | cons p l ih =>
      intro a h
      have := byteVal_lt p
      exact ih _ (by show a * 256 % 4294967296 + byteVal p < _; omega)
  exact key l 0 (by omega)
theorem dec_dot (m : Nat) : (46 : UInt8) ∉ decDigits m := by
  intro h
  have := dec_digits m _ h
  revert this
  decide
theorem ip_pieces (m : Nat) (hm : m < 4294967296) (s : ByteArray) (hs : ipText m = s.data.toList) :
    (∀ p ∈ splitB ⟨#[46]⟩ 0 s.size s, ∃ u, parseUintB 8 p.data.toList = .ok u) ∧ ipAcc (splitB ⟨#[46]⟩ 0 s.size s) = m := by
  have hd := splitB_data ⟨#[46]⟩ 0 s.size s
  have hl : s.size = (ipText m).length := by rw [hs]; exact Lib.size_eq s
  obtain ⟨k, hk⟩ : ∃ k, s.size = k + 1 + 1 + 1 := ⟨s.size - 3, by
    have : 3 ≤ (ipText m).length := by simp [ipText]; omega
    omega⟩
  have h2 : (splitB ⟨#[46]⟩ 0 s.size s).map (·.data.toList) = [decDigits (m / 16777216), decDigits (m / 65536 % 256), decDigits (m / 256 % 256), decDigits (m % 256)] := by
    rw [hd, ← hs, hk]
    show splitK [46] 0 (k + 1 + 1 + 1) (ipText m) = _
    unfold ipText
    rw [splitK_head _ _ _ (dec_dot _), splitK_head _ _ _ (dec_dot _), splitK_head _ _ _ (dec_dot _), splitK_last _ _ (dec_dot _)]
  generalize splitB ⟨#[46]⟩ 0 s.size s = ps at h2
  rcases ps with _ | ⟨p0, _ | ⟨p1, _ | ⟨p2, _ | ⟨p3, _ | ⟨p4, r⟩⟩⟩⟩⟩ <;> simp only [List.map_cons, List.map_nil, List.cons.injEq, reduceCtorEq, and_false, and_true] at h2
  obtain ⟨e0, e1, e2, e3⟩ := h2
  have q0 : parseUintB 8 p0.data.toList = .ok (m / 16777216) := by rw [e0]; exact parseB8_dec _ (by omega)
  have q1 : parseUintB 8 p1.data.toList = .ok (m / 65536 % 256) := by rw [e1]; exact parseB8_dec _ (by omega)
  have q2 : parseUintB 8 p2.data.toList = .ok (m / 256 % 256) := by rw [e2]; exact parseB8_dec _ (by omega)
  have q3 : parseUintB 8 p3.data.toList = .ok (m % 256) := by rw [e3]; exact parseB8_dec _ (by omega)
  refine ⟨fun p hp => ?_, ?_⟩
  · simp only [List.mem_cons, List.not_mem_nil, or_false] at hp
    rcases hp with rfl | rfl | rfl | rfl
    · exact ⟨_, q0⟩
    · exact ⟨_, q1⟩
    · exact ⟨_, q2⟩
    · exact ⟨_, q3⟩
  · simp only [ipAcc, List.foldl_cons, List.foldl_nil, byteVal, q0, q1, q2, q3]
    omega
end Go.Proofs.YtncghggejenmbaaGreatDoor
