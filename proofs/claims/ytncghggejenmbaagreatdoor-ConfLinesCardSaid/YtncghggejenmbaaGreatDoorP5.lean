/- Plain: what a line's signs make of a configuration, as functions. -/
import Derived.Test.YtncghggejenmbaaGreatDoorP3
import Derived.Test.YtncghggejenmbaaGreatDoorP1
import Derived.Test.YtncghggejenmbaaGreatDoorC4
namespace Go.Proofs.YtncghggejenmbaaGreatDoor
open Go.RowKit Go.Proofs Go.Lib
set_option linter.unusedSimpArgs false
set_option linter.unusedVariables false
open Classical in
noncomputable def numOf (s : List UInt8) : Option Nat := if h : ∃ n, NumOk s n then some h.choose else none
open Classical in
noncomputable def ipOf (s : List UInt8) : Option Nat := if h : ∃ n, n < 4294967296 ∧ ipText n = s then some h.choose else none
open Classical in
noncomputable def macOf (s : List UInt8) : Option M6 := if h : ∃ m : M6, m.In ∧ m.text = s then some h.choose else none
theorem numOf_of {s : List UInt8} {n : Nat} {b : Bool} (h : NumR s n b) : numOf s = if b then some n else none := by
  unfold numOf
  cases b with
  | true =>
    have hn := h.2.1 rfl
    have he : ∃ n, NumOk s n := ⟨n, hn⟩
    rw [dif_pos he]
    simp only [if_true]
    rw [(h.2.2 _ he.choose_spec).1]
  | false =>
    have he : ¬ ∃ n, NumOk s n := fun ⟨m, hm⟩ => by have := (h.2.2 m hm).2; cases this
    rw [dif_neg he]
    simp
theorem ipOf_of {s : List UInt8} {n : Nat} {b : Bool} (h : IpR s n b) : ipOf s = if b then some n else none := by
  unfold ipOf
  cases b with
  | true =>
    have he : ∃ n, n < 4294967296 ∧ ipText n = s := ⟨n, h.1, h.2.1 rfl⟩
    rw [dif_pos he]
    simp only [if_true]
    rw [(h.2.2 _ he.choose_spec.1 he.choose_spec.2).1]
  | false =>
    have he : ¬ ∃ n, n < 4294967296 ∧ ipText n = s := fun ⟨m, h1, h2⟩ => by have := (h.2.2 m h1 h2).2; cases this
    rw [dif_neg he]
    simp
theorem macOf_of {s : List UInt8} {n : M6} {b : Bool} (h : MacR s n b) : macOf s = if b then some n else none := by
  unfold macOf
  cases b with
  | true =>
    have he : ∃ m : M6, m.In ∧ m.text = s := ⟨n, h.1, h.2.1 rfl⟩
    rw [dif_pos he]
    simp only [if_true]
    rw [(h.2.2 _ he.choose_spec.1 he.choose_spec.2).1]
  | false =>
    have he : ¬ ∃ m : M6, m.In ∧ m.text = s := fun ⟨m, h1, h2⟩ => by have := (h.2.2 m h1 h2).2; cases this
    rw [dif_neg he]
    simp
theorem numOf_some {s : List UInt8} {n : Nat} (h : numOf s = some n) : NumOk s n := by
  unfold numOf at h
  split at h
  · rename_i he
    cases h
    exact he.choose_spec
  · cases h
theorem ipOf_some {s : List UInt8} {n : Nat} (h : ipOf s = some n) : n < 4294967296 ∧ ipText n = s := by
  unfold ipOf at h
  split at h
  · rename_i he
    cases h
    exact he.choose_spec
  · cases h
theorem macOf_some {s : List UInt8} {n : M6} (h : macOf s = some n) : n.In ∧ n.text = s := by
  unfold macOf at h
  split at h
  · rename_i he
    cases h
    exact he.choose_spec
  · cases h
theorem numOf_dec (n : Nat) (hn : n ≤ 4294967296) : numOf (decDigits n) = some n := by
  unfold numOf
  have he : ∃ m, NumOk (decDigits n) m := ⟨n, hn, rfl⟩
  rw [dif_pos he]
  have h1 := he.choose_spec
  exact congrArg some (dec_inj _ _ (by have := h1.1; omega) (by omega) h1.2)
/-- What a field's signs make of a configuration. -/
noncomputable def fieldOf (f : Fld) (c : CF) (s : List UInt8) : Option CF :=
  match f.k with
  | .ip => (ipOf s).map fun (n : Nat) => c.put f.off (n : Int)
  | .int => (numOf s).map fun (n : Nat) => c.put f.off (n : Int)
  | .u64 => (numOf s).map fun (n : Nat) => c.put f.off (n : Int)
  | .u32 => (numOf s).map fun (n : Nat) => c.put f.off (if n < 4294967296 then (n : Int) else 4294967295)
  | .mac => (macOf s).map fun m => c.put6 f.off m
theorem fieldOf_of {f : Fld} {c c' : CF} {s : List UInt8} {b : Bool} (h : FldR f c s b c') : fieldOf f c s = if b then some c' else none := by
  obtain ⟨k, acc, off⟩ := f
  cases k with
  | ip => obtain ⟨n, hn, rfl⟩ := h; simp only [fieldOf, ipOf_of hn]; cases b <;> simp
  | int =>
    obtain ⟨n, hn, rfl⟩ := h
    simp only [fieldOf, numOf_of hn]
    cases b with
    | false => simp
    | true =>
      have := (hn.2.1 rfl).1
      have hw : wrap64 (n : Int) = n := by unfold wrap64; omega
      rw [hw]
      simp
  | u64 => obtain ⟨n, hn, rfl⟩ := h; simp only [fieldOf, numOf_of hn]; cases b <;> simp
  | u32 =>
    obtain ⟨n, hn, rfl⟩ := h
    simp only [fieldOf, numOf_of hn]
    cases b <;> simp
  | mac => obtain ⟨n, hn, rfl⟩ := h; simp only [fieldOf, macOf_of hn]; cases b <;> simp
noncomputable def fieldsOf : List Fld → CF → List (List UInt8) → Option CF
  | [], c, [] => some c
  | f :: fs, c, p :: ps => (fieldOf f c p).bind fun c' => fieldsOf fs c' ps
  | _, _, _ => none
theorem fieldsOf_len : ∀ (fs : List Fld) (c : CF) (ps : List (List UInt8)), ps.length ≠ fs.length → fieldsOf fs c ps = none
  | [], c, [], h => absurd rfl h
  | [], c, p :: ps, h => rfl
  | f :: fs, c, [], h => rfl
  | f :: fs, c, p :: ps, h => by
    simp only [fieldsOf]
    cases fieldOf f c p with
    | none => rfl
    | some c' => exact fieldsOf_len fs c' ps (by simpa using h)
/-- What a line makes of a configuration. -/
noncomputable def rowOf (r : ByteArray × List Fld) (c : CF) (s : List UInt8) : Option CF :=
  match Lib.split s [32] with
  | [] => none
  | w :: ps => if w = r.1.data.toList then fieldsOf r.2 c ps else none
theorem words_split (s : ByteArray) : (splitB ⟨#[32]⟩ 0 (countB s ⟨#[32]⟩) s).map (·.data.toList) = Lib.split s.data.toList [32] := splitB_data _ _ _ _
end Go.Proofs.YtncghggejenmbaaGreatDoor
