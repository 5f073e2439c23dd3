/- Plain: the texts of the first look. -/
import Derived.Test.YtncghggejenmbaaGreatDoorP10
import Derived.Test.YtncghggejenmbaaGreatDoorG3
namespace Go.Proofs.YtncghggejenmbaaGreatDoor
open Go.RowKit Go.Proofs Go.Lib
set_option linter.unusedSimpArgs false
set_option linter.unusedVariables false
def ringC : CF := plainC.put 30 0
theorem plain_conf : confB plainC = true := by kernel_rfl
theorem ring_conf : confB ringC = false := by kernel_rfl
theorem ringC_ok : ringC.Ok := ok_put30 plainC_ok (by unfold InI; omega)
theorem d0 : decDigits 0 = [48] := by rw [dec_eq]; rfl
theorem d1 : decDigits 1 = [49] := by rw [dec_eq]; rfl
theorem d10 : decDigits 10 = [49, 48] := by rw [dec_eq, if_neg (by decide), show 10 / 10 = 1 from rfl, d1]; rfl
theorem d2 : decDigits 2 = [50] := by rw [dec_eq]; rfl
theorem d24 : decDigits 24 = [50, 52] := by rw [dec_eq, if_neg (by decide), show 24 / 10 = 2 from rfl, d2]; rfl
def first15 : List UInt8 := [105, 110, 32, 49, 48, 46, 48, 46, 48, 46, 49, 32, 50, 52, 10]
def row0 : ByteArray × List Fld := (⟨#[105, 110]⟩, [⟨.ip, 46, 0⟩, ⟨.int, 48, 1⟩])
def row1 : ByteArray × List Fld := (⟨#[111, 117, 116]⟩, [⟨.ip, 49, 2⟩, ⟨.int, 50, 3⟩])
theorem row0_text : rowText row0 plainC = first15 := by
  have e1 : fieldText ⟨.ip, 46, 0⟩ plainC = [49, 48, 46, 48, 46, 48, 46, 49] := by
    show ipText 167772161 = _
    unfold ipText
    show decDigits 10 ++ 46 :: (decDigits 0 ++ 46 :: (decDigits 0 ++ 46 :: decDigits 1)) = _
    rw [d10, d0, d1]
    rfl
  have e2 : fieldText ⟨.int, 48, 1⟩ plainC = [50, 52] := by
    show decDigits 24 = _
    exact d24
  simp only [rowText, row0, List.flatMap_cons, List.flatMap_nil, e1, e2]
  rfl
theorem plain_text : ∃ t, textOf plainC = first15 ++ t ∧ 6 ≤ t.length := by
  refine ⟨rowText row1 plainC ++ (rowSpecs.drop 2).flatMap (fun r => rowText r plainC), ?_, ?_⟩
  · rw [← row0_text]; rfl
  · simp only [rowText, row1, List.flatMap_cons, List.flatMap_nil, List.length_append, List.length_cons, List.length_nil]
    omega
def badText : List UInt8 := first15 ++ [111, 117, 116, 32, 49, 57, 50, 46, 48, 46, 50, 46, 49, 10]
theorem bad_parse : parseOf badText = ⟨zeroC, 2, 10⟩ := by
  have hS := fits plainC_ok plain_conf
  have h0 : row0 ∈ rowSpecs := List.mem_cons_self
  unfold parseOf badText
  rw [← row0_text]
  show parseFrom (row0 :: row1 :: rowSpecs.drop 2) 0 zeroC _ = _
  rw [parse_step row0 h0 _ 0 zeroC plainC (hS row0 h0)]
  rw [parseFrom, show ([111, 117, 116, 32, 49, 57, 50, 46, 48, 46, 50, 46, 49, 10] : List UInt8) = [111, 117, 116, 32, 49, 57, 50, 46, 48, 46, 50, 46, 49] ++ 10 :: [] from rfl, cut_line _ _ (by decide)]
  have hr : rowOf row1 (takeAll zeroC row0.2 plainC) [111, 117, 116, 32, 49, 57, 50, 46, 48, 46, 50, 46, 49] = none := by
    unfold rowOf
    rw [show ([111, 117, 116, 32, 49, 57, 50, 46, 48, 46, 50, 46, 49] : List UInt8) = [111, 117, 116] ++ 32 :: [49, 57, 50, 46, 48, 46, 50, 46, 49] from rfl, split_head _ _ _ (by decide), split_last _ _ (by decide)]
    simp only
    rw [show ([111, 117, 116] : List UInt8) = row1.1.data.toList from rfl, if_pos rfl]
    exact fieldsOf_len _ _ _ (by decide)
  simp only [hr, if_true]
end Go.Proofs.YtncghggejenmbaaGreatDoor
