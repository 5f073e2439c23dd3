/- The table of lines. -/
import Derived.Test.YtncghggejenmbaaGreatDoorF7
namespace Go.Proofs.YtncghggejenmbaaGreatDoor
open Go.RowKit Go.Proofs Go.Sort Go.Lib
set_option linter.unusedSimpArgs false
set_option linter.unusedVariables false
/-- Facts that stay. -/
def Facts : List (World → Prop) → World → Prop
  | [], _ => True
  | p :: L, w => (p w ∧ ∀ a b : World, p a → BW a b → p b) ∧ Facts L w
theorem Facts.mono : ∀ {L : List (World → Prop)} {w w' : World}, Facts L w → BW w w' → Facts L w'
  | [], _, _, _, _ => trivial
  | _ :: _, _, _, h, k => ⟨⟨h.1.2 _ _ h.1.1 k, h.1.2⟩, Facts.mono h.2 k⟩
theorem Facts.add {L : List (World → Prop)} {w w' : World} {f : Fld} {v0 v1 : Value} (h : Facts L w) (hN : BW w w') (hV : ValAt f v0 v1 w') : Facts (ValAt f v0 v1 :: L) w' :=
  ⟨⟨hV, fun _ _ a b => a.bw b⟩, h.mono hN⟩
theorem Facts.addA {L : List (World → Prop)} {w w' : World} {o : Obj} {f : Fld} {v0 v1 : Value} (h : Facts L w) (hN : BW (w.alloc o) w') (hV : ValAt f v0 v1 w') : Facts (ValAt f v0 v1 :: (fun W => W.heap[w.heap.size]? = some o) :: L) w' :=
  ⟨⟨hV, fun _ _ a b => a.bw b⟩, ⟨⟨hN.blk1, fun _ _ a b => b.blk a⟩, h.mono hN.a1⟩⟩
def offOf : Nat → Nat
  | 46 => 0 | 48 => 1 | 49 => 2 | 50 => 3 | 51 => 4 | 53 => 5 | 54 => 11 | 55 => 17 | 56 => 18 | 57 => 19 | 58 => 20 | 60 => 21 | 61 => 22 | 62 => 23 | 63 => 24 | 64 => 25 | 65 => 26 | 66 => 27 | 67 => 28 | 68 => 29 | 69 => 30 | 70 => 33 | 71 => 34 | 73 => 35 | 74 => 36 | 75 => 37 | _ => 0
theorem mkip' (acc : Nat) (w : World) : Calls Tryz.prog 45 #[.func (.func acc) #[] #[]] w (MkPost ⟨.ip, acc, offOf acc⟩ w) := mkip acc (offOf acc) w
theorem mkint' (acc : Nat) (w : World) : Calls Tryz.prog 47 #[.func (.func acc) #[] #[]] w (MkPost ⟨.int, acc, offOf acc⟩ w) := mkint acc (offOf acc) w
theorem mku64' (acc : Nat) (w : World) : Calls Tryz.prog 59 #[.func (.func acc) #[] #[]] w (MkPost ⟨.u64, acc, offOf acc⟩ w) := mku64 acc (offOf acc) w
theorem mku32' (acc : Nat) (w : World) : Calls Tryz.prog 72 #[.func (.func acc) #[] #[]] w (MkPost ⟨.u32, acc, offOf acc⟩ w) := mku32 acc (offOf acc) w
theorem mkmac' (acc : Nat) (w : World) : Calls Tryz.prog 52 #[.func (.func acc) #[] #[]] w (MkPost ⟨.mac, acc, offOf acc⟩ w) := mkmac acc (offOf acc) w
def rowSpecs : List (ByteArray × List Fld) := [(⟨#[105, 110]⟩, [⟨.ip, 46, 0⟩, ⟨.int, 48, 1⟩]), (⟨#[111, 117, 116]⟩, [⟨.ip, 49, 2⟩, ⟨.int, 50, 3⟩]), (⟨#[114, 111, 117, 116, 101, 114]⟩, [⟨.ip, 51, 4⟩]), (⟨#[105, 110, 109, 97, 99]⟩, [⟨.mac, 53, 5⟩]), (⟨#[111, 117, 116, 109, 97, 99]⟩, [⟨.mac, 54, 11⟩]), (⟨#[109, 97, 112, 115]⟩, [⟨.int, 55, 17⟩]), (⟨#[102, 108, 111, 119, 115]⟩, [⟨.int, 56, 18⟩]), (⟨#[112, 111, 114, 116, 115]⟩, [⟨.int, 57, 19⟩, ⟨.int, 58, 20⟩]), (⟨#[117, 100, 112]⟩, [⟨.u64, 60, 21⟩]), (⟨#[111, 112, 101, 110]⟩, [⟨.u64, 61, 22⟩]), (⟨#[108, 111, 110, 103]⟩, [⟨.u64, 62, 23⟩]), (⟨#[113, 117, 101, 114, 121]⟩, [⟨.u64, 63, 24⟩]), (⟨#[114, 111, 111, 109]⟩, [⟨.int, 64, 25⟩]), (⟨#[119, 97, 105, 116]⟩, [⟨.int, 65, 26⟩]), (⟨#[108, 105, 102, 101]⟩, [⟨.u64, 66, 27⟩]), (⟨#[112, 97, 116, 105, 101, 110, 99, 101]⟩, [⟨.u64, 67, 28⟩]), (⟨#[98, 117, 102, 102, 101, 114, 115]⟩, [⟨.int, 68, 29⟩]), (⟨#[114, 105, 110, 103]⟩, [⟨.int, 69, 30⟩]), (⟨#[108, 101, 110, 100]⟩, [⟨.ip, 70, 33⟩, ⟨.ip, 71, 34⟩]), (⟨#[116, 105, 109, 101]⟩, [⟨.u32, 73, 35⟩]), (⟨#[104, 111, 108, 100]⟩, [⟨.u32, 74, 36⟩]), (⟨#[113, 117, 105, 101, 116]⟩, [⟨.u32, 75, 37⟩])]
def PairsAt : List Fld → List Value → World → Prop
  | [], vs, _ => vs = []
  | f :: fs, vs, W => ∃ v0 v1 rest, vs = v0 :: v1 :: rest ∧ ValAt f v0 v1 W ∧ PairsAt fs rest W
def ValsAt (fs : List Fld) (v : Value) (W : World) : Prop := ∃ V vs, v = .slice (some ⟨V, 0, none⟩) fs.length fs.length ∧ W.heap[V]? = some (.cells vs 99 (0, 0)) ∧ PairsAt fs vs.toList W
def RowsAt : List (ByteArray × List Fld) → List Value → World → Prop
  | [], cs, _ => cs = []
  | (wd, fs) :: R, cs, W => ∃ v rest, cs = .string wd :: v :: rest ∧ ValsAt fs v W ∧ RowsAt R rest W
def LinesPost (w : World) (e : Ending) (w' : World) : Prop := ∃ B cs, e = .returned (.slice (some ⟨B, 0, none⟩) 22 22) ∧ w'.heap[B]? = some (.cells cs 70 (0, 0)) ∧ BW w w' ∧ RowsAt rowSpecs cs.toList w'
theorem lines_fin {L : List (World → Prop)} {w w1 : World} {o1 o2 : Obj} {e : Ending} (hF : Facts L w1) (k : Facts ((fun W => W.heap[w1.heap.size]? = some o1) :: L) ((w1.alloc o1).alloc o2) → LinesPost w e ((w1.alloc o1).alloc o2)) : LinesPost w e ((w1.alloc o1).alloc o2) :=
  k ⟨⟨((BW.refl (w1.alloc o1)).al o2).blk1, fun _ _ a b => b.blk a⟩, hF.mono ((BW.alloc w1 o1).al o2)⟩
set_option maxRecDepth 100000 in
set_option maxHeartbeats 8000000 in
theorem lines_any (w : World) : Calls Tryz.prog 21 #[] w (LinesPost w) := by
  have hF : Facts [BW w] w := ⟨⟨BW.refl _, fun _ _ a b => a.trans b⟩, trivial⟩
  go_enter Tryz.func21, Tryz.ntmps21
  go_wp2_with (first
    | (go_at_call 45; refine (mkip' _ _).mono ?_; rintro e w1 ⟨v0, v1, rfl, hV, hN⟩; (first | replace hF := hF.addA hN hV | replace hF := hF.add hN hV); clear hV hN)
    | (go_at_call 47; refine (mkint' _ _).mono ?_; rintro e w1 ⟨v0, v1, rfl, hV, hN⟩; (first | replace hF := hF.addA hN hV | replace hF := hF.add hN hV); clear hV hN)
    | (go_at_call 52; refine (mkmac' _ _).mono ?_; rintro e w1 ⟨v0, v1, rfl, hV, hN⟩; (first | replace hF := hF.addA hN hV | replace hF := hF.add hN hV); clear hV hN)
    | (go_at_call 59; refine (mku64' _ _).mono ?_; rintro e w1 ⟨v0, v1, rfl, hV, hN⟩; (first | replace hF := hF.addA hN hV | replace hF := hF.add hN hV); clear hV hN)
    | (go_at_call 72; refine (mku32' _ _).mono ?_; rintro e w1 ⟨v0, v1, rfl, hV, hN⟩; (first | replace hF := hF.addA hN hV | replace hF := hF.add hN hV); clear hV hN))
  go_ret
  refine lines_fin hF fun hF' => ?_
  obtain ⟨⟨b21, -⟩, ⟨a21_0, -⟩, ⟨b20, -⟩, ⟨a20_0, -⟩, ⟨b19, -⟩, ⟨a19_0, -⟩, ⟨b18, -⟩, ⟨a18_1, -⟩, ⟨a18_0, -⟩, ⟨b17, -⟩, ⟨a17_0, -⟩, ⟨b16, -⟩, ⟨a16_0, -⟩, ⟨b15, -⟩, ⟨a15_0, -⟩, ⟨b14, -⟩, ⟨a14_0, -⟩, ⟨b13, -⟩, ⟨a13_0, -⟩, ⟨b12, -⟩, ⟨a12_0, -⟩, ⟨b11, -⟩, ⟨a11_0, -⟩, ⟨b10, -⟩, ⟨a10_0, -⟩, ⟨b9, -⟩, ⟨a9_0, -⟩, ⟨b8, -⟩, ⟨a8_0, -⟩, ⟨b7, -⟩, ⟨a7_1, -⟩, ⟨a7_0, -⟩, ⟨b6, -⟩, ⟨a6_0, -⟩, ⟨b5, -⟩, ⟨a5_0, -⟩, ⟨b4, -⟩, ⟨a4_0, -⟩, ⟨b3, -⟩, ⟨a3_0, -⟩, ⟨b2, -⟩, ⟨a2_0, -⟩, ⟨b1, -⟩, ⟨a1_1, -⟩, ⟨a1_0, -⟩, ⟨b0, -⟩, ⟨a0_1, -⟩, ⟨a0_0, -⟩, ⟨bw, -⟩, -⟩ := hF'
  exact ⟨_, _, rfl, new2 w1 _ _, bw, ⟨_, _, rfl, ⟨_, _, rfl, b0, ⟨_, _, _, rfl, a0_0, ⟨_, _, _, rfl, a0_1, rfl⟩⟩⟩, ⟨_, _, rfl, ⟨_, _, rfl, b1, ⟨_, _, _, rfl, a1_0, ⟨_, _, _, rfl, a1_1, rfl⟩⟩⟩, ⟨_, _, rfl, ⟨_, _, rfl, b2, ⟨_, _, _, rfl, a2_0, rfl⟩⟩, ⟨_, _, rfl, ⟨_, _, rfl, b3, ⟨_, _, _, rfl, a3_0, rfl⟩⟩, ⟨_, _, rfl, ⟨_, _, rfl, b4, ⟨_, _, _, rfl, a4_0, rfl⟩⟩, ⟨_, _, rfl, ⟨_, _, rfl, b5, ⟨_, _, _, rfl, a5_0, rfl⟩⟩, ⟨_, _, rfl, ⟨_, _, rfl, b6, ⟨_, _, _, rfl, a6_0, rfl⟩⟩, ⟨_, _, rfl, ⟨_, _, rfl, b7, ⟨_, _, _, rfl, a7_0, ⟨_, _, _, rfl, a7_1, rfl⟩⟩⟩, ⟨_, _, rfl, ⟨_, _, rfl, b8, ⟨_, _, _, rfl, a8_0, rfl⟩⟩, ⟨_, _, rfl, ⟨_, _, rfl, b9, ⟨_, _, _, rfl, a9_0, rfl⟩⟩, ⟨_, _, rfl, ⟨_, _, rfl, b10, ⟨_, _, _, rfl, a10_0, rfl⟩⟩, ⟨_, _, rfl, ⟨_, _, rfl, b11, ⟨_, _, _, rfl, a11_0, rfl⟩⟩, ⟨_, _, rfl, ⟨_, _, rfl, b12, ⟨_, _, _, rfl, a12_0, rfl⟩⟩, ⟨_, _, rfl, ⟨_, _, rfl, b13, ⟨_, _, _, rfl, a13_0, rfl⟩⟩, ⟨_, _, rfl, ⟨_, _, rfl, b14, ⟨_, _, _, rfl, a14_0, rfl⟩⟩, ⟨_, _, rfl, ⟨_, _, rfl, b15, ⟨_, _, _, rfl, a15_0, rfl⟩⟩, ⟨_, _, rfl, ⟨_, _, rfl, b16, ⟨_, _, _, rfl, a16_0, rfl⟩⟩, ⟨_, _, rfl, ⟨_, _, rfl, b17, ⟨_, _, _, rfl, a17_0, rfl⟩⟩, ⟨_, _, rfl, ⟨_, _, rfl, b18, ⟨_, _, _, rfl, a18_0, ⟨_, _, _, rfl, a18_1, rfl⟩⟩⟩, ⟨_, _, rfl, ⟨_, _, rfl, b19, ⟨_, _, _, rfl, a19_0, rfl⟩⟩, ⟨_, _, rfl, ⟨_, _, rfl, b20, ⟨_, _, _, rfl, a20_0, rfl⟩⟩, ⟨_, _, rfl, ⟨_, _, rfl, b21, ⟨_, _, _, rfl, a21_0, rfl⟩⟩, rfl⟩⟩⟩⟩⟩⟩⟩⟩⟩⟩⟩⟩⟩⟩⟩⟩⟩⟩⟩⟩⟩⟩⟩
end Go.Proofs.YtncghggejenmbaaGreatDoor
