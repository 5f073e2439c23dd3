/- vizardlaw27.ConfLines, for every two configurations and every choice: texts of two right configurations of which each line is one of either's make a configuration with these values, or none that is right. Conditions: the package-level variables of Go's library that the row lists hold what start-up lays (the card ties them). -/
import Derived.Test.YtncghggejenmbaaGreatDoorR123
import Derived.Test.YtncghggejenmbaaGreatDoorS3
import Derived.OpenShut
import Derived.Test.YtncghggejenmbaaGreatDoorCards
import Derived.Test.YtncghggejenmbaaGreatDoorTie
namespace Go.Proofs.YtncghggejenmbaaGreatDoor
open Go.ChangeShapes Go.WideShapes Go.ChangeAt Go.RowKit Go.Lib Go.Proofs
set_option linter.unusedSimpArgs false
set_option linter.unusedVariables false
set_option maxRecDepth 100000
abbrev linesSpecO : OpenSpec := OpenSpec.ofChange Rows.confLinesSpec
theorem lines_witness (os : Os) {H : Type} (enc : TypeId × Value → H) :
    linesSpecO.preRow enc Tryz.prog Tryz.f4 Rows.confLinesRow.domain false Rows.confLinesRow.laid ((laidWorld os).forCall (fun _ _ => 0) ⟨#[], #[zeroC.val, zeroC.val, .int .u32 0], []⟩).memory #[zeroC.val, zeroC.val, .int .u32 0] := by
  have hw : (DataW.whole enc Tryz.prog ((laidWorld os).forCall (fun _ _ => 0) ⟨#[], #[zeroC.val, zeroC.val, .int .u32 0], []⟩).memory Tryz.f4.params.toList linesSpecO.vars false #[zeroC.val, zeroC.val, .int .u32 0].toList 8).map (fun x => (x.1, x.2.1)) = some ([zeroData, zeroData, .lit (.int .u32 0)], []) := by kernel_rfl
  obtain ⟨⟨x1, x2, x3⟩, hx, hx1⟩ := Option.map_eq_some_iff.1 hw
  simp only [Prod.mk.injEq] at hx1
  obtain ⟨rfl, rfl⟩ := hx1
  exact OpenSpec.preRow_of_cond 8 hx (by kernel_rfl) (fun k hk => by cases hk) (by kernel_rfl) (laid_met os _)
theorem lines_lifted (os : Os) (started : os.Started) (H : Type) (enc : TypeId × Value → H) (F : Stop.Interp) :
    ReturnsInHanded {} Tryz.checked os 4 .any (linesSpecO.preRow enc Tryz.prog Tryz.f4 Rows.confLinesRow.domain false Rows.confLinesRow.laid) ((linesSpecO.at F).post enc Tryz.prog Tryz.f4 false true false false) := by
  refine returnsInHanded_of_row (C := Tryz.checked) (s := linesSpecO) own_knob started (by kernel_rfl) Tryz.func4
    (witness_row_atRef (enc := enc) (C := Tryz.checked) false (laidWorld os) #[zeroC.val, zeroC.val, .int .u32 0] rfl (by kernel_rfl) (by kernel_rfl) (by kernel_rfl) (lines_witness os enc)) ?_
  intro W base args ds gs before hval0 hW hcnd0 _ _ hL hsh _
  have hval : ∀ (j : Nat) t v, Tryz.f4.params[j]? = some t → args[j]? = some v → Value.okWide Tryz.prog W .any base t v := hval0
  have hW' := hW
  obtain ⟨p, q, hA0, hV0, rfl, _, _⟩ := hW
  have hA : DataW.TrodAll enc Tryz.prog W 0 (fun _ => true) true Tryz.f4.params.toList args.toList ds p := hA0
  rw [Tryz.params4] at hA hval
  obtain ⟨v0, vs0, d0, ds0, p0, q0, hargs, rfl, rfl, h0, r0⟩ := trodAll_cons hA
  obtain ⟨v1, vs1, d1, ds1, p1, q1, rfl, rfl, rfl, h1, r1⟩ := trodAll_cons r0
  obtain ⟨v2, vs2, d2, ds2, p2, q2, rfl, rfl, rfl, h2, r2⟩ := trodAll_cons r1
  obtain ⟨rfl, rfl, rfl⟩ := trodAll_nil r2
  obtain rfl : args = #[v0, v1, v2] := by cases args; simp_all
  obtain ⟨rfl, rfl⟩ := trodVars_none hV0
  obtain ⟨a, rfl, oa⟩ := conf_val (hval 0 38 v0 rfl rfl)
  obtain ⟨b, rfl, ob⟩ := conf_val (hval 1 38 v1 rfl rfl)
  obtain ⟨x, rfl, rfl, rfl, wx⟩ := open_int Tryz.underlying23 (hval 2 23 v2 rfl rfl) h2
  have hx : 0 ≤ x ∧ x ≤ 4294967295 := by
    simp only [Lit.wf, Bool.and_eq_true, decide_eq_true_eq] at wx
    exact wx
  obtain ⟨ch, rfl⟩ : ∃ ch : Nat, x = (ch : Int) := ⟨x.toNat, by omega⟩
  have lt0 : ∀ x ∈ p0, x.block < W.heap.size := by obtain ⟨m, hm⟩ := h0; exact DataW.trod_lt m _ _ _ hm
  have lt1 : ∀ x ∈ p1, x.block < W.heap.size := by obtain ⟨m, hm⟩ := h1; exact DataW.trod_lt m _ _ _ hm
  have g : G W := G_of_laid hL hsh
  refine (linesLaw_any a b oa ob ch (by omega) W g).mono ?_
  rintro e W' ⟨rfl, bel⟩
  have bel' : Below W.heap.size W W' := bel
  exact ⟨_, rfl, _, _, _, [], _, [], hW', trodAll_mk1 (shut_bool Tryz.underlying4 _), trodAll_cons_mk (Below.trod laid_out (by kernel_rfl) (of_decide_eq_true (by kernel_rfl)) h0 bel' lt0) (trodAll_cons_mk (Below.trod laid_out (by kernel_rfl) (of_decide_eq_true (by kernel_rfl)) h1 bel' lt1) (trodAll_cons_mk (shut_int Tryz.underlying23 wx) trodAll_mk0)), rfl, bel'.frame _, fun h => by cases h⟩
theorem lines_said : Rows.ConfLinesSaid :=
  OpenClaim.holds_of_cond 4 Tryz.f4 rfl rfl rfl rfl rfl rfl rfl ⟨rfl, rfl, rfl, rfl, rfl⟩ rfl rfl rfl rfl rfl (by kernel_rfl) Tryz.func4 (by kernel_rfl)
    (of_decide_eq_true (by kernel_rfl)) (by unfold Func.isWrapper; first | (rw [if_pos (by decide +kernel)]; kernel_rfl) | (rw [if_neg (by decide +kernel)]; exact ⟨rfl, rfl⟩))
    (fun os started H enc _ F0 => by rw [OpenClaim.pre_eq_preRow]; exact lines_lifted os started H enc F0)
theorem lines_card : Rows.ConfLinesCardSaid :=
  Claim7.holds_tied_plain_at .later [] [.data, .data, .data, .data, .sentinel, .sentinel, .pinned] true (true, "3aad8f989465259947605ef7559d37234743ae51aae79d452028d346e2efae46") true
    lines_said (fun _ h => by cases h) (by kernel_rfl) (fun _ h => by cases h) confLines_row_tie rfl ⟨rfl, rfl⟩ (by kernel_rfl) rfl
    (fun f fn hf hfn => by
      obtain rfl : f = 4 := Option.some.inj ((show Tryz.prog.funcNamed "vizard/vizardlaw27.ConfLines" = some 4 by kernel_rfl).symm.trans hf) |>.symm
      obtain rfl : fn = Tryz.f4 := (Option.some.inj (Tryz.func4.symm.trans hfn)).symm
      exact ⟨by kernel_rfl, fun j t ht => by
        rw [Tryz.params4] at ht
        rcases j with _ | _ | _ | j
        · obtain rfl : t = 38 := by simpa using ht.symm
          exact (show Tryz.prog.wantsStandIn 38 = false by kernel_rfl)
        · obtain rfl : t = 38 := by simpa using ht.symm
          exact (show Tryz.prog.wantsStandIn 38 = false by kernel_rfl)
        · obtain rfl : t = 23 := by simpa using ht.symm
          exact (show Tryz.prog.wantsStandIn 23 = false by kernel_rfl)
        · simp at ht⟩)
    (by kernel_rfl)
#print axioms lines_card
end Go.Proofs.YtncghggejenmbaaGreatDoor
