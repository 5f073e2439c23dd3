/- vizardlaw27.ConfPlain, for every configuration: Plain is what the document tells; a right configuration's parts are right each by itself. Conditions: the package-level variables of Go's library that the row lists hold what start-up lays (the card ties them). -/
import Derived.Test.YtncghggejenmbaaGreatDoorR3
import Derived.Test.YtncghggejenmbaaGreatDoorCards
import Derived.Test.YtncghggejenmbaaGreatDoorTie
namespace Go.Proofs.YtncghggejenmbaaGreatDoor
open Go.ChangeShapes Go.WideShapes Go.ChangeAt Go.RowKit Go.Lib Go.Proofs
set_option linter.unusedSimpArgs false
set_option linter.unusedVariables false
set_option maxRecDepth 100000
abbrev plainSpecO : OpenSpec := OpenSpec.ofChange Rows.confPlainSpec
theorem plain_witness (os : Os) {H : Type} (enc : TypeId × Value → H) :
    plainSpecO.preRow enc Tryz.prog Tryz.f5 Rows.confPlainRow.domain false Rows.confPlainRow.laid ((laidWorld os).forCall (fun _ _ => 0) ⟨#[], #[zeroC.val], []⟩).memory #[zeroC.val] := by
  have hw : (DataW.whole enc Tryz.prog ((laidWorld os).forCall (fun _ _ => 0) ⟨#[], #[zeroC.val], []⟩).memory Tryz.f5.params.toList plainSpecO.vars false #[zeroC.val].toList 8).map (fun x => (x.1, x.2.1)) = some ([zeroData], []) := by kernel_rfl
  obtain ⟨⟨x1, x2, x3⟩, hx, hx1⟩ := Option.map_eq_some_iff.1 hw
  simp only [Prod.mk.injEq] at hx1
  obtain ⟨rfl, rfl⟩ := hx1
  exact OpenSpec.preRow_of_cond 8 hx (by kernel_rfl) (fun k hk => by cases hk) (by kernel_rfl) (laid_met os _)
theorem plain_lifted (os : Os) (started : os.Started) (H : Type) (enc : TypeId × Value → H) (F : Stop.Interp) :
    ReturnsInHanded {} Tryz.checked os 5 .any (plainSpecO.preRow enc Tryz.prog Tryz.f5 Rows.confPlainRow.domain false Rows.confPlainRow.laid) ((plainSpecO.at F).post enc Tryz.prog Tryz.f5 false true false false) := by
  refine returnsInHanded_of_row (C := Tryz.checked) (s := plainSpecO) own_knob started (by kernel_rfl) Tryz.func5
    (witness_row_atRef (enc := enc) (C := Tryz.checked) false (laidWorld os) #[zeroC.val] rfl (by kernel_rfl) (by kernel_rfl) (by kernel_rfl) (plain_witness os enc)) ?_
  intro W base args ds gs before hval0 hW hcnd0 _ _ hL hsh _
  have hval : ∀ (j : Nat) t v, Tryz.f5.params[j]? = some t → args[j]? = some v → Value.okWide Tryz.prog W .any base t v := hval0
  have hW' := hW
  obtain ⟨p, q, hA0, hV0, rfl, _, _⟩ := hW
  have hA : DataW.TrodAll enc Tryz.prog W 0 (fun _ => true) true Tryz.f5.params.toList args.toList ds p := hA0
  rw [Tryz.params5] at hA hval
  obtain ⟨v0, d0, rfl, rfl, h0⟩ := trodAll_one hA
  obtain ⟨rfl, rfl⟩ := trodVars_none hV0
  obtain ⟨c, rfl, ok⟩ := conf_val (hval 0 38 v0 rfl rfl)
  have lt0 : ∀ x ∈ p, x.block < W.heap.size := by obtain ⟨m, hm⟩ := h0; exact DataW.trod_lt m _ _ _ hm
  have g : G W := G_of_laid hL hsh
  refine (plainLaw_any c ok W g).mono ?_
  rintro e W' ⟨rfl, bel⟩
  have bel' : Below W.heap.size W W' := bel
  exact ⟨_, rfl, _, _, _, [], _, [], hW', trodAll_mk1 (shut_bool Tryz.underlying4 _), trodAll_mk1 (Below.trod laid_out (by kernel_rfl) (of_decide_eq_true (by kernel_rfl)) h0 bel' lt0), rfl, bel'.frame _, fun h => by cases h⟩
theorem plain_said : Rows.ConfPlainSaid :=
  OpenClaim.holds_of_cond 5 Tryz.f5 rfl rfl rfl rfl rfl rfl rfl ⟨rfl, rfl, rfl, rfl, rfl⟩ rfl rfl rfl rfl rfl (by kernel_rfl) Tryz.func5 (by kernel_rfl)
    (of_decide_eq_true (by kernel_rfl)) (by unfold Func.isWrapper; first | (rw [if_pos (by decide +kernel)]; kernel_rfl) | (rw [if_neg (by decide +kernel)]; exact ⟨rfl, rfl⟩))
    (fun os started H enc _ F0 => by rw [OpenClaim.pre_eq_preRow]; exact plain_lifted os started H enc F0)
theorem plain_card : Rows.ConfPlainCardSaid :=
  Claim7.holds_tied_plain_at .later [] [.data, .data, .data, .data, .sentinel, .sentinel, .pinned] true (true, "3aad8f989465259947605ef7559d37234743ae51aae79d452028d346e2efae46") true
    plain_said (fun _ h => by cases h) (by kernel_rfl) (fun _ h => by cases h) confPlain_row_tie rfl ⟨rfl, rfl⟩ (by kernel_rfl) rfl
    (fun f fn hf hfn => by
      obtain rfl : f = 5 := Option.some.inj ((show Tryz.prog.funcNamed "vizard/vizardlaw27.ConfPlain" = some 5 by kernel_rfl).symm.trans hf) |>.symm
      obtain rfl : fn = Tryz.f5 := (Option.some.inj (Tryz.func5.symm.trans hfn)).symm
      exact ⟨by kernel_rfl, fun j t ht => by
        rw [Tryz.params5] at ht
        have h3 : t = 38 := by
          rcases j with _ | j
          · simpa using ht.symm
          · simp at ht
        subst h3
        exact (show Tryz.prog.wantsStandIn 38 = false by kernel_rfl)⟩)
    (by kernel_rfl)
#print axioms plain_card
end Go.Proofs.YtncghggejenmbaaGreatDoor
