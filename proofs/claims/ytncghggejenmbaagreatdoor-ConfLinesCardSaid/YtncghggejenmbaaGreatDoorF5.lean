/- 'for x := range strings.SplitSeq(s, sep)' with a separator of one byte: the statement's law, for a body whose invariant abides the iterator's own variable. -/
import Derived.Test.YtncghggejenmbaaGreatDoorF4
import Derived.RangeFuncFrom
namespace Go.Proofs.YtncghggejenmbaaGreatDoor
open Go.RowKit Go.Proofs Go.Sort Go.Lib Go.Shelf
attribute [local go_sem] Oper.semAt_some
set_option linter.unusedSimpArgs false
set_option linter.unusedVariables false
/-- How a round's body may be left. -/
def roundLeft (b2 : Nat) (I : List ByteArray → World → Prop) (Ix : Code → List ByteArray → World → Prop) (xs : List ByteArray) (W : World) : Exit → Act → World → Prop
  | .normal, _, W' => KeepsOthers W W' ∧ W'.cell? ⟨b2, 0, none⟩ = W.cell? ⟨b2, 0, none⟩ ∧ I xs W'
  | .ret, _, W' => KeepsOthers W W' ∧ Ix .ret xs W'
  | _, _, _ => False
/-- What a loop's record and its block of deferred calls hold. -/
structure Rec2 (D : Nat) (r : Loop) (W : World) : Prop where
  l : W.heap[D + 1]? = some (.loop r)
  d : W.heap[D]? = some (.deferred (some []))
theorem Rec2.set {D : Nat} {r : Loop} {W : World} (h : Rec2 D r W) {p : Addr} (hp : p.block < D) (v : Value) : Rec2 D r (W.setCell p v) :=
  ⟨(Below.heap_setCell W p v _ (by omega)).trans h.l, (Below.heap_setCell W p v _ (by omega)).trans h.d⟩
theorem Rec2.keeps {D : Nat} {r : Loop} {W W' : World} (h : Rec2 D r W) (k : KeepsOthers W W') : Rec2 D r W' := ⟨k.same _ _ h.l rfl, k.same _ _ h.d rfl⟩
theorem Rec2.put {D : Nat} {r : Loop} {W : World} (h : Rec2 D r W) (r' : Loop) : Rec2 D r' (W.putObj (D + 1) (.loop r')) :=
  ⟨World.putObj_heap_same (Array.getElem?_eq_some_iff.1 h.l).1, (World.putObj_heap_other (by omega)).trans h.d⟩
theorem cell_put {W : World} {l : Nat} {r r' : Loop} (h : W.heap[l]? = some (.loop r)) (b : Nat) : (W.putObj l (.loop r')).cell? ⟨b, 0, none⟩ = W.cell? ⟨b, 0, none⟩ := by
  by_cases hb : b = l
  · subst hb
    simp [World.cell?, World.putObj_heap_same (Array.getElem?_eq_some_iff.1 h).1, h]
  · simp [World.cell?, World.putObj_heap_other hb]
set_option maxHeartbeats 1600000 in
theorem range_splitSeq {n : Nat} (hn : 3 ≤ n) {g : Operand} {ps : Array Tmp} {assign body : Code} {Q : Exit → Act → World → Prop} {a : Act} {w : World} (b1 b2 b3 : Nat) (h12 : b1 ≠ b2) (h32 : b3 ≠ b2) (hb2 : b2 < w.heap.size)
    (hg : a.eval g = .func (.func 163) #[] #[.pointer (some ⟨b1, 0, none⟩), .pointer (some ⟨b2, 0, none⟩), .pointer (some ⟨b3, 0, none⟩)]) (hps : ps.size = 1) (s : ByteArray) (h5 : s.size ≤ 5000)
    (I : List ByteArray → World → Prop) (Ix : Code → List ByteArray → World → Prop) (hI : OwnFrom w.heap.size I) (hIx : ∀ c, OwnFrom w.heap.size (Ix c))
    (hIs : ∀ pre W v, I pre W → I pre (W.setCell ⟨b2, 0, none⟩ v))
    (hIc : ∀ pre W, I pre W → W.cell? ⟨b1, 0, none⟩ = some (.string dotB) ∧ W.cell? ⟨b3, 0, none⟩ = some (.int .i64 0) ∧ W.frozen? ⟨b2, 0, none⟩ = false)
    (h0 : I [] w) (hs : w.cell? ⟨b2, 0, none⟩ = some (.string s)) (a₁ : ByteArray → Act)
    (hassign : ∀ (l : Nat) (x : ByteArray) (W : World) (K : Act → World → Prop), K (a₁ x) W →
      assign.wpIn (Fence.wide.inRound l) (n - 1 - 1) Tryz.prog (Exit.then K (fun _ _ _ => False)) { tmps := (ps.zip #[.string x]).foldl (fun t (p, v) => t.setIfInBounds p v) a.tmps, defers := [] } W)
    (hbody : ∀ (l : Nat) (pre : List ByteArray) (x : ByteArray) (W : World), I pre W → x.size ≤ 5000 → body.wpIn (Fence.wide.inRound l) (n - 1 - 1) Tryz.prog (roundLeft b2 I Ix (pre ++ [x]) W) (a₁ x) W)
    (hdone : ∀ (W : World), I (pcs s.size s) W → W.heap[w.heap.size]? = some (.deferred (some [])) → Q .normal { a with defers := { target := .collected w.heap.size, args := #[] } :: a.defers } W)
    (hstop : ∀ (c : Code) (pre : List ByteArray) (x : ByteArray) (W : World), pre ++ [x] <+: pcs s.size s → Ix c (pre ++ [x]) W → W.heap[w.heap.size]? = some (.deferred (some [])) → c.wpIn Fence.wide n Tryz.prog Q { a with defers := { target := .collected w.heap.size, args := #[] } :: a.defers } W) :
    (Code.rangeFunc g ps assign body).wpIn Fence.wide n Tryz.prog Q a w := by
  refine wpIn_rangeFunc fun fn hfn => ?_
  let D := w.heap.size
  let rec0 : Loop := { state := .ready, pending := none, fn, tmps := a.tmps, params := ps, assign, body, defers := D }
  let W1 := (w.alloc (.deferred (some []))).alloc (.loop rec0)
  have hR1 : Rec2 D rec0 W1 := ⟨new2 w _ _, (BW.alloc (w.alloc _) _).blk (World.alloc_heap_new w _)⟩
  have hI1 : I [] W1 := hI.alloc _ (hI.alloc _ h0)
  have hs1 : W1.cell? ⟨b2, 0, none⟩ = some (.string s) := (BW.cells ((BW.alloc w _).al _) b2 0 hb2).trans hs
  refine ⟨D + 1, [{ target := .collected D, args := #[] }], W1, { target := .fn (.func 163) #[.pointer (some ⟨b1, 0, none⟩), .pointer (some ⟨b2, 0, none⟩), .pointer (some ⟨b3, 0, none⟩)], args := #[.func (.yield (D + 1)) #[] #[]] }, W1, 163,
    #[.func (.yield (D + 1)) #[] #[], .pointer (some ⟨b1, 0, none⟩), .pointer (some ⟨b2, 0, none⟩), .pointer (some ⟨b3, 0, none⟩)], W1, ?_, ?_, ?_, ?_, fun _ => by omega, ?_⟩
  · exact run_enterLoop_outer _ _ _ _ _
  · simp only [resolve, hg]
    simp [go_sem]
  · intro f' hf'; trivial
  · have e163 : ∀ args W, (callFunc 163 args).run Tryz.prog W = .ok (.enter 163 args) W := enters_of Tryz.func163 (by kernel_rfl) rfl
    simp [invoke, go_sem, e163]
  · refine (iter_in (n - 1) (by omega) (D + 1) b1 b2 b3 h12 h32 s h5 (fun pre W => I pre W ∧ Rec2 D rec0 W) (fun pre W => ∃ c, Ix c pre W ∧ Rec2 D { rec0 with state := .done, pending := some c } W)
      (fun pre W v h => ⟨hIs _ _ _ h.1, h.2.set hb2 v⟩) (fun pre W h => hIc _ _ h.1) ?_ W1 hs1 ⟨hI1, hR1⟩).mono ?_
    · rintro pre x W ⟨hi, hr⟩ hx5
      have hy := run_yield (P := Tryz.prog) (args := #[.string x]) hr.l (by simpa [rec0] using hps.symm)
      refine ⟨fn, _, assign, body, hy, roundIn_of_wpIn trivial (hassign _ x W _ ⟨_, run_beginRound hr.l rfl, ?_⟩)⟩
      have hr2 := hr.put { rec0 with state := .busy }
      refine wpIn_mono (hbody _ pre x _ (hI.putObj _ hi (by omega) hr.l rfl) hx5) ?_
      rintro e a3 W3 hp
      have fin : ∀ (jump : Option Code), KeepsOthers (W.putObj (D + 1) (.loop { rec0 with state := .busy })) W3 →
          (Instr.endRound (D + 1) jump).run Tryz.prog W3 = .ok (.bool jump.isNone) (W3.putObj (D + 1) (.loop { rec0 with state := if jump.isNone then .ready else .done, pending := jump })) ∧
          Rec2 D { rec0 with state := .busy } W3 := fun jump hk => by
        have h3 := hr2.keeps hk
        have h4 := run_endRound (P := Tryz.prog) (r := { rec0 with state := .busy }) jump h3.l
        exact ⟨h4, h3⟩
      cases e with
      | normal =>
        obtain ⟨hk, hc, hi3⟩ := hp
        obtain ⟨hend, h3⟩ := fin none hk
        exact ⟨_, _, hend, .inl ⟨rfl, ⟨hI.putObj _ hi3 (by omega) h3.l rfl, h3.put _⟩, (cell_put h3.l b2).trans (hc.trans (cell_put hr.l b2))⟩⟩
      | ret =>
        obtain ⟨hk, hi3⟩ := hp
        obtain ⟨hend, h3⟩ := fin (some .ret) hk
        exact ⟨_, _, hend, .inr ⟨rfl, .ret, (hIx _).putObj _ hi3 (by omega) h3.l rfl, h3.put _⟩⟩
      | exit id => exact hp.elim
      | goto t => exact hp.elim
      | panic ch => exact hp.elim
      | outgrown => exact hp.elim
    · rintro e W2 ⟨⟨v, rfl⟩, (⟨hi, hr⟩ | ⟨pre, x, hpre, c, hi, hr⟩)⟩
      · exact ⟨none, _, run_endLoop (P := Tryz.prog) hr.l (by simp [rec0]), hdone _ (hI.putObj _ hi (by omega) hr.l rfl) (hr.put _).d⟩
      · exact ⟨some c, _, run_endLoop (P := Tryz.prog) hr.l (by simp), hstop c pre x _ hpre ((hIx c).putObj _ hi (by omega) hr.l rfl) (hr.put _).d⟩
end Go.Proofs.YtncghggejenmbaaGreatDoor
