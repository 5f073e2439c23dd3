/- Small laws that the walks of this claim use: regions that draw their order, walked once in the class 'below the heap's size nothing has changed'. -/
import Derived.Test.YtncghggejenmbaaGreatDoorProg
import Derived.WalkKit
import Derived.WalkSpells
import Derived.WalkLawsBesides
import Derived.KernelRfl
import Derived.Deep.QuietTactic
import Derived.BigQuiet
import Derived.Laws.BitsLemmas
import Derived.Laws.Rows
namespace Go.Proofs.YtncghggejenmbaaGreatDoor
open Go.RowKit
theorem Hid.mk {p : Prop} (h : p) : Hid p := h
theorem ret_eq {v u : Value} (h : v = u) : Ending.returned v = .returned u := by rw [h]
/-- Below the heap's size nothing has changed. -/
def BW (w W : World) : Prop := Below w.heap.size w W
theorem BW.refl (w : World) : BW w w := Below.refl _ _
theorem BW.trans {a b c : World} (h : BW a b) (k : BW b c) : BW a c := Below.trans h (Below.mono k h.size)
theorem BW.alloc (w : World) (o : Obj) : BW w (w.alloc o) := (Below.refl _ _).alloc (Nat.le_refl _) _
theorem BW.drew (w : World) : BW w w.drew := Below.drew (Below.refl _ w)
theorem BW.le {w W : World} (h : BW w W) : w.heap.size ≤ W.heap.size := h.size
theorem BW.cells {w W : World} (h : BW w W) : ∀ b o, b < w.heap.size → W.cell? ⟨b, o, none⟩ = w.cell? ⟨b, o, none⟩ := fun b o hb => Below.cell h (p := ⟨b, o, none⟩) hb
theorem BW.frozens {w W : World} (h : BW w W) : ∀ b o, b < w.heap.size → W.frozen? ⟨b, o, none⟩ = w.frozen? ⟨b, o, none⟩ := fun b o hb => Below.frozen h (p := ⟨b, o, none⟩) hb
theorem BW.a1 {w W : World} {o : Obj} (h : BW (w.alloc o) W) : BW w W := (BW.alloc w o).trans h
theorem BW.a2 {w W : World} {o p : Obj} (h : BW ((w.alloc o).alloc p) W) : BW w W := h.a1.a1
theorem BW.a3 {w W : World} {o p q : Obj} (h : BW (((w.alloc o).alloc p).alloc q) W) : BW w W := h.a1.a1.a1
theorem BW.z1 {w W : World} {o : Obj} (h : BW (w.alloc o) W) : w.heap.size < W.heap.size := by have := h.le; simp at this; omega
theorem BW.z2 {w W : World} {o p : Obj} (h : BW ((w.alloc o).alloc p) W) : w.heap.size + 1 < W.heap.size := by have := h.le; simp at this; omega
theorem BW.z3 {w W : World} {o p q : Obj} (h : BW (((w.alloc o).alloc p).alloc q) W) : w.heap.size + 2 < W.heap.size := by have := h.le; simp at this; omega
theorem BW.set {w W : World} (h : BW w W) {p : Addr} (hp : w.heap.size ≤ p.block) (v : Value) : BW w (W.setCell p v) := Below.setCell h hp v
theorem BW.dr {w W : World} (h : BW w W) : BW w W.drew := Below.drew h
theorem BW.al {w W : World} (h : BW w W) (o : Obj) : BW w (W.alloc o) := h.trans (BW.alloc W o)
theorem BW.blk1 {w W : World} {o : Obj} (h : BW (w.alloc o) W) : W.heap[w.heap.size]? = some o := (Below.block h w.heap.size (by simp)).trans (heap_alloc_new w o)
theorem BW.blk {w W : World} (h : BW w W) {b : Nat} {o : Obj} (hb : w.heap[b]? = some o) : W.heap[b]? = some o := (Below.block h b (by
  rcases Nat.lt_or_ge b w.heap.size with h' | h'
  · exact h'
  · simp [Array.getElem?_eq_none h'] at hb)).trans hb
theorem wp_region_below {P : Program} {id : Nat} {Q : Exit → Act → World → Prop} {a : Act} {w : World} {l : List Oper} (hm : P.follows .mixedOrders = true) (hB : Region.lexB .any l.toArray = true)
    (h : wpQuiet P l.toArray (BW w) (fun a' => ∀ w', BW w w' → Q .normal a' w') l a) : (Code.region id l.toArray true).wp P Q a w :=
  wp_region_quiet (C := BW w) hm hB (BW.drew w) (by simpa using h)
theorem Calls.bw_of {P : Program} {f : FuncId} {args : Array Value} {w W : World} {v : Value} (hW : BW w W)
    (h : Calls P f args W fun e w' => e = .returned v ∧ BW W w') : Calls P f args W fun e w' => e = .returned v ∧ BW w w' :=
  h.mono fun _ _ ⟨he, hb⟩ => ⟨he, hW.trans hb⟩
theorem max2_int (k k' : IntKind) (x y : Int) : Builtin.max2 (.int k x) (.int k' y) = pure (.int k (max x y)) := by
  simp only [Builtin.max2, gt_iff_lt]; congr 2; omega
theorem min2_int (k k' : IntKind) (x y : Int) : Builtin.min2 (.int k x) (.int k' y) = pure (.int k (min x y)) := by
  simp only [Builtin.min2]; congr 2; omega
theorem max_two (ats : Array TypeId) (ty : TypeId) (a b : Value) : Builtin.max_ ats ty #[a, b] = (Builtin.max2 a b >>= fun s => pure s) := by simp only [Builtin.max_, List.foldlM_cons, List.foldlM_nil]
theorem min_two (ats : Array TypeId) (ty : TypeId) (a b : Value) : Builtin.min_ ats ty #[a, b] = (Builtin.min2 a b >>= fun s => pure s) := by simp only [Builtin.min_, List.foldlM_cons, List.foldlM_nil]
theorem max_three (ats : Array TypeId) (ty : TypeId) (a b c : Value) : Builtin.max_ ats ty #[a, b, c] = (Builtin.max2 a b >>= fun s => Builtin.max2 s c >>= fun s => pure s) := by simp only [Builtin.max_, List.foldlM_cons, List.foldlM_nil]
theorem min_three (ats : Array TypeId) (ty : TypeId) (a b c : Value) : Builtin.min_ ats ty #[a, b, c] = (Builtin.min2 a b >>= fun s => Builtin.min2 s c >>= fun s => pure s) := by simp only [Builtin.min_, List.foldlM_cons, List.foldlM_nil]
theorem max_four (ats : Array TypeId) (ty : TypeId) (a b c d : Value) : Builtin.max_ ats ty #[a, b, c, d] = (Builtin.max2 a b >>= fun s => Builtin.max2 s c >>= fun s => Builtin.max2 s d >>= fun s => pure s) := by simp only [Builtin.max_, List.foldlM_cons, List.foldlM_nil]
/-- Two results: some pointer, and an error's number. -/
def RetP (k : Int) (w : World) (e : Ending) (w' : World) : Prop := ∃ x : Option Addr, e = .returned (.tuple #[.pointer x, .int .i64 k]) ∧ BW w w'
def okE (b : Bool) : Int := if b then 0 else 11
section
variable {P : Program} {ops : Array Oper} {C : World → Prop} {Q : Act → Prop} {a : Act} {o : Oper} {rest : List Oper}
theorem wpList_loadg {P : Program} {ops : Array Oper} {rest : List Oper} {o : Oper} {a : Act} {w : World} {Q : Exit → Act → World → Prop} (ty : TypeId) (x : Operand) (g : Nat) (cs : Array Value) (d : TypeDesc)
    (hw : Region.wanted o (yielded ops a.tmps) = true) (ho : o.op = .load ty x) (hx : a.eval x = .pointer (some ⟨g, 0, none⟩)) (hg : w.heap[g]? = some (.cells cs ty (0, 0)))
    (hu : P.underlying ty = some d) (hd : (match d with | .struct _ | .array _ _ => true | _ => false) = true) (hi : (P.info? ty).map (·.size) = some cs.size)
    (h : wpList P ops Q rest (a.put o.dst (.agg cs)) w) : wpList P ops Q (o :: rest) a w :=
  wpList_step fun K hK => by
    rw [if_pos hw]
    exact wp_load_row ty x ho g hx ty cs (0, 0) d hg hu hd hi (hK _ _ h)
theorem wpQuiet_go {v : Value} (hw : Region.wanted o (yielded ops a.tmps) = true) (h : ∀ W, C W → o.quietAt P a C W v) (hr : wpQuiet P ops C Q rest (a.put o.dst v)) : wpQuiet P ops C Q (o :: rest) a :=
  BigFrame.wpQuiet_want hw fun _ hK => ⟨v, h, hK _ hr⟩
end
end Go.Proofs.YtncghggejenmbaaGreatDoor
