/- place.Parse. -/
import Derived.Test.YtncghggejenmbaaGreatDoorF5
import Derived.Test.YtncghggejenmbaaGreatDoorP4
import Derived.WideLaws
namespace Go.Proofs.YtncghggejenmbaaGreatDoor
open Go.RowKit Go.Proofs Go.Sort Go.Lib Go.Shelf
attribute [local go_sem] Oper.semAt_some
set_option linter.unusedSimpArgs false
set_option linter.unusedVariables false
def Dec8 (s : List UInt8) : Bool → Nat → Prop
  | true, u => parseUintB 8 s = .ok u
  | false, _ => ∀ v, parseUintB 8 s ≠ .ok v
def DecPost (s : List UInt8) (w : World) (e : Ending) (w' : World) : Prop := ∃ (u : Nat) (b : Bool) (err : Value), e = .returned (.tuple #[.int .u64 (u : Int), err]) ∧ ErrIs err b ∧ u ≤ 255 ∧ Dec8 s b u ∧ BW w w'
theorem dec8_any (s : ByteArray) (hs : s.size ≤ 5000) (w : World) (g : G w) : Calls Tryz.prog 136 #[.string s, .int .i64 10, .int .i64 8] w (DecPost s.data.toList w) := by
  cases hp : parseUintB 8 s.data.toList with
  | ok u =>
    have hu : u ≤ 255 := by have := parseUintB_le hp; simpa using this
    exact (Tryz.strconv_ParseUint_10_at8_ok s (by omega) u hp w).mono fun e w' ⟨h, h'⟩ => ⟨u, true, _, h, rfl, hu, hp, bw_or h'⟩
  | range =>
    obtain ⟨t, p, hv⟩ := g.ran
    exact (Tryz.strconv_ParseUint_10_at8_range_var s (by omega) hp t p w hv).mono fun e w' ⟨N, h, _, _, h'⟩ => ⟨255, false, _, h, ⟨_, _, rfl⟩, by omega, fun v hv => by (rw [hp] at hv; cases hv), h'⟩
  | _ =>
    obtain ⟨t, p, hv⟩ := g.syn
    exact (Tryz.strconv_ParseUint_10_at8_syntax_var s (by omega) hp t p w hv).mono fun e w' ⟨N, h, _, _, h'⟩ => ⟨0, false, _, h, ⟨_, _, rfl⟩, by omega, fun v hv => by (rw [hp] at hv; cases hv), h'⟩
theorem seq149 (s : ByteArray) (w : World) : Calls Tryz.prog 149 #[.string s, .string dotB, .int .i64 0] w fun e w' =>
    e = .returned (.func (.func 163) #[] #[.pointer (some ⟨w.heap.size + 1, 0, none⟩), .pointer (some ⟨w.heap.size, 0, none⟩), .pointer (some ⟨w.heap.size + 1 + 1, 0, none⟩)]) ∧ w' = ((w.alloc (.cells #[.string s] 9)).alloc (.cells #[.string dotB] 9)).alloc (.cells #[.int .i64 0] 3) := by
  go_enter Tryz.func149, Tryz.ntmps149
  go_wp2
  go_ret
  exact ⟨rfl, rfl⟩
theorem seq135 (s : ByteArray) (w : World) : Calls Tryz.prog 135 #[.string s, .string dotB] w fun e w' =>
    e = .returned (.func (.func 163) #[] #[.pointer (some ⟨w.heap.size + 1, 0, none⟩), .pointer (some ⟨w.heap.size, 0, none⟩), .pointer (some ⟨w.heap.size + 1 + 1, 0, none⟩)]) ∧ w' = ((w.alloc (.cells #[.string s] 9)).alloc (.cells #[.string dotB] 9)).alloc (.cells #[.int .i64 0] 3) := by
  go_enter Tryz.func135, Tryz.ntmps135
  go_wp2_with (go_at_call 149; refine (seq149 s _).mono ?_; rintro e w1 ⟨rfl, rfl⟩)
  go_ret
  exact ⟨rfl, rfl⟩
/-- Between two rounds. -/
structure PI (w : World) (pre : List ByteArray) (W : World) : Prop where
  bw : BW w W
  z : w.heap.size + 1 + 1 + 1 + 1 + 1 < W.heap.size
  c0 : W.cell? ⟨w.heap.size, 0, none⟩ = some (.int .u32 0)
  c1 : W.cell? ⟨w.heap.size + 1, 0, none⟩ = some (.int .i64 0)
  c2 : W.cell? ⟨w.heap.size + 1 + 1, 0, none⟩ = some (.int .u32 (ipAcc pre : Int))
  c3 : ∃ v, W.cell? ⟨w.heap.size + 1 + 1 + 1, 0, none⟩ = some v
  c4 : W.cell? ⟨w.heap.size + 1 + 1 + 1 + 1, 0, none⟩ = some (.string dotB)
  c5 : W.cell? ⟨w.heap.size + 1 + 1 + 1 + 1 + 1, 0, none⟩ = some (.int .i64 0)
  f0 : W.frozen? ⟨w.heap.size, 0, none⟩ = false
  f1 : W.frozen? ⟨w.heap.size + 1, 0, none⟩ = false
  f2 : W.frozen? ⟨w.heap.size + 1 + 1, 0, none⟩ = false
  f3 : W.frozen? ⟨w.heap.size + 1 + 1 + 1, 0, none⟩ = false
  ok : ∀ p ∈ pre, ∃ u, parseUintB 8 p.data.toList = .ok u
theorem PI.own (w : World) (B : Nat) (hB : w.heap.size ≤ B) : OwnFrom B (PI w) := by
  intro s A C row h hg hr
  have hr' : ∀ r, row = some r → ∃ o : Obj, A.heap[r]? = some o ∧ o.isCells = false := fun r e => (hr r e).2
  obtain ⟨v, c3⟩ := h.c3
  refine ⟨(ownFrom_below (Nat.le_refl _) hB) s A C row h.bw hg hr, ?_, cell_kept h.c0 hg hr', cell_kept h.c1 hg hr', cell_kept h.c2 hg hr', ⟨v, cell_kept c3 hg hr'⟩, cell_kept h.c4 hg hr', cell_kept h.c5 hg hr', (frozen_kept h.c0 hg hr').trans h.f0, (frozen_kept h.c1 hg hr').trans h.f1, (frozen_kept h.c2 hg hr').trans h.f2, (frozen_kept c3 hg hr').trans h.f3, h.ok⟩
  have := cell_kept h.c5 hg hr'
  exact block_lt_of_cell this
theorem PI.call {w W W' : World} {pre : List ByteArray} (h : PI w pre W) (k : BW W W') : PI w pre W' := by
  obtain ⟨v, c3⟩ := h.c3
  have hz := h.z
  have kc := fun b (hb : b < W.heap.size) => k.cells b 0 hb
  have kf := fun b (hb : b < W.heap.size) => k.frozens b 0 hb
  exact ⟨h.bw.trans k, Nat.lt_of_lt_of_le hz k.le, (kc _ (by omega)).trans h.c0, (kc _ (by omega)).trans h.c1, (kc _ (by omega)).trans h.c2, ⟨v, (kc _ (by omega)).trans c3⟩, (kc _ (by omega)).trans h.c4, (kc _ (by omega)).trans h.c5, (kf _ (by omega)).trans h.f0, (kf _ (by omega)).trans h.f1, (kf _ (by omega)).trans h.f2, (kf _ (by omega)).trans h.f3, h.ok⟩
/-- A round has left by 'return'. -/
structure PX (w : World) (pre : List ByteArray) (W : World) : Prop where
  bw : BW w W
  c0 : W.cell? ⟨w.heap.size, 0, none⟩ = some (.int .u32 0)
  c1 : W.cell? ⟨w.heap.size + 1, 0, none⟩ = some (.int .i64 10)
  bad : ∃ p ∈ pre, ∀ v, parseUintB 8 p.data.toList ≠ .ok v
theorem PX.own (w : World) (B : Nat) (hB : w.heap.size ≤ B) : OwnFrom B (PX w) := by
  intro s A C row h hg hr
  have hr' : ∀ r, row = some r → ∃ o : Obj, A.heap[r]? = some o ∧ o.isCells = false := fun r e => (hr r e).2
  exact ⟨(ownFrom_below (Nat.le_refl _) hB) s A C row h.bw hg hr, cell_kept h.c0 hg hr', cell_kept h.c1 hg hr', h.bad⟩
theorem pi_start (w : World) (s : ByteArray) : PI w [] ((((((w.alloc (.cells #[.int .u32 0] 23)).alloc (.cells #[.int .i64 0] 39)).alloc (.cells #[.int .u32 0] 23)).alloc (.cells #[.string s] 9)).alloc (.cells #[.string dotB] 9)).alloc (.cells #[.int .i64 0] 3)) := by
  have e : (ipAcc [] : Int) = 0 := rfl
  refine ⟨(((((BW.alloc w _).al _).al _).al _).al _).al _, by simp, by go_simp, by go_simp, by rw [e]; go_simp, ⟨.string s, by go_simp⟩, by go_simp, by go_simp, by go_simp, by go_simp, by go_simp, by go_simp, fun p hp => by cases hp⟩
theorem box_start (w : World) (s : ByteArray) : ((((((w.alloc (.cells #[.int .u32 0] 23)).alloc (.cells #[.int .i64 0] 39)).alloc (.cells #[.int .u32 0] 23)).alloc (.cells #[.string s] 9)).alloc (.cells #[.string dotB] 9)).alloc (.cells #[.int .i64 0] 3)).cell? ⟨w.heap.size + 1 + 1 + 1, 0, none⟩ = some (.string s) := by go_simp
theorem ip_res {W : World} {z : Nat} {tmps : Array Value} {x k : Int} (hp : tmps.getD 2 undef = .pointer (some ⟨z, 0, none⟩)) (hq : tmps.getD 3 undef = .pointer (some ⟨z + 1, 0, none⟩))
    (c0 : W.cell? ⟨z, 0, none⟩ = some (.int .u32 x)) (c1 : W.cell? ⟨z + 1, 0, none⟩ = some (.int .i64 k)) : (results Tryz.f103 tmps).run Tryz.prog W = .ok (.tuple #[.int .u32 x, .int .i64 k]) W := by
  have hp' : tmps[2]?.getD undef = .pointer (some ⟨z, 0, none⟩) := by simpa using hp
  have hq' : tmps[3]?.getD undef = .pointer (some ⟨z + 1, 0, none⟩) := by simpa using hq
  have hr : Tryz.f103.results = #[.cell 2 23, .cell 3 39] := by kernel_rfl
  simp [results, hr, hp', hq', asAddr, go_sem, c0, c1, Result.andThen, Sem.run_bind]
theorem ip_leave {w W : World} {s : List UInt8} {tmps : Array Value} {x k : Int} {D : Nat} (hD : w.heap.size ≤ D) (hb : BW w W) (hp : tmps.getD 2 undef = .pointer (some ⟨w.heap.size, 0, none⟩)) (hq : tmps.getD 3 undef = .pointer (some ⟨w.heap.size + 1, 0, none⟩))
    (c0 : W.cell? ⟨w.heap.size, 0, none⟩ = some (.int .u32 x)) (c1 : W.cell? ⟨w.heap.size + 1, 0, none⟩ = some (.int .i64 k)) (hK : W.heap[D]? = some (.deferred (some [])))
    (hR : ∀ W', BW w W' → IpPost s w (.returned (.tuple #[.int .u32 x, .int .i64 k])) W') :
    LeavesInM Fence.wide 5 Tryz.prog Tryz.f103 tmps (IpPost s w) [{ target := .collected D, args := #[] }] .returning W := by
  have hkk : ∀ r, some D = some r → ∃ o : Obj, W.heap[r]? = some o ∧ o.isCells = false := fun r e => by cases e; exact ⟨_, hK, rfl⟩
  refine ⟨by simp, .inl ⟨_, _, rfl, run_takeDeferred hK, ?_⟩⟩
  exact ⟨_, ip_res hp hq (cell_kept c0 (grownBy_putObj' _ D (.deferred none)) hkk) (cell_kept c1 (grownBy_putObj' _ D (.deferred none)) hkk), hR _ (Below.trans hb (belowK_b (n₀ := w.heap.size) (w := w) (Nat.le_refl _) W D _ _ hD hK rfl rfl))⟩
theorem two_set {W : World} {z : Nat} {x k : Int} {v0 v1 : Value} (c0 : W.cell? ⟨z, 0, none⟩ = some v0) (c1 : W.cell? ⟨z + 1, 0, none⟩ = some v1) :
    ((W.setCell ⟨z, 0, none⟩ (.int .u32 x)).setCell ⟨z + 1, 0, none⟩ (.int .i64 k)).cell? ⟨z, 0, none⟩ = some (.int .u32 x) ∧ ((W.setCell ⟨z, 0, none⟩ (.int .u32 x)).setCell ⟨z + 1, 0, none⟩ (.int .i64 k)).cell? ⟨z + 1, 0, none⟩ = some (.int .i64 k) := by
  constructor
  · rw [World.cell?_setCell_other _ ⟨z + 1, 0, none⟩ ⟨z, 0, none⟩ _ (by intro e; injection e with e1; omega)]
    exact World.cell?_setCell_same' _ _ _ (by rw [c0]; rfl)
  · refine World.cell?_setCell_same' _ _ _ ?_
    rw [World.cell?_setCell_other _ ⟨z, 0, none⟩ ⟨z + 1, 0, none⟩ _ (by intro e; injection e with e1; omega), c1]; rfl
theorem two_heap {W : World} {z D : Nat} {x k : Int} (hD : z + 1 < D) (o : Obj) (h : W.heap[D]? = some o) : ((W.setCell ⟨z, 0, none⟩ (.int .u32 x)).setCell ⟨z + 1, 0, none⟩ (.int .i64 k)).heap[D]? = some o := by
  rw [Below.heap_setCell _ _ _ _ (by simp; omega), Below.heap_setCell _ _ _ _ (by simp; omega)]; exact h
theorem eqg' (t : Tmp) (et : TypeId) (ep : Value) (W : World) : (eqGuard .neq 94 (.tmp t) (.const .nilIface) (.iface et ep) .nilIface).run Tryz.prog W = .ok () W := by
  have : eqGuard .neq 94 (.tmp t) (.const .nilIface) (.iface et ep) .nilIface = pure () := by rfl
  rw [this]; rfl
theorem eqg0 (t : Tmp) (W : World) : (eqGuard .neq 94 (.tmp t) (.const .nilIface) .nilIface .nilIface).run Tryz.prog W = .ok () W := by
  have : eqGuard .neq 94 (.tmp t) (.const .nilIface) .nilIface .nilIface = pure () := by rfl
  rw [this]; rfl
theorem BW.others {W W' : World} (h : BW W W') : KeepsOthers W W' := ⟨h.le, fun k o hk _ => h.blk hk⟩
theorem PI.bad {w W : World} {pre : List ByteArray} (h : PI w pre W) (x : ByteArray) (hx : ∀ v, parseUintB 8 x.data.toList ≠ .ok v) :
    PX w (pre ++ [x]) ((W.setCell ⟨w.heap.size, 0, none⟩ (.int .u32 0)).setCell ⟨w.heap.size + 1, 0, none⟩ (.int .i64 10)) := by
  refine ⟨(h.bw.set (Nat.le_refl _) _).set (by simp) _, ?_, ?_, ⟨x, by simp, hx⟩⟩
  · rw [World.cell?_setCell_other (w := _) (h := by intro e; injection e with e1; omega)]
    exact World.cell?_setCell_same' _ _ _ (by rw [h.c0]; rfl)
  · refine World.cell?_setCell_same' _ _ _ ?_
    rw [World.cell?_setCell_other (w := _) (h := by intro e; injection e with e1; omega), h.c1]; rfl
theorem PI.step {w W : World} {pre : List ByteArray} (h : PI w pre W) (x : ByteArray) (u : Nat) (hx : parseUintB 8 x.data.toList = .ok u) :
    PI w (pre ++ [x]) (W.setCell ⟨w.heap.size + 1 + 1, 0, none⟩ (.int .u32 ((ipAcc pre : Int) * 256 % 4294967296 + (u : Int)))) := by
  obtain ⟨v0, c3⟩ := h.c3
  have hz := h.z
  have kc := fun (b : Nat) (hb : b ≠ w.heap.size + 1 + 1) => World.cell?_setCell_other (w := W) (a := ⟨w.heap.size + 1 + 1, 0, none⟩) (b := ⟨b, 0, none⟩) (v := .int .u32 ((ipAcc pre : Int) * 256 % 4294967296 + (u : Int))) (by intro e; injection e with e1; omega)
  have hb : byteVal x = u := by unfold byteVal; rw [hx]
  refine ⟨h.bw.set (by simp; omega) _, by simpa using hz, (kc _ (by omega)).trans h.c0, (kc _ (by omega)).trans h.c1, ?_, ⟨v0, (kc _ (by omega)).trans c3⟩, (kc _ (by omega)).trans h.c4, (kc _ (by omega)).trans h.c5, by rw [World.frozen?_setCell]; exact h.f0, by rw [World.frozen?_setCell]; exact h.f1, by rw [World.frozen?_setCell]; exact h.f2, by rw [World.frozen?_setCell]; exact h.f3, fun p hp => ?_⟩
  · rw [World.cell?_setCell_same' _ _ _ (by rw [h.c2]; rfl), ipAcc_snoc, hb]
    simp
  · rcases List.mem_append.1 hp with hp | hp
    · exact h.ok p hp
    · rw [List.mem_singleton.1 hp]; exact ⟨u, hx⟩
theorem PI.set {w W : World} {pre : List ByteArray} (h : PI w pre W) (v : Value) : PI w pre (W.setCell ⟨w.heap.size + 1 + 1 + 1, 0, none⟩ v) := by
  obtain ⟨v0, c3⟩ := h.c3
  have hz := h.z
  have kc := fun (b : Nat) (hb : b ≠ w.heap.size + 1 + 1 + 1) => World.cell?_setCell_other (w := W) (a := ⟨w.heap.size + 1 + 1 + 1, 0, none⟩) (b := ⟨b, 0, none⟩) (v := v) (by intro e; injection e with e1; omega)
  refine ⟨h.bw.set (by simp; omega) _, by simpa using hz, (kc _ (by omega)).trans h.c0, (kc _ (by omega)).trans h.c1, (kc _ (by omega)).trans h.c2, ⟨v, World.cell?_setCell_same' _ _ _ (by rw [c3]; rfl)⟩, (kc _ (by omega)).trans h.c4, (kc _ (by omega)).trans h.c5, by rw [World.frozen?_setCell]; exact h.f0, by rw [World.frozen?_setCell]; exact h.f1, by rw [World.frozen?_setCell]; exact h.f2, by rw [World.frozen?_setCell]; exact h.f3, h.ok⟩
set_option maxRecDepth 100000 in
set_option maxHeartbeats 4000000 in
theorem ip_said : IpSaid G := by
  intro s w g hs
  have Hg := Hid.mk g; clear g
  refine (callsIn_wide (n := 5)).1 ?_
  refine callsIn_of_wp_marks Tryz.func103 rfl trivial ?_ rfl
  simp only [Tryz.ntmps103, List.size_toArray, List.length_cons, List.length_nil, Nat.reduceAdd, Nat.reduceSub, Array.replicate_succ, Array.replicate_zero, List.push_toArray, List.append_toArray, List.nil_append, List.cons_append]
  gi_wp2_with (refine ⟨trivial, ?_⟩; gi_at_call 135; refine (callsIn_wide.2 (seq135 s _)).mono ?_; rintro e w1 ⟨rfl, rfl⟩)
  obtain ⟨W0, hW0⟩ : ∃ W0, ((((((w.alloc (.cells #[.int .u32 0] 23)).alloc (.cells #[.int .i64 0] 39)).alloc (.cells #[.int .u32 0] 23)).alloc (.cells #[.string s] 9)).alloc (.cells #[.string dotB] 9)).alloc (.cells #[.int .i64 0] 3)) = W0 := ⟨_, rfl⟩
  have hsz : W0.heap.size = w.heap.size + 1 + 1 + 1 + 1 + 1 + 1 := by rw [← hW0]; simp
  have h0 : PI w [] W0 := by rw [← hW0]; exact pi_start w s
  have hs0 : W0.cell? ⟨w.heap.size + 1 + 1 + 1, 0, none⟩ = some (.string s) := by rw [← hW0]; exact box_start w s
  rw [hW0]
  clear hW0
  refine range_splitSeq (by omega) (w.heap.size + 1 + 1 + 1 + 1) (w.heap.size + 1 + 1 + 1) (w.heap.size + 1 + 1 + 1 + 1 + 1) (by omega) (by omega) (by omega) rfl rfl s hs (PI w) (fun c pre W => c = .ret ∧ PX w pre W)
    (PI.own w _ (by omega)) (fun c s A B row h hg hr => ⟨h.1, PX.own w _ (by omega) s A B row h.2 hg hr⟩) (fun pre W v h => h.set v) (fun pre W h => ⟨h.c4, h.c5, h.f3⟩) h0 hs0
    (fun x => { tmps := #[Value.string s, undef, Value.pointer (some ⟨w.heap.size, 0, none⟩), Value.pointer (some ⟨w.heap.size + 1, 0, none⟩), Value.pointer (some ⟨w.heap.size + 1 + 1, 0, none⟩), .string x, undef, undef, Value.string s,
        Value.func (Fn.func 163) #[] #[Value.pointer (some ⟨w.heap.size + 1 + 1 + 1 + 1, 0, none⟩), Value.pointer (some ⟨w.heap.size + 1 + 1 + 1, 0, none⟩), Value.pointer (some ⟨w.heap.size + 1 + 1 + 1 + 1 + 1, 0, none⟩)], .string x,
        undef, undef, undef, undef, undef, undef, undef, undef, undef, undef, undef, undef, undef, undef, undef, undef, undef], defers := [] }) ?assign ?body ?done ?stop
  case assign =>
    intro l x W K hK
    gi_wp2
    exact hK
  case body =>
    intro l pre x W hI hx5
    have HI := Hid.mk hI
    have hz := hI.z
    have c2 := hI.c2
    clear hI
    gi_wp2_with (refine ⟨trivial, ?_⟩; gi_at_call 136; refine (CallsIn.inRound l (callsIn_wide.2 (dec8_any x hx5 _ (Hg.out.bw HI.out.bw)))).mono ?_; rintro e w1 ⟨u, b, err, rfl, he, hu, hk, hN⟩; have HJ := Hid.mk (HI.out.call hN); have hk2 := Hid.mk hk; have HN := Hid.mk hN; clear hk hN hz c2)
    have hz1 := HJ.out.z
    have c0 := HJ.out.c0; have c1 := HJ.out.c1; have c2 := HJ.out.c2
    have f0 := HJ.out.f0; have f1 := HJ.out.f1; have f2 := HJ.out.f2
    cases b with
    | false =>
      obtain ⟨et, ep, rfl⟩ := he
      rw [eqg']
      simp only [Result.andThen, neqnil]
      gi_wp2
      exact ⟨(HN.out.others.trans (KeepsOthers.setCell _ _ _)).trans (KeepsOthers.setCell _ _ _), rfl, HJ.out.bad x hk2.out⟩
    | true =>
      have he' : err = .nilIface := he
      subst he'
      have hw8 : IntKind.u32.wrap (u : Int) = (u : Int) := by rw [IntKind.wrap_u32]; omega
      have hacc := ipAcc_lt pre
      have hwa : IntKind.u32.wrap ((ipAcc pre : Int) * 256) = (ipAcc pre : Int) * 256 % 4294967296 := by rw [IntKind.wrap_u32]
      have hor : Go.bits .or .u32 ((ipAcc pre : Int) * 256 % 4294967296) (u : Int) = (ipAcc pre : Int) * 256 % 4294967296 + (u : Int) := bits_join .u32 32 (by decide) (fun n h0 h1 => by rw [IntKind.wrap_u32]; omega) 8 _ _ (by omega) (by omega) (by omega) (by omega) (by omega) (by omega)
      rw [eqg0]
      simp only [Result.andThen, neqnil']
      gi_wp2
      exact ⟨HN.out.others.trans (KeepsOthers.setCell _ _ _), (World.cell?_setCell_other _ ⟨w.heap.size + 1 + 1, 0, none⟩ ⟨w.heap.size + 1 + 1 + 1, 0, none⟩ _ (by intro e; injection e with e1; omega)).trans (HN.out.cells _ 0 (by have := HI.out.z; omega)), HJ.out.step x u hk2.out⟩
  case done =>
    intro W hI hK
    have HI := Hid.mk hI
    have hz := hI.z
    have c2 := hI.c2
    have hlt := ipAcc_lt (pcs s.size s)
    have HK := Hid.mk hK
    generalize hacc : ipAcc (pcs s.size s) = acc at c2 hlt
    clear hI hK
    gi_wp2_with (refine ⟨trivial, ?_⟩; gi_at_call 101; refine (callsIn_wide.2 (ipText_any acc hlt _ (Hg.out.bw HI.out.bw))).mono ?_; rintro e w1 ⟨rfl, hN⟩; have HJ := Hid.mk (HI.out.call hN); have HN := Hid.mk hN; have hz1 := HJ.out.z; have c0 := HJ.out.c0; have c1 := HJ.out.c1; have c2' := (hN.cells _ 0 (by omega)).trans c2; have f0 := HJ.out.f0; have f1 := HJ.out.f1; have f2 := HJ.out.f2; clear hN hz c2)
    · rename_i h
      have ht : ¬ ipText acc = s.data.toList := by simpa [bstr, ByteArray.toList_eq] using h
      have h2 := two_set (x := 0) (k := 10) c0 c1
      refine ip_leave (D := w.heap.size + 1 + 1 + 1 + 1 + 1 + 1) (by omega) ((HJ.out.bw.set (Nat.le_refl _) _).set (by simp) _) rfl rfl h2.1 h2.2 (two_heap (by omega) _ (HN.out.blk (by have := HK.out; rwa [hsz] at this))) (fun W' hB => ⟨0, false, ⟨by omega, fun h => (by cases h), fun m hm e => ?_⟩, rfl, hB⟩)
      have : ipAcc (pcs s.size s) = m := (ip_pieces m hm s e).2
      exact (ht (by rw [← hacc, this]; exact e)).elim
    · rename_i h
      have ht : ipText acc = s.data.toList := by simpa [bstr, ByteArray.toList_eq] using h
      have h2 := two_set (x := acc) (k := 0) c0 c1
      refine ip_leave (D := w.heap.size + 1 + 1 + 1 + 1 + 1 + 1) (by omega) ((HJ.out.bw.set (Nat.le_refl _) _).set (by simp) _) rfl rfl h2.1 h2.2 (two_heap (by omega) _ (HN.out.blk (by have := HK.out; rwa [hsz] at this))) (fun W' hB => ⟨acc, true, ⟨hlt, fun _ => ht, fun m hm e => ⟨?_, rfl⟩⟩, rfl, hB⟩)
      have := (ip_pieces m hm s e).2
      exact hacc.symm.trans this
  case stop =>
    rintro c pre x W hpre ⟨rfl, hx⟩ hK
    obtain ⟨p, hp, hbad⟩ := hx.bad
    have c0 := hx.c0
    have c1 := hx.c1
    have HX := Hid.mk hx
    rw [hsz] at hK
    have HK := Hid.mk hK
    clear hx hK
    gi_wp2
    rw [hsz]
    exact ip_leave (D := w.heap.size + 1 + 1 + 1 + 1 + 1 + 1) (by omega) HX.out.bw rfl rfl c0 c1 HK.out (fun W' hB => ⟨0, false, ⟨by omega, fun h => (by cases h), fun m hm e => by
      obtain ⟨u, hu⟩ := (ip_pieces m hm s e).1 p (hpre.subset hp)
      exact (hbad u hu).elim⟩, rfl, hB⟩)
end Go.Proofs.YtncghggejenmbaaGreatDoor
