/- place.ParseMac. (printed by F3b.py) -/
import Derived.Test.YtncghggejenmbaaGreatDoorF2
import Derived.Test.YtncghggejenmbaaGreatDoorE3
import Derived.Test.YtncghggejenmbaaGreatDoorP3
import Derived.Laws.ResultCell
import Derived.WideLaws
namespace Go.Proofs.YtncghggejenmbaaGreatDoor
open Go.RowKit Go.Proofs Go.Sort Go.Lib Go.Shelf
set_option linter.unusedSimpArgs false
set_option linter.unusedVariables false
theorem blk_set {w : World} {g : Nat} {t : TypeId} {cs : Array Value} (h : w.heap[g]? = some (.cells cs t (0, 0))) (i : Nat) (u : Value) : (w.setCell ⟨g, i, none⟩ u).heap[g]? = some (.cells (cs.setIfInBounds i u) t (0, 0)) := by
  simp [World.setCell, Array.getElem?_modify, h]
theorem blk_far {w : World} {g : Nat} {t : TypeId} {cs : Array Value} (h : w.heap[g]? = some (.cells cs t (0, 0))) {p : Addr} (hp : g ≠ p.block) (u : Value) : (w.setCell p u).heap[g]? = some (.cells cs t (0, 0)) := (Below.heap_setCell w p u g hp).trans h
theorem blk_cell {w : World} {g : Nat} {t : TypeId} {cs : Array Value} (h : w.heap[g]? = some (.cells cs t (0, 0))) (i : Nat) : w.cell? ⟨g, i, none⟩ = cs[i]? := cell_of_row w g i cs t (0, 0) h
/-- The cells of a Mac. -/
abbrev M6.cs (m : M6) : Array Value := #[.int .u8 (m.a : Int), .int .u8 (m.b : Int), .int .u8 (m.c : Int), .int .u8 (m.d : Int), .int .u8 (m.e : Int), .int .u8 (m.f : Int)]
def M6.at (m : M6) : Nat → Nat
  | 0 => m.a | 1 => m.b | 2 => m.c | 3 => m.d | 4 => m.e | _ => m.f
abbrev zz : M6 := ⟨0, 0, 0, 0, 0, 0⟩
theorem zz_in : zz.In := by simp [M6.In]
/-- What stands behind a row of six bytes. -/
theorem six_cells {w : World} {g : Nat} {m : M6} (h : w.heap[g]? = some (.cells m.cs 29 (0, 0))) : w.cell? ⟨g, 0, none⟩ = some (.int .u8 (m.a : Int)) ∧ w.cell? ⟨g, 1, none⟩ = some (.int .u8 (m.b : Int)) ∧ w.cell? ⟨g, 2, none⟩ = some (.int .u8 (m.c : Int)) ∧ w.cell? ⟨g, 3, none⟩ = some (.int .u8 (m.d : Int)) ∧ w.cell? ⟨g, 4, none⟩ = some (.int .u8 (m.e : Int)) ∧ w.cell? ⟨g, 5, none⟩ = some (.int .u8 (m.f : Int)) ∧ ∀ i, w.frozen? ⟨g, i, none⟩ = false :=
  ⟨blk_cell h 0, blk_cell h 1, blk_cell h 2, blk_cell h 3, blk_cell h 4, blk_cell h 5, fun i => frozen_of_row w g i _ 29 h⟩
theorem six_set {w : World} {g : Nat} {m : M6} (h : w.heap[g]? = some (.cells m.cs 29 (0, 0))) (k : M6) : (World.set6 w g 0 k).heap[g]? = some (.cells k.cs 29 (0, 0)) := by
  unfold World.set6
  have := blk_set (blk_set (blk_set (blk_set (blk_set (blk_set h 0 (.int .u8 (k.a : Int))) 1 (.int .u8 (k.b : Int))) 2 (.int .u8 (k.c : Int))) 3 (.int .u8 (k.d : Int))) 4 (.int .u8 (k.e : Int))) 5 (.int .u8 (k.f : Int))
  simpa using this
theorem mac_ret {w : World} {g : Nat} {m : M6} {tmps : Array Value} {v : Value} (h : w.heap[g]? = some (.cells m.cs 29 (0, 0))) (hp : tmps.getD 2 undef = .pointer (some ⟨g, 0, none⟩)) (hv : tmps.getD 3 undef = v) :
    (results Tryz.f111 tmps).run Tryz.prog w = .ok (.tuple #[m.val, v]) w := by
  have hp' : tmps[2]?.getD undef = .pointer (some ⟨g, 0, none⟩) := by simpa using hp
  have hv' : tmps[3]?.getD undef = v := by simpa using hv
  have hl := run_loadVar_row (P := Tryz.prog) w g 29 29 m.cs (0, 0) _ h Tryz.underlying29 rfl (by kernel_rfl)
  rw [results_cell_tmp (p := 2) (u := 3) (ty := 29) (by kernel_rfl)]
  simp [hp', hv', asAddr, hl, Result.andThen]
theorem eqg (et : TypeId) (ep : Value) (W : World) : (eqGuard .neq 94 (.tmp 28) (.const .nilIface) (.iface et ep) .nilIface).run Tryz.prog W = .ok () W := by
  have : eqGuard .neq 94 (.tmp 28) (.const .nilIface) (.iface et ep) .nilIface = pure () := by rfl
  rw [this]; rfl
theorem neqnil (et : TypeId) (ep : Value) (W : World) : (binOp .neq 94 (.iface et ep) .nilIface).run Tryz.prog W = .ok (.bool true) W := run_neq_held_nil _ _ _ _ (by kernel_rfl)
theorem neqnil' (W : World) : (binOp .neq 94 .nilIface .nilIface).run Tryz.prog W = .ok (.bool false) W := run_neq_nil_nil _ _ (by kernel_rfl)
theorem splitB_size (sep : ByteArray) : ∀ (k : Nat) (s p : ByteArray), p ∈ splitB sep 0 k s → p.size ≤ s.size := by
  intro k
  induction k with
  | zero => intro s p h; simp [splitB] at h; subst h; exact Nat.le_refl _
  | succ k ih =>
    intro s p h
    simp only [splitB] at h
    split at h
    · simp at h; subst h; exact Nat.le_refl _
    · rcases List.mem_cons.1 h with rfl | h
      · simp; omega
      · have := ih _ _ h; simp at this; omega
theorem new2 (w : World) (a b : Obj) : ((w.alloc a).alloc b).heap[w.heap.size + 1]? = some b := by
  have := heap_alloc_new (w.alloc a) b
  rwa [show (w.alloc a).heap.size = w.heap.size + 1 from by simp] at this
theorem new3 (w : World) (a b c : Obj) : (((w.alloc a).alloc b).alloc c).heap[w.heap.size + 1 + 1]? = some c := by
  have := new2 (w.alloc a) b c
  rwa [show (w.alloc a).heap.size = w.heap.size + 1 from by simp] at this
/-- What holds before round j. -/
structure MI (w : World) (s : List UInt8) (ps : List ByteArray) (j : Nat) (m : M6) (wr : World) : Prop where
  inn : m.In
  bw : BW w wr
  z : w.heap.size + 1 + 1 < wr.heap.size
  b0 : wr.heap[w.heap.size]? = some (.cells zz.cs 29 (0, 0))
  b1 : wr.heap[w.heap.size + 1]? = some (.cells m.cs 29 (0, 0))
  b2 : wr.heap[w.heap.size + 1 + 1]? = some (.cells (ps.map Value.string).toArray 9 (0, 0))
  eq : ∀ k : M6, k.In → k.text = s → ∀ l, l < j → m.at l = k.at l
theorem MI.call {w wr w1 : World} {s : List UInt8} {ps : List ByteArray} {j : Nat} {m : M6} (h : MI w s ps j m wr) (hN : BW wr w1) : MI w s ps j m w1 :=
  ⟨h.inn, h.bw.trans hN, Nat.lt_of_lt_of_le h.z hN.le, hN.blk h.b0, hN.blk h.b1, hN.blk h.b2, h.eq⟩
theorem m6_ext {m k : M6} (h : ∀ l, l < 6 → m.at l = k.at l) : m = k := by
  have h0 : m.a = k.a := h 0 (by omega)
  have h1 : m.b = k.b := h 1 (by omega)
  have h2 : m.c = k.c := h 2 (by omega)
  have h3 : m.d = k.d := h 3 (by omega)
  have h4 : m.e = k.e := h 4 (by omega)
  have h5 : m.f = k.f := h 5 (by omega)
  obtain ⟨a, b, c, d, e, f⟩ := m
  obtain ⟨a', b', c', d', e', f'⟩ := k
  simp only at h0 h1 h2 h3 h4 h5
  rw [h0, h1, h2, h3, h4, h5]
theorem MI.bw6 {w wr : World} {s : List UInt8} {ps : List ByteArray} {j : Nat} {m : M6} (h : MI w s ps j m wr) (k : M6) : BW w (World.set6 wr w.heap.size 0 k) := by
  unfold World.set6
  exact (((((h.bw.set (Nat.le_refl _) _).set (Nat.le_refl _) _).set (Nat.le_refl _) _).set (Nat.le_refl _) _).set (Nat.le_refl _) _).set (Nat.le_refl _) _
theorem MI.bad {w wr : World} {s : List UInt8} {ps : List ByteArray} {j : Nat} {m : M6} (h : MI w s ps j m wr) (hb : ∀ k : M6, k.In → k.text = s → False) : MacPost s w (.returned (.tuple #[zz.val, .int .i64 10])) (World.set6 wr w.heap.size 0 zz) :=
  ⟨zz, false, ⟨zz_in, fun h => (by cases h), fun k hk e => (hb k hk e).elim⟩, rfl, by
    unfold World.set6
    exact (((((h.bw.set (Nat.le_refl _) _).set (Nat.le_refl _) _).set (Nat.le_refl _) _).set (Nat.le_refl _) _).set (Nat.le_refl _) _).set (Nat.le_refl _) _⟩
set_option maxRecDepth 100000 in
set_option maxHeartbeats 4000000 in
theorem mac_said : MacSaid G := by
  intro s w g hs
  obtain ⟨mx, hmx⟩ := g.maxLen
  have hl0 : 0 < w.heap.size := block_lt_of_cell hmx
  have Hg := Hid.mk g; clear g
  have Hsp := Hid.mk (fun (W : World) (hW : BW w W) => Tryz.strings_Split s ⟨#[58]⟩ mx W (by omega) ((BW.cells hW 0 0 hl0).trans hmx) (by decide))
  have Hlen := Hid.mk (splitB_all ⟨#[58]⟩ (by decide) 0 _ s rfl)
  have Hmac := Hid.mk (show ∀ k : M6, k.In → k.text = s.data.toList → countB s ⟨#[58]⟩ = 5 ∧ (splitB ⟨#[58]⟩ 0 (countB s ⟨#[58]⟩) s).map (·.data.toList) = [hx k.a, hx k.b, hx k.c, hx k.d, hx k.e, hx k.f] from fun k hk e => by
    have h := split_mac k hk
    have hd := splitB_data ⟨#[58]⟩ 0 (countB s ⟨#[58]⟩) s
    rw [e] at h
    have h2 : (splitB ⟨#[58]⟩ 0 (countB s ⟨#[58]⟩) s).map (·.data.toList) = [hx k.a, hx k.b, hx k.c, hx k.d, hx k.e, hx k.f] := by rw [hd]; exact h
    refine ⟨?_, h2⟩
    have := congrArg List.length h2
    rw [List.length_map, Hlen.out] at this
    simpa using this)
  have hsz : ∀ p ∈ splitB ⟨#[58]⟩ 0 (countB s ⟨#[58]⟩) s, p.size ≤ 5000 := fun p hp => Nat.le_trans (splitB_size _ _ _ _ hp) hs
  generalize hn : countB s ⟨#[58]⟩ = n at Hsp Hlen Hmac hsz
  generalize hps : splitB ⟨#[58]⟩ 0 n s = ps at Hsp Hlen Hmac hsz
  clear hn hps hmx
  by_cases h5 : n = 5
  case neg =>
    have hne : ¬ ((n : Int) + 1 = 6) := by omega
    go_enter Tryz.func111, Tryz.ntmps111
    go_wp2_with (go_at_call 77; refine (Hsp.out _ (by exact ((BW.refl _).al _).al _)).mono ?_; rintro e w1 ⟨rfl, rfl⟩)
    refine bodyPost_ret (mac_ret (m := zz) (g := w.heap.size) ((((BW.refl _).al _).al _).blk (heap_alloc_new w _)) rfl rfl) rfl ?_
    exact ⟨zz, false, ⟨zz_in, fun h => (by cases h), fun k hk e => absurd (Hmac.out k hk e).1 h5⟩, rfl, ((BW.alloc _ _).al _).al _⟩
  case pos =>
    subst h5
    have hlen := Hlen.out
    have Hsz := Hid.mk (show ∀ p ∈ ps, p.size ≤ 5000 from hsz)
    rcases ps with _ | ⟨p0, _ | ⟨p1, _ | ⟨p2, _ | ⟨p3, _ | ⟨p4, _ | ⟨p5, _ | ⟨p6, r⟩⟩⟩⟩⟩⟩⟩ <;> simp at hlen
    clear hlen Hlen hsz
    go_enter Tryz.func111, Tryz.ntmps111
    go_wp2_with (go_at_call 77; refine (Hsp.out _ (by exact ((BW.refl _).al _).al _)).mono ?_; rintro e w1 ⟨rfl, rfl⟩)
    go_loopw [18] (fun i wr => ∃ (j : Nat) (m : M6), j ≤ 6 ∧ i = .int .i64 (j : Int) ∧ MI w s.data.toList [p0, p1, p2, p3, p4, p5] j m wr) (fun i _ => (6 - RowKit.intOf i).toNat)
    case atStart => exact ⟨0, zz, by omega, rfl, zz_in, ((BW.alloc _ _).al _).al _, by simp, (((BW.refl _).al _).al _).blk (heap_alloc_new w _), ((BW.refl _).al _).blk (new2 w _ _), new3 w _ _ _, fun _ _ _ l hl => absurd hl (Nat.not_lt_zero _)⟩
    case round =>
      obtain ⟨j, m, hj, rfl, hI⟩ := hrel
      have hjj : j = 0 ∨ j = 1 ∨ j = 2 ∨ j = 3 ∨ j = 4 ∨ j = 5 ∨ j = 6 := by omega
      rcases hjj with rfl | rfl | rfl | rfl | rfl | rfl | rfl
      · have hp : wr.cell? ⟨w.heap.size + 1 + 1, 0, none⟩ = some (.string p0) := blk_cell hI.b2 0
        have hz := hI.z
        have HI := Hid.mk hI; clear hI
        go_wp2_with (go_at_call 136; refine (hexPub p0 (Hsz.out _ (by simp)) _ (Hg.out.bw HI.out.bw)).mono ?_; rintro e w1 ⟨u, b, err, rfl, he, hu, hk, hN⟩; have HK := Hid.mk hk; clear hk; have HJ := Hid.mk (HI.out.call hN); obtain ⟨z0, z1, z2, z3, z4, z5, zf⟩ := six_cells HJ.out.b0; obtain ⟨y0, y1, y2, y3, y4, y5, yf⟩ := six_cells HJ.out.b1; have hz1 := HJ.out.z; clear hN hp hz)
        cases b with
        | false =>
          obtain ⟨et, ep, rfl⟩ := he
          rw [eqg]
          simp only [Result.andThen, neqnil]
          go_wp2
          exact bodyPost_ret (mac_ret (m := zz) (g := w.heap.size) (six_set HJ.out.b0 zz) rfl rfl) rfl (HJ.out.bad (fun k hk e => by
            have hq := (Hmac.out k hk e).2
            simp only [List.map_cons, List.map_nil, List.cons.injEq, and_true] at hq
            obtain ⟨e0, e1, e2, e3, e4, e5⟩ := hq
            obtain ⟨k0, k1, k2, k3, k4, k5⟩ := hk
            have := (HK.out _ k0 e0).2
            cases this))
        | true =>
          have he' : err = .nilIface := he
          subst he'
          have q2 := neqnil'
          have hw8 : IntKind.u8.wrap (u : Int) = (u : Int) := by rw [IntKind.wrap_u8]; omega
          go_wp2
          obtain ⟨i0, i1, i2, i3, i4, i5⟩ := HJ.out.inn
          have iu : u < 256 := by omega
          refine ⟨⟨1, { m with a := u }, by omega, by go_num, ⟨iu, i1, i2, i3, i4, i5⟩, HJ.out.bw.set (by simp) _, by simpa using hz1, blk_far HJ.out.b0 (by simp) _, by simpa using blk_set HJ.out.b1 0 (.int .u8 (u : Int)), blk_far HJ.out.b2 (by simp) _, fun k hk e l hl => ?_⟩, by simp [RowKit.intOf]⟩
          have hq := (Hmac.out k hk e).2
          have ho := HJ.out.eq k hk e
          simp only [List.map_cons, List.map_nil, List.cons.injEq, and_true] at hq
          obtain ⟨e0, e1, e2, e3, e4, e5⟩ := hq
          obtain ⟨k0, k1, k2, k3, k4, k5⟩ := hk
          have hu' := (HK.out _ k0 e0).1
          rcases Nat.lt_or_ge l 0 with h | h
          · rw [← ho l h]
            rcases l with _ | _ | _ | _ | _ | _ | l <;> first | rfl | omega
          · have : l = 0 := by omega
            subst this
            exact hu'
      · have hp : wr.cell? ⟨w.heap.size + 1 + 1, 1, none⟩ = some (.string p1) := blk_cell hI.b2 1
        have hz := hI.z
        have HI := Hid.mk hI; clear hI
        go_wp2_with (go_at_call 136; refine (hexPub p1 (Hsz.out _ (by simp)) _ (Hg.out.bw HI.out.bw)).mono ?_; rintro e w1 ⟨u, b, err, rfl, he, hu, hk, hN⟩; have HK := Hid.mk hk; clear hk; have HJ := Hid.mk (HI.out.call hN); obtain ⟨z0, z1, z2, z3, z4, z5, zf⟩ := six_cells HJ.out.b0; obtain ⟨y0, y1, y2, y3, y4, y5, yf⟩ := six_cells HJ.out.b1; have hz1 := HJ.out.z; clear hN hp hz)
        cases b with
        | false =>
          obtain ⟨et, ep, rfl⟩ := he
          rw [eqg]
          simp only [Result.andThen, neqnil]
          go_wp2
          exact bodyPost_ret (mac_ret (m := zz) (g := w.heap.size) (six_set HJ.out.b0 zz) rfl rfl) rfl (HJ.out.bad (fun k hk e => by
            have hq := (Hmac.out k hk e).2
            simp only [List.map_cons, List.map_nil, List.cons.injEq, and_true] at hq
            obtain ⟨e0, e1, e2, e3, e4, e5⟩ := hq
            obtain ⟨k0, k1, k2, k3, k4, k5⟩ := hk
            have := (HK.out _ k1 e1).2
            cases this))
        | true =>
          have he' : err = .nilIface := he
          subst he'
          have q2 := neqnil'
          have hw8 : IntKind.u8.wrap (u : Int) = (u : Int) := by rw [IntKind.wrap_u8]; omega
          go_wp2
          obtain ⟨i0, i1, i2, i3, i4, i5⟩ := HJ.out.inn
          have iu : u < 256 := by omega
          refine ⟨⟨2, { m with b := u }, by omega, by go_num, ⟨i0, iu, i2, i3, i4, i5⟩, HJ.out.bw.set (by simp) _, by simpa using hz1, blk_far HJ.out.b0 (by simp) _, by simpa using blk_set HJ.out.b1 1 (.int .u8 (u : Int)), blk_far HJ.out.b2 (by simp) _, fun k hk e l hl => ?_⟩, by simp [RowKit.intOf]⟩
          have hq := (Hmac.out k hk e).2
          have ho := HJ.out.eq k hk e
          simp only [List.map_cons, List.map_nil, List.cons.injEq, and_true] at hq
          obtain ⟨e0, e1, e2, e3, e4, e5⟩ := hq
          obtain ⟨k0, k1, k2, k3, k4, k5⟩ := hk
          have hu' := (HK.out _ k1 e1).1
          rcases Nat.lt_or_ge l 1 with h | h
          · rw [← ho l h]
            rcases l with _ | _ | _ | _ | _ | _ | l <;> first | rfl | omega
          · have : l = 1 := by omega
            subst this
            exact hu'
      · have hp : wr.cell? ⟨w.heap.size + 1 + 1, 2, none⟩ = some (.string p2) := blk_cell hI.b2 2
        have hz := hI.z
        have HI := Hid.mk hI; clear hI
        go_wp2_with (go_at_call 136; refine (hexPub p2 (Hsz.out _ (by simp)) _ (Hg.out.bw HI.out.bw)).mono ?_; rintro e w1 ⟨u, b, err, rfl, he, hu, hk, hN⟩; have HK := Hid.mk hk; clear hk; have HJ := Hid.mk (HI.out.call hN); obtain ⟨z0, z1, z2, z3, z4, z5, zf⟩ := six_cells HJ.out.b0; obtain ⟨y0, y1, y2, y3, y4, y5, yf⟩ := six_cells HJ.out.b1; have hz1 := HJ.out.z; clear hN hp hz)
        cases b with
        | false =>
          obtain ⟨et, ep, rfl⟩ := he
          rw [eqg]
          simp only [Result.andThen, neqnil]
          go_wp2
          exact bodyPost_ret (mac_ret (m := zz) (g := w.heap.size) (six_set HJ.out.b0 zz) rfl rfl) rfl (HJ.out.bad (fun k hk e => by
            have hq := (Hmac.out k hk e).2
            simp only [List.map_cons, List.map_nil, List.cons.injEq, and_true] at hq
            obtain ⟨e0, e1, e2, e3, e4, e5⟩ := hq
            obtain ⟨k0, k1, k2, k3, k4, k5⟩ := hk
            have := (HK.out _ k2 e2).2
            cases this))
        | true =>
          have he' : err = .nilIface := he
          subst he'
          have q2 := neqnil'
          have hw8 : IntKind.u8.wrap (u : Int) = (u : Int) := by rw [IntKind.wrap_u8]; omega
          go_wp2
          obtain ⟨i0, i1, i2, i3, i4, i5⟩ := HJ.out.inn
          have iu : u < 256 := by omega
          refine ⟨⟨3, { m with c := u }, by omega, by go_num, ⟨i0, i1, iu, i3, i4, i5⟩, HJ.out.bw.set (by simp) _, by simpa using hz1, blk_far HJ.out.b0 (by simp) _, by simpa using blk_set HJ.out.b1 2 (.int .u8 (u : Int)), blk_far HJ.out.b2 (by simp) _, fun k hk e l hl => ?_⟩, by simp [RowKit.intOf]⟩
          have hq := (Hmac.out k hk e).2
          have ho := HJ.out.eq k hk e
          simp only [List.map_cons, List.map_nil, List.cons.injEq, and_true] at hq
          obtain ⟨e0, e1, e2, e3, e4, e5⟩ := hq
          obtain ⟨k0, k1, k2, k3, k4, k5⟩ := hk
          have hu' := (HK.out _ k2 e2).1
          rcases Nat.lt_or_ge l 2 with h | h
          · rw [← ho l h]
            rcases l with _ | _ | _ | _ | _ | _ | l <;> first | rfl | omega
          · have : l = 2 := by omega
            subst this
            exact hu'
      · have hp : wr.cell? ⟨w.heap.size + 1 + 1, 3, none⟩ = some (.string p3) := blk_cell hI.b2 3
        have hz := hI.z
        have HI := Hid.mk hI; clear hI
        go_wp2_with (go_at_call 136; refine (hexPub p3 (Hsz.out _ (by simp)) _ (Hg.out.bw HI.out.bw)).mono ?_; rintro e w1 ⟨u, b, err, rfl, he, hu, hk, hN⟩; have HK := Hid.mk hk; clear hk; have HJ := Hid.mk (HI.out.call hN); obtain ⟨z0, z1, z2, z3, z4, z5, zf⟩ := six_cells HJ.out.b0; obtain ⟨y0, y1, y2, y3, y4, y5, yf⟩ := six_cells HJ.out.b1; have hz1 := HJ.out.z; clear hN hp hz)
        cases b with
        | false =>
          obtain ⟨et, ep, rfl⟩ := he
          rw [eqg]
          simp only [Result.andThen, neqnil]
          go_wp2
          exact bodyPost_ret (mac_ret (m := zz) (g := w.heap.size) (six_set HJ.out.b0 zz) rfl rfl) rfl (HJ.out.bad (fun k hk e => by
            have hq := (Hmac.out k hk e).2
            simp only [List.map_cons, List.map_nil, List.cons.injEq, and_true] at hq
            obtain ⟨e0, e1, e2, e3, e4, e5⟩ := hq
            obtain ⟨k0, k1, k2, k3, k4, k5⟩ := hk
            have := (HK.out _ k3 e3).2
            cases this))
        | true =>
          have he' : err = .nilIface := he
          subst he'
          have q2 := neqnil'
          have hw8 : IntKind.u8.wrap (u : Int) = (u : Int) := by rw [IntKind.wrap_u8]; omega
          go_wp2
          obtain ⟨i0, i1, i2, i3, i4, i5⟩ := HJ.out.inn
          have iu : u < 256 := by omega
          refine ⟨⟨4, { m with d := u }, by omega, by go_num, ⟨i0, i1, i2, iu, i4, i5⟩, HJ.out.bw.set (by simp) _, by simpa using hz1, blk_far HJ.out.b0 (by simp) _, by simpa using blk_set HJ.out.b1 3 (.int .u8 (u : Int)), blk_far HJ.out.b2 (by simp) _, fun k hk e l hl => ?_⟩, by simp [RowKit.intOf]⟩
          have hq := (Hmac.out k hk e).2
          have ho := HJ.out.eq k hk e
          simp only [List.map_cons, List.map_nil, List.cons.injEq, and_true] at hq
          obtain ⟨e0, e1, e2, e3, e4, e5⟩ := hq
          obtain ⟨k0, k1, k2, k3, k4, k5⟩ := hk
          have hu' := (HK.out _ k3 e3).1
          rcases Nat.lt_or_ge l 3 with h | h
          · rw [← ho l h]
            rcases l with _ | _ | _ | _ | _ | _ | l <;> first | rfl | omega
          · have : l = 3 := by omega
            subst this
            exact hu'
      · have hp : wr.cell? ⟨w.heap.size + 1 + 1, 4, none⟩ = some (.string p4) := blk_cell hI.b2 4
        have hz := hI.z
        have HI := Hid.mk hI; clear hI
        go_wp2_with (go_at_call 136; refine (hexPub p4 (Hsz.out _ (by simp)) _ (Hg.out.bw HI.out.bw)).mono ?_; rintro e w1 ⟨u, b, err, rfl, he, hu, hk, hN⟩; have HK := Hid.mk hk; clear hk; have HJ := Hid.mk (HI.out.call hN); obtain ⟨z0, z1, z2, z3, z4, z5, zf⟩ := six_cells HJ.out.b0; obtain ⟨y0, y1, y2, y3, y4, y5, yf⟩ := six_cells HJ.out.b1; have hz1 := HJ.out.z; clear hN hp hz)
        cases b with
        | false =>
          obtain ⟨et, ep, rfl⟩ := he
          rw [eqg]
          simp only [Result.andThen, neqnil]
          go_wp2
          exact bodyPost_ret (mac_ret (m := zz) (g := w.heap.size) (six_set HJ.out.b0 zz) rfl rfl) rfl (HJ.out.bad (fun k hk e => by
            have hq := (Hmac.out k hk e).2
            simp only [List.map_cons, List.map_nil, List.cons.injEq, and_true] at hq
            obtain ⟨e0, e1, e2, e3, e4, e5⟩ := hq
            obtain ⟨k0, k1, k2, k3, k4, k5⟩ := hk
            have := (HK.out _ k4 e4).2
            cases this))
        | true =>
          have he' : err = .nilIface := he
          subst he'
          have q2 := neqnil'
          have hw8 : IntKind.u8.wrap (u : Int) = (u : Int) := by rw [IntKind.wrap_u8]; omega
          go_wp2
          obtain ⟨i0, i1, i2, i3, i4, i5⟩ := HJ.out.inn
          have iu : u < 256 := by omega
          refine ⟨⟨5, { m with e := u }, by omega, by go_num, ⟨i0, i1, i2, i3, iu, i5⟩, HJ.out.bw.set (by simp) _, by simpa using hz1, blk_far HJ.out.b0 (by simp) _, by simpa using blk_set HJ.out.b1 4 (.int .u8 (u : Int)), blk_far HJ.out.b2 (by simp) _, fun k hk e l hl => ?_⟩, by simp [RowKit.intOf]⟩
          have hq := (Hmac.out k hk e).2
          have ho := HJ.out.eq k hk e
          simp only [List.map_cons, List.map_nil, List.cons.injEq, and_true] at hq
          obtain ⟨e0, e1, e2, e3, e4, e5⟩ := hq
          obtain ⟨k0, k1, k2, k3, k4, k5⟩ := hk
          have hu' := (HK.out _ k4 e4).1
          rcases Nat.lt_or_ge l 4 with h | h
          · rw [← ho l h]
            rcases l with _ | _ | _ | _ | _ | _ | l <;> first | rfl | omega
          · have : l = 4 := by omega
            subst this
            exact hu'
      · have hp : wr.cell? ⟨w.heap.size + 1 + 1, 5, none⟩ = some (.string p5) := blk_cell hI.b2 5
        have hz := hI.z
        have HI := Hid.mk hI; clear hI
        go_wp2_with (go_at_call 136; refine (hexPub p5 (Hsz.out _ (by simp)) _ (Hg.out.bw HI.out.bw)).mono ?_; rintro e w1 ⟨u, b, err, rfl, he, hu, hk, hN⟩; have HK := Hid.mk hk; clear hk; have HJ := Hid.mk (HI.out.call hN); obtain ⟨z0, z1, z2, z3, z4, z5, zf⟩ := six_cells HJ.out.b0; obtain ⟨y0, y1, y2, y3, y4, y5, yf⟩ := six_cells HJ.out.b1; have hz1 := HJ.out.z; clear hN hp hz)
        cases b with
        | false =>
          obtain ⟨et, ep, rfl⟩ := he
          rw [eqg]
          simp only [Result.andThen, neqnil]
          go_wp2
          exact bodyPost_ret (mac_ret (m := zz) (g := w.heap.size) (six_set HJ.out.b0 zz) rfl rfl) rfl (HJ.out.bad (fun k hk e => by
            have hq := (Hmac.out k hk e).2
            simp only [List.map_cons, List.map_nil, List.cons.injEq, and_true] at hq
            obtain ⟨e0, e1, e2, e3, e4, e5⟩ := hq
            obtain ⟨k0, k1, k2, k3, k4, k5⟩ := hk
            have := (HK.out _ k5 e5).2
            cases this))
        | true =>
          have he' : err = .nilIface := he
          subst he'
          have q2 := neqnil'
          have hw8 : IntKind.u8.wrap (u : Int) = (u : Int) := by rw [IntKind.wrap_u8]; omega
          go_wp2
          obtain ⟨i0, i1, i2, i3, i4, i5⟩ := HJ.out.inn
          have iu : u < 256 := by omega
          refine ⟨⟨6, { m with f := u }, by omega, by go_num, ⟨i0, i1, i2, i3, i4, iu⟩, HJ.out.bw.set (by simp) _, by simpa using hz1, blk_far HJ.out.b0 (by simp) _, by simpa using blk_set HJ.out.b1 5 (.int .u8 (u : Int)), blk_far HJ.out.b2 (by simp) _, fun k hk e l hl => ?_⟩, by simp [RowKit.intOf]⟩
          have hq := (Hmac.out k hk e).2
          have ho := HJ.out.eq k hk e
          simp only [List.map_cons, List.map_nil, List.cons.injEq, and_true] at hq
          obtain ⟨e0, e1, e2, e3, e4, e5⟩ := hq
          obtain ⟨k0, k1, k2, k3, k4, k5⟩ := hk
          have hu' := (HK.out _ k5 e5).1
          rcases Nat.lt_or_ge l 5 with h | h
          · rw [← ho l h]
            rcases l with _ | _ | _ | _ | _ | _ | l <;> first | rfl | omega
          · have : l = 5 := by omega
            subst this
            exact hu'
      · obtain ⟨z0, z1, z2, z3, z4, z5, zf⟩ := six_cells hI.b0
        obtain ⟨y0, y1, y2, y3, y4, y5, yf⟩ := six_cells hI.b1
        have hz := hI.z
        have HI := Hid.mk hI; clear hI
        go_wp2_with (go_at_call 109; refine (macText_any m HI.out.inn _ (Hg.out.bw HI.out.bw) (block_lt_of_cell (Hg.out.bw HI.out.bw).tz) (Hg.out.bw HI.out.bw).tz).mono ?_; rintro e w1 ⟨rfl, hN⟩; have HJ := Hid.mk (HI.out.call hN); obtain ⟨z0, z1, z2, z3, z4, z5, zf⟩ := six_cells HJ.out.b0; obtain ⟨y0, y1, y2, y3, y4, y5, yf⟩ := six_cells HJ.out.b1; have hz1 := HJ.out.z; clear hN)
        · rename_i h
          have ht : ¬ m.text = s.data.toList := by simpa [bstr, ByteArray.toList_eq] using h
          exact bodyPost_ret (mac_ret (m := zz) (g := w.heap.size) (six_set HJ.out.b0 zz) rfl rfl) rfl (HJ.out.bad (fun k hk e => ht (by rw [m6_ext (HJ.out.eq k hk e)]; exact e)))
        · rename_i h
          have ht : m.text = s.data.toList := by simpa [bstr, ByteArray.toList_eq] using h
          exact bodyPost_ret (mac_ret (m := m) (g := w.heap.size) (six_set HJ.out.b0 m) rfl rfl) rfl ⟨m, true, ⟨HJ.out.inn, fun _ => ht, fun k hk e => ⟨m6_ext (HJ.out.eq k hk e), rfl⟩⟩, rfl, HJ.out.bw6 m⟩
end Go.Proofs.YtncghggejenmbaaGreatDoor
