/- Ports: what New and flip answer. -/
import Derived.Test.YtncghggejenmbaaGreatDoorB1
import Derived.StillTailTactics
namespace Go.Proofs.YtncghggejenmbaaGreatDoor
open Go.RowKit
set_option linter.unusedSimpArgs false
set_option linter.unusedVariables false

set_option maxRecDepth 100000 in
set_option maxHeartbeats 400000 in
theorem flip_any (b ws m k : Nat) (x : Int) (w : World) (hk : k / 64 < m) (hm : m ≤ 1025) (hkk : k ≤ 65600) (c4 : w.cell? ⟨b, 4, none⟩ = some (.slice (some ⟨ws, 0, none⟩) m m))
    (cx : w.cell? ⟨ws, k / 64, none⟩ = some (.int .u64 x)) (fx : w.frozen? ⟨ws, k / 64, none⟩ = false) :
    Calls Tryz.prog 98 #[.pointer (some ⟨b, 0, none⟩), .int .i64 k] w fun e w' => e = .returned (.tuple #[]) ∧ w' = (w.setCell ⟨ws, k / 64, none⟩ (.int .u64 (Go.bits .xor .u64 x (IntKind.u64.wrap (2 ^ (k % 64)))))).drew := by
  have e1 : IntKind.i64.wrap ((k : Int) / 64) = (k : Int) / 64 := by rw [IntKind.wrap_i64]; omega
  have e2 : (k : Int) / 64 < (m : Int) := by omega
  have e3 : (0 : Int) ≤ (k : Int) / 64 := by omega
  have e4 : ((k : Int) / 64).toNat = k / 64 := by omega
  have e5 : (k : Int).tmod 64 = (k : Int) % 64 := Int.tmod_eq_emod_of_nonneg (by omega)
  have e6 : (0 : Int) ≤ (k : Int) % 64 := by omega
  have e7 : (k : Int) % 64 < 64 := by omega
  have e8 : ((k : Int) % 64).toNat = k % 64 := by omega
  go_enter Tryz.func98, Tryz.ntmps98
  go_still_tail 13, (by kernel_rfl)
  change wpList _ _ _ _ _ w.drew
  go_wp2
  go_end0
  exact ⟨rfl, rfl⟩

def WordsAt (ws m : Nat) (w : World) : Prop := ∀ j, j < m → ∃ x : Int, w.cell? ⟨ws, j, none⟩ = some (.int .u64 x) ∧ w.frozen? ⟨ws, j, none⟩ = false
theorem WordsAt.set {ws m j : Nat} {w : World} (h : WordsAt ws m w) (v : Int) (hj : j < m) : WordsAt ws m (w.setCell ⟨ws, j, none⟩ (.int .u64 v)).drew := by
  intro i hi
  obtain ⟨x, hx, hf⟩ := h i hi
  obtain ⟨y, hy, _⟩ := h j hj
  by_cases e : i = j
  · subst e
    exact ⟨v, by go_simp, by go_simp⟩
  · exact ⟨x, by go_simp, by go_simp⟩

theorem WordsAt.made (w : World) (m t : Nat) (o : Obj) : WordsAt w.heap.size m ((w.alloc (Obj.cells (madeCells #[Value.int .u64 0] m) t)).alloc o) := by
  intro j hj
  refine ⟨0, ?_, ?_⟩
  · go_simp
    simp [madeCells, hj, Nat.mod_one]
  · go_simp
def portsB (l m : Int) : Bool := decide (1 ≤ l ∧ m ≤ 65535 ∧ l ≤ m)
set_option maxRecDepth 100000 in
set_option maxHeartbeats 800000 in
theorem portsNew_any (l m : Int) (w : World) (h0 : -9223372036854775808 ≤ l) (h1 : l ≤ 9223372036854775807) (h2 : -9223372036854775808 ≤ m) (h3 : m ≤ 9223372036854775807) :
    Calls Tryz.prog 38 #[.int .i64 l, .int .i64 m] w (RetP (okE (portsB l m)) w) := by
  by_cases hp : 1 ≤ l ∧ m ≤ 65535 ∧ l ≤ m
  · have hpe : okE (portsB l m) = 0 := by simp [okE, portsB, hp]
    have Hpe := Hid.mk hpe; clear hpe
    obtain ⟨p1, p2, p3⟩ := hp
    obtain ⟨many, hmany⟩ : ∃ n : Nat, (n : Int) = m - l + 1 := ⟨(m - l + 1).toNat, by omega⟩
    obtain ⟨nw, hnw⟩ : ∃ n : Nat, n = (many + 63) / 64 := ⟨_, rfl⟩
    have b1 : 1 ≤ many := by omega
    have b2 : many ≤ 65535 := by omega
    have b3 : nw ≤ 1024 := by omega
    have b4 : many ≤ nw * 64 := by omega
    have e0 : m - l + 1 = (many : Int) := hmany.symm
    have e1 : (((many : Int) + 64 - 1) / 64) = (nw : Int) := by omega
    obtain ⟨i, hi, hz0, hz1, hz2⟩ := info_parts (show (Tryz.prog.info? 30).map (fun i => (i.zero, i.size, i.bytes)) = some (some (.int .u64 0), 1, 8) by kernel_rfl)
    have hmk : ∀ W, (Instr.makeSlice 154 (.int .i64 (nw : Int)) (.int .i64 (nw : Int))).run Tryz.prog W = .ok (.slice (some ⟨W.heap.size, 0, none⟩) nw nw) (W.alloc (.cells (madeCells #[.int .u64 0] nw) 30)) :=
      fun W => by have := run_make W 154 30 i _ Tryz.underlying154 hi hz0 .i64 .i64 (nw : Int) (nw : Int) (by omega) (by omega) (by rw [hz2]; omega) (by omega); rw [hz1] at this; simpa [Value.cells] using this
    clear hi hz0 hz1 hz2
    have Hn := Hid.mk hnw; have Hm := Hid.mk hmany; clear hnw hmany
    go_enter Tryz.func38, Tryz.ntmps38
    go_wp2
    rw [e1]
    clear e0 e1
    go_loopw [8] (fun i wr => ∃ k : Nat, many ≤ k ∧ k ≤ nw * 64 ∧ i = .int .i64 k ∧ wr.cell? ⟨w.heap.size + 1, 4, none⟩ = some (.slice (some ⟨w.heap.size, 0, none⟩) nw nw) ∧ WordsAt w.heap.size nw wr ∧ BW w wr) (fun i _ => nw * 64 - (intOf i).toNat)
    case atStart => exact ⟨many, Nat.le_refl _, b4, rfl, by go_simp, WordsAt.made _ _ _ _, ((BW.refl w).al _).al _⟩
    case round =>
      obtain ⟨k, hk1, hk2, rfl, hc4, hws, hbw⟩ := hrel
      have Hws := Hid.mk hws; have Hbw := Hid.mk hbw; clear hws hbw
      by_cases hlt : k < nw * 64
      · obtain ⟨x, hx, hfx⟩ := Hws.out (k / 64) (by omega)
        go_wp2_with (go_at_call 98; refine (flip_any _ _ nw k x _ (by omega) (by omega) (by omega) hc4 hx hfx).mono ?_; rintro e w' ⟨rfl, rfl⟩)
        go_roundw
        case rel =>
          exact ⟨k + 1, by omega, by omega, by go_num, by go_simp, Hws.out.set _ (by omega), (Hbw.out.set (by simp) _).dr⟩
        case measure => simp [intOf]; omega
      · go_wp2
        go_ret2
        exact ⟨_, ret_eq (by rw [Hpe.out]; rfl), Hbw.out⟩
  · go_enter Tryz.func38, Tryz.ntmps38
    go_wp2
    all_goals go_ret2
    all_goals exact ⟨none, ret_eq (by simp [okE, portsB]; try omega), BW.refl _⟩
end Go.Proofs.YtncghggejenmbaaGreatDoor
