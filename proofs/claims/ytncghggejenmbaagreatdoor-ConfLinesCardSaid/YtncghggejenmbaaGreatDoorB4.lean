/- A configuration as its cells, and whether it is right. -/
import Derived.Test.YtncghggejenmbaaGreatDoorB3
namespace Go.Proofs.YtncghggejenmbaaGreatDoor
open Go.RowKit
set_option linter.unusedSimpArgs false
set_option linter.unusedVariables false

/-- A configuration's numbers, in the order in which they lie. -/
structure CF where
  ii : Int
  ib : Int
  oi : Int
  ob : Int
  ro : Int
  m0 : Int
  m1 : Int
  m2 : Int
  m3 : Int
  m4 : Int
  m5 : Int
  n0 : Int
  n1 : Int
  n2 : Int
  n3 : Int
  n4 : Int
  n5 : Int
  maps : Int
  flows : Int
  lst : Int
  mst : Int
  udp : Int
  opn : Int
  lng : Int
  qry : Int
  room : Int
  wt : Int
  life : Int
  pat : Int
  bufs : Int
  rng : Int
  own : Int
  msk : Int
  fst : Int
  last : Int
  tim : Int
  hld : Int
  qut : Int
deriving DecidableEq
/-- Its cells. -/
def CF.cells (c : CF) : Array Value := #[.int .u32 c.ii, .int .i64 c.ib, .int .u32 c.oi, .int .i64 c.ob, .int .u32 c.ro, .int .u8 c.m0, .int .u8 c.m1, .int .u8 c.m2, .int .u8 c.m3, .int .u8 c.m4, .int .u8 c.m5, .int .u8 c.n0, .int .u8 c.n1, .int .u8 c.n2, .int .u8 c.n3, .int .u8 c.n4, .int .u8 c.n5, .int .i64 c.maps, .int .i64 c.flows, .int .i64 c.lst, .int .i64 c.mst, .int .u64 c.udp, .int .u64 c.opn, .int .u64 c.lng, .int .u64 c.qry, .int .i64 c.room, .int .i64 c.wt, .int .u64 c.life, .int .u64 c.pat, .int .i64 c.bufs, .int .i64 c.rng, .int .u32 c.own, .int .u32 c.msk, .int .u32 c.fst, .int .u32 c.last, .int .u32 c.tim, .int .u32 c.hld, .int .u32 c.qut]
abbrev CF.val (c : CF) : Value := .agg c.cells
abbrev CF.lit (c : CF) : Value := .agg #[.int .u32 c.ii, .int .i64 c.ib, .int .u32 c.oi, .int .i64 c.ob, .int .u32 c.ro, .int .u8 c.m0, .int .u8 c.m1, .int .u8 c.m2, .int .u8 c.m3, .int .u8 c.m4, .int .u8 c.m5, .int .u8 c.n0, .int .u8 c.n1, .int .u8 c.n2, .int .u8 c.n3, .int .u8 c.n4, .int .u8 c.n5, .int .i64 c.maps, .int .i64 c.flows, .int .i64 c.lst, .int .i64 c.mst, .int .u64 c.udp, .int .u64 c.opn, .int .u64 c.lng, .int .u64 c.qry, .int .i64 c.room, .int .i64 c.wt, .int .u64 c.life, .int .u64 c.pat, .int .i64 c.bufs, .int .i64 c.rng, .int .u32 c.own, .int .u32 c.msk, .int .u32 c.fst, .int .u32 c.last, .int .u32 c.tim, .int .u32 c.hld, .int .u32 c.qut]
theorem CF.lit_eq (c : CF) : c.lit = c.val := rfl
@[go_sem, simp] theorem CF.size (c : CF) : c.cells.size = 38 := rfl
@[go_sem, simp] theorem CF.get0 (c : CF) : c.cells[0]? = some (.int .u32 c.ii) := rfl
@[go_sem, simp] theorem CF.get1 (c : CF) : c.cells[1]? = some (.int .i64 c.ib) := rfl
@[go_sem, simp] theorem CF.get2 (c : CF) : c.cells[2]? = some (.int .u32 c.oi) := rfl
@[go_sem, simp] theorem CF.get3 (c : CF) : c.cells[3]? = some (.int .i64 c.ob) := rfl
@[go_sem, simp] theorem CF.get4 (c : CF) : c.cells[4]? = some (.int .u32 c.ro) := rfl
@[go_sem, simp] theorem CF.get5 (c : CF) : c.cells[5]? = some (.int .u8 c.m0) := rfl
@[go_sem, simp] theorem CF.get6 (c : CF) : c.cells[6]? = some (.int .u8 c.m1) := rfl
@[go_sem, simp] theorem CF.get7 (c : CF) : c.cells[7]? = some (.int .u8 c.m2) := rfl
@[go_sem, simp] theorem CF.get8 (c : CF) : c.cells[8]? = some (.int .u8 c.m3) := rfl
@[go_sem, simp] theorem CF.get9 (c : CF) : c.cells[9]? = some (.int .u8 c.m4) := rfl
@[go_sem, simp] theorem CF.get10 (c : CF) : c.cells[10]? = some (.int .u8 c.m5) := rfl
@[go_sem, simp] theorem CF.get11 (c : CF) : c.cells[11]? = some (.int .u8 c.n0) := rfl
@[go_sem, simp] theorem CF.get12 (c : CF) : c.cells[12]? = some (.int .u8 c.n1) := rfl
@[go_sem, simp] theorem CF.get13 (c : CF) : c.cells[13]? = some (.int .u8 c.n2) := rfl
@[go_sem, simp] theorem CF.get14 (c : CF) : c.cells[14]? = some (.int .u8 c.n3) := rfl
@[go_sem, simp] theorem CF.get15 (c : CF) : c.cells[15]? = some (.int .u8 c.n4) := rfl
@[go_sem, simp] theorem CF.get16 (c : CF) : c.cells[16]? = some (.int .u8 c.n5) := rfl
@[go_sem, simp] theorem CF.get17 (c : CF) : c.cells[17]? = some (.int .i64 c.maps) := rfl
@[go_sem, simp] theorem CF.get18 (c : CF) : c.cells[18]? = some (.int .i64 c.flows) := rfl
@[go_sem, simp] theorem CF.get19 (c : CF) : c.cells[19]? = some (.int .i64 c.lst) := rfl
@[go_sem, simp] theorem CF.get20 (c : CF) : c.cells[20]? = some (.int .i64 c.mst) := rfl
@[go_sem, simp] theorem CF.get21 (c : CF) : c.cells[21]? = some (.int .u64 c.udp) := rfl
@[go_sem, simp] theorem CF.get22 (c : CF) : c.cells[22]? = some (.int .u64 c.opn) := rfl
@[go_sem, simp] theorem CF.get23 (c : CF) : c.cells[23]? = some (.int .u64 c.lng) := rfl
@[go_sem, simp] theorem CF.get24 (c : CF) : c.cells[24]? = some (.int .u64 c.qry) := rfl
@[go_sem, simp] theorem CF.get25 (c : CF) : c.cells[25]? = some (.int .i64 c.room) := rfl
@[go_sem, simp] theorem CF.get26 (c : CF) : c.cells[26]? = some (.int .i64 c.wt) := rfl
@[go_sem, simp] theorem CF.get27 (c : CF) : c.cells[27]? = some (.int .u64 c.life) := rfl
@[go_sem, simp] theorem CF.get28 (c : CF) : c.cells[28]? = some (.int .u64 c.pat) := rfl
@[go_sem, simp] theorem CF.get29 (c : CF) : c.cells[29]? = some (.int .i64 c.bufs) := rfl
@[go_sem, simp] theorem CF.get30 (c : CF) : c.cells[30]? = some (.int .i64 c.rng) := rfl
@[go_sem, simp] theorem CF.get31 (c : CF) : c.cells[31]? = some (.int .u32 c.own) := rfl
@[go_sem, simp] theorem CF.get32 (c : CF) : c.cells[32]? = some (.int .u32 c.msk) := rfl
@[go_sem, simp] theorem CF.get33 (c : CF) : c.cells[33]? = some (.int .u32 c.fst) := rfl
@[go_sem, simp] theorem CF.get34 (c : CF) : c.cells[34]? = some (.int .u32 c.last) := rfl
@[go_sem, simp] theorem CF.get35 (c : CF) : c.cells[35]? = some (.int .u32 c.tim) := rfl
@[go_sem, simp] theorem CF.get36 (c : CF) : c.cells[36]? = some (.int .u32 c.hld) := rfl
@[go_sem, simp] theorem CF.get37 (c : CF) : c.cells[37]? = some (.int .u32 c.qut) := rfl
theorem wpList_loadC {ops : Array Oper} {rest : List Oper} {o : Oper} {a : Act} {w : World} {Q : Exit → Act → World → Prop} (c : CF) (x : Operand) (g : Nat)
    (hw : Region.wanted o (yielded ops a.tmps) = true) (ho : o.op = .load 38 x) (hx : a.eval x = .pointer (some ⟨g, 0, none⟩)) (hg : w.heap[g]? = some (.cells c.cells 38 (0, 0)))
    (h : wpList Tryz.prog ops Q rest (a.put o.dst c.val) w) : wpList Tryz.prog ops Q (o :: rest) a w :=
  wpList_loadg 38 x g c.cells _ hw ho hx hg Tryz.underlying38 rfl (by rw [CF.size]; kernel_rfl) h
def InI (x : Int) : Prop := -9223372036854775808 ≤ x ∧ x ≤ 9223372036854775807
def InU (x : Int) : Prop := 0 ≤ x ∧ x ≤ 18446744073709551615
def InW (x : Int) : Prop := 0 ≤ x ∧ x ≤ 4294967295
def InB (x : Int) : Prop := 0 ≤ x ∧ x ≤ 255
structure CF.Ok (c : CF) : Prop where
  ii : InW c.ii
  ib : InI c.ib
  oi : InW c.oi
  ob : InI c.ob
  ro : InW c.ro
  m0 : InB c.m0
  m1 : InB c.m1
  m2 : InB c.m2
  m3 : InB c.m3
  m4 : InB c.m4
  m5 : InB c.m5
  n0 : InB c.n0
  n1 : InB c.n1
  n2 : InB c.n2
  n3 : InB c.n3
  n4 : InB c.n4
  n5 : InB c.n5
  maps : InI c.maps
  flows : InI c.flows
  lst : InI c.lst
  mst : InI c.mst
  udp : InU c.udp
  opn : InU c.opn
  lng : InU c.lng
  qry : InU c.qry
  room : InI c.room
  wt : InI c.wt
  life : InU c.life
  pat : InU c.pat
  bufs : InI c.bufs
  rng : InI c.rng
  own : InW c.own
  msk : InW c.msk
  fst : InW c.fst
  last : InW c.last
  tim : InW c.tim
  hld : InW c.hld
  qut : InW c.qut

def routeB (ii ib oi ob ro : Int) : Bool := apartA ii ib oi ob && (ro == 0 || (hostA oi ob ro && ro != oi))
set_option maxHeartbeats 800000 in
theorem routeRight_any (ii ib oi ob ro : Int) (w : World) (h0 : 0 ≤ ii) (h1 : ii ≤ 4294967295) (h2 : 0 ≤ oi) (h3 : oi ≤ 4294967295) :
    Calls Tryz.prog 15 #[.agg #[.int .u32 ii, .int .i64 ib, .int .u32 oi, .int .i64 ob, .int .u32 ro]] w fun e w' => e = .returned (.bool (routeB ii ib oi ob ro)) ∧ BW w w' := by
  go_enter Tryz.func15, Tryz.ntmps15
  go_wp2_with (first
    | (go_at_call 19; refine (Host_any _ _ _ _).mono ?_; rintro e w1 ⟨rfl, hB⟩; have hc := BW.cells hB; have hz := BW.z1 hB)
    | (go_at_call 37; refine (Apart_any _ _ _ _ _ h0 h1 h2 h3).mono ?_; rintro e w2 ⟨rfl, hB2⟩))
  all_goals go_ret
  all_goals refine ⟨ret_eq (congrArg Value.bool (Bool.eq_iff_iff.2 (by simp [routeB, *]))), ?_⟩
  all_goals first | exact hB2.a1 | exact (hB.trans hB2).a1

def storesB (c : CF) : Bool := cacheB c.room c.wt c.life c.pat && (decide (1 ≤ c.bufs ∧ c.bufs ≤ 1024) && decide (1 ≤ c.rng ∧ c.rng ≤ 256))
theorem okE_zero (b : Bool) : (okE b = 0) ↔ b = true := by cases b <;> simp [okE]
set_option maxHeartbeats 800000 in
theorem stores_any (c : CF) (ok : c.Ok) (w : World) :
    Calls Tryz.prog 35 #[c.val] w fun e w' => e = .returned (.bool (storesB c)) ∧ BW w w' := by
  have hc1 := fun w => cacheNew_any c.room c.wt c.life c.pat w ok.life.1 ok.pat.1 ok.life.2 ok.pat.2
  have hp1 := fun w => poolNew_any c.bufs w ok.bufs.1 ok.bufs.2
  have hr1 := fun x w => ringNew_any x c.rng w ok.rng.1 ok.rng.2
  have H1 := Hid.mk hc1; have H2 := Hid.mk hp1; have H3 := Hid.mk hr1
  clear hc1 hp1 hr1
  go_enter Tryz.func35, Tryz.ntmps35
  go_wp2_with (first
    | (go_at_call 94; refine (H1.out _).mono ?_; rintro e w1 ⟨x, rfl, hB⟩; have hc := BW.cells hB; have hz := BW.z1 hB)
    | (go_at_call 95; refine (H2.out _).mono ?_; rintro e w2 ⟨x2, rfl, hB2⟩; have hc2 := BW.cells hB2; have hz2 := Nat.lt_of_lt_of_le hz hB2.le)
    | (go_at_call 96; refine (H3.out _ _).mono ?_; rintro e w3 ⟨x3, rfl, hB3⟩))
  all_goals go_ret
  all_goals refine ⟨ret_eq (congrArg Value.bool (Bool.eq_iff_iff.2 (by simp_all [storesB, okE_zero]; try omega))), ?_⟩
  all_goals exact ((hB.trans hB2).trans hB3).a1

end Go.Proofs.YtncghggejenmbaaGreatDoor
