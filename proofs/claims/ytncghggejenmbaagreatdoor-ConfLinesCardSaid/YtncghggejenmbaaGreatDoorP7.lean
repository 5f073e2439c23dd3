/- Plain: the numbers of what is parsed are in their bounds. (printed by gen_p7.py) -/
import Derived.Test.YtncghggejenmbaaGreatDoorP6
namespace Go.Proofs.YtncghggejenmbaaGreatDoor
open Go.RowKit Go.Proofs Go.Lib
set_option linter.unusedSimpArgs false
set_option linter.unusedVariables false
theorem zeroC_ok : zeroC.Ok := by constructor <;> constructor <;> decide
theorem ok_put0 {c : CF} (h : c.Ok) {v : Int} (hv : InW v) : (c.put 0 v).Ok :=
  show ({ c with ii := v } : CF).Ok from ⟨hv, h.ib, h.oi, h.ob, h.ro, h.m0, h.m1, h.m2, h.m3, h.m4, h.m5, h.n0, h.n1, h.n2, h.n3, h.n4, h.n5, h.maps, h.flows, h.lst, h.mst, h.udp, h.opn, h.lng, h.qry, h.room, h.wt, h.life, h.pat, h.bufs, h.rng, h.own, h.msk, h.fst, h.last, h.tim, h.hld, h.qut⟩
theorem ok_put1 {c : CF} (h : c.Ok) {v : Int} (hv : InI v) : (c.put 1 v).Ok :=
  show ({ c with ib := v } : CF).Ok from ⟨h.ii, hv, h.oi, h.ob, h.ro, h.m0, h.m1, h.m2, h.m3, h.m4, h.m5, h.n0, h.n1, h.n2, h.n3, h.n4, h.n5, h.maps, h.flows, h.lst, h.mst, h.udp, h.opn, h.lng, h.qry, h.room, h.wt, h.life, h.pat, h.bufs, h.rng, h.own, h.msk, h.fst, h.last, h.tim, h.hld, h.qut⟩
theorem ok_put2 {c : CF} (h : c.Ok) {v : Int} (hv : InW v) : (c.put 2 v).Ok :=
  show ({ c with oi := v } : CF).Ok from ⟨h.ii, h.ib, hv, h.ob, h.ro, h.m0, h.m1, h.m2, h.m3, h.m4, h.m5, h.n0, h.n1, h.n2, h.n3, h.n4, h.n5, h.maps, h.flows, h.lst, h.mst, h.udp, h.opn, h.lng, h.qry, h.room, h.wt, h.life, h.pat, h.bufs, h.rng, h.own, h.msk, h.fst, h.last, h.tim, h.hld, h.qut⟩
theorem ok_put3 {c : CF} (h : c.Ok) {v : Int} (hv : InI v) : (c.put 3 v).Ok :=
  show ({ c with ob := v } : CF).Ok from ⟨h.ii, h.ib, h.oi, hv, h.ro, h.m0, h.m1, h.m2, h.m3, h.m4, h.m5, h.n0, h.n1, h.n2, h.n3, h.n4, h.n5, h.maps, h.flows, h.lst, h.mst, h.udp, h.opn, h.lng, h.qry, h.room, h.wt, h.life, h.pat, h.bufs, h.rng, h.own, h.msk, h.fst, h.last, h.tim, h.hld, h.qut⟩
theorem ok_put4 {c : CF} (h : c.Ok) {v : Int} (hv : InW v) : (c.put 4 v).Ok :=
  show ({ c with ro := v } : CF).Ok from ⟨h.ii, h.ib, h.oi, h.ob, hv, h.m0, h.m1, h.m2, h.m3, h.m4, h.m5, h.n0, h.n1, h.n2, h.n3, h.n4, h.n5, h.maps, h.flows, h.lst, h.mst, h.udp, h.opn, h.lng, h.qry, h.room, h.wt, h.life, h.pat, h.bufs, h.rng, h.own, h.msk, h.fst, h.last, h.tim, h.hld, h.qut⟩
theorem ok_put5 {c : CF} (h : c.Ok) {v : Int} (hv : InB v) : (c.put 5 v).Ok :=
  show ({ c with m0 := v } : CF).Ok from ⟨h.ii, h.ib, h.oi, h.ob, h.ro, hv, h.m1, h.m2, h.m3, h.m4, h.m5, h.n0, h.n1, h.n2, h.n3, h.n4, h.n5, h.maps, h.flows, h.lst, h.mst, h.udp, h.opn, h.lng, h.qry, h.room, h.wt, h.life, h.pat, h.bufs, h.rng, h.own, h.msk, h.fst, h.last, h.tim, h.hld, h.qut⟩
theorem ok_put6 {c : CF} (h : c.Ok) {v : Int} (hv : InB v) : (c.put 6 v).Ok :=
  show ({ c with m1 := v } : CF).Ok from ⟨h.ii, h.ib, h.oi, h.ob, h.ro, h.m0, hv, h.m2, h.m3, h.m4, h.m5, h.n0, h.n1, h.n2, h.n3, h.n4, h.n5, h.maps, h.flows, h.lst, h.mst, h.udp, h.opn, h.lng, h.qry, h.room, h.wt, h.life, h.pat, h.bufs, h.rng, h.own, h.msk, h.fst, h.last, h.tim, h.hld, h.qut⟩
theorem ok_put7 {c : CF} (h : c.Ok) {v : Int} (hv : InB v) : (c.put 7 v).Ok :=
  show ({ c with m2 := v } : CF).Ok from ⟨h.ii, h.ib, h.oi, h.ob, h.ro, h.m0, h.m1, hv, h.m3, h.m4, h.m5, h.n0, h.n1, h.n2, h.n3, h.n4, h.n5, h.maps, h.flows, h.lst, h.mst, h.udp, h.opn, h.lng, h.qry, h.room, h.wt, h.life, h.pat, h.bufs, h.rng, h.own, h.msk, h.fst, h.last, h.tim, h.hld, h.qut⟩
theorem ok_put8 {c : CF} (h : c.Ok) {v : Int} (hv : InB v) : (c.put 8 v).Ok :=
  show ({ c with m3 := v } : CF).Ok from ⟨h.ii, h.ib, h.oi, h.ob, h.ro, h.m0, h.m1, h.m2, hv, h.m4, h.m5, h.n0, h.n1, h.n2, h.n3, h.n4, h.n5, h.maps, h.flows, h.lst, h.mst, h.udp, h.opn, h.lng, h.qry, h.room, h.wt, h.life, h.pat, h.bufs, h.rng, h.own, h.msk, h.fst, h.last, h.tim, h.hld, h.qut⟩
theorem ok_put9 {c : CF} (h : c.Ok) {v : Int} (hv : InB v) : (c.put 9 v).Ok :=
  show ({ c with m4 := v } : CF).Ok from ⟨h.ii, h.ib, h.oi, h.ob, h.ro, h.m0, h.m1, h.m2, h.m3, hv, h.m5, h.n0, h.n1, h.n2, h.n3, h.n4, h.n5, h.maps, h.flows, h.lst, h.mst, h.udp, h.opn, h.lng, h.qry, h.room, h.wt, h.life, h.pat, h.bufs, h.rng, h.own, h.msk, h.fst, h.last, h.tim, h.hld, h.qut⟩
theorem ok_put10 {c : CF} (h : c.Ok) {v : Int} (hv : InB v) : (c.put 10 v).Ok :=
  show ({ c with m5 := v } : CF).Ok from ⟨h.ii, h.ib, h.oi, h.ob, h.ro, h.m0, h.m1, h.m2, h.m3, h.m4, hv, h.n0, h.n1, h.n2, h.n3, h.n4, h.n5, h.maps, h.flows, h.lst, h.mst, h.udp, h.opn, h.lng, h.qry, h.room, h.wt, h.life, h.pat, h.bufs, h.rng, h.own, h.msk, h.fst, h.last, h.tim, h.hld, h.qut⟩
theorem ok_put11 {c : CF} (h : c.Ok) {v : Int} (hv : InB v) : (c.put 11 v).Ok :=
  show ({ c with n0 := v } : CF).Ok from ⟨h.ii, h.ib, h.oi, h.ob, h.ro, h.m0, h.m1, h.m2, h.m3, h.m4, h.m5, hv, h.n1, h.n2, h.n3, h.n4, h.n5, h.maps, h.flows, h.lst, h.mst, h.udp, h.opn, h.lng, h.qry, h.room, h.wt, h.life, h.pat, h.bufs, h.rng, h.own, h.msk, h.fst, h.last, h.tim, h.hld, h.qut⟩
theorem ok_put12 {c : CF} (h : c.Ok) {v : Int} (hv : InB v) : (c.put 12 v).Ok :=
  show ({ c with n1 := v } : CF).Ok from ⟨h.ii, h.ib, h.oi, h.ob, h.ro, h.m0, h.m1, h.m2, h.m3, h.m4, h.m5, h.n0, hv, h.n2, h.n3, h.n4, h.n5, h.maps, h.flows, h.lst, h.mst, h.udp, h.opn, h.lng, h.qry, h.room, h.wt, h.life, h.pat, h.bufs, h.rng, h.own, h.msk, h.fst, h.last, h.tim, h.hld, h.qut⟩
theorem ok_put13 {c : CF} (h : c.Ok) {v : Int} (hv : InB v) : (c.put 13 v).Ok :=
  show ({ c with n2 := v } : CF).Ok from ⟨h.ii, h.ib, h.oi, h.ob, h.ro, h.m0, h.m1, h.m2, h.m3, h.m4, h.m5, h.n0, h.n1, hv, h.n3, h.n4, h.n5, h.maps, h.flows, h.lst, h.mst, h.udp, h.opn, h.lng, h.qry, h.room, h.wt, h.life, h.pat, h.bufs, h.rng, h.own, h.msk, h.fst, h.last, h.tim, h.hld, h.qut⟩
theorem ok_put14 {c : CF} (h : c.Ok) {v : Int} (hv : InB v) : (c.put 14 v).Ok :=
  show ({ c with n3 := v } : CF).Ok from ⟨h.ii, h.ib, h.oi, h.ob, h.ro, h.m0, h.m1, h.m2, h.m3, h.m4, h.m5, h.n0, h.n1, h.n2, hv, h.n4, h.n5, h.maps, h.flows, h.lst, h.mst, h.udp, h.opn, h.lng, h.qry, h.room, h.wt, h.life, h.pat, h.bufs, h.rng, h.own, h.msk, h.fst, h.last, h.tim, h.hld, h.qut⟩
theorem ok_put15 {c : CF} (h : c.Ok) {v : Int} (hv : InB v) : (c.put 15 v).Ok :=
  show ({ c with n4 := v } : CF).Ok from ⟨h.ii, h.ib, h.oi, h.ob, h.ro, h.m0, h.m1, h.m2, h.m3, h.m4, h.m5, h.n0, h.n1, h.n2, h.n3, hv, h.n5, h.maps, h.flows, h.lst, h.mst, h.udp, h.opn, h.lng, h.qry, h.room, h.wt, h.life, h.pat, h.bufs, h.rng, h.own, h.msk, h.fst, h.last, h.tim, h.hld, h.qut⟩
theorem ok_put16 {c : CF} (h : c.Ok) {v : Int} (hv : InB v) : (c.put 16 v).Ok :=
  show ({ c with n5 := v } : CF).Ok from ⟨h.ii, h.ib, h.oi, h.ob, h.ro, h.m0, h.m1, h.m2, h.m3, h.m4, h.m5, h.n0, h.n1, h.n2, h.n3, h.n4, hv, h.maps, h.flows, h.lst, h.mst, h.udp, h.opn, h.lng, h.qry, h.room, h.wt, h.life, h.pat, h.bufs, h.rng, h.own, h.msk, h.fst, h.last, h.tim, h.hld, h.qut⟩
theorem ok_put17 {c : CF} (h : c.Ok) {v : Int} (hv : InI v) : (c.put 17 v).Ok :=
  show ({ c with maps := v } : CF).Ok from ⟨h.ii, h.ib, h.oi, h.ob, h.ro, h.m0, h.m1, h.m2, h.m3, h.m4, h.m5, h.n0, h.n1, h.n2, h.n3, h.n4, h.n5, hv, h.flows, h.lst, h.mst, h.udp, h.opn, h.lng, h.qry, h.room, h.wt, h.life, h.pat, h.bufs, h.rng, h.own, h.msk, h.fst, h.last, h.tim, h.hld, h.qut⟩
theorem ok_put18 {c : CF} (h : c.Ok) {v : Int} (hv : InI v) : (c.put 18 v).Ok :=
  show ({ c with flows := v } : CF).Ok from ⟨h.ii, h.ib, h.oi, h.ob, h.ro, h.m0, h.m1, h.m2, h.m3, h.m4, h.m5, h.n0, h.n1, h.n2, h.n3, h.n4, h.n5, h.maps, hv, h.lst, h.mst, h.udp, h.opn, h.lng, h.qry, h.room, h.wt, h.life, h.pat, h.bufs, h.rng, h.own, h.msk, h.fst, h.last, h.tim, h.hld, h.qut⟩
theorem ok_put19 {c : CF} (h : c.Ok) {v : Int} (hv : InI v) : (c.put 19 v).Ok :=
  show ({ c with lst := v } : CF).Ok from ⟨h.ii, h.ib, h.oi, h.ob, h.ro, h.m0, h.m1, h.m2, h.m3, h.m4, h.m5, h.n0, h.n1, h.n2, h.n3, h.n4, h.n5, h.maps, h.flows, hv, h.mst, h.udp, h.opn, h.lng, h.qry, h.room, h.wt, h.life, h.pat, h.bufs, h.rng, h.own, h.msk, h.fst, h.last, h.tim, h.hld, h.qut⟩
theorem ok_put20 {c : CF} (h : c.Ok) {v : Int} (hv : InI v) : (c.put 20 v).Ok :=
  show ({ c with mst := v } : CF).Ok from ⟨h.ii, h.ib, h.oi, h.ob, h.ro, h.m0, h.m1, h.m2, h.m3, h.m4, h.m5, h.n0, h.n1, h.n2, h.n3, h.n4, h.n5, h.maps, h.flows, h.lst, hv, h.udp, h.opn, h.lng, h.qry, h.room, h.wt, h.life, h.pat, h.bufs, h.rng, h.own, h.msk, h.fst, h.last, h.tim, h.hld, h.qut⟩
theorem ok_put21 {c : CF} (h : c.Ok) {v : Int} (hv : InU v) : (c.put 21 v).Ok :=
  show ({ c with udp := v } : CF).Ok from ⟨h.ii, h.ib, h.oi, h.ob, h.ro, h.m0, h.m1, h.m2, h.m3, h.m4, h.m5, h.n0, h.n1, h.n2, h.n3, h.n4, h.n5, h.maps, h.flows, h.lst, h.mst, hv, h.opn, h.lng, h.qry, h.room, h.wt, h.life, h.pat, h.bufs, h.rng, h.own, h.msk, h.fst, h.last, h.tim, h.hld, h.qut⟩
theorem ok_put22 {c : CF} (h : c.Ok) {v : Int} (hv : InU v) : (c.put 22 v).Ok :=
  show ({ c with opn := v } : CF).Ok from ⟨h.ii, h.ib, h.oi, h.ob, h.ro, h.m0, h.m1, h.m2, h.m3, h.m4, h.m5, h.n0, h.n1, h.n2, h.n3, h.n4, h.n5, h.maps, h.flows, h.lst, h.mst, h.udp, hv, h.lng, h.qry, h.room, h.wt, h.life, h.pat, h.bufs, h.rng, h.own, h.msk, h.fst, h.last, h.tim, h.hld, h.qut⟩
theorem ok_put23 {c : CF} (h : c.Ok) {v : Int} (hv : InU v) : (c.put 23 v).Ok :=
  show ({ c with lng := v } : CF).Ok from ⟨h.ii, h.ib, h.oi, h.ob, h.ro, h.m0, h.m1, h.m2, h.m3, h.m4, h.m5, h.n0, h.n1, h.n2, h.n3, h.n4, h.n5, h.maps, h.flows, h.lst, h.mst, h.udp, h.opn, hv, h.qry, h.room, h.wt, h.life, h.pat, h.bufs, h.rng, h.own, h.msk, h.fst, h.last, h.tim, h.hld, h.qut⟩
theorem ok_put24 {c : CF} (h : c.Ok) {v : Int} (hv : InU v) : (c.put 24 v).Ok :=
  show ({ c with qry := v } : CF).Ok from ⟨h.ii, h.ib, h.oi, h.ob, h.ro, h.m0, h.m1, h.m2, h.m3, h.m4, h.m5, h.n0, h.n1, h.n2, h.n3, h.n4, h.n5, h.maps, h.flows, h.lst, h.mst, h.udp, h.opn, h.lng, hv, h.room, h.wt, h.life, h.pat, h.bufs, h.rng, h.own, h.msk, h.fst, h.last, h.tim, h.hld, h.qut⟩
theorem ok_put25 {c : CF} (h : c.Ok) {v : Int} (hv : InI v) : (c.put 25 v).Ok :=
  show ({ c with room := v } : CF).Ok from ⟨h.ii, h.ib, h.oi, h.ob, h.ro, h.m0, h.m1, h.m2, h.m3, h.m4, h.m5, h.n0, h.n1, h.n2, h.n3, h.n4, h.n5, h.maps, h.flows, h.lst, h.mst, h.udp, h.opn, h.lng, h.qry, hv, h.wt, h.life, h.pat, h.bufs, h.rng, h.own, h.msk, h.fst, h.last, h.tim, h.hld, h.qut⟩
theorem ok_put26 {c : CF} (h : c.Ok) {v : Int} (hv : InI v) : (c.put 26 v).Ok :=
  show ({ c with wt := v } : CF).Ok from ⟨h.ii, h.ib, h.oi, h.ob, h.ro, h.m0, h.m1, h.m2, h.m3, h.m4, h.m5, h.n0, h.n1, h.n2, h.n3, h.n4, h.n5, h.maps, h.flows, h.lst, h.mst, h.udp, h.opn, h.lng, h.qry, h.room, hv, h.life, h.pat, h.bufs, h.rng, h.own, h.msk, h.fst, h.last, h.tim, h.hld, h.qut⟩
theorem ok_put27 {c : CF} (h : c.Ok) {v : Int} (hv : InU v) : (c.put 27 v).Ok :=
  show ({ c with life := v } : CF).Ok from ⟨h.ii, h.ib, h.oi, h.ob, h.ro, h.m0, h.m1, h.m2, h.m3, h.m4, h.m5, h.n0, h.n1, h.n2, h.n3, h.n4, h.n5, h.maps, h.flows, h.lst, h.mst, h.udp, h.opn, h.lng, h.qry, h.room, h.wt, hv, h.pat, h.bufs, h.rng, h.own, h.msk, h.fst, h.last, h.tim, h.hld, h.qut⟩
theorem ok_put28 {c : CF} (h : c.Ok) {v : Int} (hv : InU v) : (c.put 28 v).Ok :=
  show ({ c with pat := v } : CF).Ok from ⟨h.ii, h.ib, h.oi, h.ob, h.ro, h.m0, h.m1, h.m2, h.m3, h.m4, h.m5, h.n0, h.n1, h.n2, h.n3, h.n4, h.n5, h.maps, h.flows, h.lst, h.mst, h.udp, h.opn, h.lng, h.qry, h.room, h.wt, h.life, hv, h.bufs, h.rng, h.own, h.msk, h.fst, h.last, h.tim, h.hld, h.qut⟩
theorem ok_put29 {c : CF} (h : c.Ok) {v : Int} (hv : InI v) : (c.put 29 v).Ok :=
  show ({ c with bufs := v } : CF).Ok from ⟨h.ii, h.ib, h.oi, h.ob, h.ro, h.m0, h.m1, h.m2, h.m3, h.m4, h.m5, h.n0, h.n1, h.n2, h.n3, h.n4, h.n5, h.maps, h.flows, h.lst, h.mst, h.udp, h.opn, h.lng, h.qry, h.room, h.wt, h.life, h.pat, hv, h.rng, h.own, h.msk, h.fst, h.last, h.tim, h.hld, h.qut⟩
theorem ok_put30 {c : CF} (h : c.Ok) {v : Int} (hv : InI v) : (c.put 30 v).Ok :=
  show ({ c with rng := v } : CF).Ok from ⟨h.ii, h.ib, h.oi, h.ob, h.ro, h.m0, h.m1, h.m2, h.m3, h.m4, h.m5, h.n0, h.n1, h.n2, h.n3, h.n4, h.n5, h.maps, h.flows, h.lst, h.mst, h.udp, h.opn, h.lng, h.qry, h.room, h.wt, h.life, h.pat, h.bufs, hv, h.own, h.msk, h.fst, h.last, h.tim, h.hld, h.qut⟩
theorem ok_put31 {c : CF} (h : c.Ok) {v : Int} (hv : InW v) : (c.put 31 v).Ok :=
  show ({ c with own := v } : CF).Ok from ⟨h.ii, h.ib, h.oi, h.ob, h.ro, h.m0, h.m1, h.m2, h.m3, h.m4, h.m5, h.n0, h.n1, h.n2, h.n3, h.n4, h.n5, h.maps, h.flows, h.lst, h.mst, h.udp, h.opn, h.lng, h.qry, h.room, h.wt, h.life, h.pat, h.bufs, h.rng, hv, h.msk, h.fst, h.last, h.tim, h.hld, h.qut⟩
theorem ok_put32 {c : CF} (h : c.Ok) {v : Int} (hv : InW v) : (c.put 32 v).Ok :=
  show ({ c with msk := v } : CF).Ok from ⟨h.ii, h.ib, h.oi, h.ob, h.ro, h.m0, h.m1, h.m2, h.m3, h.m4, h.m5, h.n0, h.n1, h.n2, h.n3, h.n4, h.n5, h.maps, h.flows, h.lst, h.mst, h.udp, h.opn, h.lng, h.qry, h.room, h.wt, h.life, h.pat, h.bufs, h.rng, h.own, hv, h.fst, h.last, h.tim, h.hld, h.qut⟩
theorem ok_put33 {c : CF} (h : c.Ok) {v : Int} (hv : InW v) : (c.put 33 v).Ok :=
  show ({ c with fst := v } : CF).Ok from ⟨h.ii, h.ib, h.oi, h.ob, h.ro, h.m0, h.m1, h.m2, h.m3, h.m4, h.m5, h.n0, h.n1, h.n2, h.n3, h.n4, h.n5, h.maps, h.flows, h.lst, h.mst, h.udp, h.opn, h.lng, h.qry, h.room, h.wt, h.life, h.pat, h.bufs, h.rng, h.own, h.msk, hv, h.last, h.tim, h.hld, h.qut⟩
theorem ok_put34 {c : CF} (h : c.Ok) {v : Int} (hv : InW v) : (c.put 34 v).Ok :=
  show ({ c with last := v } : CF).Ok from ⟨h.ii, h.ib, h.oi, h.ob, h.ro, h.m0, h.m1, h.m2, h.m3, h.m4, h.m5, h.n0, h.n1, h.n2, h.n3, h.n4, h.n5, h.maps, h.flows, h.lst, h.mst, h.udp, h.opn, h.lng, h.qry, h.room, h.wt, h.life, h.pat, h.bufs, h.rng, h.own, h.msk, h.fst, hv, h.tim, h.hld, h.qut⟩
theorem ok_put35 {c : CF} (h : c.Ok) {v : Int} (hv : InW v) : (c.put 35 v).Ok :=
  show ({ c with tim := v } : CF).Ok from ⟨h.ii, h.ib, h.oi, h.ob, h.ro, h.m0, h.m1, h.m2, h.m3, h.m4, h.m5, h.n0, h.n1, h.n2, h.n3, h.n4, h.n5, h.maps, h.flows, h.lst, h.mst, h.udp, h.opn, h.lng, h.qry, h.room, h.wt, h.life, h.pat, h.bufs, h.rng, h.own, h.msk, h.fst, h.last, hv, h.hld, h.qut⟩
theorem ok_put36 {c : CF} (h : c.Ok) {v : Int} (hv : InW v) : (c.put 36 v).Ok :=
  show ({ c with hld := v } : CF).Ok from ⟨h.ii, h.ib, h.oi, h.ob, h.ro, h.m0, h.m1, h.m2, h.m3, h.m4, h.m5, h.n0, h.n1, h.n2, h.n3, h.n4, h.n5, h.maps, h.flows, h.lst, h.mst, h.udp, h.opn, h.lng, h.qry, h.room, h.wt, h.life, h.pat, h.bufs, h.rng, h.own, h.msk, h.fst, h.last, h.tim, hv, h.qut⟩
theorem ok_put37 {c : CF} (h : c.Ok) {v : Int} (hv : InW v) : (c.put 37 v).Ok :=
  show ({ c with qut := v } : CF).Ok from ⟨h.ii, h.ib, h.oi, h.ob, h.ro, h.m0, h.m1, h.m2, h.m3, h.m4, h.m5, h.n0, h.n1, h.n2, h.n3, h.n4, h.n5, h.maps, h.flows, h.lst, h.mst, h.udp, h.opn, h.lng, h.qry, h.room, h.wt, h.life, h.pat, h.bufs, h.rng, h.own, h.msk, h.fst, h.last, h.tim, h.hld, hv⟩
theorem okI {n : Nat} (h : n ≤ 4294967296) : InI (n : Int) := by unfold InI; omega
theorem okU {n : Nat} (h : n ≤ 4294967296) : InU (n : Int) := by unfold InU; omega
theorem okW {n : Nat} (h : n < 4294967296) : InW (n : Int) := by unfold InW; omega
theorem okB {n : Nat} (h : n < 256) : InB (n : Int) := by unfold InB; omega
theorem okM {n : Nat} : InW (if n < 4294967296 then (n : Int) else 4294967295) := by unfold InW; split <;> omega
def FOk (f : Fld) : Prop := ∀ (c c' : CF) (s : List UInt8), c.Ok → fieldOf f c s = some c' → c'.Ok
theorem fok46 : FOk ⟨.ip, 46, 0⟩ := by
  intro c c' s h hf
  simp only [fieldOf, Option.map_eq_some_iff] at hf
  obtain ⟨n, hm, rfl⟩ := hf
  exact ok_put0 h (okW (ipOf_some hm).1)
theorem fok48 : FOk ⟨.int, 48, 1⟩ := by
  intro c c' s h hf
  simp only [fieldOf, Option.map_eq_some_iff] at hf
  obtain ⟨n, hm, rfl⟩ := hf
  exact ok_put1 h (okI (numOf_some hm).1)
theorem fok49 : FOk ⟨.ip, 49, 2⟩ := by
  intro c c' s h hf
  simp only [fieldOf, Option.map_eq_some_iff] at hf
  obtain ⟨n, hm, rfl⟩ := hf
  exact ok_put2 h (okW (ipOf_some hm).1)
theorem fok50 : FOk ⟨.int, 50, 3⟩ := by
  intro c c' s h hf
  simp only [fieldOf, Option.map_eq_some_iff] at hf
  obtain ⟨n, hm, rfl⟩ := hf
  exact ok_put3 h (okI (numOf_some hm).1)
theorem fok51 : FOk ⟨.ip, 51, 4⟩ := by
  intro c c' s h hf
  simp only [fieldOf, Option.map_eq_some_iff] at hf
  obtain ⟨n, hm, rfl⟩ := hf
  exact ok_put4 h (okW (ipOf_some hm).1)
theorem fok53 : FOk ⟨.mac, 53, 5⟩ := by
  intro c c' s h hf
  simp only [fieldOf, Option.map_eq_some_iff] at hf
  obtain ⟨m, hm, rfl⟩ := hf
  obtain ⟨h0, h1, h2, h3, h4, h5⟩ := (macOf_some hm).1
  exact ok_put10 (ok_put9 (ok_put8 (ok_put7 (ok_put6 (ok_put5 h (okB h0)) (okB h1)) (okB h2)) (okB h3)) (okB h4)) (okB h5)
theorem fok54 : FOk ⟨.mac, 54, 11⟩ := by
  intro c c' s h hf
  simp only [fieldOf, Option.map_eq_some_iff] at hf
  obtain ⟨m, hm, rfl⟩ := hf
  obtain ⟨h0, h1, h2, h3, h4, h5⟩ := (macOf_some hm).1
  exact ok_put16 (ok_put15 (ok_put14 (ok_put13 (ok_put12 (ok_put11 h (okB h0)) (okB h1)) (okB h2)) (okB h3)) (okB h4)) (okB h5)
theorem fok55 : FOk ⟨.int, 55, 17⟩ := by
  intro c c' s h hf
  simp only [fieldOf, Option.map_eq_some_iff] at hf
  obtain ⟨n, hm, rfl⟩ := hf
  exact ok_put17 h (okI (numOf_some hm).1)
theorem fok56 : FOk ⟨.int, 56, 18⟩ := by
  intro c c' s h hf
  simp only [fieldOf, Option.map_eq_some_iff] at hf
  obtain ⟨n, hm, rfl⟩ := hf
  exact ok_put18 h (okI (numOf_some hm).1)
theorem fok57 : FOk ⟨.int, 57, 19⟩ := by
  intro c c' s h hf
  simp only [fieldOf, Option.map_eq_some_iff] at hf
  obtain ⟨n, hm, rfl⟩ := hf
  exact ok_put19 h (okI (numOf_some hm).1)
theorem fok58 : FOk ⟨.int, 58, 20⟩ := by
  intro c c' s h hf
  simp only [fieldOf, Option.map_eq_some_iff] at hf
  obtain ⟨n, hm, rfl⟩ := hf
  exact ok_put20 h (okI (numOf_some hm).1)
theorem fok60 : FOk ⟨.u64, 60, 21⟩ := by
  intro c c' s h hf
  simp only [fieldOf, Option.map_eq_some_iff] at hf
  obtain ⟨n, hm, rfl⟩ := hf
  exact ok_put21 h (okU (numOf_some hm).1)
theorem fok61 : FOk ⟨.u64, 61, 22⟩ := by
  intro c c' s h hf
  simp only [fieldOf, Option.map_eq_some_iff] at hf
  obtain ⟨n, hm, rfl⟩ := hf
  exact ok_put22 h (okU (numOf_some hm).1)
theorem fok62 : FOk ⟨.u64, 62, 23⟩ := by
  intro c c' s h hf
  simp only [fieldOf, Option.map_eq_some_iff] at hf
  obtain ⟨n, hm, rfl⟩ := hf
  exact ok_put23 h (okU (numOf_some hm).1)
theorem fok63 : FOk ⟨.u64, 63, 24⟩ := by
  intro c c' s h hf
  simp only [fieldOf, Option.map_eq_some_iff] at hf
  obtain ⟨n, hm, rfl⟩ := hf
  exact ok_put24 h (okU (numOf_some hm).1)
theorem fok64 : FOk ⟨.int, 64, 25⟩ := by
  intro c c' s h hf
  simp only [fieldOf, Option.map_eq_some_iff] at hf
  obtain ⟨n, hm, rfl⟩ := hf
  exact ok_put25 h (okI (numOf_some hm).1)
theorem fok65 : FOk ⟨.int, 65, 26⟩ := by
  intro c c' s h hf
  simp only [fieldOf, Option.map_eq_some_iff] at hf
  obtain ⟨n, hm, rfl⟩ := hf
  exact ok_put26 h (okI (numOf_some hm).1)
theorem fok66 : FOk ⟨.u64, 66, 27⟩ := by
  intro c c' s h hf
  simp only [fieldOf, Option.map_eq_some_iff] at hf
  obtain ⟨n, hm, rfl⟩ := hf
  exact ok_put27 h (okU (numOf_some hm).1)
theorem fok67 : FOk ⟨.u64, 67, 28⟩ := by
  intro c c' s h hf
  simp only [fieldOf, Option.map_eq_some_iff] at hf
  obtain ⟨n, hm, rfl⟩ := hf
  exact ok_put28 h (okU (numOf_some hm).1)
theorem fok68 : FOk ⟨.int, 68, 29⟩ := by
  intro c c' s h hf
  simp only [fieldOf, Option.map_eq_some_iff] at hf
  obtain ⟨n, hm, rfl⟩ := hf
  exact ok_put29 h (okI (numOf_some hm).1)
theorem fok69 : FOk ⟨.int, 69, 30⟩ := by
  intro c c' s h hf
  simp only [fieldOf, Option.map_eq_some_iff] at hf
  obtain ⟨n, hm, rfl⟩ := hf
  exact ok_put30 h (okI (numOf_some hm).1)
theorem fok70 : FOk ⟨.ip, 70, 33⟩ := by
  intro c c' s h hf
  simp only [fieldOf, Option.map_eq_some_iff] at hf
  obtain ⟨n, hm, rfl⟩ := hf
  exact ok_put33 h (okW (ipOf_some hm).1)
theorem fok71 : FOk ⟨.ip, 71, 34⟩ := by
  intro c c' s h hf
  simp only [fieldOf, Option.map_eq_some_iff] at hf
  obtain ⟨n, hm, rfl⟩ := hf
  exact ok_put34 h (okW (ipOf_some hm).1)
theorem fok73 : FOk ⟨.u32, 73, 35⟩ := by
  intro c c' s h hf
  simp only [fieldOf, Option.map_eq_some_iff] at hf
  obtain ⟨n, hm, rfl⟩ := hf
  exact ok_put35 h (okM)
theorem fok74 : FOk ⟨.u32, 74, 36⟩ := by
  intro c c' s h hf
  simp only [fieldOf, Option.map_eq_some_iff] at hf
  obtain ⟨n, hm, rfl⟩ := hf
  exact ok_put36 h (okM)
theorem fok75 : FOk ⟨.u32, 75, 37⟩ := by
  intro c c' s h hf
  simp only [fieldOf, Option.map_eq_some_iff] at hf
  obtain ⟨n, hm, rfl⟩ := hf
  exact ok_put37 h (okM)
theorem rows_ok : ∀ r ∈ rowSpecs, ∀ f ∈ r.2, FOk f := by
  intro r hr f hf
  simp only [rowSpecs, List.mem_cons, List.not_mem_nil, or_false] at hr
  rcases hr with rfl | rfl | rfl | rfl | rfl | rfl | rfl | rfl | rfl | rfl | rfl | rfl | rfl | rfl | rfl | rfl | rfl | rfl | rfl | rfl | rfl | rfl <;>
    simp only [List.mem_cons, List.not_mem_nil, or_false] at hf <;>
    (first
      | (rcases hf with rfl | rfl)
      | subst hf) <;>
    (first
      | exact fok46
      | exact fok48
      | exact fok49
      | exact fok50
      | exact fok51
      | exact fok53
      | exact fok54
      | exact fok55
      | exact fok56
      | exact fok57
      | exact fok58
      | exact fok60
      | exact fok61
      | exact fok62
      | exact fok63
      | exact fok64
      | exact fok65
      | exact fok66
      | exact fok67
      | exact fok68
      | exact fok69
      | exact fok70
      | exact fok71
      | exact fok73
      | exact fok74
      | exact fok75)
theorem fields_ok : ∀ (fs : List Fld), (∀ f ∈ fs, FOk f) → ∀ (c c' : CF) (ps : List (List UInt8)), c.Ok → fieldsOf fs c ps = some c' → c'.Ok
  | [], _, c, c', [], h, he => by simp [fieldsOf] at he; subst he; exact h
  | [], _, c, c', p :: ps, h, he => by simp [fieldsOf] at he
  | f :: fs, _, c, c', [], h, he => by simp [fieldsOf] at he
  | f :: fs, hf, c, c', p :: ps, h, he => by
    simp only [fieldsOf, Option.bind_eq_some_iff] at he
    obtain ⟨c1, h1, h2⟩ := he
    exact fields_ok fs (fun g hg => hf g (List.mem_cons_of_mem _ hg)) c1 c' ps (hf f List.mem_cons_self c c1 p h h1) h2
theorem row_ok (r : ByteArray × List Fld) (hr : r ∈ rowSpecs) (c c' : CF) (s : List UInt8) (h : c.Ok) (he : rowOf r c s = some c') : c'.Ok := by
  unfold rowOf at he
  split at he
  · cases he
  · split at he
    · exact fields_ok r.2 (rows_ok r hr) c c' _ h he
    · cases he
theorem mask_in (b : Int) : InW (mask b) := by
  unfold mask InW
  split
  · rename_i h
    simp [bounded] at h
    unfold sz
    obtain ⟨h1, h2⟩ := h
    have hp : (0:Int) < 2 ^ (32 - b).toNat := Int.pow_pos (by decide)
    have hq : (2:Int) ^ (32 - b).toNat ≤ 4294967296 := by
      have : (32 - b).toNat ≤ 32 := by omega
      have h3 : (2:Nat) ^ (32 - b).toNat ≤ 2 ^ 32 := Nat.pow_le_pow_right (by omega) this
      have h4 : ((2 ^ (32 - b).toNat : Nat) : Int) ≤ ((2 ^ 32 : Nat) : Int) := Int.ofNat_le.2 h3
      simpa using h4
    omega
  · exact ⟨by omega, by omega⟩
theorem fin_ok {c : CF} (h : c.Ok) : c.fin.Ok := ok_put32 (ok_put31 h h.ii) (mask_in c.ib)
end Go.Proofs.YtncghggejenmbaaGreatDoor
