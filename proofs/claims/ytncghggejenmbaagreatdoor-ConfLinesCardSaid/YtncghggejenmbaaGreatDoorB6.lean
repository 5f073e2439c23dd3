/- Whether a configuration is right (the whole). -/
import Derived.Test.YtncghggejenmbaaGreatDoorB5
import Derived.Test.YtncghggejenmbaaGreatDoorE1
namespace Go.Proofs.YtncghggejenmbaaGreatDoor
open Go.RowKit
set_option linter.unusedSimpArgs false
set_option linter.unusedVariables false
def macNe (c : CF) : Bool := !(c.m0 == c.n0 && (c.m1 == c.n1 && (c.m2 == c.n2 && (c.m3 == c.n3 && (c.m4 == c.n4 && c.m5 == c.n5)))))
def macsB (c : CF) : Bool := c.m0 % 2 == 0 && (c.n0 % 2 == 0 && macNe c)
def confB (c : CF) : Bool := macsB c && (routeB c.ii c.ib c.oi c.ob c.ro && (tableB c.maps c.flows c.lst c.mst c.udp c.opn c.lng c.qry && (storesB c && lendsB c)))
theorem macNe_run (c : CF) {W : World} (b : Bool) (h : macNe c = b) : (Op.equalIn 10000 29 (.agg #[.int .u8 c.m0, .int .u8 c.m1, .int .u8 c.m2, .int .u8 c.m3, .int .u8 c.m4, .int .u8 c.m5]) (.agg #[.int .u8 c.n0, .int .u8 c.n1, .int .u8 c.n2, .int .u8 c.n3, .int .u8 c.n4, .int .u8 c.n5])).run Tryz.prog W = .ok (!b) W := by
  rw [run_equalIn_six (P := Tryz.prog) W 9998 29 5 Tryz.underlying29 Tryz.underlying5 (fun _ => by kernel_rfl), ← h, macNe, Bool.not_not]
theorem conf_a (c : CF) (h1 : (c.m0 % 2 != 0) = true) : confB c = false := by
  simp only [bne_eq_false_iff_eq, bne_iff_ne, ne_eq] at *
  simp_all [confB, macsB]
set_option maxRecDepth 100000 in
set_option maxHeartbeats 800000 in
theorem confRight_a (c : CF) (ok : c.Ok) (h1 : (c.m0 % 2 != 0) = true) (w : World) :
    Calls Tryz.prog 14 #[c.val] w fun e w' => e = .returned (.bool (confB c)) ∧ BW w w' := by
  have G1 := fun w => Group_any c.m0 c.m1 c.m2 c.m3 c.m4 c.m5 w ok.m0.1 ok.m0.2
  simp only [h1] at G1
  replace G1 := Hid.mk G1
  have HR : Hid (confB c = false) := Hid.mk (conf_a c h1)
  clear h1
  go_enter Tryz.func14, Tryz.ntmps14
  go_wp2_with (first
    | (go_at_call 18; (with_reducible refine (G1.out _).mono ?_); rintro e w1 ⟨rfl, hN⟩; (first | (replace hB := hB.trans hN) | (have hB := hN)); (try clear hc); (try clear hz); (try clear hz1); (try clear hz2); have hc := BW.cells hB; have hz := BW.z1 hB; clear hN))
  go_ret
  exact ⟨ret_eq (by rw [HR.out]; rfl), hB.a1⟩
theorem conf_b (c : CF) (h1 : (c.m0 % 2 != 0) = false) (h2 : (c.n0 % 2 != 0) = true) : confB c = false := by
  simp only [bne_eq_false_iff_eq, bne_iff_ne, ne_eq] at *
  simp_all [confB, macsB]
set_option maxRecDepth 100000 in
set_option maxHeartbeats 800000 in
theorem confRight_b (c : CF) (ok : c.Ok) (h1 : (c.m0 % 2 != 0) = false) (h2 : (c.n0 % 2 != 0) = true) (w : World) :
    Calls Tryz.prog 14 #[c.val] w fun e w' => e = .returned (.bool (confB c)) ∧ BW w w' := by
  have G1 := fun w => Group_any c.m0 c.m1 c.m2 c.m3 c.m4 c.m5 w ok.m0.1 ok.m0.2
  simp only [h1] at G1
  replace G1 := Hid.mk G1
  have G2 := fun w => Group_any c.n0 c.n1 c.n2 c.n3 c.n4 c.n5 w ok.n0.1 ok.n0.2
  simp only [h2] at G2
  replace G2 := Hid.mk G2
  have HR : Hid (confB c = false) := Hid.mk (conf_b c h1 h2)
  clear h1 h2
  go_enter Tryz.func14, Tryz.ntmps14
  go_wp2_with (first
    | (go_at_call 18; (with_reducible refine (G1.out _).mono ?_); rintro e w1 ⟨rfl, hN⟩; (first | (replace hB := hB.trans hN) | (have hB := hN)); (try clear hc); (try clear hz); (try clear hz1); (try clear hz2); have hc := BW.cells hB; have hz := BW.z1 hB; clear hN)
    | (go_at_call 18; (with_reducible refine (G2.out _).mono ?_); rintro e w1 ⟨rfl, hN⟩; (first | (replace hB := hB.trans hN) | (have hB := hN)); (try clear hc); (try clear hz); (try clear hz1); (try clear hz2); have hc := BW.cells hB; have hz := BW.z1 hB; clear hN))
  go_ret
  exact ⟨ret_eq (by rw [HR.out]; rfl), hB.a1⟩
theorem conf_c (c : CF) (h1 : (c.m0 % 2 != 0) = false) (h2 : (c.n0 % 2 != 0) = false) (h3 : macNe c = false) : confB c = false := by
  simp only [bne_eq_false_iff_eq, bne_iff_ne, ne_eq] at *
  simp_all [confB, macsB]
set_option maxRecDepth 100000 in
set_option maxHeartbeats 800000 in
theorem confRight_c (c : CF) (ok : c.Ok) (h1 : (c.m0 % 2 != 0) = false) (h2 : (c.n0 % 2 != 0) = false) (h3 : macNe c = false) (w : World) :
    Calls Tryz.prog 14 #[c.val] w fun e w' => e = .returned (.bool (confB c)) ∧ BW w w' := by
  have G1 := fun w => Group_any c.m0 c.m1 c.m2 c.m3 c.m4 c.m5 w ok.m0.1 ok.m0.2
  simp only [h1] at G1
  replace G1 := Hid.mk G1
  have G2 := fun w => Group_any c.n0 c.n1 c.n2 c.n3 c.n4 c.n5 w ok.n0.1 ok.n0.2
  simp only [h2] at G2
  replace G2 := Hid.mk G2
  have hE := fun (W : World) => macNe_run c (W := W) _ h3
  have HR : Hid (confB c = false) := Hid.mk (conf_c c h1 h2 h3)
  clear h1 h2 h3
  go_enter Tryz.func14, Tryz.ntmps14
  go_wp2_with (first
    | (go_at_call 18; (with_reducible refine (G1.out _).mono ?_); rintro e w1 ⟨rfl, hN⟩; (first | (replace hB := hB.trans hN) | (have hB := hN)); (try clear hc); (try clear hz); (try clear hz1); (try clear hz2); have hc := BW.cells hB; have hz := BW.z1 hB; clear hN)
    | (go_at_call 18; (with_reducible refine (G2.out _).mono ?_); rintro e w1 ⟨rfl, hN⟩; (first | (replace hB := hB.trans hN) | (have hB := hN)); (try clear hc); (try clear hz); (try clear hz1); (try clear hz2); have hc := BW.cells hB; have hz := BW.z1 hB; clear hN))
  go_ret
  exact ⟨ret_eq (by rw [HR.out]; rfl), hB.a1⟩
theorem conf_d (c : CF) (h1 : (c.m0 % 2 != 0) = false) (h2 : (c.n0 % 2 != 0) = false) (h3 : macNe c = true) (h4 : routeB c.ii c.ib c.oi c.ob c.ro = false) : confB c = false := by
  simp only [bne_eq_false_iff_eq, bne_iff_ne, ne_eq] at *
  simp_all [confB, macsB]
set_option maxRecDepth 100000 in
set_option maxHeartbeats 800000 in
theorem confRight_d (c : CF) (ok : c.Ok) (h1 : (c.m0 % 2 != 0) = false) (h2 : (c.n0 % 2 != 0) = false) (h3 : macNe c = true) (h4 : routeB c.ii c.ib c.oi c.ob c.ro = false) (w : World) :
    Calls Tryz.prog 14 #[c.val] w fun e w' => e = .returned (.bool (confB c)) ∧ BW w w' := by
  have G1 := fun w => Group_any c.m0 c.m1 c.m2 c.m3 c.m4 c.m5 w ok.m0.1 ok.m0.2
  simp only [h1] at G1
  replace G1 := Hid.mk G1
  have G2 := fun w => Group_any c.n0 c.n1 c.n2 c.n3 c.n4 c.n5 w ok.n0.1 ok.n0.2
  simp only [h2] at G2
  replace G2 := Hid.mk G2
  have R1 := fun w => routeRight_any c.ii c.ib c.oi c.ob c.ro w ok.ii.1 ok.ii.2 ok.oi.1 ok.oi.2
  simp only [h4] at R1
  replace R1 := Hid.mk R1
  have hE := fun (W : World) => macNe_run c (W := W) _ h3
  have HR : Hid (confB c = false) := Hid.mk (conf_d c h1 h2 h3 h4)
  clear h1 h2 h3 h4
  go_enter Tryz.func14, Tryz.ntmps14
  go_wp2_with (first
    | (go_at_call 18; (with_reducible refine (G1.out _).mono ?_); rintro e w1 ⟨rfl, hN⟩; (first | (replace hB := hB.trans hN) | (have hB := hN)); (try clear hc); (try clear hz); (try clear hz1); (try clear hz2); have hc := BW.cells hB; have hz := BW.z1 hB; clear hN)
    | (go_at_call 18; (with_reducible refine (G2.out _).mono ?_); rintro e w1 ⟨rfl, hN⟩; (first | (replace hB := hB.trans hN) | (have hB := hN)); (try clear hc); (try clear hz); (try clear hz1); (try clear hz2); have hc := BW.cells hB; have hz := BW.z1 hB; clear hN)
    | (go_at_call 15; (with_reducible refine (R1.out _).mono ?_); rintro e w1 ⟨rfl, hN⟩; (first | (replace hB := hB.trans hN) | (have hB := hN)); (try clear hc); (try clear hz); (try clear hz1); (try clear hz2); have hc := BW.cells hB; have hz := BW.z1 hB; clear hN))
  go_ret
  exact ⟨ret_eq (by rw [HR.out]; rfl), hB.a1⟩
theorem conf_e (c : CF) (h1 : (c.m0 % 2 != 0) = false) (h2 : (c.n0 % 2 != 0) = false) (h3 : macNe c = true) (h4 : routeB c.ii c.ib c.oi c.ob c.ro = true) (h5 : tableB c.maps c.flows c.lst c.mst c.udp c.opn c.lng c.qry = false) : confB c = false := by
  simp only [bne_eq_false_iff_eq, bne_iff_ne, ne_eq] at *
  simp_all [confB, macsB]
set_option maxRecDepth 100000 in
set_option maxHeartbeats 800000 in
theorem confRight_e (c : CF) (ok : c.Ok) (h1 : (c.m0 % 2 != 0) = false) (h2 : (c.n0 % 2 != 0) = false) (h3 : macNe c = true) (h4 : routeB c.ii c.ib c.oi c.ob c.ro = true) (h5 : tableB c.maps c.flows c.lst c.mst c.udp c.opn c.lng c.qry = false) (w : World) :
    Calls Tryz.prog 14 #[c.val] w fun e w' => e = .returned (.bool (confB c)) ∧ BW w w' := by
  have G1 := fun w => Group_any c.m0 c.m1 c.m2 c.m3 c.m4 c.m5 w ok.m0.1 ok.m0.2
  simp only [h1] at G1
  replace G1 := Hid.mk G1
  have G2 := fun w => Group_any c.n0 c.n1 c.n2 c.n3 c.n4 c.n5 w ok.n0.1 ok.n0.2
  simp only [h2] at G2
  replace G2 := Hid.mk G2
  have R1 := fun w => routeRight_any c.ii c.ib c.oi c.ob c.ro w ok.ii.1 ok.ii.2 ok.oi.1 ok.oi.2
  simp only [h4] at R1
  replace R1 := Hid.mk R1
  have T1 := fun w => tableRight_any c.maps c.flows c.lst c.mst c.udp c.opn c.lng c.qry w ok.lst.1 ok.lst.2 ok.mst.1 ok.mst.2
  simp only [h5] at T1
  replace T1 := Hid.mk T1
  have hE := fun (W : World) => macNe_run c (W := W) _ h3
  have HR : Hid (confB c = false) := Hid.mk (conf_e c h1 h2 h3 h4 h5)
  clear h1 h2 h3 h4 h5
  go_enter Tryz.func14, Tryz.ntmps14
  go_wp2_with (first
    | (go_at_call 18; (with_reducible refine (G1.out _).mono ?_); rintro e w1 ⟨rfl, hN⟩; (first | (replace hB := hB.trans hN) | (have hB := hN)); (try clear hc); (try clear hz); (try clear hz1); (try clear hz2); have hc := BW.cells hB; have hz := BW.z1 hB; clear hN)
    | (go_at_call 18; (with_reducible refine (G2.out _).mono ?_); rintro e w1 ⟨rfl, hN⟩; (first | (replace hB := hB.trans hN) | (have hB := hN)); (try clear hc); (try clear hz); (try clear hz1); (try clear hz2); have hc := BW.cells hB; have hz := BW.z1 hB; clear hN)
    | (go_at_call 15; (with_reducible refine (R1.out _).mono ?_); rintro e w1 ⟨rfl, hN⟩; (first | (replace hB := hB.trans hN) | (have hB := hN)); (try clear hc); (try clear hz); (try clear hz1); (try clear hz2); have hc := BW.cells hB; have hz := BW.z1 hB; clear hN)
    | (go_at_call 16; (with_reducible refine (T1.out _).mono ?_); rintro e w1 ⟨rfl, hN⟩; (first | (replace hB := hB.trans hN) | (have hB := hN)); (try clear hc); (try clear hz); (try clear hz1); (try clear hz2); have hc := BW.cells hB; have hz := BW.z1 hB; clear hN))
  go_ret
  exact ⟨ret_eq (by rw [HR.out]; rfl), hB.a1⟩
theorem conf_f (c : CF) (h1 : (c.m0 % 2 != 0) = false) (h2 : (c.n0 % 2 != 0) = false) (h3 : macNe c = true) (h4 : routeB c.ii c.ib c.oi c.ob c.ro = true) (h5 : tableB c.maps c.flows c.lst c.mst c.udp c.opn c.lng c.qry = true) (h6 : storesB c = false) : confB c = false := by
  simp only [bne_eq_false_iff_eq, bne_iff_ne, ne_eq] at *
  simp_all [confB, macsB]
set_option maxRecDepth 100000 in
set_option maxHeartbeats 800000 in
theorem confRight_f (c : CF) (ok : c.Ok) (h1 : (c.m0 % 2 != 0) = false) (h2 : (c.n0 % 2 != 0) = false) (h3 : macNe c = true) (h4 : routeB c.ii c.ib c.oi c.ob c.ro = true) (h5 : tableB c.maps c.flows c.lst c.mst c.udp c.opn c.lng c.qry = true) (h6 : storesB c = false) (w : World) :
    Calls Tryz.prog 14 #[c.val] w fun e w' => e = .returned (.bool (confB c)) ∧ BW w w' := by
  have G1 := fun w => Group_any c.m0 c.m1 c.m2 c.m3 c.m4 c.m5 w ok.m0.1 ok.m0.2
  simp only [h1] at G1
  replace G1 := Hid.mk G1
  have G2 := fun w => Group_any c.n0 c.n1 c.n2 c.n3 c.n4 c.n5 w ok.n0.1 ok.n0.2
  simp only [h2] at G2
  replace G2 := Hid.mk G2
  have R1 := fun w => routeRight_any c.ii c.ib c.oi c.ob c.ro w ok.ii.1 ok.ii.2 ok.oi.1 ok.oi.2
  simp only [h4] at R1
  replace R1 := Hid.mk R1
  have T1 := fun w => tableRight_any c.maps c.flows c.lst c.mst c.udp c.opn c.lng c.qry w ok.lst.1 ok.lst.2 ok.mst.1 ok.mst.2
  simp only [h5] at T1
  replace T1 := Hid.mk T1
  have S1 := fun w => stores_any c ok w
  simp only [h6] at S1
  replace S1 := Hid.mk S1
  have hE := fun (W : World) => macNe_run c (W := W) _ h3
  have HR : Hid (confB c = false) := Hid.mk (conf_f c h1 h2 h3 h4 h5 h6)
  clear h1 h2 h3 h4 h5 h6
  go_enter Tryz.func14, Tryz.ntmps14
  go_wp2_with (first
    | (go_at_call 18; (with_reducible refine (G1.out _).mono ?_); rintro e w1 ⟨rfl, hN⟩; (first | (replace hB := hB.trans hN) | (have hB := hN)); (try clear hc); (try clear hz); (try clear hz1); (try clear hz2); have hc := BW.cells hB; have hz := BW.z1 hB; clear hN)
    | (go_at_call 18; (with_reducible refine (G2.out _).mono ?_); rintro e w1 ⟨rfl, hN⟩; (first | (replace hB := hB.trans hN) | (have hB := hN)); (try clear hc); (try clear hz); (try clear hz1); (try clear hz2); have hc := BW.cells hB; have hz := BW.z1 hB; clear hN)
    | (go_at_call 15; (with_reducible refine (R1.out _).mono ?_); rintro e w1 ⟨rfl, hN⟩; (first | (replace hB := hB.trans hN) | (have hB := hN)); (try clear hc); (try clear hz); (try clear hz1); (try clear hz2); have hc := BW.cells hB; have hz := BW.z1 hB; clear hN)
    | (go_at_call 16; (with_reducible refine (T1.out _).mono ?_); rintro e w1 ⟨rfl, hN⟩; (first | (replace hB := hB.trans hN) | (have hB := hN)); (try clear hc); (try clear hz); (try clear hz1); (try clear hz2); have hc := BW.cells hB; have hz := BW.z1 hB; clear hN)
    | ((refine wpList_loadC c (.tmp 1) w.heap.size ?_ rfl rfl (BW.blk1 hB) ?_); (· simp [Region.wanted, yielded]); simp only [Act.put, List.setIfInBounds_toArray, List.set_cons_zero, List.set_cons_succ])
    | (go_at_call 35; (with_reducible refine (S1.out _).mono ?_); rintro e w1 ⟨rfl, hN⟩; (first | (replace hB := hB.trans hN) | (have hB := hN)); (try clear hc); (try clear hz); (try clear hz1); (try clear hz2); have hc := BW.cells hB; have hz := BW.z1 hB; clear hN))
  go_ret
  exact ⟨ret_eq (by rw [HR.out]; rfl), hB.a1⟩
theorem conf_g (c : CF) (h1 : (c.m0 % 2 != 0) = false) (h2 : (c.n0 % 2 != 0) = false) (h3 : macNe c = true) (h4 : routeB c.ii c.ib c.oi c.ob c.ro = true) (h5 : tableB c.maps c.flows c.lst c.mst c.udp c.opn c.lng c.qry = true) (h6 : storesB c = true) : confB c = lendsB c := by
  simp only [bne_eq_false_iff_eq, bne_iff_ne, ne_eq] at *
  simp_all [confB, macsB]
set_option maxRecDepth 100000 in
set_option maxHeartbeats 800000 in
theorem confRight_g (c : CF) (ok : c.Ok) (h1 : (c.m0 % 2 != 0) = false) (h2 : (c.n0 % 2 != 0) = false) (h3 : macNe c = true) (h4 : routeB c.ii c.ib c.oi c.ob c.ro = true) (h5 : tableB c.maps c.flows c.lst c.mst c.udp c.opn c.lng c.qry = true) (h6 : storesB c = true) (w : World) :
    Calls Tryz.prog 14 #[c.val] w fun e w' => e = .returned (.bool (confB c)) ∧ BW w w' := by
  have G1 := fun w => Group_any c.m0 c.m1 c.m2 c.m3 c.m4 c.m5 w ok.m0.1 ok.m0.2
  simp only [h1] at G1
  replace G1 := Hid.mk G1
  have G2 := fun w => Group_any c.n0 c.n1 c.n2 c.n3 c.n4 c.n5 w ok.n0.1 ok.n0.2
  simp only [h2] at G2
  replace G2 := Hid.mk G2
  have R1 := fun w => routeRight_any c.ii c.ib c.oi c.ob c.ro w ok.ii.1 ok.ii.2 ok.oi.1 ok.oi.2
  simp only [h4] at R1
  replace R1 := Hid.mk R1
  have T1 := fun w => tableRight_any c.maps c.flows c.lst c.mst c.udp c.opn c.lng c.qry w ok.lst.1 ok.lst.2 ok.mst.1 ok.mst.2
  simp only [h5] at T1
  replace T1 := Hid.mk T1
  have S1 := fun w => stores_any c ok w
  simp only [h6] at S1
  replace S1 := Hid.mk S1
  have L1 := fun w => lends_any c ok w
  replace L1 := Hid.mk L1
  have hE := fun (W : World) => macNe_run c (W := W) _ h3
  have HR : Hid (confB c = lendsB c) := Hid.mk (conf_g c h1 h2 h3 h4 h5 h6)
  clear h1 h2 h3 h4 h5 h6
  go_enter Tryz.func14, Tryz.ntmps14
  go_wp2_with (first
    | (go_at_call 18; (with_reducible refine (G1.out _).mono ?_); rintro e w1 ⟨rfl, hN⟩; (first | (replace hB := hB.trans hN) | (have hB := hN)); (try clear hc); (try clear hz); (try clear hz1); (try clear hz2); have hc := BW.cells hB; have hz := BW.z1 hB; clear hN)
    | (go_at_call 18; (with_reducible refine (G2.out _).mono ?_); rintro e w1 ⟨rfl, hN⟩; (first | (replace hB := hB.trans hN) | (have hB := hN)); (try clear hc); (try clear hz); (try clear hz1); (try clear hz2); have hc := BW.cells hB; have hz := BW.z1 hB; clear hN)
    | (go_at_call 15; (with_reducible refine (R1.out _).mono ?_); rintro e w1 ⟨rfl, hN⟩; (first | (replace hB := hB.trans hN) | (have hB := hN)); (try clear hc); (try clear hz); (try clear hz1); (try clear hz2); have hc := BW.cells hB; have hz := BW.z1 hB; clear hN)
    | (go_at_call 16; (with_reducible refine (T1.out _).mono ?_); rintro e w1 ⟨rfl, hN⟩; (first | (replace hB := hB.trans hN) | (have hB := hN)); (try clear hc); (try clear hz); (try clear hz1); (try clear hz2); have hc := BW.cells hB; have hz := BW.z1 hB; clear hN)
    | ((refine wpList_loadC c (.tmp 1) w.heap.size ?_ rfl rfl (BW.blk1 hB) ?_); (· simp [Region.wanted, yielded]); simp only [Act.put, List.setIfInBounds_toArray, List.set_cons_zero, List.set_cons_succ])
    | (go_at_call 35; (with_reducible refine (S1.out _).mono ?_); rintro e w1 ⟨rfl, hN⟩; (first | (replace hB := hB.trans hN) | (have hB := hN)); (try clear hc); (try clear hz); (try clear hz1); (try clear hz2); have hc := BW.cells hB; have hz := BW.z1 hB; clear hN)
    | (go_at_call 36; (with_reducible refine (L1.out _).mono ?_); rintro e w1 ⟨rfl, hN⟩; (first | (replace hB := hB.trans hN) | (have hB := hN)); (try clear hc); (try clear hz); (try clear hz1); (try clear hz2); have hc := BW.cells hB; have hz := BW.z1 hB; clear hN))
  go_ret
  exact ⟨ret_eq (by rw [HR.out]; rfl), hB.a1⟩
theorem confRight_any (c : CF) (ok : c.Ok) (w : World) :
    Calls Tryz.prog 14 #[c.val] w fun e w' => e = .returned (.bool (confB c)) ∧ BW w w' := by
  cases h1 : (c.m0 % 2 != 0)
  · cases h2 : (c.n0 % 2 != 0)
    · cases h3 : macNe c
      · exact confRight_c c ok h1 h2 h3 w
      · cases h4 : routeB c.ii c.ib c.oi c.ob c.ro
        · exact confRight_d c ok h1 h2 h3 h4 w
        · cases h5 : tableB c.maps c.flows c.lst c.mst c.udp c.opn c.lng c.qry
          · exact confRight_e c ok h1 h2 h3 h4 h5 w
          · cases h6 : storesB c
            · exact confRight_f c ok h1 h2 h3 h4 h5 h6 w
            · exact confRight_g c ok h1 h2 h3 h4 h5 h6 w
    · exact confRight_b c ok h1 h2 w
  · exact confRight_a c ok h1 w
end Go.Proofs.YtncghggejenmbaaGreatDoor
