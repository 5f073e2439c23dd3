/- How each field of a configuration is written. (printed by gen_g1.py) -/
import Derived.Test.YtncghggejenmbaaGreatDoorF10
namespace Go.Proofs.YtncghggejenmbaaGreatDoor
open Go.RowKit Go.Proofs Go.Sort Go.Lib
set_option linter.unusedSimpArgs false
set_option linter.unusedVariables false
def CF.get (c : CF) (off : Nat) : Int :=
  match off with
  | 0 => c.ii
  | 1 => c.ib
  | 2 => c.oi
  | 3 => c.ob
  | 4 => c.ro
  | 5 => c.m0
  | 6 => c.m1
  | 7 => c.m2
  | 8 => c.m3
  | 9 => c.m4
  | 10 => c.m5
  | 11 => c.n0
  | 12 => c.n1
  | 13 => c.n2
  | 14 => c.n3
  | 15 => c.n4
  | 16 => c.n5
  | 17 => c.maps
  | 18 => c.flows
  | 19 => c.lst
  | 20 => c.mst
  | 21 => c.udp
  | 22 => c.opn
  | 23 => c.lng
  | 24 => c.qry
  | 25 => c.room
  | 26 => c.wt
  | 27 => c.life
  | 28 => c.pat
  | 29 => c.bufs
  | 30 => c.rng
  | 31 => c.own
  | 32 => c.msk
  | 33 => c.fst
  | 34 => c.last
  | 35 => c.tim
  | 36 => c.hld
  | 37 => c.qut
  | _ => 0
def u64N (x : Int) : Nat := (x % 18446744073709551616).toNat
def CF.mac (c : CF) (off : Nat) : M6 := ⟨(c.get off).toNat, (c.get (off + 1)).toNat, (c.get (off + 2)).toNat, (c.get (off + 3)).toNat, (c.get (off + 4)).toNat, (c.get (off + 5)).toNat⟩
def fieldText (f : Fld) (c : CF) : List UInt8 :=
  match f.k with
  | .ip => ipText (c.get f.off).toNat
  | .int => decDigits (u64N (c.get f.off))
  | .u64 => decDigits (u64N (c.get f.off))
  | .u32 => decDigits (u64N (c.get f.off))
  | .mac => (c.mac f.off).text
def StrPost (l : List UInt8) (w : World) (e : Ending) (w' : World) : Prop := e = .returned (.string (bstr l)) ∧ BW w w'
theorem u64N_lt (x : Int) : u64N x < 18446744073709551616 := by unfold u64N; omega
theorem u64N_cast (x : Int) : ((u64N x : Nat) : Int) = x % 18446744073709551616 := by unfold u64N; omega
theorem u64N_of {x : Int} (h : InU x) : ((u64N x : Nat) : Int) = x := by unfold u64N InU at *; omega
set_option maxRecDepth 100000 in
set_option maxHeartbeats 400000 in
theorem wrIp_any (acc off ob cb : Nat) (x : Int) (w : World) (g : G w) (ha : Acc acc off) (ho : w.cell? ⟨ob, 0, none⟩ = some (.func (.func acc) #[] #[])) (hx : w.cell? ⟨cb, off, none⟩ = some (.int .u32 x)) (hi : InW x) :
    Calls Tryz.prog 100 #[.pointer (some ⟨cb, 0, none⟩), .pointer (some ⟨ob, 0, none⟩)] w (StrPost (ipText x.toNat) w) := by
  obtain ⟨h0, h1⟩ := hi
  obtain ⟨n, rfl⟩ : ∃ n : Nat, x = (n : Int) := ⟨x.toNat, by omega⟩
  have hn : n < 4294967296 := by omega
  obtain ⟨hen, hacc⟩ := ha
  have Hacc := Hid.mk hacc
  have Hg := Hid.mk g
  clear hacc g h0 h1
  go_enter Tryz.func100, Tryz.ntmps100
  go_wp2_with (first
    | (go_at_fn acc; refine (Hacc.out _ _).mono ?_; rintro e w2 ⟨rfl, rfl⟩)
    | (go_at_call 101; refine (ipText_any n hn _ Hg.out).mono ?_; rintro e w2 ⟨rfl, hN⟩))
  go_ret
  exact ⟨rfl, hN⟩
set_option maxRecDepth 100000 in
set_option maxHeartbeats 400000 in
theorem wrInt_any (acc off ob cb : Nat) (x : Int) (w : World) (g : G w) (ha : Acc acc off) (ho : w.cell? ⟨ob, 0, none⟩ = some (.func (.func acc) #[] #[])) (hx : w.cell? ⟨cb, off, none⟩ = some (.int .i64 x)) :
    Calls Tryz.prog 104 #[.pointer (some ⟨cb, 0, none⟩), .pointer (some ⟨ob, 0, none⟩)] w (StrPost (decDigits (u64N x)) w) := by
  obtain ⟨hen, hacc⟩ := ha
  have Hacc := Hid.mk hacc
  have Hg := Hid.mk g
  have hw : IntKind.u64.wrap x = ((u64N x : Nat) : Int) := by rw [u64N_cast, IntKind.wrap_u64]
  have hlt := u64N_lt x
  generalize u64N x = n at hw hlt
  clear hacc g
  go_enter Tryz.func104, Tryz.ntmps104
  go_wp2_with (first
    | (go_at_fn acc; refine (Hacc.out _ _).mono ?_; rintro e w2 ⟨rfl, rfl⟩)
    | (go_at_call 105; refine (fmtUint_any n hlt _ Hg.out.pow).mono ?_; rintro e w2 ⟨rfl, hN⟩))
  go_ret
  exact ⟨rfl, hN⟩
set_option maxRecDepth 100000 in
set_option maxHeartbeats 400000 in
theorem wrU64_any (acc off ob cb : Nat) (x : Int) (w : World) (g : G w) (ha : Acc acc off) (ho : w.cell? ⟨ob, 0, none⟩ = some (.func (.func acc) #[] #[])) (hx : w.cell? ⟨cb, off, none⟩ = some (.int .u64 x)) (hi : InU x) :
    Calls Tryz.prog 112 #[.pointer (some ⟨cb, 0, none⟩), .pointer (some ⟨ob, 0, none⟩)] w (StrPost (decDigits (u64N x)) w) := by
  obtain ⟨hen, hacc⟩ := ha
  have Hacc := Hid.mk hacc
  have Hg := Hid.mk g
  have hw := u64N_of hi
  have hlt := u64N_lt x
  generalize u64N x = n at hw hlt
  subst hw
  clear hacc g hi
  go_enter Tryz.func112, Tryz.ntmps112
  go_wp2_with (first
    | (go_at_fn acc; refine (Hacc.out _ _).mono ?_; rintro e w2 ⟨rfl, rfl⟩)
    | (go_at_call 105; refine (fmtUint_any n hlt _ Hg.out.pow).mono ?_; rintro e w2 ⟨rfl, hN⟩))
  go_ret
  exact ⟨rfl, hN⟩
set_option maxRecDepth 100000 in
set_option maxHeartbeats 400000 in
theorem wrU32_any (acc off ob cb : Nat) (x : Int) (w : World) (g : G w) (ha : Acc acc off) (ho : w.cell? ⟨ob, 0, none⟩ = some (.func (.func acc) #[] #[])) (hx : w.cell? ⟨cb, off, none⟩ = some (.int .u32 x)) (hi : InW x) :
    Calls Tryz.prog 114 #[.pointer (some ⟨cb, 0, none⟩), .pointer (some ⟨ob, 0, none⟩)] w (StrPost (decDigits (u64N x)) w) := by
  obtain ⟨hen, hacc⟩ := ha
  have Hacc := Hid.mk hacc
  have Hg := Hid.mk g
  have hw : ((u64N x : Nat) : Int) = x := u64N_of (by unfold InW at hi; unfold InU; omega)
  have hlt := u64N_lt x
  generalize u64N x = n at hw hlt
  subst hw
  have hww : IntKind.u64.wrap (n : Int) = (n : Int) := by rw [IntKind.wrap_u64]; omega
  clear hacc g hi
  go_enter Tryz.func114, Tryz.ntmps114
  go_wp2_with (first
    | (go_at_fn acc; refine (Hacc.out _ _).mono ?_; rintro e w2 ⟨rfl, rfl⟩)
    | (go_at_call 105; refine (fmtUint_any n hlt _ Hg.out.pow).mono ?_; rintro e w2 ⟨rfl, hN⟩))
  go_ret
  exact ⟨rfl, hN⟩
set_option maxRecDepth 100000 in
set_option maxHeartbeats 400000 in
theorem wrMac_any (acc off ob cb : Nat) (m : M6) (hm : m.In) (w : World) (g : G w) (ha : Acc acc off) (ho : w.cell? ⟨ob, 0, none⟩ = some (.func (.func acc) #[] #[]))
    (h0 : w.cell? ⟨cb, off, none⟩ = some (.int .u8 (m.a : Int))) (h1 : w.cell? ⟨cb, off + 1, none⟩ = some (.int .u8 (m.b : Int))) (h2 : w.cell? ⟨cb, off + 2, none⟩ = some (.int .u8 (m.c : Int)))
    (h3 : w.cell? ⟨cb, off + 3, none⟩ = some (.int .u8 (m.d : Int))) (h4 : w.cell? ⟨cb, off + 4, none⟩ = some (.int .u8 (m.e : Int))) (h5 : w.cell? ⟨cb, off + 5, none⟩ = some (.int .u8 (m.f : Int))) :
    Calls Tryz.prog 108 #[.pointer (some ⟨cb, 0, none⟩), .pointer (some ⟨ob, 0, none⟩)] w (StrPost m.text w) := by
  obtain ⟨hen, hacc⟩ := ha
  have Hacc := Hid.mk hacc
  have Hg := Hid.mk g
  have h7 := block_lt_of_cell g.tz
  have Htz := Hid.mk g.tz
  obtain ⟨ma, mb, mc, md, me, mf⟩ := m
  simp only at h0 h1 h2 h3 h4 h5
  clear hacc g
  go_enter Tryz.func108, Tryz.ntmps108
  go_wp2_with (first
    | (go_at_fn acc; refine (Hacc.out _ _).mono ?_; rintro e w2 ⟨rfl, rfl⟩)
    | (go_at_call 109; refine (macText_any ⟨ma, mb, mc, md, me, mf⟩ hm _ Hg.out h7 Htz.out).mono ?_; rintro e w2 ⟨rfl, hN⟩))
  go_ret
  exact ⟨rfl, hN⟩
def WrSaid (f : Fld) : Prop := ∀ (cb ob : Nat) (w : World) (c : CF), G w → c.Ok → ConfAt cb c w → w.cell? ⟨ob, 0, none⟩ = some (.func (.func f.acc) #[] #[]) →
  Calls Tryz.prog (wrF f.k) #[.pointer (some ⟨cb, 0, none⟩), .pointer (some ⟨ob, 0, none⟩)] w (StrPost (fieldText f c) w)
theorem inB_nat {x : Int} (h : InB x) : ((x.toNat : Nat) : Int) = x ∧ x.toNat < 256 := by unfold InB at h; omega
theorem wr46 : WrSaid ⟨.ip, 46, 0⟩ := fun cb ob w c g ok hc ho => wrIp_any 46 0 ob cb c.ii w g acc46 ho ((hc.cell 0).trans (CF.get0 c)) ok.ii
theorem wr48 : WrSaid ⟨.int, 48, 1⟩ := fun cb ob w c g ok hc ho => wrInt_any 48 1 ob cb c.ib w g acc48 ho ((hc.cell 1).trans (CF.get1 c))
theorem wr49 : WrSaid ⟨.ip, 49, 2⟩ := fun cb ob w c g ok hc ho => wrIp_any 49 2 ob cb c.oi w g acc49 ho ((hc.cell 2).trans (CF.get2 c)) ok.oi
theorem wr50 : WrSaid ⟨.int, 50, 3⟩ := fun cb ob w c g ok hc ho => wrInt_any 50 3 ob cb c.ob w g acc50 ho ((hc.cell 3).trans (CF.get3 c))
theorem wr51 : WrSaid ⟨.ip, 51, 4⟩ := fun cb ob w c g ok hc ho => wrIp_any 51 4 ob cb c.ro w g acc51 ho ((hc.cell 4).trans (CF.get4 c)) ok.ro
theorem wr53 : WrSaid ⟨.mac, 53, 5⟩ := fun cb ob w c g ok hc ho => by
  have b0 := inB_nat ok.m0
  have b1 := inB_nat ok.m1
  have b2 := inB_nat ok.m2
  have b3 := inB_nat ok.m3
  have b4 := inB_nat ok.m4
  have b5 := inB_nat ok.m5
  exact wrMac_any 53 5 ob cb (c.mac 5) ⟨b0.2, b1.2, b2.2, b3.2, b4.2, b5.2⟩ w g acc53 ho ((hc.cell 5).trans (by rw [CF.get5]; exact congrArg (fun z => some (Value.int .u8 z)) b0.1.symm)) ((hc.cell 6).trans (by rw [CF.get6]; exact congrArg (fun z => some (Value.int .u8 z)) b1.1.symm)) ((hc.cell 7).trans (by rw [CF.get7]; exact congrArg (fun z => some (Value.int .u8 z)) b2.1.symm)) ((hc.cell 8).trans (by rw [CF.get8]; exact congrArg (fun z => some (Value.int .u8 z)) b3.1.symm)) ((hc.cell 9).trans (by rw [CF.get9]; exact congrArg (fun z => some (Value.int .u8 z)) b4.1.symm)) ((hc.cell 10).trans (by rw [CF.get10]; exact congrArg (fun z => some (Value.int .u8 z)) b5.1.symm))
theorem wr54 : WrSaid ⟨.mac, 54, 11⟩ := fun cb ob w c g ok hc ho => by
  have b0 := inB_nat ok.n0
  have b1 := inB_nat ok.n1
  have b2 := inB_nat ok.n2
  have b3 := inB_nat ok.n3
  have b4 := inB_nat ok.n4
  have b5 := inB_nat ok.n5
  exact wrMac_any 54 11 ob cb (c.mac 11) ⟨b0.2, b1.2, b2.2, b3.2, b4.2, b5.2⟩ w g acc54 ho ((hc.cell 11).trans (by rw [CF.get11]; exact congrArg (fun z => some (Value.int .u8 z)) b0.1.symm)) ((hc.cell 12).trans (by rw [CF.get12]; exact congrArg (fun z => some (Value.int .u8 z)) b1.1.symm)) ((hc.cell 13).trans (by rw [CF.get13]; exact congrArg (fun z => some (Value.int .u8 z)) b2.1.symm)) ((hc.cell 14).trans (by rw [CF.get14]; exact congrArg (fun z => some (Value.int .u8 z)) b3.1.symm)) ((hc.cell 15).trans (by rw [CF.get15]; exact congrArg (fun z => some (Value.int .u8 z)) b4.1.symm)) ((hc.cell 16).trans (by rw [CF.get16]; exact congrArg (fun z => some (Value.int .u8 z)) b5.1.symm))
theorem wr55 : WrSaid ⟨.int, 55, 17⟩ := fun cb ob w c g ok hc ho => wrInt_any 55 17 ob cb c.maps w g acc55 ho ((hc.cell 17).trans (CF.get17 c))
theorem wr56 : WrSaid ⟨.int, 56, 18⟩ := fun cb ob w c g ok hc ho => wrInt_any 56 18 ob cb c.flows w g acc56 ho ((hc.cell 18).trans (CF.get18 c))
theorem wr57 : WrSaid ⟨.int, 57, 19⟩ := fun cb ob w c g ok hc ho => wrInt_any 57 19 ob cb c.lst w g acc57 ho ((hc.cell 19).trans (CF.get19 c))
theorem wr58 : WrSaid ⟨.int, 58, 20⟩ := fun cb ob w c g ok hc ho => wrInt_any 58 20 ob cb c.mst w g acc58 ho ((hc.cell 20).trans (CF.get20 c))
theorem wr60 : WrSaid ⟨.u64, 60, 21⟩ := fun cb ob w c g ok hc ho => wrU64_any 60 21 ob cb c.udp w g acc60 ho ((hc.cell 21).trans (CF.get21 c)) ok.udp
theorem wr61 : WrSaid ⟨.u64, 61, 22⟩ := fun cb ob w c g ok hc ho => wrU64_any 61 22 ob cb c.opn w g acc61 ho ((hc.cell 22).trans (CF.get22 c)) ok.opn
theorem wr62 : WrSaid ⟨.u64, 62, 23⟩ := fun cb ob w c g ok hc ho => wrU64_any 62 23 ob cb c.lng w g acc62 ho ((hc.cell 23).trans (CF.get23 c)) ok.lng
theorem wr63 : WrSaid ⟨.u64, 63, 24⟩ := fun cb ob w c g ok hc ho => wrU64_any 63 24 ob cb c.qry w g acc63 ho ((hc.cell 24).trans (CF.get24 c)) ok.qry
theorem wr64 : WrSaid ⟨.int, 64, 25⟩ := fun cb ob w c g ok hc ho => wrInt_any 64 25 ob cb c.room w g acc64 ho ((hc.cell 25).trans (CF.get25 c))
theorem wr65 : WrSaid ⟨.int, 65, 26⟩ := fun cb ob w c g ok hc ho => wrInt_any 65 26 ob cb c.wt w g acc65 ho ((hc.cell 26).trans (CF.get26 c))
theorem wr66 : WrSaid ⟨.u64, 66, 27⟩ := fun cb ob w c g ok hc ho => wrU64_any 66 27 ob cb c.life w g acc66 ho ((hc.cell 27).trans (CF.get27 c)) ok.life
theorem wr67 : WrSaid ⟨.u64, 67, 28⟩ := fun cb ob w c g ok hc ho => wrU64_any 67 28 ob cb c.pat w g acc67 ho ((hc.cell 28).trans (CF.get28 c)) ok.pat
theorem wr68 : WrSaid ⟨.int, 68, 29⟩ := fun cb ob w c g ok hc ho => wrInt_any 68 29 ob cb c.bufs w g acc68 ho ((hc.cell 29).trans (CF.get29 c))
theorem wr69 : WrSaid ⟨.int, 69, 30⟩ := fun cb ob w c g ok hc ho => wrInt_any 69 30 ob cb c.rng w g acc69 ho ((hc.cell 30).trans (CF.get30 c))
theorem wr70 : WrSaid ⟨.ip, 70, 33⟩ := fun cb ob w c g ok hc ho => wrIp_any 70 33 ob cb c.fst w g acc70 ho ((hc.cell 33).trans (CF.get33 c)) ok.fst
theorem wr71 : WrSaid ⟨.ip, 71, 34⟩ := fun cb ob w c g ok hc ho => wrIp_any 71 34 ob cb c.last w g acc71 ho ((hc.cell 34).trans (CF.get34 c)) ok.last
theorem wr73 : WrSaid ⟨.u32, 73, 35⟩ := fun cb ob w c g ok hc ho => wrU32_any 73 35 ob cb c.tim w g acc73 ho ((hc.cell 35).trans (CF.get35 c)) ok.tim
theorem wr74 : WrSaid ⟨.u32, 74, 36⟩ := fun cb ob w c g ok hc ho => wrU32_any 74 36 ob cb c.hld w g acc74 ho ((hc.cell 36).trans (CF.get36 c)) ok.hld
theorem wr75 : WrSaid ⟨.u32, 75, 37⟩ := fun cb ob w c g ok hc ho => wrU32_any 75 37 ob cb c.qut w g acc75 ho ((hc.cell 37).trans (CF.get37 c)) ok.qut
theorem rows_wr : ∀ r ∈ rowSpecs, ∀ f ∈ r.2, WrSaid f := by
  intro r hr f hf
  simp only [rowSpecs, List.mem_cons, List.not_mem_nil, or_false] at hr
  rcases hr with rfl | rfl | rfl | rfl | rfl | rfl | rfl | rfl | rfl | rfl | rfl | rfl | rfl | rfl | rfl | rfl | rfl | rfl | rfl | rfl | rfl | rfl <;>
    simp only [List.mem_cons, List.not_mem_nil, or_false] at hf <;>
    (first
      | (rcases hf with rfl | rfl)
      | subst hf) <;>
    (first
      | exact wr46
      | exact wr48
      | exact wr49
      | exact wr50
      | exact wr51
      | exact wr53
      | exact wr54
      | exact wr55
      | exact wr56
      | exact wr57
      | exact wr58
      | exact wr60
      | exact wr61
      | exact wr62
      | exact wr63
      | exact wr64
      | exact wr65
      | exact wr66
      | exact wr67
      | exact wr68
      | exact wr69
      | exact wr70
      | exact wr71
      | exact wr73
      | exact wr74
      | exact wr75)
end Go.Proofs.YtncghggejenmbaaGreatDoor
