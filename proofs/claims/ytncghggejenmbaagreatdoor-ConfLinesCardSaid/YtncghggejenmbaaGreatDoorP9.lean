/- Plain: what is written of a configuration is read as it was. -/
import Derived.Test.YtncghggejenmbaaGreatDoorP8
namespace Go.Proofs.YtncghggejenmbaaGreatDoor
open Go.RowKit Go.Proofs Go.Lib
set_option linter.unusedSimpArgs false
set_option linter.unusedVariables false
/-- A field's number is such as can be written and read. -/
def Fit (f : Fld) (s : CF) : Prop :=
  match f.k with
  | .ip => 0 ≤ s.get f.off ∧ s.get f.off < 4294967296
  | .int => 0 ≤ s.get f.off ∧ s.get f.off ≤ 4294967296
  | .u64 => 0 ≤ s.get f.off ∧ s.get f.off ≤ 4294967296
  | .u32 => 0 ≤ s.get f.off ∧ s.get f.off < 4294967296
  | .mac => InB (s.get f.off) ∧ InB (s.get (f.off + 1)) ∧ InB (s.get (f.off + 2)) ∧ InB (s.get (f.off + 3)) ∧ InB (s.get (f.off + 4)) ∧ InB (s.get (f.off + 5))
/-- A field is taken over. -/
def CF.take (c : CF) (f : Fld) (s : CF) : CF :=
  match f.k with
  | .mac => (((((c.put f.off (s.get f.off)).put (f.off + 1) (s.get (f.off + 1))).put (f.off + 2) (s.get (f.off + 2))).put (f.off + 3) (s.get (f.off + 3))).put (f.off + 4) (s.get (f.off + 4))).put (f.off + 5) (s.get (f.off + 5))
  | _ => c.put f.off (s.get f.off)
theorem fits {s : CF} (ok : s.Ok) (h : confB s = true) : ∀ r ∈ rowSpecs, ∀ f ∈ r.2, Fit f s := by
  obtain ⟨-, hr, ht, hs, hl⟩ : _ ∧ routeB s.ii s.ib s.oi s.ob s.ro = true ∧ tableB s.maps s.flows s.lst s.mst s.udp s.opn s.lng s.qry = true ∧ storesB s = true ∧ lendsB s = true := by
    simpa [confB, Bool.and_eq_true] using h
  have hb : bounded s.ib = true ∧ bounded s.ob = true := by
    simp only [routeB, apartA, rightA, hostA, hasA, Bool.and_eq_true] at hr
    exact ⟨hr.1.1.1.1.1, hr.1.2.1.1.1.1⟩
  simp only [bounded, Bool.and_eq_true, decide_eq_true_eq] at hb
  simp only [tableB, portsB, timesB, Bool.and_eq_true, decide_eq_true_eq] at ht
  simp only [storesB, cacheB, Bool.and_eq_true, decide_eq_true_eq] at hs
  simp only [lendsB, dhcpB, Bool.and_eq_true, decide_eq_true_eq] at hl
  obtain ⟨⟨i1, i2⟩, ⟨i3, i4⟩⟩ := hb
  obtain ⟨⟨t1, t2, t3, t4⟩, ⟨t5, t6, t7⟩, ⟨t8, t9, t10, t11, t12, t13, t14, t15⟩⟩ := ht
  obtain ⟨⟨s1, s2, s3, s4, s5, s6, s7, s8⟩, ⟨s9, s10⟩, ⟨s11, s12⟩⟩ := hs
  obtain ⟨⟨⟨l1, l2, l3, l4, l5, l6⟩, -⟩, -⟩ := hl
  intro r hr f hf
  simp only [rowSpecs, List.mem_cons, List.not_mem_nil, or_false] at hr
  rcases hr with rfl | rfl | rfl | rfl | rfl | rfl | rfl | rfl | rfl | rfl | rfl | rfl | rfl | rfl | rfl | rfl | rfl | rfl | rfl | rfl | rfl | rfl <;>
    simp only [List.mem_cons, List.not_mem_nil, or_false] at hf <;>
    (first
      | (rcases hf with rfl | rfl)
      | subst hf)
  · have := ok.ii; exact ⟨this.1, by have := this.2; show s.ii < _; omega⟩
  · exact ⟨by show 0 ≤ s.ib; omega, by show s.ib ≤ _; omega⟩
  · have := ok.oi; exact ⟨this.1, by have := this.2; show s.oi < _; omega⟩
  · exact ⟨by show 0 ≤ s.ob; omega, by show s.ob ≤ _; omega⟩
  · have := ok.ro; exact ⟨this.1, by have := this.2; show s.ro < _; omega⟩
  · exact ⟨ok.m0, ok.m1, ok.m2, ok.m3, ok.m4, ok.m5⟩
  · exact ⟨ok.n0, ok.n1, ok.n2, ok.n3, ok.n4, ok.n5⟩
  · exact ⟨by show 0 ≤ s.maps; omega, by show s.maps ≤ _; omega⟩
  · exact ⟨by show 0 ≤ s.flows; omega, by show s.flows ≤ _; omega⟩
  · exact ⟨by show 0 ≤ s.lst; omega, by show s.lst ≤ _; omega⟩
  · exact ⟨by show 0 ≤ s.mst; omega, by show s.mst ≤ _; omega⟩
  · exact ⟨by show 0 ≤ s.udp; omega, by show s.udp ≤ _; omega⟩
  · exact ⟨by show 0 ≤ s.opn; omega, by show s.opn ≤ _; omega⟩
  · exact ⟨by show 0 ≤ s.lng; omega, by show s.lng ≤ _; omega⟩
  · exact ⟨by show 0 ≤ s.qry; omega, by show s.qry ≤ _; omega⟩
  · exact ⟨by show 0 ≤ s.room; omega, by show s.room ≤ _; omega⟩
  · exact ⟨by show 0 ≤ s.wt; omega, by show s.wt ≤ _; omega⟩
  · exact ⟨by show 0 ≤ s.life; omega, by show s.life ≤ _; omega⟩
  · exact ⟨by show 0 ≤ s.pat; omega, by show s.pat ≤ _; omega⟩
  · exact ⟨by show 0 ≤ s.bufs; omega, by show s.bufs ≤ _; omega⟩
  · exact ⟨by show 0 ≤ s.rng; omega, by show s.rng ≤ _; omega⟩
  · have := ok.fst; exact ⟨this.1, by have := this.2; show s.fst < _; omega⟩
  · have := ok.last; exact ⟨this.1, by have := this.2; show s.last < _; omega⟩
  · exact ⟨by show 0 ≤ s.tim; omega, by show s.tim < _; omega⟩
  · exact ⟨by show 0 ≤ s.hld; omega, by show s.hld < _; omega⟩
  · exact ⟨by show 0 ≤ s.qut; omega, by show s.qut < _; omega⟩
theorem numOf_num (n : Nat) (h : n ≤ 4294967296) : numOf (decDigits n) = some n := numOf_dec n h
theorem u64N_small {x : Int} (h0 : 0 ≤ x) (h : x ≤ 4294967296) : u64N x = x.toNat ∧ ((u64N x : Nat) : Int) = x ∧ u64N x ≤ 4294967296 := by unfold u64N; omega
theorem ipText_inj {a b : Nat} (ha : a < 4294967296) (hb : b < 4294967296) (h : ipText a = ipText b) : a = b := by
  have h1 := (ip_pieces a ha ⟨(ipText a).toArray⟩ (by simp)).2
  have h2 := (ip_pieces b hb ⟨(ipText a).toArray⟩ (by simp [h])).2
  rw [h1] at h2
  exact h2
theorem ipOf_ip (n : Nat) (h : n < 4294967296) : ipOf (ipText n) = some n := by
  unfold ipOf
  have he : ∃ m, m < 4294967296 ∧ ipText m = ipText n := ⟨n, h, rfl⟩
  rw [dif_pos he]
  exact congrArg some (ipText_inj he.choose_spec.1 h he.choose_spec.2)
theorem hx_inj : ∀ a b, a < 256 → b < 256 → hx a = hx b → a = b := by
  have hd : ∀ a b, a < 16 → b < 16 → hexDigit a = hexDigit b → a = b := by
    have : ∀ a b : Fin 16, hexDigit a.val = hexDigit b.val → a = b := by decide
    intro a b ha hb h
    have := this ⟨a, ha⟩ ⟨b, hb⟩ h
    simpa using this
  intro a b ha hb h
  simp only [hx, List.cons.injEq, and_true] at h
  have h1 := hd (a / 16) (b / 16) (by omega) (by omega) h.1
  have h2 := hd (a % 16) (b % 16) (by omega) (by omega) h.2
  omega
theorem macText_inj {m n : M6} (hm : m.In) (hn : n.In) (h : m.text = n.text) : m = n := by
  obtain ⟨a, b, c, d, e, f⟩ := m
  obtain ⟨a', b', c', d', e', f'⟩ := n
  have h1 := split_mac _ hm
  have h2 := split_mac _ hn
  rw [h, h2] at h1
  simp only [List.cons.injEq, and_true] at h1
  obtain ⟨e0, e1, e2, e3, e4, e5⟩ := h1
  obtain ⟨m0, m1, m2, m3, m4, m5⟩ := hm
  obtain ⟨n0, n1, n2, n3, n4, n5⟩ := hn
  simp only [M6.mk.injEq]
  exact ⟨hx_inj _ _ m0 n0 e0.symm, hx_inj _ _ m1 n1 e1.symm, hx_inj _ _ m2 n2 e2.symm, hx_inj _ _ m3 n3 e3.symm, hx_inj _ _ m4 n4 e4.symm, hx_inj _ _ m5 n5 e5.symm⟩
theorem macOf_mac (m : M6) (h : m.In) : macOf m.text = some m := by
  unfold macOf
  have he : ∃ k : M6, k.In ∧ k.text = m.text := ⟨m, h, rfl⟩
  rw [dif_pos he]
  exact congrArg some (macText_inj he.choose_spec.1 h he.choose_spec.2)
/-- A field that is read as it was written. -/
theorem fieldOf_text {f : Fld} {c s : CF} (h : Fit f s) : fieldOf f c (fieldText f s) = some (c.take f s) := by
  obtain ⟨k, acc, off⟩ := f
  cases k with
  | ip =>
    obtain ⟨h0, h1⟩ := h
    simp only at h0 h1
    have e : (((s.get off).toNat : Nat) : Int) = s.get off := by omega
    simp only [fieldOf, fieldText, CF.take, ipOf_ip _ (show (s.get off).toNat < 4294967296 by omega), Option.map_some, e]
  | int =>
    obtain ⟨h0, h1⟩ := h
    simp only at h0 h1
    obtain ⟨-, e, hl⟩ := u64N_small h0 h1
    simp only [fieldOf, fieldText, CF.take, numOf_num _ hl, Option.map_some, e]
  | u64 =>
    obtain ⟨h0, h1⟩ := h
    simp only at h0 h1
    obtain ⟨-, e, hl⟩ := u64N_small h0 h1
    simp only [fieldOf, fieldText, CF.take, numOf_num _ hl, Option.map_some, e]
  | u32 =>
    obtain ⟨h0, h1⟩ := h
    simp only at h0 h1
    obtain ⟨-, e, hl⟩ := u64N_small h0 (by omega)
    have : u64N (s.get off) < 4294967296 := by omega
    simp only [fieldOf, fieldText, CF.take, numOf_num _ hl, Option.map_some, if_pos this, e]
  | mac =>
    obtain ⟨h0, h1, h2, h3, h4, h5⟩ := h
    simp only at h0 h1 h2 h3 h4 h5
    have g0 := inB_nat h0; have g1 := inB_nat h1; have g2 := inB_nat h2; have g3 := inB_nat h3; have g4 := inB_nat h4; have g5 := inB_nat h5
    have hm : (s.mac off).In := ⟨g0.2, g1.2, g2.2, g3.2, g4.2, g5.2⟩
    simp only [fieldOf, fieldText, CF.take, macOf_mac _ hm, Option.map_some, CF.put6]
    simp only [CF.mac, g0.1, g1.1, g2.1, g3.1, g4.1, g5.1]
/-- No sign of a field's text is a space or an end of a line. -/
theorem digit_ge (n : Nat) : ∀ c ∈ decDigits n, 46 ≤ c.toNat := fun c hc => by have := dec_digits n c hc; omega
theorem hx_ge : ∀ k, k < 256 → ∀ c ∈ hx k, 46 ≤ c.toNat := by
  intro k hk c hc
  have hd : ∀ a, a < 16 → 46 ≤ (hexDigit a).toNat := by
    have : ∀ a : Fin 16, 46 ≤ (hexDigit a.val).toNat := by decide
    exact fun a ha => this ⟨a, ha⟩
  simp only [hx, List.mem_cons, List.not_mem_nil, or_false] at hc
  rcases hc with rfl | rfl
  · exact hd _ (by omega)
  · exact hd _ (by omega)
theorem fieldText_ge {f : Fld} {s : CF} (h : Fit f s) : ∀ c ∈ fieldText f s, 46 ≤ c.toNat := by
  obtain ⟨k, acc, off⟩ := f
  cases k with
  | ip =>
    intro c hc
    simp only [fieldText, ipText, List.mem_append, List.mem_cons] at hc
    rcases hc with hc | rfl | hc | rfl | hc | rfl | hc
    all_goals first
      | exact digit_ge _ c hc
      | decide
  | int => exact digit_ge _
  | u64 => exact digit_ge _
  | u32 => exact digit_ge _
  | mac =>
    obtain ⟨h0, h1, h2, h3, h4, h5⟩ := h
    simp only at h0 h1 h2 h3 h4 h5
    have g0 := (inB_nat h0).2; have g1 := (inB_nat h1).2; have g2 := (inB_nat h2).2; have g3 := (inB_nat h3).2; have g4 := (inB_nat h4).2; have g5 := (inB_nat h5).2
    intro c hc
    simp only [fieldText, M6.text, macText, CF.mac, List.mem_append, List.mem_cons] at hc
    rcases hc with hc | rfl | hc | rfl | hc | rfl | hc | rfl | hc | rfl | hc
    all_goals first
      | exact hx_ge _ (by assumption) c hc
      | decide
end Go.Proofs.YtncghggejenmbaaGreatDoor
