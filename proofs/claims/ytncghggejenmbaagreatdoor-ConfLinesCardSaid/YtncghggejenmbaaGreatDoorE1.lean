/- Two rows of six bytes held against each other. -/
import Derived.Test.YtncghggejenmbaaGreatDoorH
import Derived.Laws.StructEq
namespace Go.Proofs.YtncghggejenmbaaGreatDoor
theorem run_equalIn_six {P : Program} (w : World) (d : Nat) (t e : TypeId) (ht : P.underlying t = some (.array 6 e)) (he : P.underlying e = some (.int .u8)) (hsz : ∀ w, (sizeOf e).run P w = .ok 1 w) (a0 a1 a2 a3 a4 a5 b0 b1 b2 b3 b4 b5 : Int) :
    (Op.equalIn (d + 2) t (.agg #[.int .u8 a0, .int .u8 a1, .int .u8 a2, .int .u8 a3, .int .u8 a4, .int .u8 a5]) (.agg #[.int .u8 b0, .int .u8 b1, .int .u8 b2, .int .u8 b3, .int .u8 b4, .int .u8 b5])).run P w
      = .ok (a0 == b0 && (a1 == b1 && (a2 == b2 && (a3 == b3 && (a4 == b4 && a5 == b5))))) w := by
  rw [Op.equalIn]
  simp only [Sem.run_bind, run_underlying ht, Result.andThen_ok, hsz, Std.Legacy.Range.forIn_eq_forIn_range', Std.Legacy.Range.size, Nat.sub_zero, Nat.add_sub_cancel, Nat.div_one]
  simp only [List.range', List.forIn_cons, List.forIn_nil, Sem.run_bind]
  simp [part, isAgg, run_underlying he, run_equalIn_int (P := P) _ d e .u8 .u8 _ _ he]
  by_cases h0 : a0 = b0 <;> by_cases h1 : a1 = b1 <;> by_cases h2 : a2 = b2 <;> by_cases h3 : a3 = b3 <;> by_cases h4 : a4 = b4 <;> by_cases h5 : a5 = b5 <;> simp [h0, h1, h2, h3, h4, h5]
end Go.Proofs.YtncghggejenmbaaGreatDoor
