/- Two sets compared (out of XSetW10, for seats that lack the rest). -/
import Derived.Test.YtekodfpjoehooaaSetW4
namespace Go.Proofs.Ytekodfpjoehooaa.Bs
open Go.RowKit Mem
theorem undU64 : Try.prog.underlying 22 = some (.int .u64) := by kernel_rfl
theorem szU64 (w : World) : (sizeOf 22).run Try.prog w = .ok 1 w := by kernel_rfl
theorem limbs_beq (s t : BitVec 256) : ([(limN s 0 : Int), limN s 1, limN s 2, limN s 3] == [(limN t 0 : Int), limN t 1, limN t 2, limN t 3]) = (s == t) := by
  rw [Bool.eq_iff_iff, beq_iff_eq, beq_iff_eq]
  constructor
  · intro h
    simp only [List.cons.injEq, Int.natCast_inj, and_true] at h
    exact limN_inj s t h.1 h.2.1 h.2.2.1 h.2.2.2
  · rintro rfl; rfl
theorem eql_set (s t : BitVec 256) (w : World) : (binOp .eql 24 (setV s) (setV t)).run Try.prog w = .ok (.bool (s == t)) w := by
  have h := run_eql_ints w 24 22 4 .u64 undS undU64 szU64 [(limN s 0 : Int), limN s 1, limN s 2, limN s 3] [(limN t 0 : Int), limN t 1, limN t 2, limN t 3] rfl rfl
  rw [limbs_beq] at h
  exact h
theorem neq_set (s t : BitVec 256) (w : World) : (binOp .neq 24 (setV s) (setV t)).run Try.prog w = .ok (.bool (!(s == t))) w := by
  have h := run_neq_ints w 24 22 4 .u64 undS undU64 szU64 [(limN s 0 : Int), limN s 1, limN s 2, limN s 3] [(limN t 0 : Int), limN t 1, limN t 2, limN t 3] rfl rfl
  rw [limbs_beq] at h
  exact h
theorem eqGuard_set (op : BinOp) (x y : Operand) (s t : BitVec 256) (w : World) : (eqGuard op 24 x y (setV s) (setV t)).run Try.prog w = .ok () w :=
  run_eqGuard_agg w op 24 x y (setC s) (setC t) Try.eqGuardType24
end Go.Proofs.Ytekodfpjoehooaa.Bs
