/-
  Comparing spans as values.
-/
import Derived.Test.YtngbkpplkkpagaaSp
import Derived.Laws.StructEq
namespace Go.Proofs.Ytngbkpplkkpagaa
open Go.RowKit Go.Proofs WageMem WageSpan

theorem fields33 : Try.prog.underlying 33 = some (.struct (Try.prog.fieldsOf 33)) := by kernel_rfl
theorem held33 : Try.prog.stoodInHeld 33 = false := by kernel_rfl
theorem list33 : (Try.prog.fieldsOf 33).toList = [{ name := "From", type := 3, offset := 0, embedded := false, tag := "", pkgPath := "", byteOffset := 0 }, { name := "To", type := 3, offset := 1, embedded := false, tag := "", pkgPath := "", byteOffset := 8 }] := by kernel_rfl
theorem part3 (w : World) (xs : Array Value) (i : Nat) (v : Int) (h : xs[i]? = some (.int .i64 v)) : (part 3 xs i).run Try.prog w = .ok (.int .i64 v) w := by
  have h0 : (isAgg 3).run Try.prog w = .ok false w := Try.isAgg3 w
  unfold part
  simp [h0, h]
theorem equal33 (w : World) (a b c d : Int) : (Op.equalIn 10000 33 (.agg #[.int .i64 a, .int .i64 b]) (.agg #[.int .i64 c, .int .i64 d])).run Try.prog w = .ok (decide ((a, b) = (c, d))) w := by
  rw [run_equalIn_agg w 9999 33 _ _ fields33 held33, list33]
  by_cases h1 : a = c
  · by_cases h2 : b = d
    · simp [Op.eqFields, part3 w _ 0 a, part3 w _ 1 b, run_equalIn_int _ 9998 3 .i64 .i64 _ _ Try.underlying3, h1, h2]
    · simp [Op.eqFields, part3 w _ 0 a, part3 w _ 1 b, part3 w _ 1 d, run_equalIn_int _ 9998 3 .i64 .i64 _ _ Try.underlying3, h1, h2]
  · simp [Op.eqFields, part3 w _ 0 a, part3 w _ 0 c, run_equalIn_int _ 9998 3 .i64 .i64 _ _ Try.underlying3, h1]
/-- Whether two spans are the same. -/
def eqS (a b c d : Int) : Bool := decide ((a, b) = (c, d))
theorem neq33 (w : World) (a b c d : Int) : (binOp .neq 33 (.agg #[.int .i64 a, .int .i64 b]) (.agg #[.int .i64 c, .int .i64 d])).run Try.prog w = .ok (.bool (!eqS a b c d)) w := by
  rw [run_neq_struct, equal33]; rfl
theorem guard33 (w : World) (op : BinOp) (x y : Operand) (xs ys : Array Value) : (eqGuard op 33 x y (.agg xs) (.agg ys)).run Try.prog w = .ok () w := run_eqGuard_agg w op 33 x y xs ys (by kernel_rfl)
end Go.Proofs.Ytngbkpplkkpagaa
