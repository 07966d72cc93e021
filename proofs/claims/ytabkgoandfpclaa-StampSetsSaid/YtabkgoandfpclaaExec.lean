
/- Operations that a schedule takes by hand. No condition; no program. -/

import Derived.Test.YtabkgoandfpclaaSched

namespace Go.Proofs.Ytabkgoandfpclaa

set_option linter.unusedVariables false

set_option linter.unusedSimpArgs false

open Go.RowKit

theorem index_str {P : Program} {t : TypeId} {s : ByteArray} {c : UInt8} (n : Nat) (k : IntKind) (w : World) (h : P.underlying t = some .string) (hs : s[n]? = some c) : (Instr.index t (.string s) (.int k (n : Int))).run P w = .ok (.int .u8 (c.toNat : Int)) w := by
  simp [Instr.index, asIntOf, run_underlying h, hs]
theorem exec_index {P : Program} {a : Act} {o : Oper} {w : World} (T : TypeId) (x i : Operand) (ho : o.op = .index T x i) (X I V : Value) (hx : a.eval x = X) (hi : a.eval i = I) (h : (Instr.index T X I).run P w = .ok V w) : (execOp a.eval o).run P w = .ok (.value V) w := by
  simp [execOp, ho, hx, hi, h]
theorem exec_bin {P : Program} {a : Act} {o : Oper} {w : World} (b : BinOp) (T U : TypeId) (x y : Operand) (ho : o.op = .binOp b T x y U) (X Y V : Value) (hx : a.eval x = X) (hy : a.eval y = Y) (hg : (eqGuard b T x y X Y).run P w = .ok () w) (h : (binOp b T X Y).run P w = .ok V w) : (execOp a.eval o).run P w = .ok (.value V) w := by
  simp [execOp, ho, hx, hy, h, hg]
theorem exec_conv {P : Program} {a : Act} {o : Oper} {w : World} (S T : TypeId) (x : Operand) (ho : o.op = .convert S T x) (X V : Value) (hx : a.eval x = X) (h : (convert S T X).run P w = .ok V w) : (execOp a.eval o).run P w = .ok (.value V) w := by
  simp [execOp, ho, hx, h]
theorem wrap64_in (c : Int) (h1 : -9223372036854775808 ≤ c) (h2 : c ≤ 9223372036854775807) : IntKind.i64.wrap c = c := by rw [IntKind.wrap_i64]; omega
theorem bin_mul {P : Program} {t : TypeId} (a b c : Int) (w : World) (h : a * b = c) (h1 : -9223372036854775808 ≤ c) (h2 : c ≤ 9223372036854775807) : (binOp .mul t (.int .i64 a) (.int .i64 b)).run P w = .ok (.int .i64 c) w := by
  subst h
  simp [binOp, go_sem, wrap64_in _ h1 h2]
theorem bin_add {P : Program} {t : TypeId} (a b c : Int) (w : World) (h : a + b = c) (h1 : -9223372036854775808 ≤ c) (h2 : c ≤ 9223372036854775807) : (binOp .add t (.int .i64 a) (.int .i64 b)).run P w = .ok (.int .i64 c) w := by
  subst h
  simp [binOp, go_sem, wrap64_in _ h1 h2]
theorem bin_sub {P : Program} {t : TypeId} (a b c : Int) (w : World) (h : a - b = c) (h1 : -9223372036854775808 ≤ c) (h2 : c ≤ 9223372036854775807) : (binOp .sub t (.int .i64 a) (.int .i64 b)).run P w = .ok (.int .i64 c) w := by
  subst h
  simp [binOp, go_sem, wrap64_in _ h1 h2]
end Go.Proofs.Ytabkgoandfpclaa
