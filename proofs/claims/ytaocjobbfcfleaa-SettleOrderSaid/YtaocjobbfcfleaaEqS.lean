/-
  Comparing payments, answers, standings and entries as values.
-/
import Derived.Test.YtaocjobbfcfleaaBase
namespace Go.Proofs.Ytaocjobbfcfleaa
open Go.RowKit Go.Proofs WageMem WageOrd WageRec WageMap WageReg WageSet

theorem part_one {t : TypeId} (h0 : ∀ w, (isAgg t).run Try.prog w = .ok false w) (w : World) (xs : Array Value) (i : Nat) (v : Value) (h : xs[i]? = some v) : (part t xs i).run Try.prog w = .ok v w := by
  unfold part
  simp [h0, h]
theorem part3 (w : World) (xs : Array Value) (i : Nat) (v : Value) (h : xs[i]? = some v) : (part 3 xs i).run Try.prog w = .ok v w := part_one (fun w => by kernel_rfl) w xs i v h
theorem part9 (w : World) (xs : Array Value) (i : Nat) (v : Value) (h : xs[i]? = some v) : (part 9 xs i).run Try.prog w = .ok v w := part_one (fun w => by kernel_rfl) w xs i v h
theorem part27 (w : World) (xs : Array Value) (ys : Array Value) (h : xs.extract 0 4 = ys) : (part 27 xs 0).run Try.prog w = .ok (.agg ys) w := by
  have h1 : (isAgg 27).run Try.prog w = .ok true w := by kernel_rfl
  unfold part
  simp [h1, h]
theorem eqFields_step {w : World} {d : Nat} {xs ys : Array Value} {nm : String} {ty : TypeId} {off bo : Nat} {em : Bool} {tg pk : String} {fs : List Field} {a b : Value} {r : Bool} (hn : nm ≠ "_") (ha : (part ty xs off).run Try.prog w = .ok a w) (hb : (part ty ys off).run Try.prog w = .ok b w)
    (he : (Op.equalIn d ty a b).run Try.prog w = .ok r w) : (Op.eqFields d xs ys ({ name := nm, type := ty, offset := off, embedded := em, tag := tg, pkgPath := pk, byteOffset := bo } :: fs)).run Try.prog w = if r then (Op.eqFields d xs ys fs).run Try.prog w else .ok false w := by
  conv => lhs; unfold Op.eqFields
  simp only [hn, ne_eq, not_false_eq_true, if_true, Sem.run_bind, ha, hb, he, Result.andThen]
  cases r <;> simp
theorem q3 (d : Nat) (w : World) (a b : Int) : (Op.equalIn (d + 1) 3 (.int .i64 a) (.int .i64 b)).run Try.prog w = .ok (a == b) w := run_equalIn_int w d 3 .i64 .i64 a b Try.underlying3
theorem q9 (d : Nat) (w : World) (a b : ByteArray) : (Op.equalIn (d + 1) 9 (.string a) (.string b)).run Try.prog w = .ok (a.toList == b.toList) w := run_equalIn_string w d 9 a b Try.underlying9
theorem held27 : Try.prog.stoodInHeld 27 = false := by kernel_rfl
theorem under27 : Try.prog.underlying 27 = some (.struct (Try.prog.fieldsOf 27)) := by kernel_rfl
theorem list27 : (Try.prog.fieldsOf 27).toList = [{ name := "ID", type := 3, offset := 0, embedded := false, tag := "", pkgPath := "", byteOffset := 0 }, { name := "Account", type := 9, offset := 1, embedded := false, tag := "", pkgPath := "", byteOffset := 8 }, { name := "Cents", type := 3, offset := 2, embedded := false, tag := "", pkgPath := "", byteOffset := 24 }, { name := "Day", type := 3, offset := 3, embedded := false, tag := "", pkgPath := "", byteOffset := 32 }] := by kernel_rfl
theorem equal27 (w : World) (x y : Pay) : (Op.equalIn 9999 27 (pv x) (pv y)).run Try.prog w = .ok (decide (x = y)) w := by
  unfold pv
  rw [run_equalIn_agg w 9998 27 _ _ under27 held27, list27]
  rw [eqFields_step (d := 9998) (by decide) (part3 w #[.int .i64 x.id, .string x.acc, .int .i64 x.c, .int .i64 x.d] 0 (.int .i64 x.id) rfl) (part3 w #[.int .i64 y.id, .string y.acc, .int .i64 y.c, .int .i64 y.d] 0 (.int .i64 y.id) rfl) (q3 9997 w x.id y.id)]
  rw [eqFields_step (d := 9998) (by decide) (part9 w #[.int .i64 x.id, .string x.acc, .int .i64 x.c, .int .i64 x.d] 1 (.string x.acc) rfl) (part9 w #[.int .i64 y.id, .string y.acc, .int .i64 y.c, .int .i64 y.d] 1 (.string y.acc) rfl) (q9 9997 w x.acc y.acc)]
  rw [eqFields_step (d := 9998) (by decide) (part3 w #[.int .i64 x.id, .string x.acc, .int .i64 x.c, .int .i64 x.d] 2 (.int .i64 x.c) rfl) (part3 w #[.int .i64 y.id, .string y.acc, .int .i64 y.c, .int .i64 y.d] 2 (.int .i64 y.c) rfl) (q3 9997 w x.c y.c)]
  rw [eqFields_step (d := 9998) (by decide) (part3 w #[.int .i64 x.id, .string x.acc, .int .i64 x.c, .int .i64 x.d] 3 (.int .i64 x.d) rfl) (part3 w #[.int .i64 y.id, .string y.acc, .int .i64 y.c, .int .i64 y.d] 3 (.int .i64 y.d) rfl) (q3 9997 w x.d y.d)]
  have hnil : (Op.eqFields 9998 #[.int .i64 x.id, .string x.acc, .int .i64 x.c, .int .i64 x.d] #[.int .i64 y.id, .string y.acc, .int .i64 y.c, .int .i64 y.d] []).run Try.prog w = .ok true w := rfl
  rw [hnil]
  simp only [str_eq]
  obtain ⟨x0, x1, x2, x3⟩ := x
  obtain ⟨y0, y1, y2, y3⟩ := y
  simp only [Pay.mk.injEq]
  by_cases h0 : x0 = y0
  case neg => simp [h0]
  by_cases h1 : x1 = y1
  case neg => simp [h1]
  by_cases h2 : x2 = y2
  case neg => simp [h2]
  by_cases h3 : x3 = y3
  case neg => simp [h3]
  simp [h0, h1, h2, h3]
theorem held29 : Try.prog.stoodInHeld 29 = false := by kernel_rfl
theorem under29 : Try.prog.underlying 29 = some (.struct (Try.prog.fieldsOf 29)) := by kernel_rfl
theorem list29 : (Try.prog.fieldsOf 29).toList = [{ name := "Seq", type := 3, offset := 0, embedded := false, tag := "", pkgPath := "", byteOffset := 0 }, { name := "ID", type := 3, offset := 1, embedded := false, tag := "", pkgPath := "", byteOffset := 8 }, { name := "Kind", type := 3, offset := 2, embedded := false, tag := "", pkgPath := "", byteOffset := 16 }, { name := "Cents", type := 3, offset := 3, embedded := false, tag := "", pkgPath := "", byteOffset := 24 }, { name := "Day", type := 3, offset := 4, embedded := false, tag := "", pkgPath := "", byteOffset := 32 }] := by kernel_rfl
theorem equal29 (w : World) (x y : Ans) : (Op.equalIn 10000 29 (av x) (av y)).run Try.prog w = .ok (decide (x = y)) w := by
  unfold av
  rw [run_equalIn_agg w 9999 29 _ _ under29 held29, list29]
  rw [eqFields_step (d := 9999) (by decide) (part3 w #[.int .i64 x.q, .int .i64 x.id, .int .i64 x.k, .int .i64 x.c, .int .i64 x.d] 0 (.int .i64 x.q) rfl) (part3 w #[.int .i64 y.q, .int .i64 y.id, .int .i64 y.k, .int .i64 y.c, .int .i64 y.d] 0 (.int .i64 y.q) rfl) (q3 9998 w x.q y.q)]
  rw [eqFields_step (d := 9999) (by decide) (part3 w #[.int .i64 x.q, .int .i64 x.id, .int .i64 x.k, .int .i64 x.c, .int .i64 x.d] 1 (.int .i64 x.id) rfl) (part3 w #[.int .i64 y.q, .int .i64 y.id, .int .i64 y.k, .int .i64 y.c, .int .i64 y.d] 1 (.int .i64 y.id) rfl) (q3 9998 w x.id y.id)]
  rw [eqFields_step (d := 9999) (by decide) (part3 w #[.int .i64 x.q, .int .i64 x.id, .int .i64 x.k, .int .i64 x.c, .int .i64 x.d] 2 (.int .i64 x.k) rfl) (part3 w #[.int .i64 y.q, .int .i64 y.id, .int .i64 y.k, .int .i64 y.c, .int .i64 y.d] 2 (.int .i64 y.k) rfl) (q3 9998 w x.k y.k)]
  rw [eqFields_step (d := 9999) (by decide) (part3 w #[.int .i64 x.q, .int .i64 x.id, .int .i64 x.k, .int .i64 x.c, .int .i64 x.d] 3 (.int .i64 x.c) rfl) (part3 w #[.int .i64 y.q, .int .i64 y.id, .int .i64 y.k, .int .i64 y.c, .int .i64 y.d] 3 (.int .i64 y.c) rfl) (q3 9998 w x.c y.c)]
  rw [eqFields_step (d := 9999) (by decide) (part3 w #[.int .i64 x.q, .int .i64 x.id, .int .i64 x.k, .int .i64 x.c, .int .i64 x.d] 4 (.int .i64 x.d) rfl) (part3 w #[.int .i64 y.q, .int .i64 y.id, .int .i64 y.k, .int .i64 y.c, .int .i64 y.d] 4 (.int .i64 y.d) rfl) (q3 9998 w x.d y.d)]
  have hnil : (Op.eqFields 9999 #[.int .i64 x.q, .int .i64 x.id, .int .i64 x.k, .int .i64 x.c, .int .i64 x.d] #[.int .i64 y.q, .int .i64 y.id, .int .i64 y.k, .int .i64 y.c, .int .i64 y.d] []).run Try.prog w = .ok true w := rfl
  rw [hnil]
  obtain ⟨x0, x1, x2, x3, x4⟩ := x
  obtain ⟨y0, y1, y2, y3, y4⟩ := y
  simp only [Ans.mk.injEq]
  by_cases h0 : x0 = y0
  case neg => simp [h0]
  by_cases h1 : x1 = y1
  case neg => simp [h1]
  by_cases h2 : x2 = y2
  case neg => simp [h2]
  by_cases h3 : x3 = y3
  case neg => simp [h3]
  by_cases h4 : x4 = y4
  case neg => simp [h4]
  simp [h0, h1, h2, h3, h4]
def eqAns (x y : Ans) : Bool := decide (x = y)
theorem neq29 (w : World) (x y : Ans) : (binOp .neq 29 (av x) (av y)).run Try.prog w = .ok (.bool (!eqAns x y)) w := by
  have : (Op.equalIn 10000 29 (av x) (av y)).run Try.prog w = .ok (eqAns x y) w := equal29 w x y
  unfold av at *
  rw [run_neq_struct, this]; rfl
theorem eql29 (w : World) (x y : Ans) : (binOp .eql 29 (av x) (av y)).run Try.prog w = .ok (.bool (eqAns x y)) w := by
  have : (Op.equalIn 10000 29 (av x) (av y)).run Try.prog w = .ok (eqAns x y) w := equal29 w x y
  unfold av at *
  rw [run_eql_struct, this]; rfl
theorem guard29 (w : World) (op : BinOp) (x y : Operand) (a b : Ans) : (eqGuard op 29 x y (av a) (av b)).run Try.prog w = .ok () w := run_eqGuard_agg w op 29 x y _ _ (by kernel_rfl)
theorem exec_neq29 {ρ : Operand → Value} {o : Oper} {x y : Operand} {t : TypeId} {a b : Ans} {r : Bool} (hr : (!eqAns a b) = r) (ho : o.op = .binOp .neq 29 x y t) (hx : ρ x = av a) (hy : ρ y = av b) (w : World) : (execOp ρ o).run Try.prog w = .ok (.value (.bool r)) w := by
  unfold execOp
  rw [ho]
  simp only [Sem.run_bind, hx, hy, guard29, neq29, hr, Result.andThen, Sem.run_pure]
theorem exec_eql29 {ρ : Operand → Value} {o : Oper} {x y : Operand} {t : TypeId} {a b : Ans} {r : Bool} (hr : eqAns a b = r) (ho : o.op = .binOp .eql 29 x y t) (hx : ρ x = av a) (hy : ρ y = av b) (w : World) : (execOp ρ o).run Try.prog w = .ok (.value (.bool r)) w := by
  unfold execOp
  rw [ho]
  simp only [Sem.run_bind, hx, hy, guard29, eql29, hr, Result.andThen, Sem.run_pure]
theorem held43 : Try.prog.stoodInHeld 43 = false := by kernel_rfl
theorem under43 : Try.prog.underlying 43 = some (.struct (Try.prog.fieldsOf 43)) := by kernel_rfl
theorem list43 : (Try.prog.fieldsOf 43).toList = [{ name := "Payment", type := 27, offset := 0, embedded := false, tag := "", pkgPath := "", byteOffset := 0 }, { name := "State", type := 3, offset := 4, embedded := false, tag := "", pkgPath := "", byteOffset := 40 }, { name := "Paid", type := 3, offset := 5, embedded := false, tag := "", pkgPath := "", byteOffset := 48 }, { name := "Back", type := 3, offset := 6, embedded := false, tag := "", pkgPath := "", byteOffset := 56 }] := by kernel_rfl
theorem equal43 (w : World) (x y : Sta) : (Op.equalIn 10000 43 (sv x) (sv y)).run Try.prog w = .ok (decide (x = y)) w := by
  unfold sv
  rw [run_equalIn_agg w 9999 43 _ _ under43 held43, list43]
  rw [eqFields_step (d := 9999) (by decide) (part27 w #[.int .i64 x.p.id, .string x.p.acc, .int .i64 x.p.c, .int .i64 x.p.d, .int .i64 x.st, .int .i64 x.pd, .int .i64 x.bk] _ rfl) (part27 w #[.int .i64 y.p.id, .string y.p.acc, .int .i64 y.p.c, .int .i64 y.p.d, .int .i64 y.st, .int .i64 y.pd, .int .i64 y.bk] _ rfl) (equal27 w x.p y.p)]
  rw [eqFields_step (d := 9999) (by decide) (part3 w #[.int .i64 x.p.id, .string x.p.acc, .int .i64 x.p.c, .int .i64 x.p.d, .int .i64 x.st, .int .i64 x.pd, .int .i64 x.bk] 4 (.int .i64 x.st) rfl) (part3 w #[.int .i64 y.p.id, .string y.p.acc, .int .i64 y.p.c, .int .i64 y.p.d, .int .i64 y.st, .int .i64 y.pd, .int .i64 y.bk] 4 (.int .i64 y.st) rfl) (q3 9998 w x.st y.st)]
  rw [eqFields_step (d := 9999) (by decide) (part3 w #[.int .i64 x.p.id, .string x.p.acc, .int .i64 x.p.c, .int .i64 x.p.d, .int .i64 x.st, .int .i64 x.pd, .int .i64 x.bk] 5 (.int .i64 x.pd) rfl) (part3 w #[.int .i64 y.p.id, .string y.p.acc, .int .i64 y.p.c, .int .i64 y.p.d, .int .i64 y.st, .int .i64 y.pd, .int .i64 y.bk] 5 (.int .i64 y.pd) rfl) (q3 9998 w x.pd y.pd)]
  rw [eqFields_step (d := 9999) (by decide) (part3 w #[.int .i64 x.p.id, .string x.p.acc, .int .i64 x.p.c, .int .i64 x.p.d, .int .i64 x.st, .int .i64 x.pd, .int .i64 x.bk] 6 (.int .i64 x.bk) rfl) (part3 w #[.int .i64 y.p.id, .string y.p.acc, .int .i64 y.p.c, .int .i64 y.p.d, .int .i64 y.st, .int .i64 y.pd, .int .i64 y.bk] 6 (.int .i64 y.bk) rfl) (q3 9998 w x.bk y.bk)]
  have hnil : (Op.eqFields 9999 #[.int .i64 x.p.id, .string x.p.acc, .int .i64 x.p.c, .int .i64 x.p.d, .int .i64 x.st, .int .i64 x.pd, .int .i64 x.bk] #[.int .i64 y.p.id, .string y.p.acc, .int .i64 y.p.c, .int .i64 y.p.d, .int .i64 y.st, .int .i64 y.pd, .int .i64 y.bk] []).run Try.prog w = .ok true w := rfl
  rw [hnil]
  obtain ⟨x0, x1, x2, x3⟩ := x
  obtain ⟨y0, y1, y2, y3⟩ := y
  simp only [Sta.mk.injEq]
  by_cases h0 : x0 = y0
  case neg => simp [h0]
  by_cases h1 : x1 = y1
  case neg => simp [h1]
  by_cases h2 : x2 = y2
  case neg => simp [h2]
  by_cases h3 : x3 = y3
  case neg => simp [h3]
  simp [h0, h1, h2, h3]
def eqSta (x y : Sta) : Bool := decide (x = y)
theorem neq43 (w : World) (x y : Sta) : (binOp .neq 43 (sv x) (sv y)).run Try.prog w = .ok (.bool (!eqSta x y)) w := by
  have : (Op.equalIn 10000 43 (sv x) (sv y)).run Try.prog w = .ok (eqSta x y) w := equal43 w x y
  unfold sv at *
  rw [run_neq_struct, this]; rfl
theorem eql43 (w : World) (x y : Sta) : (binOp .eql 43 (sv x) (sv y)).run Try.prog w = .ok (.bool (eqSta x y)) w := by
  have : (Op.equalIn 10000 43 (sv x) (sv y)).run Try.prog w = .ok (eqSta x y) w := equal43 w x y
  unfold sv at *
  rw [run_eql_struct, this]; rfl
theorem guard43 (w : World) (op : BinOp) (x y : Operand) (a b : Sta) : (eqGuard op 43 x y (sv a) (sv b)).run Try.prog w = .ok () w := run_eqGuard_agg w op 43 x y _ _ (by kernel_rfl)
theorem exec_neq43 {ρ : Operand → Value} {o : Oper} {x y : Operand} {t : TypeId} {a b : Sta} {r : Bool} (hr : (!eqSta a b) = r) (ho : o.op = .binOp .neq 43 x y t) (hx : ρ x = sv a) (hy : ρ y = sv b) (w : World) : (execOp ρ o).run Try.prog w = .ok (.value (.bool r)) w := by
  unfold execOp
  rw [ho]
  simp only [Sem.run_bind, hx, hy, guard43, neq43, hr, Result.andThen, Sem.run_pure]
theorem exec_eql43 {ρ : Operand → Value} {o : Oper} {x y : Operand} {t : TypeId} {a b : Sta} {r : Bool} (hr : eqSta a b = r) (ho : o.op = .binOp .eql 43 x y t) (hx : ρ x = sv a) (hy : ρ y = sv b) (w : World) : (execOp ρ o).run Try.prog w = .ok (.value (.bool r)) w := by
  unfold execOp
  rw [ho]
  simp only [Sem.run_bind, hx, hy, guard43, eql43, hr, Result.andThen, Sem.run_pure]
theorem held50 : Try.prog.stoodInHeld 50 = false := by kernel_rfl
theorem under50 : Try.prog.underlying 50 = some (.struct (Try.prog.fieldsOf 50)) := by kernel_rfl
theorem list50 : (Try.prog.fieldsOf 50).toList = [{ name := "ID", type := 3, offset := 0, embedded := false, tag := "", pkgPath := "", byteOffset := 0 }, { name := "Debit", type := 9, offset := 1, embedded := false, tag := "", pkgPath := "", byteOffset := 8 }, { name := "Credit", type := 9, offset := 2, embedded := false, tag := "", pkgPath := "", byteOffset := 24 }, { name := "Cents", type := 3, offset := 3, embedded := false, tag := "", pkgPath := "", byteOffset := 40 }, { name := "Day", type := 3, offset := 4, embedded := false, tag := "", pkgPath := "", byteOffset := 48 }, { name := "Booked", type := 3, offset := 5, embedded := false, tag := "", pkgPath := "", byteOffset := 56 }] := by kernel_rfl
theorem equal50 (w : World) (x y : Ent) : (Op.equalIn 10000 50 (nv x) (nv y)).run Try.prog w = .ok (decide (x = y)) w := by
  unfold nv
  rw [run_equalIn_agg w 9999 50 _ _ under50 held50, list50]
  rw [eqFields_step (d := 9999) (by decide) (part3 w #[.int .i64 x.id, .string x.de, .string x.cr, .int .i64 x.c, .int .i64 x.d, .int .i64 x.b] 0 (.int .i64 x.id) rfl) (part3 w #[.int .i64 y.id, .string y.de, .string y.cr, .int .i64 y.c, .int .i64 y.d, .int .i64 y.b] 0 (.int .i64 y.id) rfl) (q3 9998 w x.id y.id)]
  rw [eqFields_step (d := 9999) (by decide) (part9 w #[.int .i64 x.id, .string x.de, .string x.cr, .int .i64 x.c, .int .i64 x.d, .int .i64 x.b] 1 (.string x.de) rfl) (part9 w #[.int .i64 y.id, .string y.de, .string y.cr, .int .i64 y.c, .int .i64 y.d, .int .i64 y.b] 1 (.string y.de) rfl) (q9 9998 w x.de y.de)]
  rw [eqFields_step (d := 9999) (by decide) (part9 w #[.int .i64 x.id, .string x.de, .string x.cr, .int .i64 x.c, .int .i64 x.d, .int .i64 x.b] 2 (.string x.cr) rfl) (part9 w #[.int .i64 y.id, .string y.de, .string y.cr, .int .i64 y.c, .int .i64 y.d, .int .i64 y.b] 2 (.string y.cr) rfl) (q9 9998 w x.cr y.cr)]
  rw [eqFields_step (d := 9999) (by decide) (part3 w #[.int .i64 x.id, .string x.de, .string x.cr, .int .i64 x.c, .int .i64 x.d, .int .i64 x.b] 3 (.int .i64 x.c) rfl) (part3 w #[.int .i64 y.id, .string y.de, .string y.cr, .int .i64 y.c, .int .i64 y.d, .int .i64 y.b] 3 (.int .i64 y.c) rfl) (q3 9998 w x.c y.c)]
  rw [eqFields_step (d := 9999) (by decide) (part3 w #[.int .i64 x.id, .string x.de, .string x.cr, .int .i64 x.c, .int .i64 x.d, .int .i64 x.b] 4 (.int .i64 x.d) rfl) (part3 w #[.int .i64 y.id, .string y.de, .string y.cr, .int .i64 y.c, .int .i64 y.d, .int .i64 y.b] 4 (.int .i64 y.d) rfl) (q3 9998 w x.d y.d)]
  rw [eqFields_step (d := 9999) (by decide) (part3 w #[.int .i64 x.id, .string x.de, .string x.cr, .int .i64 x.c, .int .i64 x.d, .int .i64 x.b] 5 (.int .i64 x.b) rfl) (part3 w #[.int .i64 y.id, .string y.de, .string y.cr, .int .i64 y.c, .int .i64 y.d, .int .i64 y.b] 5 (.int .i64 y.b) rfl) (q3 9998 w x.b y.b)]
  have hnil : (Op.eqFields 9999 #[.int .i64 x.id, .string x.de, .string x.cr, .int .i64 x.c, .int .i64 x.d, .int .i64 x.b] #[.int .i64 y.id, .string y.de, .string y.cr, .int .i64 y.c, .int .i64 y.d, .int .i64 y.b] []).run Try.prog w = .ok true w := rfl
  rw [hnil]
  simp only [str_eq]
  obtain ⟨x0, x1, x2, x3, x4, x5⟩ := x
  obtain ⟨y0, y1, y2, y3, y4, y5⟩ := y
  simp only [Ent.mk.injEq]
  by_cases h0 : x0 = y0
  case neg => simp [h0]
  by_cases h1 : x1 = y1
  case neg => simp [h1]
  by_cases h2 : x2 = y2
  case neg => simp [h2]
  by_cases h3 : x3 = y3
  case neg => simp [h3]
  by_cases h4 : x4 = y4
  case neg => simp [h4]
  by_cases h5 : x5 = y5
  case neg => simp [h5]
  simp [h0, h1, h2, h3, h4, h5]
def eqEnt (x y : Ent) : Bool := decide (x = y)
theorem neq50 (w : World) (x y : Ent) : (binOp .neq 50 (nv x) (nv y)).run Try.prog w = .ok (.bool (!eqEnt x y)) w := by
  have : (Op.equalIn 10000 50 (nv x) (nv y)).run Try.prog w = .ok (eqEnt x y) w := equal50 w x y
  unfold nv at *
  rw [run_neq_struct, this]; rfl
theorem eql50 (w : World) (x y : Ent) : (binOp .eql 50 (nv x) (nv y)).run Try.prog w = .ok (.bool (eqEnt x y)) w := by
  have : (Op.equalIn 10000 50 (nv x) (nv y)).run Try.prog w = .ok (eqEnt x y) w := equal50 w x y
  unfold nv at *
  rw [run_eql_struct, this]; rfl
theorem guard50 (w : World) (op : BinOp) (x y : Operand) (a b : Ent) : (eqGuard op 50 x y (nv a) (nv b)).run Try.prog w = .ok () w := run_eqGuard_agg w op 50 x y _ _ (by kernel_rfl)
theorem exec_neq50 {ρ : Operand → Value} {o : Oper} {x y : Operand} {t : TypeId} {a b : Ent} {r : Bool} (hr : (!eqEnt a b) = r) (ho : o.op = .binOp .neq 50 x y t) (hx : ρ x = nv a) (hy : ρ y = nv b) (w : World) : (execOp ρ o).run Try.prog w = .ok (.value (.bool r)) w := by
  unfold execOp
  rw [ho]
  simp only [Sem.run_bind, hx, hy, guard50, neq50, hr, Result.andThen, Sem.run_pure]
theorem exec_eql50 {ρ : Operand → Value} {o : Oper} {x y : Operand} {t : TypeId} {a b : Ent} {r : Bool} (hr : eqEnt a b = r) (ho : o.op = .binOp .eql 50 x y t) (hx : ρ x = nv a) (hy : ρ y = nv b) (w : World) : (execOp ρ o).run Try.prog w = .ok (.value (.bool r)) w := by
  unfold execOp
  rw [ho]
  simp only [Sem.run_bind, hx, hy, guard50, eql50, hr, Result.andThen, Sem.run_pure]
end Go.Proofs.Ytaocjobbfcfleaa
