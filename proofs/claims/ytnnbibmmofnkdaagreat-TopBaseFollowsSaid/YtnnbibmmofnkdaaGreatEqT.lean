/-
 Struct comparisons, literals as keys.
-/
import Derived.Test.YtnnbibmmofnkdaaGreatKit
import Derived.Test.YtnnbibmmofnkdaaGreatSpA
import Derived.Test.YtnnbibmmofnkdaaGreatSetA
import Derived.Laws.StructEq
namespace Go.Proofs.YtnnbibmmofnkdaaGreat
open Go.RowKit Go.Proofs WageMem WageReg WageRec WageSpan WageTop
theorem part_one {t : TypeId} (h0 : ∀ w, (isAgg t).run Tryz.prog w = .ok false w) (w : World) (xs : Array Value) (i : Nat) (v : Value) (h : xs[i]? = some v) : (part t xs i).run Tryz.prog w = .ok v w := by
 unfold part
 simp [h0, h]
theorem part3 (w : World) (xs : Array Value) (i : Nat) (v : Value) (h : xs[i]? = some v) : (part 3 xs i).run Tryz.prog w = .ok v w := part_one (fun w => by kernel_rfl) w xs i v h
theorem part4 (w : World) (xs : Array Value) (i : Nat) (v : Value) (h : xs[i]? = some v) : (part 4 xs i).run Tryz.prog w = .ok v w := part_one (fun w => by kernel_rfl) w xs i v h
theorem eqFields_step {w : World} {d : Nat} {xs ys : Array Value} {nm : String} {ty : TypeId} {off bo : Nat} {em : Bool} {tg pk : String} {fs : List Field} {a b : Value} {r : Bool} (hn : nm ≠ "_") (ha : (part ty xs off).run Tryz.prog w = .ok a w) (hb : (part ty ys off).run Tryz.prog w = .ok b w)
  (he : (Op.equalIn d ty a b).run Tryz.prog w = .ok r w) : (Op.eqFields d xs ys ({ name := nm, type := ty, offset := off, embedded := em, tag := tg, pkgPath := pk, byteOffset := bo } :: fs)).run Tryz.prog w = if r then (Op.eqFields d xs ys fs).run Tryz.prog w else .ok false w := by
 conv => lhs; unfold Op.eqFields
 simp only [hn, ne_eq, not_false_eq_true, if_true, Sem.run_bind, ha, hb, he, Result.andThen]
 cases r <;> simp
theorem q3 (d : Nat) (w : World) (a b : Int) : (Op.equalIn (d + 1) 3 (.int .i64 a) (.int .i64 b)).run Tryz.prog w = .ok (a == b) w := run_equalIn_int w d 3 .i64 .i64 a b Tryz.underlying3
theorem q4 (d : Nat) (w : World) (a b : Bool) : (Op.equalIn (d + 1) 4 (.bool a) (.bool b)).run Tryz.prog w = .ok (a == b) w := run_equalIn_bool w d 4 a b Tryz.underlying4
theorem held49 : Tryz.prog.stoodInHeld 49 = false := by kernel_rfl
theorem under49 : Tryz.prog.underlying 49 = some (.struct (Tryz.prog.fieldsOf 49)) := by kernel_rfl
theorem list49 : (Tryz.prog.fieldsOf 49).toList = [{ name := "Day", type := 3, offset := 0, embedded := false, tag := "", pkgPath := "", byteOffset := 0 }, { name := "Minutes", type := 3, offset := 1, embedded := false, tag := "", pkgPath := "", byteOffset := 8 }] := by kernel_rfl
def eqT49 (x0 y0 : Int) (x1 y1 : Int) : Bool := decide (x0 = y0) && decide (x1 = y1)
theorem eqT49_iff {x0 y0  x1 y1 : Int} : eqT49 x0 y0 x1 y1 = true ↔ x0 = y0 ∧ x1 = y1 := by
 unfold eqT49
 simp only [Bool.and_eq_true, decide_eq_true_eq]
theorem equal49 (w : World) (x0 y0 : Int) (x1 y1 : Int) : (Op.equalIn 10000 49 (.agg #[.int .i64 x0, .int .i64 x1]) (.agg #[.int .i64 y0, .int .i64 y1])).run Tryz.prog w = .ok (eqT49 x0 y0 x1 y1) w := by
 rw [run_equalIn_agg w 9999 49 _ _ under49 held49, list49]
 rw [eqFields_step (d := 9999) (by decide) (part3 w #[.int .i64 x0, .int .i64 x1] 0 (.int .i64 x0) rfl) (part3 w #[.int .i64 y0, .int .i64 y1] 0 (.int .i64 y0) rfl) (q3 9998 w x0 y0)]
 rw [eqFields_step (d := 9999) (by decide) (part3 w #[.int .i64 x0, .int .i64 x1] 1 (.int .i64 x1) rfl) (part3 w #[.int .i64 y0, .int .i64 y1] 1 (.int .i64 y1) rfl) (q3 9998 w x1 y1)]
 have hnil : (Op.eqFields 9999 #[.int .i64 x0, .int .i64 x1] #[.int .i64 y0, .int .i64 y1] []).run Tryz.prog w = .ok true w := rfl
 rw [hnil]
 unfold eqT49
 by_cases h0 : x0 = y0
 case neg => simp [h0]
 by_cases h1 : x1 = y1
 case neg => simp [h1]
 simp [h0, h1]
theorem neq49 (w : World) (x0 y0 : Int) (x1 y1 : Int) : (binOp .neq 49 (.agg #[.int .i64 x0, .int .i64 x1]) (.agg #[.int .i64 y0, .int .i64 y1])).run Tryz.prog w = .ok (.bool (!eqT49 x0 y0 x1 y1)) w := by
 rw [run_neq_struct, equal49]; rfl
theorem held122 : Tryz.prog.stoodInHeld 122 = false := by kernel_rfl
theorem under122 : Tryz.prog.underlying 122 = some (.struct (Tryz.prog.fieldsOf 122)) := by kernel_rfl
theorem list122 : (Tryz.prog.fieldsOf 122).toList = [{ name := "Duty", type := 3, offset := 0, embedded := false, tag := "", pkgPath := "", byteOffset := 0 }, { name := "Worker", type := 3, offset := 1, embedded := false, tag := "", pkgPath := "", byteOffset := 8 }, { name := "Is", type := 4, offset := 2, embedded := false, tag := "", pkgPath := "", byteOffset := 16 }] := by kernel_rfl
def eqT122 (x0 y0 : Int) (x1 y1 : Int) (x2 y2 : Bool) : Bool := decide (x0 = y0) && decide (x1 = y1) && decide (x2 = y2)
theorem eqT122_iff {x0 y0  x1 y1 : Int} {x2 y2 : Bool} : eqT122 x0 y0 x1 y1 x2 y2 = true ↔ x0 = y0 ∧ x1 = y1 ∧ x2 = y2 := by
 unfold eqT122
 simp only [Bool.and_eq_true, decide_eq_true_eq, and_assoc]
theorem equal122 (w : World) (x0 y0 : Int) (x1 y1 : Int) (x2 y2 : Bool) : (Op.equalIn 10000 122 (.agg #[.int .i64 x0, .int .i64 x1, .bool x2]) (.agg #[.int .i64 y0, .int .i64 y1, .bool y2])).run Tryz.prog w = .ok (eqT122 x0 y0 x1 y1 x2 y2) w := by
 rw [run_equalIn_agg w 9999 122 _ _ under122 held122, list122]
 rw [eqFields_step (d := 9999) (by decide) (part3 w #[.int .i64 x0, .int .i64 x1, .bool x2] 0 (.int .i64 x0) rfl) (part3 w #[.int .i64 y0, .int .i64 y1, .bool y2] 0 (.int .i64 y0) rfl) (q3 9998 w x0 y0)]
 rw [eqFields_step (d := 9999) (by decide) (part3 w #[.int .i64 x0, .int .i64 x1, .bool x2] 1 (.int .i64 x1) rfl) (part3 w #[.int .i64 y0, .int .i64 y1, .bool y2] 1 (.int .i64 y1) rfl) (q3 9998 w x1 y1)]
 rw [eqFields_step (d := 9999) (by decide) (part4 w #[.int .i64 x0, .int .i64 x1, .bool x2] 2 (.bool x2) rfl) (part4 w #[.int .i64 y0, .int .i64 y1, .bool y2] 2 (.bool y2) rfl) (q4 9998 w x2 y2)]
 have hnil : (Op.eqFields 9999 #[.int .i64 x0, .int .i64 x1, .bool x2] #[.int .i64 y0, .int .i64 y1, .bool y2] []).run Tryz.prog w = .ok true w := rfl
 rw [hnil]
 unfold eqT122
 by_cases h0 : x0 = y0
 case neg => simp [h0]
 by_cases h1 : x1 = y1
 case neg => simp [h1]
 by_cases h2 : x2 = y2
 case neg => simp [h2]
 simp [h0, h1, h2]
theorem eql122 (w : World) (x0 y0 : Int) (x1 y1 : Int) (x2 y2 : Bool) : (binOp .eql 122 (.agg #[.int .i64 x0, .int .i64 x1, .bool x2]) (.agg #[.int .i64 y0, .int .i64 y1, .bool y2])).run Tryz.prog w = .ok (.bool (eqT122 x0 y0 x1 y1 x2 y2)) w := by
 rw [run_eql_struct, equal122]; rfl
theorem guard122 (w : World) (op : BinOp) (x y : Operand) (x0 y0 : Int) (x1 y1 : Int) (x2 y2 : Bool) : (eqGuard op 122 x y (.agg #[.int .i64 x0, .int .i64 x1, .bool x2]) (.agg #[.int .i64 y0, .int .i64 y1, .bool y2])).run Tryz.prog w = .ok () w := run_eqGuard_agg w op 122 x y _ _ (by kernel_rfl)
theorem exec_eql122 {ρ : Operand → Value} {o : Oper} {x y : Operand} {x0 y0 : Int} {x1 y1 : Int} {x2 y2 : Bool} {r : Bool} (hr : eqT122 x0 y0 x1 y1 x2 y2 = r) (ho : o.op = .binOp .eql 122 x y 122) (hx : ρ x = .agg #[.int .i64 x0, .int .i64 x1, .bool x2]) (hy : ρ y = .agg #[.int .i64 y0, .int .i64 y1, .bool y2]) (w : World) : (execOp ρ o).run Tryz.prog w = .ok (.value (.bool r)) w := by
 unfold execOp
 rw [ho]
 simp only [Sem.run_bind, hx, hy, guard122, eql122, hr, Result.andThen, Sem.run_pure]
theorem held109 : Tryz.prog.stoodInHeld 109 = false := by kernel_rfl
theorem under109 : Tryz.prog.underlying 109 = some (.struct (Tryz.prog.fieldsOf 109)) := by kernel_rfl
theorem list109 : (Tryz.prog.fieldsOf 109).toList = [{ name := "Kind", type := 3, offset := 0, embedded := false, tag := "", pkgPath := "", byteOffset := 0 }, { name := "Worker", type := 3, offset := 1, embedded := false, tag := "", pkgPath := "", byteOffset := 8 }, { name := "First", type := 3, offset := 2, embedded := false, tag := "", pkgPath := "", byteOffset := 16 }, { name := "Second", type := 3, offset := 3, embedded := false, tag := "", pkgPath := "", byteOffset := 24 }] := by kernel_rfl
def eqT109 (x0 y0 : Int) (x1 y1 : Int) (x2 y2 : Int) (x3 y3 : Int) : Bool := decide (x0 = y0) && decide (x1 = y1) && decide (x2 = y2) && decide (x3 = y3)
theorem equal109 (w : World) (x0 y0 : Int) (x1 y1 : Int) (x2 y2 : Int) (x3 y3 : Int) : (Op.equalIn 10000 109 (.agg #[.int .i64 x0, .int .i64 x1, .int .i64 x2, .int .i64 x3]) (.agg #[.int .i64 y0, .int .i64 y1, .int .i64 y2, .int .i64 y3])).run Tryz.prog w = .ok (eqT109 x0 y0 x1 y1 x2 y2 x3 y3) w := by
 rw [run_equalIn_agg w 9999 109 _ _ under109 held109, list109]
 rw [eqFields_step (d := 9999) (by decide) (part3 w #[.int .i64 x0, .int .i64 x1, .int .i64 x2, .int .i64 x3] 0 (.int .i64 x0) rfl) (part3 w #[.int .i64 y0, .int .i64 y1, .int .i64 y2, .int .i64 y3] 0 (.int .i64 y0) rfl) (q3 9998 w x0 y0)]
 rw [eqFields_step (d := 9999) (by decide) (part3 w #[.int .i64 x0, .int .i64 x1, .int .i64 x2, .int .i64 x3] 1 (.int .i64 x1) rfl) (part3 w #[.int .i64 y0, .int .i64 y1, .int .i64 y2, .int .i64 y3] 1 (.int .i64 y1) rfl) (q3 9998 w x1 y1)]
 rw [eqFields_step (d := 9999) (by decide) (part3 w #[.int .i64 x0, .int .i64 x1, .int .i64 x2, .int .i64 x3] 2 (.int .i64 x2) rfl) (part3 w #[.int .i64 y0, .int .i64 y1, .int .i64 y2, .int .i64 y3] 2 (.int .i64 y2) rfl) (q3 9998 w x2 y2)]
 rw [eqFields_step (d := 9999) (by decide) (part3 w #[.int .i64 x0, .int .i64 x1, .int .i64 x2, .int .i64 x3] 3 (.int .i64 x3) rfl) (part3 w #[.int .i64 y0, .int .i64 y1, .int .i64 y2, .int .i64 y3] 3 (.int .i64 y3) rfl) (q3 9998 w x3 y3)]
 have hnil : (Op.eqFields 9999 #[.int .i64 x0, .int .i64 x1, .int .i64 x2, .int .i64 x3] #[.int .i64 y0, .int .i64 y1, .int .i64 y2, .int .i64 y3] []).run Tryz.prog w = .ok true w := rfl
 rw [hnil]
 unfold eqT109
 by_cases h0 : x0 = y0
 case neg => simp [h0]
 by_cases h1 : x1 = y1
 case neg => simp [h1]
 by_cases h2 : x2 = y2
 case neg => simp [h2]
 by_cases h3 : x3 = y3
 case neg => simp [h3]
 simp [h0, h1, h2, h3]
theorem neq109 (w : World) (x0 y0 : Int) (x1 y1 : Int) (x2 y2 : Int) (x3 y3 : Int) : (binOp .neq 109 (.agg #[.int .i64 x0, .int .i64 x1, .int .i64 x2, .int .i64 x3]) (.agg #[.int .i64 y0, .int .i64 y1, .int .i64 y2, .int .i64 y3])).run Tryz.prog w = .ok (.bool (!eqT109 x0 y0 x1 y1 x2 y2 x3 y3)) w := by
 rw [run_neq_struct, equal109]; rfl
theorem eql109 (w : World) (x0 y0 : Int) (x1 y1 : Int) (x2 y2 : Int) (x3 y3 : Int) : (binOp .eql 109 (.agg #[.int .i64 x0, .int .i64 x1, .int .i64 x2, .int .i64 x3]) (.agg #[.int .i64 y0, .int .i64 y1, .int .i64 y2, .int .i64 y3])).run Tryz.prog w = .ok (.bool (eqT109 x0 y0 x1 y1 x2 y2 x3 y3)) w := by
 rw [run_eql_struct, equal109]; rfl
theorem guard109 (w : World) (op : BinOp) (x y : Operand) (x0 y0 : Int) (x1 y1 : Int) (x2 y2 : Int) (x3 y3 : Int) : (eqGuard op 109 x y (.agg #[.int .i64 x0, .int .i64 x1, .int .i64 x2, .int .i64 x3]) (.agg #[.int .i64 y0, .int .i64 y1, .int .i64 y2, .int .i64 y3])).run Tryz.prog w = .ok () w := run_eqGuard_agg w op 109 x y _ _ (by kernel_rfl)
theorem exec_neq109 {ρ : Operand → Value} {o : Oper} {x y : Operand} {x0 y0 : Int} {x1 y1 : Int} {x2 y2 : Int} {x3 y3 : Int} {r : Bool} (hr : (!eqT109 x0 y0 x1 y1 x2 y2 x3 y3) = r) (ho : o.op = .binOp .neq 109 x y 109) (hx : ρ x = .agg #[.int .i64 x0, .int .i64 x1, .int .i64 x2, .int .i64 x3]) (hy : ρ y = .agg #[.int .i64 y0, .int .i64 y1, .int .i64 y2, .int .i64 y3]) (w : World) : (execOp ρ o).run Tryz.prog w = .ok (.value (.bool r)) w := by
 unfold execOp
 rw [ho]
 simp only [Sem.run_bind, hx, hy, guard109, neq109, hr, Result.andThen, Sem.run_pure]
theorem exec_eql109 {ρ : Operand → Value} {o : Oper} {x y : Operand} {x0 y0 : Int} {x1 y1 : Int} {x2 y2 : Int} {x3 y3 : Int} {r : Bool} (hr : eqT109 x0 y0 x1 y1 x2 y2 x3 y3 = r) (ho : o.op = .binOp .eql 109 x y 109) (hx : ρ x = .agg #[.int .i64 x0, .int .i64 x1, .int .i64 x2, .int .i64 x3]) (hy : ρ y = .agg #[.int .i64 y0, .int .i64 y1, .int .i64 y2, .int .i64 y3]) (w : World) : (execOp ρ o).run Tryz.prog w = .ok (.value (.bool r)) w := by
 unfold execOp
 rw [ho]
 simp only [Sem.run_bind, hx, hy, guard109, eql109, hr, Result.andThen, Sem.run_pure]
end Go.Proofs.YtnnbibmmofnkdaaGreat
namespace Go.Proofs.YtnnbibmmofnkdaaGreat
open Go.RowKit Go.Proofs WageMem WageReg WageRec WageSpan WageTop WageMap
def ekL (l : Li) : Value := .agg #[.int .i64 l.d, .int .i64 l.w, .bool l.is]
theorem eqL (a b : Li) (w : World) : (Op.equal 122 (ekL a) (ekL b)).run Tryz.prog w = .ok (decide (a = b)) w := by
 have h := equal122 w a.d b.d a.w b.w a.is b.is
 have h2 : eqT122 a.d b.d a.w b.w a.is b.is = decide (a = b) := by
  rw [Bool.eq_iff_iff, decide_eq_true_eq, eqT122_iff]
  constructor
  ·rintro ⟨h1, h2, h3⟩
   cases a; cases b
   simp only at h1 h2 h3
   subst h1 h2 h3; rfl
  ·rintro rfl; exact ⟨rfl, rfl, rfl⟩
 rw [h2] at h
 exact h
theorem ask_ok (a : Li) (w : World) : ∀ (ks : List Li) (l : List MapEntry) (i : Nat), l.map (·.key) = ks.map ekL →
  (Instr.findAsking 122 (ekL a) l i).run Tryz.prog w = .ok ((alIdx a ks 0).map fun j => (j + i, ((l[j]?).map (·.val)).getD undef)) w
 | [], l, i, h => by
  have : l = [] := by simpa using h
  subst this; rfl
 | k :: ks, [], i, h => by simp at h
 | k :: ks, x :: l, i, h => by
  simp only [List.map_cons, List.cons.injEq] at h
  obtain ⟨h1, h2⟩ := h
  unfold Instr.findAsking
  simp only [Sem.run_bind, h1, eqL, Result.andThen]
  by_cases hk : a = k
  ·subst hk; simp [alIdx]
  ·simp only [hk, decide_false, alIdx, if_false, Nat.zero_add, Bool.false_eq_true]
   rw [ask_ok a w ks l (i + 1) h2, show (1 : Nat) = 0 + 1 from rfl, alIdx_shift, Option.map_map]
   congr 1
   congr 1
   funext j
   simp [Nat.add_comm, Nat.add_left_comm]
theorem lit_key : KeyOk Tryz.prog 122 ekL where
 check := fun e a w => by cases e <;> kernel_rfl
 bits := fun a => by simp [ekL, Instr.sameBits]
 find := fun a ks l w h => by
  unfold Instr.findKey
  simp only [Sem.run_bind, run_underlying under122, Result.andThen]
  cases l with
  | nil =>
   have : ks = [] := by simpa using h.symm
   subst this; rfl
  | cons x l =>
   have h0 : Instr.findNow (.struct (Tryz.prog.fieldsOf 122)) (ekL a) (x :: l) 0 = none := by
    unfold Instr.findNow; rfl
   rw [h0]
   exact (ask_ok a w ks (x :: l) 0 h)
theorem map127 : Tryz.prog.underlying 127 = some (.map 122 4) := by kernel_rfl
theorem zero4 (w : World) : (zeroValue 4).run Tryz.prog w = .ok (.bool false) w := by kernel_rfl
end Go.Proofs.YtnnbibmmofnkdaaGreat
