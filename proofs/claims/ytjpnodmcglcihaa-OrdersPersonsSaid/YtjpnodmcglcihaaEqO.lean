/-
  Comparing orders as values; orders as keys of a map; the reference's Same.
-/
import Derived.Test.YtjpnodmcglcihaaHeadO
namespace Go.Proofs.Ytjpnodmcglcihaa
open Go.RowKit Go.Proofs WageMem WageOrd WageRec WageMap WageReg

theorem held24 : Try.prog.stoodInHeld 24 = false := by kernel_rfl
theorem list24 : (Try.prog.fieldsOf 24).toList = [{ name := "Number", type := 3, offset := 0, embedded := false, tag := "", pkgPath := "", byteOffset := 0 }, { name := "Person", type := 9, offset := 1, embedded := false, tag := "", pkgPath := "", byteOffset := 8 }, { name := "Creditor", type := 9, offset := 2, embedded := false, tag := "", pkgPath := "", byteOffset := 24 }, { name := "Rank", type := 3, offset := 3, embedded := false, tag := "", pkgPath := "", byteOffset := 40 }, { name := "Known", type := 3, offset := 4, embedded := false, tag := "", pkgPath := "", byteOffset := 48 }, { name := "From", type := 3, offset := 5, embedded := false, tag := "", pkgPath := "", byteOffset := 56 }, { name := "Claim", type := 3, offset := 6, embedded := false, tag := "", pkgPath := "", byteOffset := 64 }, { name := "Family", type := 4, offset := 7, embedded := false, tag := "", pkgPath := "", byteOffset := 72 }] := by kernel_rfl
theorem part_one {t : TypeId} (h0 : ∀ w, (isAgg t).run Try.prog w = .ok false w) (w : World) (xs : Array Value) (i : Nat) (v : Value) (h : xs[i]? = some v) : (part t xs i).run Try.prog w = .ok v w := by
  unfold part
  simp [h0, h]
theorem part3 (w : World) (xs : Array Value) (i : Nat) (v : Value) (h : xs[i]? = some v) : (part 3 xs i).run Try.prog w = .ok v w := part_one (fun w => by kernel_rfl) w xs i v h
theorem part9 (w : World) (xs : Array Value) (i : Nat) (v : Value) (h : xs[i]? = some v) : (part 9 xs i).run Try.prog w = .ok v w := part_one (fun w => by kernel_rfl) w xs i v h
theorem part4 (w : World) (xs : Array Value) (i : Nat) (v : Value) (h : xs[i]? = some v) : (part 4 xs i).run Try.prog w = .ok v w := part_one (fun w => by kernel_rfl) w xs i v h
theorem eqFields_step {w : World} {d : Nat} {xs ys : Array Value} {nm : String} {ty : TypeId} {off bo : Nat} {em : Bool} {tg pk : String} {fs : List Field} {a b : Value} {r : Bool} (hn : nm ≠ "_") (ha : (part ty xs off).run Try.prog w = .ok a w) (hb : (part ty ys off).run Try.prog w = .ok b w)
    (he : (Op.equalIn d ty a b).run Try.prog w = .ok r w) : (Op.eqFields d xs ys ({ name := nm, type := ty, offset := off, embedded := em, tag := tg, pkgPath := pk, byteOffset := bo } :: fs)).run Try.prog w = if r then (Op.eqFields d xs ys fs).run Try.prog w else .ok false w := by
  conv => lhs; unfold Op.eqFields
  simp only [hn, ne_eq, not_false_eq_true, if_true, Sem.run_bind, ha, hb, he, Result.andThen]
  cases r <;> simp
theorem q3 (w : World) (a b : Int) : (Op.equalIn 9999 3 (.int .i64 a) (.int .i64 b)).run Try.prog w = .ok (a == b) w := run_equalIn_int w 9998 3 .i64 .i64 a b Try.underlying3
theorem q9 (w : World) (a b : ByteArray) : (Op.equalIn 9999 9 (.string a) (.string b)).run Try.prog w = .ok (a.toList == b.toList) w := run_equalIn_string w 9998 9 a b Try.underlying9
theorem q4 (w : World) (a b : Bool) : (Op.equalIn 9999 4 (.bool a) (.bool b)).run Try.prog w = .ok (a == b) w := run_equalIn_bool' w 9998 4 a b Try.underlying4
theorem equal24 (w : World) (x y : Ord) : (Op.equalIn 10000 24 (ov x) (ov y)).run Try.prog w = .ok (decide (x = y)) w := by
  unfold ov
  rw [run_equalIn_agg w 9999 24 _ _ under24 held24, list24]
  rw [eqFields_step (d := 9999) (by decide) (part3 w #[.int .i64 x.n, .string x.p, .string x.c, .int .i64 x.r, .int .i64 x.k, .int .i64 x.f, .int .i64 x.m, .bool x.fam] 0 (.int .i64 x.n) rfl) (part3 w #[.int .i64 y.n, .string y.p, .string y.c, .int .i64 y.r, .int .i64 y.k, .int .i64 y.f, .int .i64 y.m, .bool y.fam] 0 (.int .i64 y.n) rfl) (q3 w x.n y.n)]
  rw [eqFields_step (d := 9999) (by decide) (part9 w #[.int .i64 x.n, .string x.p, .string x.c, .int .i64 x.r, .int .i64 x.k, .int .i64 x.f, .int .i64 x.m, .bool x.fam] 1 (.string x.p) rfl) (part9 w #[.int .i64 y.n, .string y.p, .string y.c, .int .i64 y.r, .int .i64 y.k, .int .i64 y.f, .int .i64 y.m, .bool y.fam] 1 (.string y.p) rfl) (q9 w x.p y.p)]
  rw [eqFields_step (d := 9999) (by decide) (part9 w #[.int .i64 x.n, .string x.p, .string x.c, .int .i64 x.r, .int .i64 x.k, .int .i64 x.f, .int .i64 x.m, .bool x.fam] 2 (.string x.c) rfl) (part9 w #[.int .i64 y.n, .string y.p, .string y.c, .int .i64 y.r, .int .i64 y.k, .int .i64 y.f, .int .i64 y.m, .bool y.fam] 2 (.string y.c) rfl) (q9 w x.c y.c)]
  rw [eqFields_step (d := 9999) (by decide) (part3 w #[.int .i64 x.n, .string x.p, .string x.c, .int .i64 x.r, .int .i64 x.k, .int .i64 x.f, .int .i64 x.m, .bool x.fam] 3 (.int .i64 x.r) rfl) (part3 w #[.int .i64 y.n, .string y.p, .string y.c, .int .i64 y.r, .int .i64 y.k, .int .i64 y.f, .int .i64 y.m, .bool y.fam] 3 (.int .i64 y.r) rfl) (q3 w x.r y.r)]
  rw [eqFields_step (d := 9999) (by decide) (part3 w #[.int .i64 x.n, .string x.p, .string x.c, .int .i64 x.r, .int .i64 x.k, .int .i64 x.f, .int .i64 x.m, .bool x.fam] 4 (.int .i64 x.k) rfl) (part3 w #[.int .i64 y.n, .string y.p, .string y.c, .int .i64 y.r, .int .i64 y.k, .int .i64 y.f, .int .i64 y.m, .bool y.fam] 4 (.int .i64 y.k) rfl) (q3 w x.k y.k)]
  rw [eqFields_step (d := 9999) (by decide) (part3 w #[.int .i64 x.n, .string x.p, .string x.c, .int .i64 x.r, .int .i64 x.k, .int .i64 x.f, .int .i64 x.m, .bool x.fam] 5 (.int .i64 x.f) rfl) (part3 w #[.int .i64 y.n, .string y.p, .string y.c, .int .i64 y.r, .int .i64 y.k, .int .i64 y.f, .int .i64 y.m, .bool y.fam] 5 (.int .i64 y.f) rfl) (q3 w x.f y.f)]
  rw [eqFields_step (d := 9999) (by decide) (part3 w #[.int .i64 x.n, .string x.p, .string x.c, .int .i64 x.r, .int .i64 x.k, .int .i64 x.f, .int .i64 x.m, .bool x.fam] 6 (.int .i64 x.m) rfl) (part3 w #[.int .i64 y.n, .string y.p, .string y.c, .int .i64 y.r, .int .i64 y.k, .int .i64 y.f, .int .i64 y.m, .bool y.fam] 6 (.int .i64 y.m) rfl) (q3 w x.m y.m)]
  rw [eqFields_step (d := 9999) (by decide) (part4 w #[.int .i64 x.n, .string x.p, .string x.c, .int .i64 x.r, .int .i64 x.k, .int .i64 x.f, .int .i64 x.m, .bool x.fam] 7 (.bool x.fam) rfl) (part4 w #[.int .i64 y.n, .string y.p, .string y.c, .int .i64 y.r, .int .i64 y.k, .int .i64 y.f, .int .i64 y.m, .bool y.fam] 7 (.bool y.fam) rfl) (q4 w x.fam y.fam)]
  have hnil : (Op.eqFields 9999 #[.int .i64 x.n, .string x.p, .string x.c, .int .i64 x.r, .int .i64 x.k, .int .i64 x.f, .int .i64 x.m, .bool x.fam] #[.int .i64 y.n, .string y.p, .string y.c, .int .i64 y.r, .int .i64 y.k, .int .i64 y.f, .int .i64 y.m, .bool y.fam] []).run Try.prog w = .ok true w := rfl
  rw [hnil, str_eq, str_eq]
  obtain ⟨x0, x1, x2, x3, x4, x5, x6, x7⟩ := x
  obtain ⟨y0, y1, y2, y3, y4, y5, y6, y7⟩ := y
  simp only [Ord.mk.injEq]
  by_cases h0 : x0 = y0
  case neg => simp [h0]
  by_cases h1 : x1 = y1
  case neg => simp [h1]
  by_cases h2 : x2 = y2
  case neg => simp [h2]
  by_cases h3 : x3 = y3
  case neg => simp [h3]
  by_cases h4 : x4 = y4
  case neg => simp [h4]
  by_cases h5 : x5 = y5
  case neg => simp [h5]
  by_cases h6 : x6 = y6
  case neg => simp [h6]
  by_cases h7 : x7 = y7
  case neg => simp [h7]
  simp [h0, h1, h2, h3, h4, h5, h6, h7]
/-- Whether two orders are the same. -/
def eqO (x y : Ord) : Bool := decide (x = y)
theorem neq24 (w : World) (x y : Ord) : (binOp .neq 24 (ov x) (ov y)).run Try.prog w = .ok (.bool (!eqO x y)) w := by
  have := equal24 w x y
  unfold ov at *
  rw [run_neq_struct, this]; rfl
theorem guard24 (w : World) (op : BinOp) (x y : Operand) (a b : Ord) : (eqGuard op 24 x y (ov a) (ov b)).run Try.prog w = .ok () w := run_eqGuard_agg w op 24 x y _ _ (by kernel_rfl)

/-! ### orders as keys -/
theorem find_ask (a : Ord) : ∀ (ks : List Ord) (l : List MapEntry) (i : Nat) (w : World), l.map (·.key) = ks.map ov → (Instr.findAsking 24 (ov a) l i).run Try.prog w = .ok ((alIdx a ks 0).map fun j => (j + i, ((l[j]?).map (·.val)).getD undef)) w
  | [], l, i, w, h => by
    have : l = [] := by simpa using h
    subst this; rfl
  | k :: ks, [], i, w, h => by simp at h
  | k :: ks, x :: l, i, w, h => by
    simp only [List.map_cons, List.cons.injEq] at h
    obtain ⟨h1, h2⟩ := h
    unfold Instr.findAsking
    simp only [Sem.run_bind, Op.equal, Op.maxDepth, h1, equal24, Result.andThen]
    by_cases hk : a = k
    · subst hk; simp [alIdx]
    · simp only [hk, decide_false, alIdx, if_false, Nat.zero_add]
      rw [show (1 : Nat) = 0 + 1 from rfl, alIdx_shift, Option.map_map]
      simp only [Bool.false_eq_true, if_false]
      rw [find_ask a ks l (i + 1) w h2]
      congr 2
      funext j
      simp [Nat.add_comm, Nat.add_left_comm]
theorem key24 : KeyOk Try.prog 24 ov where
  check := fun e a w => by kernel_rfl
  bits := fun a => by
    have hb : (a.p == a.p) = true := (Go.MapKept.bytes_beq _ _).2 rfl
    have hc : (a.c == a.c) = true := (Go.MapKept.bytes_beq _ _).2 rfl
    simp [ov, Instr.sameBits, hb, hc]
  find := fun a ks l w h => by
    unfold Instr.findKey
    simp only [Sem.run_bind, run_underlying under24, Result.andThen]
    cases l with
    | nil =>
      have : ks = [] := by cases ks with | nil => rfl | cons k ks => simp at h
      subst this; rfl
    | cons x l =>
      cases ks with
      | nil => simp at h
      | cons k ks =>
        have hk : x.key = ov k := by simpa using congrArg (·.head?) h
        have hnow : Instr.findNow (.struct (Try.prog.fieldsOf 24)) (ov a) (x :: l) 0 = none := by
          unfold Instr.findNow
          rw [hk]
          rfl
        rw [hnow]
        have := find_ask a (k :: ks) (x :: l) 0 w h
        simpa using this
end Go.Proofs.Ytjpnodmcglcihaa
