/-
 Plans: their data, where they lie in memory, and what the checks say of them in plain words.
-/
import Derived.Test.YtnnbibmmofnkdaaGreatShi
import Derived.Test.YtnnbibmmofnkdaaGreatSetA
namespace Go.Proofs.YtnnbibmmofnkdaaGreat
open Go.RowKit Go.Proofs WageMem WageReg WageRec WageSpan WageTop
/-- A worker: the absences with the place where they lie. -/
structure Wo where
 nm : ByteArray
 sk : Int
 mi : Bool
 wg : Int
 A : Option Addr
 n : Nat
 c : Nat
 aw : List Sp
/-- The limits. -/
structure Lm where
 rest : Int
 week : Int
 nf : Int
 nt : Int
 mn : Int
/-- A plan: its lists with the places where they lie. -/
structure Pl where
 nm : ByteArray
 zb : Int
 C : Option Addr
 cn : Nat
 cc : Nat
 ch : List Sp
 D : Option Addr
 dn : Nat
 dc : Nat
 ds : List Du
 W : Option Addr
 wn : Nat
 wc : Nat
 ws : List Wo
 lm : Lm
def Pl.z (p : Pl) : Zn := ⟨p.zb, p.ch⟩
def Pl.du (p : Pl) (d : Nat) : Du := p.ds.getD d ⟨0, 0, 0⟩
def encD (x : Du) : List Value := [.int .i64 x.a, .int .i64 x.b, .int .i64 x.s]
def encW (x : Wo) : List Value := [.string x.nm, .int .i64 x.sk, .bool x.mi, .int .i64 x.wg, .slice x.A x.n x.c]
def lmV (l : Lm) : Value := .agg #[.int .i64 l.rest, .int .i64 l.week, .int .i64 l.nf, .int .i64 l.nt, .int .i64 l.mn]
def woV (x : Wo) : Value := .agg #[.string x.nm, .int .i64 x.sk, .bool x.mi, .int .i64 x.wg, .slice x.A x.n x.c]
def planV (p : Pl) : Value := .agg #[.string p.nm, .int .i64 p.zb, .slice p.C p.cn p.cc, .slice p.D p.dn p.dc, .slice p.W p.wn p.wc, .int .i64 p.lm.rest, .int .i64 p.lm.week, .int .i64 p.lm.nf, .int .i64 p.lm.nt, .int .i64 p.lm.mn]
/-- The cells of a plan. -/
def planC (p : Pl) : List Value := [.string p.nm, .int .i64 p.zb, .slice p.C p.cn p.cc, .slice p.D p.dn p.dc, .slice p.W p.wn p.wc, .int .i64 p.lm.rest, .int .i64 p.lm.week, .int .i64 p.lm.nf, .int .i64 p.lm.nt, .int .i64 p.lm.mn]
def in64 (z : Int) : Prop := -9223372036854775808 ≤ z ∧ z ≤ 9223372036854775807
theorem encD_ok : EncOk encD 3 := ⟨fun _ => rfl, by decide, fun x u hu => by
 simp only [encD, List.mem_cons, List.not_mem_nil, or_false] at hu
 rcases hu with rfl | rfl | rfl <;> rfl⟩
theorem encW_ok : EncOk encW 5 := ⟨fun _ => rfl, by decide, fun x u hu => by
 simp only [encW, List.mem_cons, List.not_mem_nil, or_false] at hu
 rcases hu with rfl | rfl | rfl | rfl | rfl <;> rfl⟩
/-- Workers in memory. -/
def Wos (w : World) (A : Option Addr) (n c : Nat) (ws : List Wo) : Prop :=
 Recs encW 5 w A n c ws ∧ ∀ x ∈ ws, Spans w x.A x.n x.c x.aw ∧ in64 x.sk ∧ in64 x.wg
theorem Wos.grew {w w' : World} {A : Option Addr} {n c : Nat} {ws : List Wo} (h : Wos w A n c ws) (g : Grew w w') : Wos w' A n c ws :=
 ⟨h.1.grew g, fun x hx => ⟨(h.2 x hx).1.grew g, (h.2 x hx).2⟩⟩
/-- Duties in memory. -/
def Dus (w : World) (A : Option Addr) (n c : Nat) (ds : List Du) : Prop :=
 Recs encD 3 w A n c ds ∧ ∀ x ∈ ds, in64 x.a ∧ in64 x.b ∧ in64 x.s
theorem Dus.grew {w w' : World} {A : Option Addr} {n c : Nat} {ds : List Du} (h : Dus w A n c ds) (g : Grew w w') : Dus w' A n c ds := ⟨h.1.grew g, h.2⟩
/-- A plan in memory. -/
structure PlanAt (w : World) (p : Pl) : Prop where
 ch : Spans w p.C p.cn p.cc p.ch
 ds : Dus w p.D p.dn p.dc p.ds
 ws : Wos w p.W p.wn p.wc p.ws
 zb : in64 p.zb
 lm : in64 p.lm.rest ∧ in64 p.lm.week ∧ in64 p.lm.nf ∧ in64 p.lm.nt ∧ in64 p.lm.mn
theorem PlanAt.grew {w w' : World} {p : Pl} (h : PlanAt w p) (g : Grew w w') : PlanAt w' p := ⟨h.ch.grew g, h.ds.grew g, h.ws.grew g, h.zb, h.lm⟩
theorem Dus.at_ {w : World} {A : Option Addr} {n c : Nat} {ds : List Du} (h : Dus w A n c ds) {k : Nat} (hk : k < n) :
  ∃ b o x, A = some ⟨b, o, none⟩ ∧ ds[k]? = some x ∧ (w.cell? ⟨b, o + k * 3, none⟩ = some (.int .i64 x.a) ∧ w.cell? ⟨b, o + k * 3 + 1, none⟩ = some (.int .i64 x.b) ∧ w.cell? ⟨b, o + k * 3 + 2, none⟩ = some (.int .i64 x.s)) ∧ in64 x.a ∧ in64 x.b ∧ in64 x.s := by
 obtain ⟨b, o, x, hA, hx, hr⟩ := h.1.at_ encD_ok hk
 exact ⟨b, o, x, hA, hx, ⟨hr 0 _ rfl, hr 1 _ rfl, hr 2 _ rfl⟩, h.2 x (List.mem_of_getElem? hx)⟩
theorem Dus.len {w : World} {A : Option Addr} {n c : Nat} {ds : List Du} (h : Dus w A n c ds) : ds.length = n := h.1.1
theorem Dus.le {w : World} {A : Option Addr} {n c : Nat} {ds : List Du} (h : Dus w A n c ds) : n ≤ 9223372036854775807 := h.1.le
theorem Wos.at_ {w : World} {A : Option Addr} {n c : Nat} {ws : List Wo} (h : Wos w A n c ws) {k : Nat} (hk : k < n) :
  ∃ b o x, A = some ⟨b, o, none⟩ ∧ ws[k]? = some x ∧ (w.cell? ⟨b, o + k * 5, none⟩ = some (.string x.nm) ∧ w.cell? ⟨b, o + k * 5 + 1, none⟩ = some (.int .i64 x.sk) ∧ w.cell? ⟨b, o + k * 5 + 2, none⟩ = some (.bool x.mi) ∧ w.cell? ⟨b, o + k * 5 + 3, none⟩ = some (.int .i64 x.wg) ∧ w.cell? ⟨b, o + k * 5 + 4, none⟩ = some (.slice x.A x.n x.c)) ∧
   Spans w x.A x.n x.c x.aw ∧ in64 x.sk ∧ in64 x.wg := by
 obtain ⟨b, o, x, hA, hx, hr⟩ := h.1.at_ encW_ok hk
 exact ⟨b, o, x, hA, hx, ⟨hr 0 _ rfl, hr 1 _ rfl, hr 2 _ rfl, hr 3 _ rfl, hr 4 _ rfl⟩, h.2 x (List.mem_of_getElem? hx)⟩
theorem Wos.len {w : World} {A : Option Addr} {n c : Nat} {ws : List Wo} (h : Wos w A n c ws) : ws.length = n := h.1.1
theorem Wos.le {w : World} {A : Option Addr} {n c : Nat} {ws : List Wo} (h : Wos w A n c ws) : n ≤ 9223372036854775807 := h.1.le
theorem du_at {p : Pl} {k : Nat} {x : Du} (h : p.ds[k]? = some x) : p.du k = x := by unfold Pl.du; rw [List.getD_eq_getElem?_getD, h]; rfl
/-- Validity of the parts of a plan. -/
def dOk (z : Zn) (x : Du) : Bool := durOk x && splitB z x.a x.b
def awOk (aw : List Sp) : Bool := aw.all fun s => decide (0 ≤ s.1 ∧ s.2 ≤ 52596000)
def wOk (x : Wo) : Bool := decide (0 ≤ x.sk ∧ x.sk ≤ 65535) && (decide (0 ≤ x.wg ∧ x.wg ≤ 1000000) && (decide (x.n ≤ 400) && (decide (nrm x.aw = x.aw) && awOk x.aw)))
def lOk (l : Lm) : Bool := decide (0 ≤ l.rest ∧ l.rest ≤ 10080) && (decide (0 ≤ l.week ∧ l.week ≤ 20000) && (decide (0 ≤ l.mn ∧ l.mn ≤ 1500) && (decide (0 ≤ l.nf ∧ l.nf ≤ 1440) && decide (0 ≤ l.nt ∧ l.nt ≤ 1440))))
def planB (p : Pl) : Bool := znB p.z && (decide (p.dn ≤ 24) && (decide (p.wn ≤ 12) && (p.ds.all (dOk p.z) && (p.ws.all wOk && lOk p.lm))))
/-- What the checks see of a plan. -/
def minsF (p : Pl) (d : Nat) : List (Int × Int) := splitL p.z (p.du d).a (p.du d).b
def nightF (p : Pl) (d : Nat) : Int := winT p.z (p.du d).a (p.du d).b p.lm.nf p.lm.nt
def meetB (aw : List Sp) (x : Du) : Bool := !(meet aw [(x.a, x.b)]).isEmpty
def andN (a b : Int) : Int := IntKind.i64.wrap ((BitVec.ofInt 64 a &&& ~~~BitVec.ofInt 64 b).toNat : Int)
def skV (p : Pl) (x : Wo) (ds : List Nat) : Bool := ds.any fun d => decide (andN (p.du d).s x.sk ≠ 0)
def awV (p : Pl) (x : Wo) (ds : List Nat) : Bool := ds.any fun d => meetB x.aw (p.du d)
def rsV (p : Pl) : List Nat → Bool
 | [] => false
 | d :: r => r.any (fun e => decide (restF (p.du d) (p.du e) < p.lm.rest)) || rsV p r
/-- The minutes by days. -/
def dayM (p : Pl) (ds : List Nat) : List (Int × Int) := cntM (ds.flatMap (minsF p))
def weekS (m : List (Int × Int)) (day : Int) : Nat → Int
 | 0 => 0
 | k + 1 => wrap64 (weekS m day k + (WageMap.alFind (wrap64 (day + k)) m).getD 0)
def wkV (p : Pl) (ds : List Nat) : Bool := (dayM p ds).any fun q => decide (p.lm.week < weekS (dayM p ds) q.1 7)
def mnV (p : Pl) (ds : List Nat) : Bool := (dayM p ds).any fun q => decide (p.lm.mn < q.2)
def ngV (p : Pl) (ds : List Nat) : Bool := ds.any fun d => decide (nightF p d ≠ 0)
/-- The checks by their numbers. -/
def kindV (p : Pl) (x : Wo) (ds : List Nat) : Nat → Bool
 | 0 => skV p x ds
 | 1 => awV p x ds
 | 2 => rsV p ds
 | 3 => wkV p ds
 | 4 => x.mi && ngV p ds
 | 5 => x.mi && mnV p ds
 | _ => false
def violW (p : Pl) (x : Wo) (ds : List Nat) : Bool := (List.range 6).any (kindV p x ds)
def violP (p : Pl) (w : Nat) (ds : List Nat) : Bool := match p.ws[w]? with
 | some x => violW p x ds
 | none => false
def envP (p : Pl) : Env := ⟨p.dn, p.wn, fun d => (p.du d).b - (p.du d).a, fun w => match p.ws[w]? with
 | some x => x.wg
 | none => 0, violP p⟩
end Go.Proofs.YtnnbibmmofnkdaaGreat
