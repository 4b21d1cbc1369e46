/-
 Punches: duties, marks and punches; usable, cost, marksOf, exact.
-/
import Derived.Test.YtnnbibmmofnkdaaGreatTopC
namespace Go.Proofs.YtnnbibmmofnkdaaGreat
open Go.RowKit Go.Proofs WageMem WageReg WageRec WageSpan WageTop
/-- A punch, a mark, a match. -/
structure Pu where
 at_ : Int
 inn : Bool
structure Mk where
 d : Int
 inn : Bool
 at_ : Int
structure Mt where
 d : Int
 inn : Bool
 pu : Int
def encU (x : Pu) : List Value := [.int .i64 x.at_, .bool x.inn]
def encM (x : Mk) : List Value := [.int .i64 x.d, .bool x.inn, .int .i64 x.at_]
def encT (x : Mt) : List Value := [.int .i64 x.d, .bool x.inn, .int .i64 x.pu]
theorem encU_ok : EncOk encU 2 := ⟨fun _ => rfl, by decide, fun x u hu => by
 simp only [encU, List.mem_cons, List.not_mem_nil, or_false] at hu
 rcases hu with rfl | rfl <;> rfl⟩
theorem encM_ok : EncOk encM 3 := ⟨fun _ => rfl, by decide, fun x u hu => by
 simp only [encM, List.mem_cons, List.not_mem_nil, or_false] at hu
 rcases hu with rfl | rfl | rfl <;> rfl⟩
theorem encT_ok : EncOk encT 3 := ⟨fun _ => rfl, by decide, fun x u hu => by
 simp only [encT, List.mem_cons, List.not_mem_nil, or_false] at hu
 rcases hu with rfl | rfl | rfl <;> rfl⟩
theorem Recs.pu {w : World} {A : Option Addr} {n c : Nat} {ls : List Pu} (h : Recs encU 2 w A n c ls) {k : Nat} (hk : k < n) : ∃ b o l, A = some ⟨b, o, none⟩ ∧ ls[k]? = some l ∧ (w.cell? ⟨b, o + k * 2, none⟩ = some (.int .i64 l.at_) ∧ w.cell? ⟨b, o + k * 2 + 1, none⟩ = some (.bool l.inn)) := by
 obtain ⟨b, o, l, hA, hl, hr⟩ := h.at_ encU_ok hk
 exact ⟨b, o, l, hA, hl, hr 0 _ rfl, hr 1 _ rfl⟩
theorem Recs.mk' {w : World} {A : Option Addr} {n c : Nat} {ls : List Mk} (h : Recs encM 3 w A n c ls) {k : Nat} (hk : k < n) : ∃ b o l, A = some ⟨b, o, none⟩ ∧ ls[k]? = some l ∧ (w.cell? ⟨b, o + k * 3, none⟩ = some (.int .i64 l.d) ∧ w.cell? ⟨b, o + k * 3 + 1, none⟩ = some (.bool l.inn) ∧ w.cell? ⟨b, o + k * 3 + 2, none⟩ = some (.int .i64 l.at_)) := by
 obtain ⟨b, o, l, hA, hl, hr⟩ := h.at_ encM_ok hk
 exact ⟨b, o, l, hA, hl, hr 0 _ rfl, hr 1 _ rfl, hr 2 _ rfl⟩
theorem Recs.mt {w : World} {A : Option Addr} {n c : Nat} {ls : List Mt} (h : Recs encT 3 w A n c ls) {k : Nat} (hk : k < n) : ∃ b o l, A = some ⟨b, o, none⟩ ∧ ls[k]? = some l ∧ (w.cell? ⟨b, o + k * 3, none⟩ = some (.int .i64 l.d) ∧ w.cell? ⟨b, o + k * 3 + 1, none⟩ = some (.bool l.inn) ∧ w.cell? ⟨b, o + k * 3 + 2, none⟩ = some (.int .i64 l.pu)) := by
 obtain ⟨b, o, l, hA, hl, hr⟩ := h.at_ encT_ok hk
 exact ⟨b, o, l, hA, hl, hr 0 _ rfl, hr 1 _ rfl, hr 2 _ rfl⟩
/-- Duties in their order, none of which overlap. -/
structure DsOk (ds : List Du) : Prop where
 ok : ∀ x ∈ ds, durOk x = true
 seq : ∀ (i : Nat) x y, ds[i]? = some x → ds[i + 1]? = some y → x.b ≤ y.a
/-- Punches in their order. -/
structure UsOk (us : List Pu) : Prop where
 rng : ∀ x ∈ us, 0 ≤ x.at_ ∧ x.at_ ≤ 52596000
 seq : ∀ (i : Nat) x y, us[i]? = some x → us[i + 1]? = some y → x.at_ ≤ y.at_
def atF (ds : List Du) (r : Nat) : Int := if r % 2 = 0 then (ds.getD (r / 2) ⟨0, 0, 0⟩).a else (ds.getD (r / 2) ⟨0, 0, 0⟩).b
def mkF (ds : List Du) (r : Nat) : Mk := ⟨((r / 2 : Nat) : Int), decide (r % 2 = 0), atF ds r⟩
def puF (ds : List Du) (r : Nat) : Pu := ⟨atF ds r, decide (r % 2 = 0)⟩
def mtF (r : Nat) : Mt := ⟨((r / 2 : Nat) : Int), decide (r % 2 = 0), (r : Int)⟩
theorem range_two (n : Nat) : List.range (2 * (n + 1)) = List.range (2 * n) ++ [2 * n, 2 * n + 1] := by
 rw [show 2 * (n + 1) = 2 * n + 1 + 1 by omega, List.range_succ, List.range_succ, List.append_assoc]; rfl
theorem atF_even (ds : List Du) {n : Nat} {x : Du} (h : ds[n]? = some x) : atF ds (2 * n) = x.a := by
 unfold atF
 rw [if_pos (by omega), show 2 * n / 2 = n by omega, List.getD_eq_getElem?_getD, h]; rfl
theorem atF_odd (ds : List Du) {n : Nat} {x : Du} (h : ds[n]? = some x) : atF ds (2 * n + 1) = x.b := by
 unfold atF
 rw [if_neg (by omega), show (2 * n + 1) / 2 = n by omega, List.getD_eq_getElem?_getD, h]; rfl
theorem mkF_even (ds : List Du) {n : Nat} {x : Du} (h : ds[n]? = some x) : mkF ds (2 * n) = ⟨(n : Int), true, x.a⟩ := by
 unfold mkF
 rw [atF_even ds h, show 2 * n / 2 = n by omega, decide_eq_true (show 2 * n % 2 = 0 by omega)]
theorem mkF_odd (ds : List Du) {n : Nat} {x : Du} (h : ds[n]? = some x) : mkF ds (2 * n + 1) = ⟨(n : Int), false, x.b⟩ := by
 unfold mkF
 rw [atF_odd ds h, show (2 * n + 1) / 2 = n by omega, decide_eq_false (show ¬ (2 * n + 1) % 2 = 0 by omega)]
theorem puF_even (ds : List Du) {n : Nat} {x : Du} (h : ds[n]? = some x) : puF ds (2 * n) = ⟨x.a, true⟩ := by
 unfold puF
 rw [atF_even ds h, decide_eq_true (show 2 * n % 2 = 0 by omega)]
theorem puF_odd (ds : List Du) {n : Nat} {x : Du} (h : ds[n]? = some x) : puF ds (2 * n + 1) = ⟨x.b, false⟩ := by
 unfold puF
 rw [atF_odd ds h, decide_eq_false (show ¬ (2 * n + 1) % 2 = 0 by omega)]
def mkL (ds : List Du) (n : Nat) : List Mk := (List.range (2 * n)).map (mkF ds)
def puL (ds : List Du) (n : Nat) : List Pu := (List.range (2 * n)).map (puF ds)
def mtL (n : Nat) : List Mt := (List.range n).map mtF
theorem mkL_step (ds : List Du) {n : Nat} {x : Du} (h : ds[n]? = some x) : mkL ds (n + 1) = mkL ds n ++ [⟨(n : Int), true, x.a⟩, ⟨(n : Int), false, x.b⟩] := by
 unfold mkL
 rw [range_two, List.map_append, List.map_cons, List.map_cons, mkF_even ds h, mkF_odd ds h]; rfl
theorem puL_step (ds : List Du) {n : Nat} {x : Du} (h : ds[n]? = some x) : puL ds (n + 1) = puL ds n ++ [⟨x.a, true⟩, ⟨x.b, false⟩] := by
 unfold puL
 rw [range_two, List.map_append, List.map_cons, List.map_cons, puF_even ds h, puF_odd ds h]; rfl
theorem atF_rng {ds : List Du} (h : DsOk ds) {r : Nat} (hr : r < 2 * ds.length) : 0 ≤ atF ds r ∧ atF ds r ≤ 52596000 := by
 obtain ⟨x, hx⟩ : ∃ x, ds[r / 2]? = some x := ⟨_, List.getElem?_eq_getElem (by omega)⟩
 have h1 : 0 ≤ x.a ∧ x.a < x.b ∧ x.b ≤ 52596000 ∧ x.b - x.a ≤ 1440 ∧ 0 ≤ x.s ∧ x.s ≤ 65535 := of_decide_eq_true (h.ok x (List.mem_of_getElem? hx))
 rcases Nat.mod_two_eq_zero_or_one r with h2 | h2
 ·have h3 := atF_even ds hx
  rw [show 2 * (r / 2) = r by omega] at h3
  omega
 ·have h3 := atF_odd ds hx
  rw [show 2 * (r / 2) + 1 = r by omega] at h3
  omega
theorem atF_seq {ds : List Du} (h : DsOk ds) {r : Nat} (hr : r + 1 < 2 * ds.length) : atF ds r ≤ atF ds (r + 1) := by
 obtain ⟨x, hx⟩ : ∃ x, ds[r / 2]? = some x := ⟨_, List.getElem?_eq_getElem (by omega)⟩
 have h1 : 0 ≤ x.a ∧ x.a < x.b ∧ x.b ≤ 52596000 ∧ x.b - x.a ≤ 1440 ∧ 0 ≤ x.s ∧ x.s ≤ 65535 := of_decide_eq_true (h.ok x (List.mem_of_getElem? hx))
 rcases Nat.mod_two_eq_zero_or_one r with h2 | h2
 ·have h3 := atF_even ds hx
  have h4 := atF_odd ds hx
  rw [show 2 * (r / 2) = r by omega] at h3 h4
  omega
 ·obtain ⟨y, hy⟩ : ∃ y, ds[r / 2 + 1]? = some y := ⟨_, List.getElem?_eq_getElem (by omega)⟩
  have h3 := atF_odd ds hx
  have h4 := atF_even ds hy
  rw [show 2 * (r / 2) + 1 = r by omega] at h3
  rw [show 2 * (r / 2 + 1) = r + 1 by omega] at h4
  have := h.seq _ x y hx hy
  omega
theorem puL_at {ds : List Du} {n r : Nat} (hr : r < 2 * n) : (puL ds n)[r]? = some (puF ds r) := by
 unfold puL; rw [List.getElem?_map, List.getElem?_range hr]; rfl
theorem mkL_at {ds : List Du} {n r : Nat} (hr : r < 2 * n) : (mkL ds n)[r]? = some (mkF ds r) := by
 unfold mkL; rw [List.getElem?_map, List.getElem?_range hr]; rfl
theorem puL_len (ds : List Du) (n : Nat) : (puL ds n).length = 2 * n := by unfold puL; simp
theorem mkL_len (ds : List Du) (n : Nat) : (mkL ds n).length = 2 * n := by unfold mkL; simp
theorem puL_ok {ds : List Du} (h : DsOk ds) : UsOk (puL ds ds.length) where
 rng := fun x hx => by
  obtain ⟨r, e⟩ := List.mem_iff_getElem?.1 hx
  have hr : r < 2 * ds.length := by have := (List.getElem?_eq_some_iff.1 e).1; rw [puL_len] at this; exact this
  rw [puL_at hr] at e
  injection e with e
  rw [← e]
  exact atF_rng h hr
 seq := fun i x y hx hy => by
  have hi : i + 1 < 2 * ds.length := by have := (List.getElem?_eq_some_iff.1 hy).1; rw [puL_len] at this; exact this
  rw [puL_at (by omega)] at hx
  rw [puL_at hi] at hy
  injection hx with hx
  injection hy with hy
  rw [← hx, ← hy]
  exact atF_seq h hi
/-- The cost of a match. -/
def cstF (m : Mk) (u : Pu) : Int := max (m.at_ - u.at_) (u.at_ - m.at_) + (if m.inn = u.inn then 0 else 60)
set_option maxRecDepth 100000 in
theorem cost67 {w : World} {m : Mk} {u : Pu} (hm : 0 ≤ m.at_ ∧ m.at_ ≤ 52596000) (hu : 0 ≤ u.at_ ∧ u.at_ ≤ 52596000) :
  Calls Tryz.prog 67 #[.agg #[.int .i64 m.d, .bool m.inn, .int .i64 m.at_], .agg #[.int .i64 u.at_, .bool u.inn]] w fun e w' => e = .returned (.int .i64 (cstF m u)) ∧ Grew w w' := by
 obtain ⟨d, i, a⟩ := m
 obtain ⟨b, j⟩ := u
 simp only at hm hu ⊢
 obtain ⟨w0, hw0⟩ : ∃ z, z = w.alloc (.cells #[.int .i64 d, .bool i, .int .i64 a] 149) := ⟨_, rfl⟩
 obtain ⟨w1, hw1⟩ : ∃ z, z = w0.alloc (.cells #[.int .i64 b, .bool j] 138) := ⟨_, rfl⟩
 obtain ⟨b0, hb0⟩ : ∃ z, z = w.heap.size := ⟨_, rfl⟩
 obtain ⟨b1, hb1⟩ : ∃ z, z = w.heap.size + 1 := ⟨_, rfl⟩
 have g0 : Grew w w0 := by rw [hw0]; exact (Grew.refl w).alloc _
 have g1 : Grew w0 w1 := by rw [hw1]; exact (Grew.refl w0).alloc _
 have s0 : w0.heap.size = w.heap.size + 1 := by rw [hw0]; simp
 have X0 : Blk w1 b0 149 [.int .i64 d, .bool i, .int .i64 a] := by
  have h : Blk w0 b0 149 [.int .i64 d, .bool i, .int .i64 a] := by rw [hw0, hb0]; exact Blk.new w 149 [.int .i64 d, .bool i, .int .i64 a]
  exact h.grew g1
 have Y0 : Blk w1 b1 138 [.int .i64 b, .bool j] := by rw [hw1, hb1, ← s0]; exact Blk.new w0 138 [.int .i64 b, .bool j]
 have c1 : w1.cell? ⟨b0, 1, none⟩ = some (.bool i) := X0.cell rfl
 have c2 : w1.cell? ⟨b0, 2, none⟩ = some (.int .i64 a) := X0.cell rfl
 have d0 : w1.cell? ⟨b1, 0, none⟩ = some (.int .i64 b) := Y0.cell rfl
 have d1 : w1.cell? ⟨b1, 1, none⟩ = some (.bool j) := Y0.cell rfl
 have HG := Lib.hid (g0.trans g1)
 obtain ⟨r, hr⟩ : ∃ r, cstF ⟨d, i, a⟩ ⟨b, j⟩ = r := ⟨_, rfl⟩
 rw [hr]
 have m1 : IntKind.i64.wrap (a - b) = a - b := IntWalk.i64_in _ (by omega)
 have m2 : IntKind.i64.wrap (b - a) = b - a := IntWalk.i64_in _ (by omega)
 have hr2 : max (a - b) (b - a) + (if i = j then 0 else 60) = r := hr
 obtain ⟨z, hz⟩ : ∃ z, max (a - b) (b - a) = z := ⟨_, rfl⟩
 have hzb : 0 ≤ z ∧ z ≤ 52596000 := by omega
 rw [hz] at hr2
 have m3 : IntKind.i64.wrap (z + 60) = z + 60 := IntWalk.i64_in _ (by omega)
 have HZ := Lib.hid hz
 have HR := Lib.hid hr2
 have hmx : max (a - b) (b - a) = z := hz
 clear g0 g1 s0 X0 Y0 hr hr2 hz
 go_enter Tryz.func67, Tryz.ntmps67
 go_upto_region 1 with (fail)
 rw [← hw0, ← hw1, ← hb1, ← hb0]
 clear hw0 hw1 hb1 hb0
 by_cases hij : i = j
 ·have HE : Hid (z = r) := by unfold Hid; rw [← HR.out, if_pos hij]; omega
  subst hij
  clear HR m3
  cases i with
  | true =>
   go_wp2
   go_ret
   exact ⟨congrArg (fun b => Ending.returned (Value.int .i64 b)) (by first | exact HE.out | (have := HE.out; have := HZ.out; omega)), HG.out⟩
  | false =>
   go_wp2
   go_ret
   exact ⟨congrArg (fun b => Ending.returned (Value.int .i64 b)) (by first | exact HE.out | (have := HE.out; have := HZ.out; omega)), HG.out⟩
 ·have HE : Hid (z + 60 = r) := by unfold Hid; rw [← HR.out, if_neg hij]
  clear HR
  have hne : j = !i := by cases i <;> cases j <;> simp at hij ⊢
  subst hne
  clear hij
  cases i with
  | true =>
   go_wp2
   go_ret
   exact ⟨congrArg (fun b => Ending.returned (Value.int .i64 b)) (by first | exact HE.out | (have := HE.out; have := HZ.out; omega)), HG.out⟩
  | false =>
   go_wp2
   go_ret
   exact ⟨congrArg (fun b => Ending.returned (Value.int .i64 b)) (by first | exact HE.out | (have := HE.out; have := HZ.out; omega)), HG.out⟩
set_option maxRecDepth 100000 in
set_option maxHeartbeats 4000000 in
theorem usable63 {w : World} {A B : Option Addr} {n c m e : Nat} {ds : List Du} {us : List Pu} (hd : Dus w A n c ds) (hu : Recs encU 2 w B m e us) (hv : DsOk ds) (hw : UsOk us) (hn : n ≤ 24) (hm : m ≤ 60) :
  Calls Tryz.prog 63 #[.slice A n c, .slice B m e] w fun r w' => r = .returned (.int .i64 0) ∧ Grew w w' := by
 have HD := Lib.hid hd
 have HU := Lib.hid hu
 have HV := Lib.hid hv
 have HW := Lib.hid hw
 clear hd hu hv hw
 have r1 : decide ((n : Int) > 24) = false := decide_eq_false (by omega)
 have r2 : decide ((24 : Int) < (n : Int)) = false := decide_eq_false (by omega)
 have r3 : decide (24 < n) = false := decide_eq_false (by omega)
 have r4 : decide ((m : Int) > 60) = false := decide_eq_false (by omega)
 have r5 : decide ((60 : Int) < (m : Int)) = false := decide_eq_false (by omega)
 have r6 : decide (60 < m) = false := decide_eq_false (by omega)
 go_enter Tryz.func63, Tryz.ntmps63
 go_wp2_with fail
 clear r1 r2 r3 r4 r5 r6
 go_loopw [20] (fun i y => ∃ k : Nat, k ≤ n ∧ i = .int .i64 k ∧ Hid (Grew w y)) (fun i _ => n - (intOf i).toNat)
 case atStart => exact ⟨0, Nat.zero_le _, rfl, Grew.refl _⟩
 case round =>
  obtain ⟨k, hk, rfl, HR⟩ := hrel
  by_cases hlt : k < n
  ·skip
   obtain ⟨b, o, x, hA, hx, ⟨c0, c1, c2⟩, _⟩ := (HD.out.grew HR.out).at_ hlt
   have hdo := HV.out.ok x (List.mem_of_getElem? hx)
   have HX := Lib.hid hx
   obtain ⟨xa, xb, xs⟩ := x
   simp only at c0 c1 c2
   have HD1 : Hid (decide (0 ≤ xa ∧ xa < xb ∧ xb ≤ 52596000 ∧ xb - xa ≤ 1440 ∧ 0 ≤ xs ∧ xs ≤ 65535) = true) := hdo
   have e1 : (0 : Int) ≤ (k : Int) := by omega
   have e2 : (k : Int) < (n : Int) := by omega
   obtain ⟨wa, hwa⟩ : ∃ y, y = wr.alloc (.cells #[.int .i64 xa, .int .i64 xb, .int .i64 xs] 47) := ⟨_, rfl⟩
   obtain ⟨db, hdb⟩ : ∃ z, z = wr.heap.size := ⟨_, rfl⟩
   have ga : Grew wr wa := by rw [hwa]; exact (Grew.refl wr).alloc _
   have DB : Blk wa db 47 [.int .i64 xa, .int .i64 xb, .int .i64 xs] := by rw [hwa, hdb]; exact Blk.new wr 47 [.int .i64 xa, .int .i64 xb, .int .i64 xs]
   have HRa := Lib.hid (HR.out.trans ga)
   by_cases hk0 : k = 0
   ·subst hk0
    rw [Nat.zero_mul, Nat.add_zero] at c0 c1 c2
    have hC : ∀ w', Grew wa.drew w' → w'.cell? ⟨db, 0, none⟩ = some (.int .i64 xa) ∧ w'.cell? ⟨db, 1, none⟩ = some (.int .i64 xb) ∧ w'.cell? ⟨db, 2, none⟩ = some (.int .i64 xs) := fun w' g' => by
     have gg := (Grew.refl wa).drew.trans g'
     exact ⟨gg.cell (DB.cell rfl), gg.cell (DB.cell rfl), gg.cell (DB.cell rfl)⟩
    have HC := Lib.hid hC
    subst hA
    clear hx hdo hC DB ga
    go_upto_region 6 with (fail)
    rw [← hwa, ← hdb]
    clear hwa hdb
    refine wp_region_seq (by kernel_rfl) Grew.refl (fun _ _ _ => Grew.trans) (fun _ _ _ _ _ h => h) (by kernel_rfl) ?_
    repeat (first
     | (refine TakeAll.pure (v := ?_) (by rfl) ?_ ?_; rotate_left; (intro w' g'; obtain ⟨q_0, q_1, q_2⟩ := HC.out w' g'; go_simp; first | done | with_reducible rfl); (simp only [Act.put, uzT, uz0, uz1]))
     | (refine TakeAll.skip (by rfl) ?_; (simp only [Act.put, uzT, uz0, uz1]))
     | (refine TakeAll.call (by rfl) 38 _ (fun _ => by go_simp; first | done | rfl) (fun w' g' => sval38 xa xb xs true w' HD1.out) ?_; (simp only [Act.put, uzT, uz0, uz1])))
    refine TakeAll.nil ?_
    intro w5 g5
    have G5 := Lib.hid (HRa.out.trans ((Grew.refl wa).drew.trans g5))
    clear g5 HC HRa
    go_wp2_with fail
    go_roundw
    case rel => exact ⟨1, by omega, by go_num, G5.out⟩
    case measure => simp [intOf]; omega
   ·obtain ⟨b', o', y, hA', hy, ⟨_, d1, _⟩, _⟩ := (HD.out.grew HR.out).at_ (show k - 1 < n by omega)
    have hsq := HV.out.seq (k - 1) y ⟨xa, xb, xs⟩ hy (by rw [show k - 1 + 1 = k by omega]; exact hx)
    obtain ⟨ya, yb, ys⟩ := y
    simp only at d1 hsq
    rw [hA] at hA'
    injection hA' with hA'
    injection hA' with h1 h2
    subst h1 h2
    have q1 : decide ((k : Int) > 0) = true := decide_eq_true (by omega)
    have q2 : decide ((0 : Int) < (k : Int)) = true := decide_eq_true (by omega)
    have q3 : decide (0 < k) = true := decide_eq_true (by omega)
    have q4 : decide (xa < yb) = false := decide_eq_false (by omega)
    have m1 : IntKind.i64.wrap ((k : Int) - 1) = (k : Int) - 1 := IntWalk.i64_in _ (by omega)
    have m2 : ((k : Int) - 1).toNat = k - 1 := by omega
    have e3 : (0 : Int) ≤ (k : Int) - 1 := by omega
    have e4 : (k : Int) - 1 < (n : Int) := by omega
    have e5 : (1 : Int) ≤ (k : Int) := by omega
    have hC : ∀ w', Grew wa.drew w' → (w'.cell? ⟨db, 0, none⟩ = some (.int .i64 xa) ∧ w'.cell? ⟨db, 1, none⟩ = some (.int .i64 xb) ∧ w'.cell? ⟨db, 2, none⟩ = some (.int .i64 xs)) ∧ w'.cell? ⟨b, o + (k - 1) * 3 + 1, none⟩ = some (.int .i64 yb) := fun w' g' => by
     have gg := (Grew.refl wa).drew.trans g'
     exact ⟨⟨gg.cell (DB.cell rfl), gg.cell (DB.cell rfl), gg.cell (DB.cell rfl)⟩, gg.cell (ga.cell d1)⟩
    have HC := Lib.hid hC
    subst hA
    clear hx hy hdo hC DB ga d1 hsq
    go_upto_region 6 with (fail)
    rw [← hwa, ← hdb]
    clear hwa hdb
    refine wp_region_seq (by kernel_rfl) Grew.refl (fun _ _ _ => Grew.trans) (fun _ _ _ _ _ h => h) (by kernel_rfl) ?_
    repeat (first
     | (refine TakeAll.pure (v := ?_) (by rfl) ?_ ?_; rotate_left; (intro w' g'; obtain ⟨⟨q_0, q_1, q_2⟩, q_3⟩ := HC.out w' g'; go_simp; first | done | with_reducible rfl); (simp only [Act.put, uzT, uz0, uz1]))
     | (refine TakeAll.skip (by rfl) ?_; (simp only [Act.put, uzT, uz0, uz1]))
     | (refine TakeAll.call (by rfl) 38 _ (fun _ => by go_simp; first | done | rfl) (fun w' g' => sval38 xa xb xs true w' HD1.out) ?_; (simp only [Act.put, uzT, uz0, uz1])))
    refine TakeAll.nil ?_
    intro w5 g5
    have G5 := Lib.hid (HRa.out.trans ((Grew.refl wa).drew.trans g5))
    clear g5 HC HRa
    go_wp2_with fail
    go_roundw
    case rel => exact ⟨k + 1, by omega, by go_num, G5.out⟩
    case measure => simp [intOf]; omega
  ·obtain rfl : n = k := by omega
   have H1 := Lib.hid HR.out
   obtain ⟨wx, rfl⟩ : ∃ y, y = wr := ⟨wr, rfl⟩
   go_wp2_with fail
   go_loopw [46] (fun i y => ∃ k : Nat, k ≤ m ∧ i = .int .i64 k ∧ Hid (Grew wx y)) (fun i _ => m - (intOf i).toNat)
   case atStart => exact ⟨0, Nat.zero_le _, rfl, Grew.refl _⟩
   case round =>
    clear HR
    obtain ⟨k, hk, rfl, HR⟩ := hrel
    by_cases hlt : k < m
    ·skip
     obtain ⟨b, o, u, hA, hu, c0, c1⟩ := Recs.pu (HU.out.grew (H1.out.trans HR.out)) hlt
     have hub := HW.out.rng u (List.mem_of_getElem? hu)
     obtain ⟨ua, ui⟩ := u
     simp only at c0 c1 hub
     have e1 : (0 : Int) ≤ (k : Int) := by omega
     have e2 : (k : Int) < (m : Int) := by omega
     have q1 : decide (ua < 0) = false := decide_eq_false (by omega)
     have q2 : decide (ua > 52596000) = false := decide_eq_false (by omega)
     have q3 : decide ((52596000 : Int) < ua) = false := decide_eq_false (by omega)
     subst hA
     clear hu hub
     obtain ⟨wa, hwa⟩ : ∃ y, y = wr.alloc (.cells #[.int .i64 ua, .bool ui] 138) := ⟨_, rfl⟩
     obtain ⟨db, hdb⟩ : ∃ z, z = wr.heap.size := ⟨_, rfl⟩
     have ga : Grew wr wa := by rw [hwa]; exact (Grew.refl wr).alloc _
     have DB : Blk wa db 138 [.int .i64 ua, .bool ui] := by rw [hwa, hdb]; exact Blk.new wr 138 [.int .i64 ua, .bool ui]
     have HRa := Lib.hid (HR.out.trans ga)
     go_upto_region 12 with (fail)
     rw [← hwa, ← hdb]
     clear hwa hdb ga c0 c1
     have d0 : wa.cell? ⟨db, 0, none⟩ = some (.int .i64 ua) := DB.cell rfl
     clear DB
     go_wp2_with fail
     go_roundw
     case rel => exact ⟨k + 1, by omega, by go_num, HRa.out⟩
     case measure => simp [intOf]; omega
    ·obtain rfl : m = k := by omega
     have H2 := Lib.hid (H1.out.trans HR.out)
     obtain ⟨wz, rfl⟩ : ∃ y, y = wr := ⟨wr, rfl⟩
     go_wp2_with fail
     go_loopw [61] (fun i y => ∃ k : Nat, k ≤ m ∧ i = .int .i64 k ∧ Hid (Grew wz y)) (fun i _ => m - (intOf i).toNat)
     case atStart => exact ⟨0, Nat.zero_le _, rfl, Grew.refl _⟩
     case round =>
      clear HR
      obtain ⟨k, hk, rfl, HR⟩ := hrel
      by_cases hlt : k < m
      ·skip
       have e1 : (0 : Int) ≤ (k : Int) := by omega
       have e2 : (k : Int) < (m : Int) := by omega
       by_cases hk0 : k = 0
       ·subst hk0
        go_upto_region 18 with (fail)
        refine wp_region_seq (by kernel_rfl) Grew.refl (fun _ _ _ => Grew.trans) (fun _ _ _ _ _ h => h) (by kernel_rfl) ?_
        repeat (first
         | (refine TakeAll.pure (v := ?_) (by rfl) ?_ ?_; rotate_left; (intro w' g'; go_simp; first | done | with_reducible rfl); (simp only [Act.put, uzT, uz0, uz1]))
         | (refine TakeAll.skip (by rfl) ?_; (simp only [Act.put, uzT, uz0, uz1])))
        refine TakeAll.nil ?_
        intro w5 g5
        have G5 := Lib.hid (HR.out.trans ((Grew.refl wr).drew.trans g5))
        clear g5
        go_wp2_with fail
        go_roundw
        case rel => exact ⟨1, by omega, by go_num, G5.out⟩
        case measure => simp [intOf]; omega
       ·obtain ⟨b, o, u, hA, hu, c0, _⟩ := Recs.pu (HU.out.grew (H2.out.trans HR.out)) hlt
        obtain ⟨b', o', v, hA', hv, d0, _⟩ := Recs.pu (HU.out.grew (H2.out.trans HR.out)) (show k - 1 < m by omega)
        have hsq := HW.out.seq (k - 1) v u hv (by rw [show k - 1 + 1 = k by omega]; exact hu)
        obtain ⟨ua, ui⟩ := u
        obtain ⟨va, vi⟩ := v
        simp only at c0 d0 hsq
        rw [hA] at hA'
        injection hA' with hA'
        injection hA' with h1 h2
        subst h1 h2
        have q1 : decide ((k : Int) > 0) = true := decide_eq_true (by omega)
        have q2 : decide ((0 : Int) < (k : Int)) = true := decide_eq_true (by omega)
        have q3 : decide (0 < k) = true := decide_eq_true (by omega)
        have q4 : decide (ua < va) = false := decide_eq_false (by omega)
        have m1 : IntKind.i64.wrap ((k : Int) - 1) = (k : Int) - 1 := IntWalk.i64_in _ (by omega)
        have m2 : ((k : Int) - 1).toNat = k - 1 := by omega
        have e3 : (0 : Int) ≤ (k : Int) - 1 := by omega
        have e4 : (k : Int) - 1 < (m : Int) := by omega
        have e5 : (1 : Int) ≤ (k : Int) := by omega
        have hC : ∀ w', Grew wr.drew w' → w'.cell? ⟨b, o + k * 2, none⟩ = some (.int .i64 ua) ∧ w'.cell? ⟨b, o + (k - 1) * 2, none⟩ = some (.int .i64 va) := fun w' g' => by
         have gg := (Grew.refl wr).drew.trans g'
         exact ⟨gg.cell c0, gg.cell d0⟩
        have HC := Lib.hid hC
        subst hA
        clear hu hv hC c0 d0 hsq
        go_upto_region 18 with (fail)
        refine wp_region_seq (by kernel_rfl) Grew.refl (fun _ _ _ => Grew.trans) (fun _ _ _ _ _ h => h) (by kernel_rfl) ?_
        repeat (first
         | (refine TakeAll.pure (v := ?_) (by rfl) ?_ ?_; rotate_left; (intro w' g'; obtain ⟨q_0, q_1⟩ := HC.out w' g'; go_simp; first | done | with_reducible rfl); (simp only [Act.put, uzT, uz0, uz1]))
         | (refine TakeAll.skip (by rfl) ?_; (simp only [Act.put, uzT, uz0, uz1])))
        refine TakeAll.nil ?_
        intro w5 g5
        have G5 := Lib.hid (HR.out.trans ((Grew.refl wr).drew.trans g5))
        clear g5 HC
        go_wp2_with fail
        go_roundw
        case rel => exact ⟨k + 1, by omega, by go_num, G5.out⟩
        case measure => simp [intOf]; omega
      ·obtain rfl : m = k := by omega
       have HE := Lib.hid (H2.out.trans HR.out)
       go_wp2
       go_ret
       exact ⟨rfl, HE.out⟩
end Go.Proofs.YtnnbibmmofnkdaaGreat
