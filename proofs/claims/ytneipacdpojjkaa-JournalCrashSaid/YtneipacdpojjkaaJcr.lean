/-
  The law JournalCrash, walked.
-/
import Derived.Test.YtneipacdpojjkaaJcrP
namespace Go.Proofs.Ytneipacdpojjkaa
open Go.RowKit Go.Proofs WageMem WageDisk

set_option maxRecDepth 100000 in
set_option maxHeartbeats 16000000 in
theorem jcr_s1 (A : Option Addr) (n c : Nat) (A' : Option Addr) (n' c' : Nat) (d : Ds) (A3 : Option Addr) (n3 c3 : Nat) (A4 : Option Addr) (n4 c4 : Nat) (a b : Int) (w : World) (h : Disk w (.agg #[.slice A n c, .slice A' n' c']) d) (hmo : Modest d) (hsm : jsmallB d = false) :
    Calls Try.prog 15 #[.agg #[.slice A n c, .slice A' n' c'], .slice A3 n3 c3, .slice A4 n4 c4, .int .u8 a, .int .u16 b] w fun e w' => e = .returned (.bool true) ∧ Grew w w' := by
  have gg : Grew w (w.alloc (.cells #[.slice A n c, .slice A' n' c'] 25)) := (Grew.refl w).alloc _
  have HH := Lib.hid h
  have HMO := Lib.hid hmo
  have HS := Lib.hid hsm
  clear h hmo hsm
  go_enter Try.func15, Try.ntmps15
  go_wp2_with fail
  refine (jhead_true _).mono ?_
  rintro e w1 ⟨rfl, g1⟩
  have d0 : w1.cell? ⟨w.heap.size, 0, none⟩ = some (.slice A n c) := g1.cell (by simp)
  have d1 : w1.cell? ⟨w.heap.size, 1, none⟩ = some (.slice A' n' c') := g1.cell (by simp)
  replace gg := gg.trans g1
  replace HH := Lib.hid (HH.out.grew gg)
  clear g1
  go_wp2_with fail
  refine (jsmall_any _ d _ HH.out HMO.out).mono ?_
  rw [HS.out]
  rintro e w2 ⟨rfl, g2⟩
  replace d0 := g2.cell d0
  replace d1 := g2.cell d1
  replace HH := Lib.hid (HH.out.grew g2)
  replace gg := gg.trans g2
  clear g2
  go_wp2_with fail
  go_ret
  exact ⟨rfl, gg⟩

set_option maxRecDepth 100000 in
set_option maxHeartbeats 16000000 in
theorem jcr_s2 (A : Option Addr) (n c : Nat) (A' : Option Addr) (n' c' : Nat) (d : Ds) (A3 : Option Addr) (n3 c3 : Nat) (A4 : Option Addr) (n4 c4 : Nat) (a b : Int) (w : World) (h : Disk w (.agg #[.slice A n c, .slice A' n' c']) d) (hmo : Modest d) (hsm : jsmallB d = true) (hv : validB d = false) :
    Calls Try.prog 15 #[.agg #[.slice A n c, .slice A' n' c'], .slice A3 n3 c3, .slice A4 n4 c4, .int .u8 a, .int .u16 b] w fun e w' => e = .returned (.bool true) ∧ Grew w w' := by
  have gg : Grew w (w.alloc (.cells #[.slice A n c, .slice A' n' c'] 25)) := (Grew.refl w).alloc _
  have HH := Lib.hid h
  have HMO := Lib.hid hmo
  have HS := Lib.hid hsm
  have HV := Lib.hid hv
  clear h hmo hsm hv
  go_enter Try.func15, Try.ntmps15
  go_wp2_with fail
  refine (jhead_true _).mono ?_
  rintro e w1 ⟨rfl, g1⟩
  have d0 : w1.cell? ⟨w.heap.size, 0, none⟩ = some (.slice A n c) := g1.cell (by simp)
  have d1 : w1.cell? ⟨w.heap.size, 1, none⟩ = some (.slice A' n' c') := g1.cell (by simp)
  replace gg := gg.trans g1
  replace HH := Lib.hid (HH.out.grew gg)
  clear g1
  go_wp2_with fail
  refine (jsmall_any _ d _ HH.out HMO.out).mono ?_
  rw [HS.out]
  rintro e w2 ⟨rfl, g2⟩
  replace d0 := g2.cell d0
  replace d1 := g2.cell d1
  replace HH := Lib.hid (HH.out.grew g2)
  replace gg := gg.trans g2
  clear g2
  go_wp2_with fail
  refine (rvalid_any _ d _ HH.out).mono ?_
  rw [HV.out]
  rintro e w3 ⟨rfl, g3⟩
  replace d0 := g3.cell d0
  replace d1 := g3.cell d1
  replace HH := Lib.hid (HH.out.grew g3)
  replace gg := gg.trans g3
  clear g3
  go_wp2_with fail
  go_ret
  exact ⟨rfl, gg⟩

set_option maxRecDepth 100000 in
set_option maxHeartbeats 16000000 in
theorem jcr_s3 (A : Option Addr) (n c : Nat) (A' : Option Addr) (n' c' : Nat) (d : Ds) (A3 : Option Addr) (n3 c3 : Nat) (A4 : Option Addr) (n4 c4 : Nat) (a b : Int) (w : World) (h : Disk w (.agg #[.slice A n c, .slice A' n' c']) d) (hmo : Modest d) (hsm : jsmallB d = true) (hv : validB d = true) (hn : n3 = 0) :
    Calls Try.prog 15 #[.agg #[.slice A n c, .slice A' n' c'], .slice A3 n3 c3, .slice A4 n4 c4, .int .u8 a, .int .u16 b] w fun e w' => e = .returned (.bool true) ∧ Grew w w' := by
  have gg : Grew w (w.alloc (.cells #[.slice A n c, .slice A' n' c'] 25)) := (Grew.refl w).alloc _
  have HH := Lib.hid h
  have HMO := Lib.hid hmo
  have HS := Lib.hid hsm
  have HV := Lib.hid hv
  have t1 : ((n3 : Int) == 0) = true := by rw [hn]; rfl
  clear h hmo hsm hv hn
  go_enter Try.func15, Try.ntmps15
  go_wp2_with fail
  refine (jhead_true _).mono ?_
  rintro e w1 ⟨rfl, g1⟩
  have d0 : w1.cell? ⟨w.heap.size, 0, none⟩ = some (.slice A n c) := g1.cell (by simp)
  have d1 : w1.cell? ⟨w.heap.size, 1, none⟩ = some (.slice A' n' c') := g1.cell (by simp)
  replace gg := gg.trans g1
  replace HH := Lib.hid (HH.out.grew gg)
  clear g1
  go_wp2_with fail
  refine (jsmall_any _ d _ HH.out HMO.out).mono ?_
  rw [HS.out]
  rintro e w2 ⟨rfl, g2⟩
  replace d0 := g2.cell d0
  replace d1 := g2.cell d1
  replace HH := Lib.hid (HH.out.grew g2)
  replace gg := gg.trans g2
  clear g2
  go_wp2_with fail
  refine (rvalid_any _ d _ HH.out).mono ?_
  rw [HV.out]
  rintro e w3 ⟨rfl, g3⟩
  replace d0 := g3.cell d0
  replace d1 := g3.cell d1
  replace HH := Lib.hid (HH.out.grew g3)
  replace gg := gg.trans g3
  clear g3
  go_wp2_with fail
  go_ret
  exact ⟨rfl, gg⟩

set_option maxRecDepth 100000 in
set_option maxHeartbeats 16000000 in
theorem jcr_s4 (A : Option Addr) (n c : Nat) (A' : Option Addr) (n' c' : Nat) (d : Ds) (A3 : Option Addr) (n3 c3 : Nat) (A4 : Option Addr) (n4 c4 : Nat) (a b : Int) (w : World) (h : Disk w (.agg #[.slice A n c, .slice A' n' c']) d) (hmo : Modest d) (hsm : jsmallB d = true) (hv : validB d = true) (hp : 4096 < n3) :
    Calls Try.prog 15 #[.agg #[.slice A n c, .slice A' n' c'], .slice A3 n3 c3, .slice A4 n4 c4, .int .u8 a, .int .u16 b] w fun e w' => e = .returned (.bool true) ∧ Grew w w' := by
  have gg : Grew w (w.alloc (.cells #[.slice A n c, .slice A' n' c'] 25)) := (Grew.refl w).alloc _
  have HH := Lib.hid h
  have HMO := Lib.hid hmo
  have HS := Lib.hid hsm
  have HV := Lib.hid hv
  have t1 : ((n3 : Int) == 0) = false := beq_eq_false_iff_ne.2 (by omega)
  have t2 : decide (4096 < (n3 : Int)) = true := decide_eq_true (by omega)
  clear h hmo hsm hv hp
  go_enter Try.func15, Try.ntmps15
  go_wp2_with fail
  refine (jhead_true _).mono ?_
  rintro e w1 ⟨rfl, g1⟩
  have d0 : w1.cell? ⟨w.heap.size, 0, none⟩ = some (.slice A n c) := g1.cell (by simp)
  have d1 : w1.cell? ⟨w.heap.size, 1, none⟩ = some (.slice A' n' c') := g1.cell (by simp)
  replace gg := gg.trans g1
  replace HH := Lib.hid (HH.out.grew gg)
  clear g1
  go_wp2_with fail
  refine (jsmall_any _ d _ HH.out HMO.out).mono ?_
  rw [HS.out]
  rintro e w2 ⟨rfl, g2⟩
  replace d0 := g2.cell d0
  replace d1 := g2.cell d1
  replace HH := Lib.hid (HH.out.grew g2)
  replace gg := gg.trans g2
  clear g2
  go_wp2_with fail
  refine (rvalid_any _ d _ HH.out).mono ?_
  rw [HV.out]
  rintro e w3 ⟨rfl, g3⟩
  replace d0 := g3.cell d0
  replace d1 := g3.cell d1
  replace HH := Lib.hid (HH.out.grew g3)
  replace gg := gg.trans g3
  clear g3
  go_wp2_with fail
  go_ret
  exact ⟨rfl, gg⟩

set_option maxRecDepth 100000 in
set_option maxHeartbeats 16000000 in
theorem jcr_s5 (A : Option Addr) (n c : Nat) (A' : Option Addr) (n' c' : Nat) (d : Ds) (A3 : Option Addr) (n3 c3 : Nat) (A4 : Option Addr) (n4 c4 : Nat) (a b : Int) (w : World) (h : Disk w (.agg #[.slice A n c, .slice A' n' c']) d) (hmo : Modest d) (hsm : jsmallB d = true) (hv : validB d = true) (hn : 0 < n3) (hp : n3 ≤ 4096) (he : n < jEnd d + (13 + n3)) :
    Calls Try.prog 15 #[.agg #[.slice A n c, .slice A' n' c'], .slice A3 n3 c3, .slice A4 n4 c4, .int .u8 a, .int .u16 b] w fun e w' => e = .returned (.bool true) ∧ Grew w w' := by
  have gg : Grew w (w.alloc (.cells #[.slice A n c, .slice A' n' c'] 25)) := (Grew.refl w).alloc _
  have HH := Lib.hid h
  have HMO := Lib.hid hmo
  have HS := Lib.hid hsm
  have HV := Lib.hid hv
  have t1 : ((n3 : Int) == 0) = false := beq_eq_false_iff_ne.2 (by omega)
  have t2 : decide (4096 < (n3 : Int)) = false := decide_eq_false (by omega)
  obtain ⟨en, hen⟩ : ∃ en : Nat, jEnd d = en := ⟨_, rfl⟩
  have hle := jEnd_le d
  rw [h.parts.1.1] at hle
  have hnb : n ≤ 140737488355328 := by rw [← h.parts.1.1]; exact hmo.1
  rw [hen] at he hle
  have HEN : Hid ((jEnd d : Int) = (en : Int)) := by unfold Hid; rw [hen]
  have t3 : decide ((n : Int) < (en : Int) + 13 + n3) = true := decide_eq_true (by omega)
  clear h hmo hsm hv hn hen
  go_enter Try.func15, Try.ntmps15
  go_wp2_with fail
  refine (jhead_true _).mono ?_
  rintro e w1 ⟨rfl, g1⟩
  have d0 : w1.cell? ⟨w.heap.size, 0, none⟩ = some (.slice A n c) := g1.cell (by simp)
  have d1 : w1.cell? ⟨w.heap.size, 1, none⟩ = some (.slice A' n' c') := g1.cell (by simp)
  replace gg := gg.trans g1
  replace HH := Lib.hid (HH.out.grew gg)
  clear g1
  go_wp2_with fail
  refine (jsmall_any _ d _ HH.out HMO.out).mono ?_
  rw [HS.out]
  rintro e w2 ⟨rfl, g2⟩
  replace d0 := g2.cell d0
  replace d1 := g2.cell d1
  replace HH := Lib.hid (HH.out.grew g2)
  replace gg := gg.trans g2
  clear g2
  go_wp2_with fail
  refine (rvalid_any _ d _ HH.out).mono ?_
  rw [HV.out]
  rintro e w3 ⟨rfl, g3⟩
  replace d0 := g3.cell d0
  replace d1 := g3.cell d1
  replace HH := Lib.hid (HH.out.grew g3)
  replace gg := gg.trans g3
  clear g3
  go_wp2_with fail
  refine (recs_int HH.out rfl HEN.out).mono ?_
  rintro e w4 ⟨L1, l1, t4, rfl, _, g4⟩
  replace d0 := g4.cell d0
  replace d1 := g4.cell d1
  replace HH := Lib.hid (HH.out.grew g4)
  replace gg := gg.trans g4
  clear g4
  go_wp2_with fail
  go_ret
  exact ⟨rfl, gg⟩

structure CrInv (B : Nat) (w5 w7 W : World) (Ad : Option Addr) (nd cd : Nat) (Ae : Option Addr) (ne ce : Nat) (ds : Ds) : Prop where
  box : W.heap[B]? = some (.cells #[.slice Ad nd cd, .slice Ae ne ce] 25 (0, 0))
  disk : Disk W (.agg #[.slice Ad nd cd, .slice Ae ne ce]) ds
  off : ∀ g, B < g → g < w7.heap.size → W.heap[g]? = w7.heap[g]?
  grew : Grew w5 W
  size : w7.heap.size ≤ W.heap.size
theorem CrInv.thr {B : Nat} {w5 w7 W : World} {Ad : Option Addr} {nd cd : Nat} {Ae : Option Addr} {ne ce : Nat} {ds d : Ds} {rec : List UInt8} {H : Nat} (h : CrInv B w5 w7 W Ad nd cd Ae ne ce ds) (hf : Fresh (B + 1) w7 (Thr d rec H)) : Thr d rec H W :=
  hf W fun k h1 h2 => h.off k (by omega) h2
theorem off_set {B : Nat} {w7 W W' : World} (h : ∀ g, B < g → g < w7.heap.size → W.heap[g]? = w7.heap[g]?) (hs : w7.heap.size ≤ W.heap.size) (g : Grew W W') (u v : Value) :
    ∀ g, B < g → g < w7.heap.size → ((W'.setCell ⟨B, 0, none⟩ u).setCell ⟨B, 1, none⟩ v).heap[g]? = w7.heap[g]? := fun k h1 h2 =>
  (Below.heap_setCell _ _ _ _ (by show k ≠ B; omega)).trans ((Below.heap_setCell _ _ _ _ (by show k ≠ B; omega)).trans ((g.below.block k (by omega)).trans (h k h1 h2)))

theorem crash_box {v : Value} {d d' : Ds} {Ak : Option Addr} {nk ck : Nat} {kept : List Int} {w : World} (h : Disk w v d) (hK : Ints w Ak nk ck kept) (hd : crashD d kept = d') {p q r : Addr} {x y z : Value} (h1 : w.cell? p = some x) (h2 : w.cell? q = some y) (h3 : w.cell? r = some z)
    {B : Nat} {u u' : Value} (hb : w.heap[B]? = some (.cells #[u, u'] 25 (0, 0))) :
    Calls Try.prog 28 #[v, .slice Ak nk ck] w fun e w' => ∃ A n c A' n' c', e = .returned (.agg #[.slice A n c, .slice A' n' c']) ∧ w'.cell? p = some x ∧ w'.cell? q = some y ∧ w'.cell? r = some z ∧ w'.cell? ⟨B, 0, none⟩ = some u ∧ w'.cell? ⟨B, 1, none⟩ = some u' ∧ w'.frozen? ⟨B, 0, none⟩ = false ∧ w'.frozen? ⟨B, 1, none⟩ = false ∧
      Hid (w'.heap[B]? = some (.cells #[u, u'] 25 (0, 0))) ∧ Hid (Fresh w.heap.size w' fun W => Disk W (.agg #[.slice A n c, .slice A' n' c']) d') ∧ Hid (Grew w w') :=
  (crash_val h hK hd).mono fun _ _ ⟨A, n, c, A', n', c', e, f, g⟩ => ⟨A, n, c, A', n', c', e, g.cell h1, g.cell h2, g.cell h3, blk_cell (g.block hb) 0, blk_cell (g.block hb) 1, blk_frozen (g.block hb) 0, blk_frozen (g.block hb) 1, g.block hb, f, g⟩


set_option maxRecDepth 100000 in
set_option maxHeartbeats 16000000 in
theorem jcr_main (A : Option Addr) (n c : Nat) (A' : Option Addr) (n' c' : Nat) (d : Ds) (A3 : Option Addr) (n3 c3 : Nat) (rec : List UInt8) (A4 : Option Addr) (n4 c4 : Nat) (oth : List UInt8) (a b : Int) (w : World) (h : Disk w (.agg #[.slice A n c, .slice A' n' c']) d) (hD : Bytes w A3 n3 c3 rec) (hO : Bytes w A4 n4 c4 oth) (hmo : Modest d) (a0 : 0 ≤ a) (a1 : a ≤ 255) (b0 : 0 ≤ b) (b1 : b ≤ 65535) (hsm : jsmallB d = true) (hv : validB d = true) (hn : 0 < n3) (hf : fitsB d rec = true) :
    Calls Try.prog 15 #[.agg #[.slice A n c, .slice A' n' c'], .slice A3 n3 c3, .slice A4 n4 c4, .int .u8 a, .int .u16 b] w fun e w' => e = .returned (.bool true) ∧ Grew w w' := by
  have gg : Grew w (w.alloc (.cells #[.slice A n c, .slice A' n' c'] 25)) := (Grew.refl w).alloc _
  have HH := Lib.hid h
  have HMO := Lib.hid hmo
  have HS := Lib.hid hsm
  have HV := Lib.hid hv
  have HF := Lib.hid hf
  have HD := Lib.hid hD
  have HO := Lib.hid hO
  have hr1 : Hid (1 ≤ rec.length) := by unfold Hid; rw [hD.1]; omega
  have hst := h.parts.1.1
  have hle := jEnd_le d
  rw [hst] at hle
  have hn6 := (valid_size hv).1
  rw [hst] at hn6
  have hff := hf
  unfold fitsB at hff
  rw [Bool.and_eq_true, hD.1, hst] at hff
  have f1 : n3 ≤ 4096 := of_decide_eq_true hff.1
  have f2 := of_decide_eq_true hff.2
  have t1 : ((n3 : Int) == 0) = false := beq_eq_false_iff_ne.2 (by omega)
  have t2 : decide (4096 < (n3 : Int)) = false := decide_eq_false (by omega)
  obtain ⟨ls, hls⟩ : ∃ ls, jRecs d = ls := ⟨_, rfl⟩
  obtain ⟨en, hen⟩ : ∃ en : Nat, jEnd d = en := ⟨_, rfl⟩
  have hll := jRecs_len d
  rw [hls, hst] at hll
  rw [hen] at hle f2
  have HLS := Lib.hid hls
  have HEN : Hid ((jEnd d : Int) = (en : Int)) := by unfold Hid; rw [hen]
  have HE := Lib.hid hen
  have HLL := Lib.hid hll
  have t3 : decide ((n : Int) < (en : Int) + 13 + n3) = false := decide_eq_false (by omega)
  have HSY : Hid (syncD d = ⟨stgB d rec 0, []⟩) := sync_valid hv
  obtain ⟨q0, hq0⟩ : ∃ q0 : Nat, a % 3 = (q0 : Int) := ⟨(a % 3).toNat, by omega⟩
  have hq3 : q0 < 3 := by omega
  clear h hmo hsm hv hD hO hls hen hst hf hff hll
  go_enter Try.func15, Try.ntmps15
  go_wp2_with fail
  refine (jhead_true _).mono ?_
  rintro e w1 ⟨rfl, g1⟩
  have d0 : w1.cell? ⟨w.heap.size, 0, none⟩ = some (.slice A n c) := g1.cell (by simp)
  have d1 : w1.cell? ⟨w.heap.size, 1, none⟩ = some (.slice A' n' c') := g1.cell (by simp)
  replace gg := gg.trans g1
  replace HH := Lib.hid (HH.out.grew gg)
  clear g1
  go_wp2_with fail
  refine (jsmall_any _ d _ HH.out HMO.out).mono ?_
  rw [HS.out]
  rintro e w2 ⟨rfl, g2⟩
  replace d0 := g2.cell d0
  replace d1 := g2.cell d1
  replace HH := Lib.hid (HH.out.grew g2)
  replace gg := gg.trans g2
  clear g2
  replace HD := Lib.hid (HD.out.grew gg)
  replace HO := Lib.hid (HO.out.grew gg)
  go_wp2_with fail
  refine (rvalid_any _ d _ HH.out).mono ?_
  rw [HV.out]
  rintro e w3 ⟨rfl, g3⟩
  replace d0 := g3.cell d0
  replace d1 := g3.cell d1
  replace HH := Lib.hid (HH.out.grew g3)
  replace HD := Lib.hid (HD.out.grew g3)
  replace HO := Lib.hid (HO.out.grew g3)
  replace gg := gg.trans g3
  clear g3
  go_wp2_with fail
  refine (recs_int HH.out HLS.out HEN.out).mono ?_
  rintro e w4 ⟨L1, l1, t4, rfl, hL1, g4⟩
  have HL1 := Lib.hid hL1
  clear hL1
  replace d0 := g4.cell d0
  replace d1 := g4.cell d1
  replace HH := Lib.hid (HH.out.grew g4)
  replace HD := Lib.hid (HD.out.grew g4)
  replace HO := Lib.hid (HO.out.grew g4)
  replace gg := gg.trans g4
  clear g4
  have HL1 := HL1
  go_wp2_with fail
  refine (sync_val HH.out HSY.out).mono ?_
  rintro e w5 ⟨As, ns, cs, Bs, ms, fs, rfl, f5, g5⟩
  replace d0 := g5.cell d0
  replace d1 := g5.cell d1
  replace HH := Lib.hid (HH.out.grew g5)
  replace HD := Lib.hid (HD.out.grew g5)
  replace HO := Lib.hid (HO.out.grew g5)
  replace HL1 := Lib.hid (HL1.out.grew g5)
  replace gg := gg.trans g5
  clear g5
  have sz5 : w.heap.size < w5.heap.size := World.block_lt_of_cell? _ _ d0
  have KD := Lib.hid f5.now
  clear f5
  go_wp2_with fail
  obtain ⟨w6, hw6⟩ : ∃ x, x = w5.alloc (.cells #[.slice As ns cs, .slice Bs ms fs] 25) := ⟨_, rfl⟩
  have g6 : Grew w5 w6 := by rw [hw6]; exact (Grew.refl _).alloc _
  have bx6 : w6.heap[w5.heap.size]? = some (.cells #[.slice As ns cs, .slice Bs ms fs] 25 (0, 0)) := by rw [hw6]; exact heap_alloc_new _ _
  have sz6 : w6.heap.size = w5.heap.size + 1 := by rw [hw6]; simp
  rw [← hw6]
  have BX6 := Lib.hid bx6
  have SZ6 := Lib.hid sz6
  clear hw6 bx6 sz6
  refine (rwrites_any _ d A3 n3 c3 rec _ (HH.out.grew g6) (HD.out.grew g6) HV.out HF.out).mono ?_
  rintro e w7 ⟨H, rfl, f7, g7⟩
  have F7 : Hid (Fresh (w5.heap.size + 1) w7 (Thr d rec H)) := by unfold Hid; rw [← SZ6.out]; exact f7
  have inv0 : CrInv w5.heap.size w5 w7 w7 As ns cs Bs ms fs ⟨stgB d rec 0, []⟩ := ⟨g7.block BX6.out, (KD.out.grew g6).grew g7, fun _ _ _ => rfl, g6.trans g7, Nat.le_refl _⟩
  have INV0 := Lib.hid inv0
  have sz7 : w5.heap.size < w7.heap.size := World.block_lt_of_cell? _ _ (blk_cell inv0.box 0)
  have w5d0 := d0
  have w5d1 := d1
  clear f7 inv0 KD BX6 d0 d1
  go_wp2_with fail
  go_loopw [64] (fun i wr => ∃ (k : Nat) (Ad : Option Addr) (nd cd : Nat) (Ae : Option Addr) (ne ce : Nat), k ≤ q0 ∧ i = .int .i64 k ∧ Hid (CrInv w5.heap.size w5 w7 wr Ad nd cd Ae ne ce ⟨stgB d rec k, []⟩)) (fun i _ => 3 - (intOf i).toNat)
  case atStart => exact ⟨0, _, _, _, _, _, _, by omega, rfl, INV0⟩
  case round =>
    clear INV0
    obtain ⟨k, Ad, nd, cd, Ae, ne, ce, hk, rfl, INV⟩ := hrel
    have e0 : wr.cell? ⟨w5.heap.size, 0, none⟩ = some (.slice Ad nd cd) := blk_cell INV.out.box 0
    have e1 : wr.cell? ⟨w5.heap.size, 1, none⟩ = some (.slice Ae ne ce) := blk_cell INV.out.box 1
    obtain ⟨Ax, nx, cx, c1, c2, hbx⟩ := INV.out.thr F7.out k (by omega)
    have szr : w5.heap.size < wr.heap.size := World.block_lt_of_cell? _ _ e0
    have szh : H < wr.heap.size := World.block_lt_of_cell? _ _ c1
    obtain ⟨hE, hS⟩ := stg_step (rec := rec) HV.out HF.out (show k < 3 by omega)
    obtain ⟨wo, hwo⟩ : ∃ wo : Nat, woff d k = wo := ⟨_, rfl⟩
    have hxo : wo ≤ 65537 := by rw [← hwo]; unfold woff; rw [HE.out]; split <;> omega
    have hnx := hbx.1
    have hnx2 : nx ≤ 70000 := by
      have := wfit HF.out (show k < 3 by omega)
      rw [hnx] at this
      have := (valid_size HV.out).1
      omega
    rw [hwo] at c1 hE
    have HX := Lib.hid hbx
    have HE' := Lib.hid hE
    have HWO := Lib.hid hwo
    have HNX := Lib.hid hnx
    have i0' : (0 : Int) ≤ (k : Int) := by omega
    have i1' : (k : Int) < 3 := by omega
    have ga : Grew wr (wr.alloc (.cells #[.int .i64 (wo : Int), .slice Ax nx cx] 45)) := (Grew.refl _).alloc _
    clear hbx hE hwo hnx
    by_cases hlt : k < q0
    · have t5 : ((k : Int) == (q0 : Int)) = false := beq_eq_false_iff_ne.2 (by omega)
      have HS' := Lib.hid hS
      rw [HWO.out] at HS'
      clear hS
      go_wp2_with fail
      refine (write_val (INV.out.disk.grew ga) (HX.out.grew ga) (by omega) (by omega) rfl HE'.out).mono ?_
      rintro e wb ⟨X1, p1, y1, X2, p2, y2, rfl, fb, gb⟩
      have gab := ga.trans gb
      clear e0 e1 c1 c2
      go_wp2_with fail
      have gbc : Grew wb (wb.alloc (.cells #[.slice X1 p1 y1, .slice X2 p2 y2] 25)) := (Grew.refl _).alloc _
      refine (sync_val (fb.now.grew gbc) HS'.out).mono ?_
      rintro e wc ⟨Y1, q1, u1, Y2, q2, u2, rfl, fc, gc⟩
      have gt := (gab.trans gbc).trans gc
      have hdc := gt.block INV.out.box
      have r0 := blk_cell hdc 0
      have r1 := blk_cell hdc 1
      have z0 := blk_frozen hdc 0
      have z1 := blk_frozen hdc 1
      have inv2 : CrInv w5.heap.size w5 w7 ((wc.setCell ⟨w5.heap.size, 0, none⟩ (.slice Y1 q1 u1)).setCell ⟨w5.heap.size, 1, none⟩ (.slice Y2 q2 u2)) Y1 q1 u1 Y2 q2 u2 ⟨stgB d rec (k + 1), []⟩ := by
        have hle2 := (gab.trans gbc).le
        exact ⟨blk_two hdc _ _, ((fc.set (by show w5.heap.size < _; omega) _).set (by show w5.heap.size < _; omega) _).now, off_set INV.out.off INV.out.size gt _ _, ((INV.out.grew.trans gt).set (by simp) _).set (by simp) _, by simp [World.setCell]; exact Nat.le_trans INV.out.size gt.le⟩
      have INV2 := Lib.hid inv2
      clear hdc fb fc inv2 INV
      go_wp2_with fail
      go_roundw
      case rel => exact ⟨k + 1, _, _, _, _, _, _, by omega, by go_num, INV2⟩
      case measure => simp [intOf]; omega
    · obtain rfl : k = q0 := by omega
      have t5 : ((k : Int) == (k : Int)) = true := by simp
      obtain ⟨qv, hqv⟩ : ∃ qv : Nat, b % ((nx : Int) + 1) = (qv : Int) := ⟨(b % ((nx : Int) + 1)).toNat, by have := Int.emod_nonneg b (show (nx : Int) + 1 ≠ 0 by omega); omega⟩
      have hqn : qv ≤ nx := by have := Int.emod_lt_of_pos b (show (0 : Int) < (nx : Int) + 1 by omega); omega
      obtain ⟨hcv, hcr, hcs⟩ := crash_recs HV.out hr1.out HF.out (show k < 3 by omega) (q := qv) (by rw [HNX.out]; exact hqn)
      rw [HWO.out] at hcs
      have HCS := Lib.hid hcs
      have HCV := Lib.hid hcv
      have HCR := Lib.hid hcr
      have hts : b.tmod ((nx : Int) + 1) = (qv : Int) := by rw [Int.tmod_eq_emod_of_nonneg b0]; exact hqv
      have HTS := Lib.hid hts
      clear hS hcs hcv hcr hqv hts
      go_wp2_with fail
      refine (write_val (INV.out.disk.grew ga) (HX.out.grew ga) (by omega) (by omega) rfl HE'.out).mono ?_
      rintro e wb ⟨X1, p1, y1, X2, p2, y2, rfl, fb, gb⟩
      have gab := ga.trans gb
      have x1 : wb.cell? ⟨wr.heap.size, 1, none⟩ = some (.slice Ax nx cx) := gb.cell (by simp)
      have szb : wr.heap.size < wb.heap.size := World.block_lt_of_cell? _ _ x1
      clear e0 e1 c1 c2
      go_upto_region 15 with (fail)
      obtain ⟨wx, hwx⟩ : ∃ x, x = wb.alloc (.cells #[.slice X1 p1 y1, .slice X2 p2 y2] 25) := ⟨_, rfl⟩
      have gx : Grew wb wx := by rw [hwx]; exact (Grew.refl _).alloc _
      have y0 : wx.cell? ⟨wb.heap.size, 0, none⟩ = some (.slice X1 p1 y1) := by rw [hwx]; simp
      have y1' : wx.cell? ⟨wb.heap.size, 1, none⟩ = some (.slice X2 p2 y2) := by rw [hwx]; simp
      rw [← hwx]
      clear hwx
      replace x1 := gx.cell x1
      have KX := Lib.hid (fb.now.grew (gx.alloc (.cells #[.int .i64 (qv : Int)] 3)).drew)
      have KI : Hid (Ints (wx.alloc (.cells #[.int .i64 (qv : Int)] 3)).drew (some ⟨wx.heap.size, 0, none⟩) 1 1 [(qv : Int)]) := (builtI [(qv : Int)] _ rfl 1 rfl (by decide)).grew (Grew.refl _).drew
      have GX := Lib.hid ((gab.trans gx).alloc (.cells #[.int .i64 (qv : Int)] 3)).drew
      have nx5 : IntKind.i64.wrap b = b := IntWalk.i64_in _ (by omega)
      have nx1 : IntKind.i64.wrap ((nx : Int) + 1) = (nx : Int) + 1 := IntWalk.i64_in _ (by omega)
      have nx0 : ¬ (nx : Int) + 1 = 0 := by omega
      have nx2 : ((nx : Int) + 1 == 0) = false := beq_eq_false_iff_ne.2 (by omega)
      have nx3 : IntKind.i64.wrap (qv : Int) = (qv : Int) := IntWalk.i64_in _ (by omega)
      have nx4 := HTS.out
      have m1 : w5.heap.size ≠ wb.heap.size := by have := gab.le; omega
      have m2 : w5.heap.size ≠ wr.heap.size := by omega
      have szx : wb.heap.size < wx.heap.size := World.block_lt_of_cell? _ _ y0
      have gabd := gab.le
      clear fb gab
      go_region_held3 (fun w' => w'.cell? ⟨wb.heap.size, 0, none⟩ = some (.slice X1 p1 y1) ∧ w'.cell? ⟨wb.heap.size, 1, none⟩ = some (.slice X2 p2 y2) ∧ w'.cell? ⟨wr.heap.size, 1, none⟩ = some (.slice Ax nx cx))
        (first | (with_reducible exact ⟨far0 y0, far0 y1', far0 x1⟩) | (refine ⟨?_, ?_, ?_⟩ <;> assumption) | (with_reducible exact ⟨far2 k0 m1, far2 k1 m1, far2 k2 m2⟩) | go_keep)
        (first
          | (go_at_call 28; ((with_reducible refine (crash_box KX.out KI.out HCS.out (p := ⟨wb.heap.size, 0, none⟩) (q := ⟨wb.heap.size, 1, none⟩) (r := ⟨wr.heap.size, 1, none⟩) (((Grew.refl wx).alloc _).drew.cell y0) (((Grew.refl wx).alloc _).drew.cell y1') (((Grew.refl wx).alloc _).drew.cell x1) (GX.out.block INV.out.box)).mono ?_); rintro e wy ⟨Z1, z1n, z1c, Z2, z2n, z2c, rfl, k0, k1, k2, r0, r1, z0, z1, HBX, FC, GC⟩)))
      obtain ⟨wz, hwz⟩ : ∃ x, x = (wy.setCell ⟨w5.heap.size, 0, none⟩ (.slice Z1 z1n z1c)).setCell ⟨w5.heap.size, 1, none⟩ (.slice Z2 z2n z2c) := ⟨_, rfl⟩
      have hbz : wz.heap[w5.heap.size]? = some (.cells #[.slice Z1 z1n z1c, .slice Z2 z2n z2c] 25 (0, 0)) := by rw [hwz]; exact blk_two HBX.out _ _
      have b0 : wz.cell? ⟨w5.heap.size, 0, none⟩ = some (.slice Z1 z1n z1c) := blk_cell hbz 0
      have b1 : wz.cell? ⟨w5.heap.size, 1, none⟩ = some (.slice Z2 z2n z2c) := blk_cell hbz 1
      have KZ : Hid (Disk wz (.agg #[.slice Z1 z1n z1c, .slice Z2 z2n z2c]) ⟨crB d rec k qv, []⟩) := by
        unfold Hid
        rw [hwz]
        exact ((FC.out.set (by show w5.heap.size < _; simp; omega) _).set (by show w5.heap.size < _; simp; omega) _).now
      have gz : Grew w5 wz := by rw [hwz]; exact ((INV.out.grew.trans (GX.out.trans GC.out)).set (Nat.le_refl _) _).set (Nat.le_refl _) _
      rw [← hwz]
      clear hwz x1 y0 y1' k0 k1 k2 r0 r1 z0 z1 HBX FC GC GX KX KI hbz m1 m2 nx1 nx0 nx2 nx3 nx4 nx5 szx szb INV
      have HD2 := Lib.hid (HD.out.grew gz)
      have HO2 := Lib.hid (HO.out.grew gz)
      have HL2 := Lib.hid (HL1.out.grew gz)
      have gw := gg.trans gz
      have gl5 : w.heap.size < wz.heap.size := Nat.lt_of_lt_of_le sz5 gz.le
      have hcr := HCR.out
      have hl2 : l1 ≤ 65536 := by rw [← HL1.out.1]; have := HLL.out; omega
      obtain ⟨sD, hsD⟩ : ∃ s : Ds, s = ⟨crB d rec k qv, []⟩ := ⟨_, rfl⟩
      rw [← hsD] at KZ hcr
      have hsl : (jRecs sD).length ≤ 65536 := by
        have := jRecs_len sD
        have := (valid_size HCV.out).1
        rw [← hsD] at this
        omega
      obtain ⟨ls2, hls2⟩ : ∃ l, jRecs sD = l := ⟨_, rfl⟩
      obtain ⟨en2, hen2⟩ : ∃ e : Int, (jEnd sD : Int) = e := ⟨_, rfl⟩
      obtain ⟨ea, hea⟩ : ∃ e, appE sD oth = e := ⟨_, rfl⟩
      obtain ⟨aD, haD⟩ : ∃ s, appD sD oth = s := ⟨_, rfl⟩
      have haf : ea = 0 → jRecs aD = ls2 ++ [oth] := fun h0 => by
        have := (app_after (s := sD) (oth := oth) (by rw [hea]; exact h0)).1
        rw [haD, hls2] at this; exact this
      rw [hls2, HLS.out] at hcr
      rw [hls2] at hsl
      have HSL := Lib.hid hsl
      have HLS2 := Lib.hid hls2
      have HEN2 := Lib.hid hen2
      have HEA := Lib.hid hea
      have HAD := Lib.hid haD
      have HAF := Lib.hid haf
      clear hsD hls2 hen2 hea haD haf hsl HCR HCV HCS
      clear HD HO HL1 gg gz
      have HC : Hid (decide (ls2 = ls) = true ∨ (decide (ls2 = ls) = false ∧ jRecs sD = ls ++ [rec])) := by
        rcases hcr with h | h
        · exact .inl (decide_eq_true h)
        · refine .inr ⟨decide_eq_false ?_, by rw [HLS2.out, h]⟩
          intro h2
          rw [h] at h2
          have := congrArg List.length h2
          simp at this
      clear hcr
      by_cases he0 : ea = 0
      · have te : (ea != 0) = false := by rw [he0]; rfl
        replace HAF := HAF.out he0
        have HAFh := Lib.hid HAF
        clear he0
        rcases HC.out with hcr | hcr
        · skip
          clear HAF
          have HCR := Lib.hid hcr
          clear hcr HC
          go_wp2_with fail
          refine (recs_int KZ.out HLS2.out HEN2.out).mono ?_
          rintro e v1 ⟨M1, m1, o1, rfl, hM1, p1⟩
          have HM1 := Lib.hid hM1
          have hm1 : m1 ≤ 65536 := by rw [← hM1.1]; exact HSL.out
          clear hM1
          replace b0 := p1.cell b0
          replace b1 := p1.cell b1
          replace HD2 := Lib.hid (HD2.out.grew p1)
          replace HO2 := Lib.hid (HO2.out.grew p1)
          replace HL2 := Lib.hid (HL2.out.grew p1)
          replace KZ := Lib.hid (KZ.out.grew p1)
          replace gw := gw.trans p1
          clear p1
          go_wp2_with fail
          refine (sameAll_any _ _ _ _ _ _ _ _ _ HM1.out HL2.out).mono ?_
          rw [HCR.out]
          rintro e v2 ⟨rfl, p2⟩
          replace b0 := p2.cell b0
          replace b1 := p2.cell b1
          replace HD2 := Lib.hid (HD2.out.grew p2)
          replace HO2 := Lib.hid (HO2.out.grew p2)
          replace HL2 := Lib.hid (HL2.out.grew p2)
          replace KZ := Lib.hid (KZ.out.grew p2)
          replace HM1 := Lib.hid (HM1.out.grew p2)
          replace gw := gw.trans p2
          clear p2
          go_wp2_with fail
          refine (append_val KZ.out HO2.out HAD.out HEA.out).mono ?_
          rintro e v4 ⟨N1, o2, o3, N2, o4, o5, rfl, fr4, p4⟩
          have KA := Lib.hid fr4.now
          clear fr4
          replace b0 := p4.cell b0
          replace b1 := p4.cell b1
          replace HD2 := Lib.hid (HD2.out.grew p4)
          replace HO2 := Lib.hid (HO2.out.grew p4)
          replace HL2 := Lib.hid (HL2.out.grew p4)
          replace KZ := Lib.hid (KZ.out.grew p4)
          replace HM1 := Lib.hid (HM1.out.grew p4)
          replace gw := gw.trans p4
          clear p4
          go_wp2_with fail
          have ga4 : Grew v4 (v4.alloc (.cells #[.slice N1 o2 o3, .slice N2 o4 o5] 25)) := (Grew.refl _).alloc _
          refine (appended_true (KA.out.grew ga4) (HM1.out.grew ga4) (HO2.out.grew ga4) HAFh.out hm1).mono ?_
          rintro e v5 ⟨rfl, p5⟩
          go_wp2_with fail
          go_ret
          exact ⟨rfl, (gw.trans ga4).trans p5⟩
        · skip
          clear HAF
          have HCR := Lib.hid hcr
          clear hcr HC
          go_wp2_with fail
          refine (recs_int KZ.out HLS2.out HEN2.out).mono ?_
          rintro e v1 ⟨M1, m1, o1, rfl, hM1, p1⟩
          have HM1 := Lib.hid hM1
          have hm1 : m1 ≤ 65536 := by rw [← hM1.1]; exact HSL.out
          clear hM1
          replace b0 := p1.cell b0
          replace b1 := p1.cell b1
          replace HD2 := Lib.hid (HD2.out.grew p1)
          replace HO2 := Lib.hid (HO2.out.grew p1)
          replace HL2 := Lib.hid (HL2.out.grew p1)
          replace KZ := Lib.hid (KZ.out.grew p1)
          replace gw := gw.trans p1
          clear p1
          go_wp2_with fail
          refine (sameAll_any _ _ _ _ _ _ _ _ _ HM1.out HL2.out).mono ?_
          rw [HCR.out.1]
          rintro e v2 ⟨rfl, p2⟩
          replace b0 := p2.cell b0
          replace b1 := p2.cell b1
          replace HD2 := Lib.hid (HD2.out.grew p2)
          replace HO2 := Lib.hid (HO2.out.grew p2)
          replace HL2 := Lib.hid (HL2.out.grew p2)
          replace KZ := Lib.hid (KZ.out.grew p2)
          replace HM1 := Lib.hid (HM1.out.grew p2)
          replace gw := gw.trans p2
          clear p2
          go_wp2_with fail
          refine (appended_true KZ.out HL2.out HD2.out HCR.out.2 hl2).mono ?_
          rintro e v3 ⟨rfl, p3⟩
          replace b0 := p3.cell b0
          replace b1 := p3.cell b1
          replace HD2 := Lib.hid (HD2.out.grew p3)
          replace HO2 := Lib.hid (HO2.out.grew p3)
          replace HL2 := Lib.hid (HL2.out.grew p3)
          replace KZ := Lib.hid (KZ.out.grew p3)
          replace HM1 := Lib.hid (HM1.out.grew p3)
          replace gw := gw.trans p3
          clear p3
          go_wp2_with fail
          refine (append_val KZ.out HO2.out HAD.out HEA.out).mono ?_
          rintro e v4 ⟨N1, o2, o3, N2, o4, o5, rfl, fr4, p4⟩
          have KA := Lib.hid fr4.now
          clear fr4
          replace b0 := p4.cell b0
          replace b1 := p4.cell b1
          replace HD2 := Lib.hid (HD2.out.grew p4)
          replace HO2 := Lib.hid (HO2.out.grew p4)
          replace HL2 := Lib.hid (HL2.out.grew p4)
          replace KZ := Lib.hid (KZ.out.grew p4)
          replace HM1 := Lib.hid (HM1.out.grew p4)
          replace gw := gw.trans p4
          clear p4
          go_wp2_with fail
          have ga4 : Grew v4 (v4.alloc (.cells #[.slice N1 o2 o3, .slice N2 o4 o5] 25)) := (Grew.refl _).alloc _
          refine (appended_true (KA.out.grew ga4) (HM1.out.grew ga4) (HO2.out.grew ga4) HAFh.out hm1).mono ?_
          rintro e v5 ⟨rfl, p5⟩
          go_wp2_with fail
          go_ret
          exact ⟨rfl, (gw.trans ga4).trans p5⟩
      · have te : (ea != 0) = true := by rw [bne_iff_ne]; exact he0
        clear he0
        rcases HC.out with hcr | hcr
        · skip
          have HCR := Lib.hid hcr
          clear hcr HC
          go_wp2_with fail
          refine (recs_int KZ.out HLS2.out HEN2.out).mono ?_
          rintro e v1 ⟨M1, m1, o1, rfl, hM1, p1⟩
          have HM1 := Lib.hid hM1
          have hm1 : m1 ≤ 65536 := by rw [← hM1.1]; exact HSL.out
          clear hM1
          replace b0 := p1.cell b0
          replace b1 := p1.cell b1
          replace HD2 := Lib.hid (HD2.out.grew p1)
          replace HO2 := Lib.hid (HO2.out.grew p1)
          replace HL2 := Lib.hid (HL2.out.grew p1)
          replace KZ := Lib.hid (KZ.out.grew p1)
          replace gw := gw.trans p1
          clear p1
          go_wp2_with fail
          refine (sameAll_any _ _ _ _ _ _ _ _ _ HM1.out HL2.out).mono ?_
          rw [HCR.out]
          rintro e v2 ⟨rfl, p2⟩
          replace b0 := p2.cell b0
          replace b1 := p2.cell b1
          replace HD2 := Lib.hid (HD2.out.grew p2)
          replace HO2 := Lib.hid (HO2.out.grew p2)
          replace HL2 := Lib.hid (HL2.out.grew p2)
          replace KZ := Lib.hid (KZ.out.grew p2)
          replace HM1 := Lib.hid (HM1.out.grew p2)
          replace gw := gw.trans p2
          clear p2
          go_wp2_with fail
          refine (append_val KZ.out HO2.out HAD.out HEA.out).mono ?_
          rintro e v4 ⟨N1, o2, o3, N2, o4, o5, rfl, fr4, p4⟩
          have KA := Lib.hid fr4.now
          clear fr4
          replace b0 := p4.cell b0
          replace b1 := p4.cell b1
          replace HD2 := Lib.hid (HD2.out.grew p4)
          replace HO2 := Lib.hid (HO2.out.grew p4)
          replace HL2 := Lib.hid (HL2.out.grew p4)
          replace KZ := Lib.hid (KZ.out.grew p4)
          replace HM1 := Lib.hid (HM1.out.grew p4)
          replace gw := gw.trans p4
          clear p4
          go_wp2_with fail
          go_ret
          exact ⟨rfl, gw.alloc _⟩
        · skip
          have HCR := Lib.hid hcr
          clear hcr HC
          go_wp2_with fail
          refine (recs_int KZ.out HLS2.out HEN2.out).mono ?_
          rintro e v1 ⟨M1, m1, o1, rfl, hM1, p1⟩
          have HM1 := Lib.hid hM1
          have hm1 : m1 ≤ 65536 := by rw [← hM1.1]; exact HSL.out
          clear hM1
          replace b0 := p1.cell b0
          replace b1 := p1.cell b1
          replace HD2 := Lib.hid (HD2.out.grew p1)
          replace HO2 := Lib.hid (HO2.out.grew p1)
          replace HL2 := Lib.hid (HL2.out.grew p1)
          replace KZ := Lib.hid (KZ.out.grew p1)
          replace gw := gw.trans p1
          clear p1
          go_wp2_with fail
          refine (sameAll_any _ _ _ _ _ _ _ _ _ HM1.out HL2.out).mono ?_
          rw [HCR.out.1]
          rintro e v2 ⟨rfl, p2⟩
          replace b0 := p2.cell b0
          replace b1 := p2.cell b1
          replace HD2 := Lib.hid (HD2.out.grew p2)
          replace HO2 := Lib.hid (HO2.out.grew p2)
          replace HL2 := Lib.hid (HL2.out.grew p2)
          replace KZ := Lib.hid (KZ.out.grew p2)
          replace HM1 := Lib.hid (HM1.out.grew p2)
          replace gw := gw.trans p2
          clear p2
          go_wp2_with fail
          refine (appended_true KZ.out HL2.out HD2.out HCR.out.2 hl2).mono ?_
          rintro e v3 ⟨rfl, p3⟩
          replace b0 := p3.cell b0
          replace b1 := p3.cell b1
          replace HD2 := Lib.hid (HD2.out.grew p3)
          replace HO2 := Lib.hid (HO2.out.grew p3)
          replace HL2 := Lib.hid (HL2.out.grew p3)
          replace KZ := Lib.hid (KZ.out.grew p3)
          replace HM1 := Lib.hid (HM1.out.grew p3)
          replace gw := gw.trans p3
          clear p3
          go_wp2_with fail
          refine (append_val KZ.out HO2.out HAD.out HEA.out).mono ?_
          rintro e v4 ⟨N1, o2, o3, N2, o4, o5, rfl, fr4, p4⟩
          have KA := Lib.hid fr4.now
          clear fr4
          replace b0 := p4.cell b0
          replace b1 := p4.cell b1
          replace HD2 := Lib.hid (HD2.out.grew p4)
          replace HO2 := Lib.hid (HO2.out.grew p4)
          replace HL2 := Lib.hid (HL2.out.grew p4)
          replace KZ := Lib.hid (KZ.out.grew p4)
          replace HM1 := Lib.hid (HM1.out.grew p4)
          replace gw := gw.trans p4
          clear p4
          go_wp2_with fail
          go_ret
          exact ⟨rfl, gw.alloc _⟩

theorem jcr_true (v : Value) (d : Ds) (A3 : Option Addr) (n3 c3 : Nat) (rec : List UInt8) (A4 : Option Addr) (n4 c4 : Nat) (oth : List UInt8) (a b : Int) (w : World) (h : Disk w v d) (hD : Bytes w A3 n3 c3 rec) (hO : Bytes w A4 n4 c4 oth) (hmo : Modest d) (a0 : 0 ≤ a) (a1 : a ≤ 255) (b0 : 0 ≤ b) (b1 : b ≤ 65535) :
    Calls Try.prog 15 #[v, .slice A3 n3 c3, .slice A4 n4 c4, .int .u8 a, .int .u16 b] w fun e w' => e = .returned (.bool true) ∧ Grew w w' := by
  obtain ⟨A, n, c, A', n', c', rfl, hB, _⟩ := h.form
  cases hs : jsmallB d with
  | false => exact jcr_s1 A n c A' n' c' d A3 n3 c3 A4 n4 c4 a b w h hmo hs
  | true =>
    cases hv : validB d with
    | false => exact jcr_s2 A n c A' n' c' d A3 n3 c3 A4 n4 c4 a b w h hmo hs hv
    | true =>
      by_cases hn : n3 = 0
      · exact jcr_s3 A n c A' n' c' d A3 n3 c3 A4 n4 c4 a b w h hmo hs hv hn
      · by_cases hp : 4096 < n3
        · exact jcr_s4 A n c A' n' c' d A3 n3 c3 A4 n4 c4 a b w h hmo hs hv hp
        · by_cases he : n < jEnd d + (13 + n3)
          · exact jcr_s5 A n c A' n' c' d A3 n3 c3 A4 n4 c4 a b w h hmo hs hv (by omega) (by omega) he
          · refine jcr_main A n c A' n' c' d A3 n3 c3 rec A4 n4 c4 oth a b w h hD hO hmo a0 a1 b0 b1 hs hv (by omega) ?_
            unfold fitsB
            rw [hD.1, hB.1, decide_eq_true (by omega), decide_eq_true (by omega)]; rfl
end Go.Proofs.Ytneipacdpojjkaa
