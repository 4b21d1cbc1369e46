/-
  The law JournalDamage, walked.
-/
import Derived.Test.YtneipacdpojjkaaJlawC
import Derived.Test.YtneipacdpojjkaaApnd
namespace Go.Proofs.Ytneipacdpojjkaa
open Go.RowKit Go.Proofs WageMem WageDisk

/-- Where the first k records end. -/
def endSum (ls : List (List UInt8)) (k : Nat) : Nat := ((ls.take k).map fun r => 13 + r.length).sum
theorem endSum_succ {ls : List (List UInt8)} {k : Nat} {r : List UInt8} (h : ls[k]? = some r) : endSum ls (k + 1) = endSum ls k + (13 + r.length) := by
  unfold endSum; rw [List.take_add_one, h]; simp
theorem _root_.WageMem.Bytes.take_ {w : World} {A : Option Addr} {n c : Nat} {bs : List UInt8} (h : Bytes w A n c bs) {m : Nat} (hm : m ≤ n) : Bytes w A m c (bs.take m) := by
  refine ⟨by rw [List.length_take, h.1]; omega, Nat.le_trans hm h.2.1, h.2.2.1, by rw [List.length_map, List.length_take, h.1]; omega, ?_, fun hA => ⟨by have := (h.2.2.2.2.2 hA).1; omega, (h.2.2.2.2.2 hA).2⟩⟩
  rw [List.map_take]
  exact cells_take h.2.2.2.2.1 m

theorem sum_places {b : List UInt8} (k : Nat) : endSum (recsOf b) k = (((places b).take k).map fun y => 13 + y.2).sum := by
  unfold endSum recsOf
  rw [← List.map_take, List.map_map]
  congr 1
  refine List.map_congr_left fun x hx => ?_
  have := scan_in b _ _ _ x (List.mem_of_mem_take hx)
  show 13 + (partOf b x).length = 13 + x.2
  unfold partOf
  rw [List.length_take, List.length_drop]; omega

/-- What a write leaves of the records before it. -/
theorem damage_plain {d : Ds} {off : Nat} {data : List UInt8} (hv : validB d = true) (hp : d.pe.length < 64) (hf : off + data.length ≤ d.st.length) :
    writeD d off data = ⟨d.st, d.pe ++ [⟨off, data⟩]⟩ ∧ writeE d off data = 0 ∧
    ∀ k r, (jRecs d)[k]? = some r → endSum (jRecs d) (k + 1) ≤ d.st.length ∧ (endSum (jRecs d) (k + 1) ≤ off → (jRecs ⟨d.st, d.pe ++ [⟨off, data⟩]⟩)[k]? = some r) := by
  have hi : insideB (off : Int) data.length d.st.length = true := decide_eq_true ⟨by omega, by omega, by omega, by omega⟩
  have ho : writeOk d (off : Int) data = true := by unfold writeOk; rw [hv, hi]; rfl
  have hw := write_valid ho hp
  have hb := bytesD_len hv
  have hbx : bytesD ⟨d.st, d.pe ++ [⟨off, data⟩]⟩ = over (bytesD d) off data := apply_write d off data
  have hA : AgreeTo (bytesD d) (bytesD ⟨d.st, d.pe ++ [⟨off, data⟩]⟩) off := by
    rw [hbx]
    exact ⟨(over_length (by omega)).symm, fun i hi => (over_out (by omega) (by omega)).symm⟩
  have e1 : jRecs d = recsOf (bytesD d) := by unfold jRecs; rw [hv, if_pos rfl]
  have e2 : jRecs ⟨d.st, d.pe ++ [⟨off, data⟩]⟩ = recsOf (bytesD ⟨d.st, d.pe ++ [⟨off, data⟩]⟩) := by unfold jRecs; rw [hw, if_pos rfl]
  refine ⟨by unfold writeD; rw [ho, decide_eq_true hp]; rfl, by unfold writeE; rw [if_pos ho, if_pos hp], fun k r hr => ?_⟩
  rw [e1] at hr ⊢
  rw [e2]
  generalize bytesD ⟨d.st, d.pe ++ [⟨off, data⟩]⟩ = b2 at *
  have hr' := hr
  unfold recsOf at hr'
  rw [List.getElem?_map] at hr'
  cases hx : (places (bytesD d))[k]? with
  | none => rw [hx] at hr'; cases hr'
  | some x =>
    rw [hx] at hr'
    injection hr' with hr'
    have hs := sum_places (b := bytesD d) (k + 1)
    have hc := chain_begin (places_full (bytesD d)).1 k x hx
    rw [Nat.zero_add, ← hs] at hc
    have hin := scan_in (bytesD d) _ _ _ x (List.mem_of_getElem? hx)
    refine ⟨by omega, fun hle => ?_⟩
    obtain ⟨h1, h2⟩ := recs_agree hA hx (by omega)
    unfold recsOf
    rw [List.getElem?_map, h1, ← hr', ← h2]; rfl

set_option maxRecDepth 100000 in
set_option maxHeartbeats 16000000 in
theorem jdam_s1 (A : Option Addr) (n c : Nat) (A' : Option Addr) (n' c' : Nat) (d : Ds) (a : Int) (A3 : Option Addr) (n3 c3 : Nat) (w : World) (h : Disk w (.agg #[.slice A n c, .slice A' n' c']) d) (hmo : Modest d) (hsm : jsmallB d = false) :
    Calls Try.prog 12 #[.agg #[.slice A n c, .slice A' n' c'], .int .u16 a, .slice A3 n3 c3] w fun e w' => e = .returned (.bool true) ∧ Grew w w' := by
  have gg : Grew w (w.alloc (.cells #[.slice A n c, .slice A' n' c'] 25)) := (Grew.refl w).alloc _
  have HH := Lib.hid h
  have HMO := Lib.hid hmo
  have HS := Lib.hid hsm
  clear h hmo hsm
  go_enter Try.func12, Try.ntmps12
  go_wp2_with fail
  refine (jhead_true _).mono ?_
  rintro e w1 ⟨rfl, g1⟩
  have d0 : w1.cell? ⟨w.heap.size, 0, none⟩ = some (.slice A n c) := g1.cell (by simp)
  have d1 : w1.cell? ⟨w.heap.size, 1, none⟩ = some (.slice A' n' c') := g1.cell (by simp)
  replace gg := gg.trans g1
  replace HH := Lib.hid (HH.out.grew gg)
  clear g1
  go_wp2_with fail
  refine (jsmall_any _ d _ HH.out HMO.out).mono ?_
  rw [HS.out]
  rintro e w2 ⟨rfl, g2⟩
  replace d0 := g2.cell d0
  replace d1 := g2.cell d1
  replace HH := Lib.hid (HH.out.grew g2)
  replace gg := gg.trans g2
  clear g2
  go_wp2_with fail
  go_ret
  exact ⟨rfl, gg⟩

set_option maxRecDepth 100000 in
set_option maxHeartbeats 16000000 in
theorem jdam_s2 (A : Option Addr) (n c : Nat) (A' : Option Addr) (n' c' : Nat) (d : Ds) (a : Int) (A3 : Option Addr) (n3 c3 : Nat) (w : World) (h : Disk w (.agg #[.slice A n c, .slice A' n' c']) d) (hmo : Modest d) (hsm : jsmallB d = true) (hv : validB d = false) :
    Calls Try.prog 12 #[.agg #[.slice A n c, .slice A' n' c'], .int .u16 a, .slice A3 n3 c3] w fun e w' => e = .returned (.bool true) ∧ Grew w w' := by
  have gg : Grew w (w.alloc (.cells #[.slice A n c, .slice A' n' c'] 25)) := (Grew.refl w).alloc _
  have HH := Lib.hid h
  have HMO := Lib.hid hmo
  have HS := Lib.hid hsm
  have HV := Lib.hid hv
  clear h hmo hsm hv
  go_enter Try.func12, Try.ntmps12
  go_wp2_with fail
  refine (jhead_true _).mono ?_
  rintro e w1 ⟨rfl, g1⟩
  have d0 : w1.cell? ⟨w.heap.size, 0, none⟩ = some (.slice A n c) := g1.cell (by simp)
  have d1 : w1.cell? ⟨w.heap.size, 1, none⟩ = some (.slice A' n' c') := g1.cell (by simp)
  replace gg := gg.trans g1
  replace HH := Lib.hid (HH.out.grew gg)
  clear g1
  go_wp2_with fail
  refine (jsmall_any _ d _ HH.out HMO.out).mono ?_
  rw [HS.out]
  rintro e w2 ⟨rfl, g2⟩
  replace d0 := g2.cell d0
  replace d1 := g2.cell d1
  replace HH := Lib.hid (HH.out.grew g2)
  replace gg := gg.trans g2
  clear g2
  go_wp2_with fail
  refine (rvalid_any _ d _ HH.out).mono ?_
  rw [HV.out]
  rintro e w3 ⟨rfl, g3⟩
  replace d0 := g3.cell d0
  replace d1 := g3.cell d1
  replace HH := Lib.hid (HH.out.grew g3)
  replace gg := gg.trans g3
  clear g3
  go_wp2_with fail
  go_ret
  exact ⟨rfl, gg⟩

set_option maxRecDepth 100000 in
set_option maxHeartbeats 16000000 in
theorem jdam_s3 (A : Option Addr) (n c : Nat) (A' : Option Addr) (n' c' : Nat) (d : Ds) (a : Int) (A3 : Option Addr) (n3 c3 : Nat) (w : World) (h : Disk w (.agg #[.slice A n c, .slice A' n' c']) d) (hmo : Modest d) (hsm : jsmallB d = true) (hv : validB d = true) (hn : n = 0) :
    Calls Try.prog 12 #[.agg #[.slice A n c, .slice A' n' c'], .int .u16 a, .slice A3 n3 c3] w fun e w' => e = .returned (.bool true) ∧ Grew w w' := by
  have gg : Grew w (w.alloc (.cells #[.slice A n c, .slice A' n' c'] 25)) := (Grew.refl w).alloc _
  have HH := Lib.hid h
  have HMO := Lib.hid hmo
  have HS := Lib.hid hsm
  have HV := Lib.hid hv
  have t1 : ((n : Int) == 0) = true := by rw [hn]; rfl
  clear h hmo hsm hv hn
  go_enter Try.func12, Try.ntmps12
  go_wp2_with fail
  refine (jhead_true _).mono ?_
  rintro e w1 ⟨rfl, g1⟩
  have d0 : w1.cell? ⟨w.heap.size, 0, none⟩ = some (.slice A n c) := g1.cell (by simp)
  have d1 : w1.cell? ⟨w.heap.size, 1, none⟩ = some (.slice A' n' c') := g1.cell (by simp)
  replace gg := gg.trans g1
  replace HH := Lib.hid (HH.out.grew gg)
  clear g1
  go_wp2_with fail
  refine (jsmall_any _ d _ HH.out HMO.out).mono ?_
  rw [HS.out]
  rintro e w2 ⟨rfl, g2⟩
  replace d0 := g2.cell d0
  replace d1 := g2.cell d1
  replace HH := Lib.hid (HH.out.grew g2)
  replace gg := gg.trans g2
  clear g2
  go_wp2_with fail
  refine (rvalid_any _ d _ HH.out).mono ?_
  rw [HV.out]
  rintro e w3 ⟨rfl, g3⟩
  replace d0 := g3.cell d0
  replace d1 := g3.cell d1
  replace HH := Lib.hid (HH.out.grew g3)
  replace gg := gg.trans g3
  clear g3
  go_wp2_with fail
  go_ret
  exact ⟨rfl, gg⟩

set_option maxRecDepth 100000 in
set_option maxHeartbeats 16000000 in
theorem jdam_s4 (A : Option Addr) (n c : Nat) (A' : Option Addr) (n' c' : Nat) (d : Ds) (a : Int) (A3 : Option Addr) (n3 c3 : Nat) (w : World) (h : Disk w (.agg #[.slice A n c, .slice A' n' c']) d) (hmo : Modest d) (hsm : jsmallB d = true) (hv : validB d = true) (hn : 0 < n) (hp : 64 ≤ n') :
    Calls Try.prog 12 #[.agg #[.slice A n c, .slice A' n' c'], .int .u16 a, .slice A3 n3 c3] w fun e w' => e = .returned (.bool true) ∧ Grew w w' := by
  have gg : Grew w (w.alloc (.cells #[.slice A n c, .slice A' n' c'] 25)) := (Grew.refl w).alloc _
  have HH := Lib.hid h
  have HMO := Lib.hid hmo
  have HS := Lib.hid hsm
  have HV := Lib.hid hv
  have t1 : ((n : Int) == 0) = false := beq_eq_false_iff_ne.2 (by omega)
  have t2 : decide (64 ≤ (n' : Int)) = true := decide_eq_true (by omega)
  clear h hmo hsm hv hn hp
  go_enter Try.func12, Try.ntmps12
  go_wp2_with fail
  refine (jhead_true _).mono ?_
  rintro e w1 ⟨rfl, g1⟩
  have d0 : w1.cell? ⟨w.heap.size, 0, none⟩ = some (.slice A n c) := g1.cell (by simp)
  have d1 : w1.cell? ⟨w.heap.size, 1, none⟩ = some (.slice A' n' c') := g1.cell (by simp)
  replace gg := gg.trans g1
  replace HH := Lib.hid (HH.out.grew gg)
  clear g1
  go_wp2_with fail
  refine (jsmall_any _ d _ HH.out HMO.out).mono ?_
  rw [HS.out]
  rintro e w2 ⟨rfl, g2⟩
  replace d0 := g2.cell d0
  replace d1 := g2.cell d1
  replace HH := Lib.hid (HH.out.grew g2)
  replace gg := gg.trans g2
  clear g2
  go_wp2_with fail
  refine (rvalid_any _ d _ HH.out).mono ?_
  rw [HV.out]
  rintro e w3 ⟨rfl, g3⟩
  replace d0 := g3.cell d0
  replace d1 := g3.cell d1
  replace HH := Lib.hid (HH.out.grew g3)
  replace gg := gg.trans g3
  clear g3
  go_wp2_with fail
  go_ret
  exact ⟨rfl, gg⟩

set_option maxRecDepth 100000 in
set_option maxHeartbeats 16000000 in
theorem jdam_main (A : Option Addr) (n c : Nat) (A' : Option Addr) (n' c' : Nat) (d : Ds) (a : Int) (A3 : Option Addr) (n3 c3 : Nat) (data : List UInt8) (w : World) (h : Disk w (.agg #[.slice A n c, .slice A' n' c']) d) (hD : Bytes w A3 n3 c3 data) (hmo : Modest d) (a0 : 0 ≤ a) (a1 : a ≤ 65535) (hsm : jsmallB d = true) (hv : validB d = true) (hn : 0 < n) (hp : n' < 64) :
    Calls Try.prog 12 #[.agg #[.slice A n c, .slice A' n' c'], .int .u16 a, .slice A3 n3 c3] w fun e w' => e = .returned (.bool true) ∧ Grew w w' := by
  have gg : Grew w (w.alloc (.cells #[.slice A n c, .slice A' n' c'] 25)) := (Grew.refl w).alloc _
  have HH := Lib.hid h
  have HMO := Lib.hid hmo
  have HS := Lib.hid hsm
  have HV := Lib.hid hv
  have HD := Lib.hid hD
  have hst := h.parts.1.1
  have hpe := h.parts.2.1
  have hn6 := (valid_size hv).1
  have hn3 : n3 ≤ 9223372036854775807 := Nat.le_trans hD.2.1 hD.2.2.1
  have t1 : ((n : Int) == 0) = false := beq_eq_false_iff_ne.2 (by omega)
  have t2 : decide (64 ≤ (n' : Int)) = false := decide_eq_false (by omega)
  obtain ⟨off, hoff⟩ : ∃ off : Nat, a % (n : Int) = (off : Int) := ⟨(a % (n : Int)).toNat, by have := Int.emod_nonneg a (show (n : Int) ≠ 0 by omega); omega⟩
  have hlt : off < n := by have := Int.emod_lt_of_pos a (show (0 : Int) < n by omega); omega
  have hc3 : n3 ≤ c3 := hD.2.1
  obtain ⟨m, hm, hcs⟩ : ∃ m : Nat, (m ≤ n3 ∧ m ≤ n - off) ∧ ((m = n3 ∧ (n3 : Int) ≤ (n : Int) - off) ∨ (m = n - off ∧ (n : Int) - off < n3 ∧ (off ≤ n ∧ (n : Int) - off ≤ c3))) := by
    by_cases q : n3 ≤ n - off
    · exact ⟨n3, by omega, .inl ⟨rfl, by omega⟩⟩
    · exact ⟨n - off, by omega, .inr ⟨rfl, by omega, by omega, by omega⟩⟩
  obtain ⟨p1, p2, p3⟩ := damage_plain (d := d) (off := off) (data := data.take m) hv (by omega) (by rw [List.length_take, hD.1]; omega)
  obtain ⟨ls, hls⟩ : ∃ ls, jRecs d = ls := ⟨_, rfl⟩
  obtain ⟨ks, hks⟩ : ∃ ks, jRecs ⟨d.st, d.pe ++ [⟨off, data.take m⟩]⟩ = ks := ⟨_, rfl⟩
  rw [hls, hks] at p3
  obtain ⟨en, hen⟩ : ∃ en : Int, (jEnd d : Int) = en := ⟨_, rfl⟩
  obtain ⟨en', hen'⟩ : ∃ en : Int, (jEnd ⟨d.st, d.pe ++ [⟨off, data.take m⟩]⟩ : Int) = en := ⟨_, rfl⟩
  rw [hst] at p3 hn6
  have P1 := Lib.hid p1
  have P2 := Lib.hid p2
  have P3 := Lib.hid p3
  have HLS := Lib.hid hls
  have HKS := Lib.hid hks
  have HEN := Lib.hid hen
  have HEN' := Lib.hid hen'
  have HB := Lib.hid (hD.take_ hm.1)
  clear h hmo hsm hv hD p1 p2 p3 hls hks hen hen' hst hpe HD hm
  rcases hcs with ⟨rfl, q1⟩ | ⟨rfl, q1, q2⟩
  all_goals
    go_enter Try.func12, Try.ntmps12
    go_wp2_with fail
    refine (jhead_true _).mono ?_
    rintro e w1 ⟨rfl, g1⟩
    have d0 : w1.cell? ⟨w.heap.size, 0, none⟩ = some (.slice A n c) := g1.cell (by simp)
    have d1 : w1.cell? ⟨w.heap.size, 1, none⟩ = some (.slice A' n' c') := g1.cell (by simp)
    replace gg := gg.trans g1
    replace HH := Lib.hid (HH.out.grew gg)
    clear g1
    go_wp2_with fail
    refine (jsmall_any _ d _ HH.out HMO.out).mono ?_
    rw [HS.out]
    rintro e w2 ⟨rfl, g2⟩
    replace d0 := g2.cell d0
    replace d1 := g2.cell d1
    replace HH := Lib.hid (HH.out.grew g2)
    replace gg := gg.trans g2
    clear g2
    replace HB := Lib.hid (HB.out.grew gg)
    go_wp2_with fail
    refine (rvalid_any _ d _ HH.out).mono ?_
    rw [HV.out]
    rintro e w3 ⟨rfl, g3⟩
    replace d0 := g3.cell d0
    replace d1 := g3.cell d1
    replace HH := Lib.hid (HH.out.grew g3)
    replace HB := Lib.hid (HB.out.grew g3)
    replace gg := gg.trans g3
    clear g3
    go_wp2_with fail
    refine (write_val HH.out HB.out (by omega) (by omega) P1.out P2.out).mono ?_
    rintro e w4 ⟨B4, m4, f4, C4, p4, q4, rfl, fr4, g4⟩
    replace d0 := g4.cell d0
    replace d1 := g4.cell d1
    replace HH := Lib.hid (HH.out.grew g4)
    replace HB := Lib.hid (HB.out.grew g4)
    replace gg := gg.trans g4
    clear g4
    have sz4 : w.heap.size < w4.heap.size := World.block_lt_of_cell? _ _ d0
    go_wp2_with fail
    obtain ⟨x4, hx4⟩ : ∃ x, x = w4.alloc (.cells #[.slice B4 m4 f4, .slice C4 p4 q4] 25) := ⟨_, rfl⟩
    have ga4 : Grew w4 x4 := by rw [hx4]; exact (Grew.refl _).alloc _
    have b40 : x4.cell? ⟨w4.heap.size, 0, none⟩ = some (.slice B4 m4 f4) := by rw [hx4]; simp
    have b41 : x4.cell? ⟨w4.heap.size, 1, none⟩ = some (.slice C4 p4 q4) := by rw [hx4]; simp
    have K4 := Lib.hid (fr4.now.grew ga4)
    rw [← hx4]
    clear hx4 fr4 sz4
    replace d0 := ga4.cell d0
    replace d1 := ga4.cell d1
    replace HH := Lib.hid (HH.out.grew ga4)
    replace HB := Lib.hid (HB.out.grew ga4)
    replace gg := gg.trans ga4
    clear ga4
    refine (recs_int HH.out HLS.out HEN.out).mono ?_
    rintro e w5 ⟨L1, l1, t5, rfl, hL1, g5⟩
    have HL1 := Lib.hid hL1
    clear hL1
    replace d0 := g5.cell d0
    replace d1 := g5.cell d1
    replace b40 := g5.cell b40
    replace b41 := g5.cell b41
    replace HH := Lib.hid (HH.out.grew g5)
    replace HB := Lib.hid (HB.out.grew g5)
    replace K4 := Lib.hid (K4.out.grew g5)
    replace gg := gg.trans g5
    clear g5
    go_wp2_with fail
    refine (recs_int K4.out HKS.out HEN'.out).mono ?_
    rintro e w6 ⟨L2, l2, t6, rfl, hL2, g6⟩
    have HL2 := Lib.hid hL2
    clear hL2
    replace d0 := g6.cell d0
    replace d1 := g6.cell d1
    replace b40 := g6.cell b40
    replace b41 := g6.cell b41
    replace HH := Lib.hid (HH.out.grew g6)
    replace HB := Lib.hid (HB.out.grew g6)
    replace K4 := Lib.hid (K4.out.grew g6)
    replace HL1 := Lib.hid (HL1.out.grew g6)
    replace gg := gg.trans g6
    clear g6
    have hl1 : l1 ≤ 9223372036854775807 := Nat.le_trans HL1.out.2.1 HL1.out.2.2.1
    go_wp2_with fail
    go_loopw [15, 77] (fun v i wr => ∃ k : Nat, k ≤ l1 ∧ i = .int .i64 k ∧ v = .int .i64 (endSum ls k : Nat) ∧ Grew w6 wr) (fun _ i _ => l1 - (intOf i).toNat)
    case atStart => exact ⟨0, Nat.zero_le _, rfl, rfl, Grew.refl _⟩
    case round =>
      obtain ⟨k, hk, rfl, rfl, hg⟩ := hrel
      by_cases hlt2 : k < l1
      · obtain ⟨b, o, r, Ax, nx, cx, rfl, hr, c1, hbx⟩ := lists_at (HL1.out.grew hg) hlt2
        obtain ⟨u1, u2⟩ := P3.out k r hr
        have u3 := endSum_succ hr
        rw [hbx.1] at u3
        obtain ⟨es, hes⟩ : ∃ es, endSum ls k = es := ⟨_, rfl⟩
        obtain ⟨es', hes'⟩ : ∃ es, endSum ls (k + 1) = es := ⟨_, rfl⟩
        rw [hes']  at u1 u2 u3
        rw [hes] at u3
        have HES := Lib.hid hes
        have HES' := Lib.hid hes'
        rw [hes]
        clear hes hes'
        by_cases hle : es' ≤ off
        · have hr2 := u2 hle
          have hk2 : k < l2 := by rw [← HL2.out.1]; exact (List.getElem?_eq_some_iff.1 hr2).1
          obtain ⟨b', o', r', Ay, ny, cy, rfl, hr', c2, hby⟩ := lists_at (HL2.out.grew hg) hk2
          obtain rfl : r' = r := by rw [hr2] at hr'; injection hr' with hr'; exact hr'.symm
          have HBX := Lib.hid hbx
          have HBY := Lib.hid hby
          have v1 : decide ((es : Int) + (13 + (nx : Int)) ≤ (off : Int)) = true := decide_eq_true (by omega)
          have v2 : decide (l2 ≤ k) = false := decide_eq_false (by omega)
          have nxb : nx ≤ 70000 := by omega
          have esb : es ≤ 70000 := by omega
          have i0 : (0 : Int) ≤ (k : Int) := by omega
          have i1 : (k : Int) < (l2 : Int) := by omega
          have HU := Lib.hid u3
          clear hr hr2 hr' hbx hby u2 u3
          go_wp2_with fail
          refine (jsame_ok HBY.out HBX.out rfl).mono ?_
          rintro e w7 ⟨rfl, g7⟩
          go_wp2_with fail
          go_roundw
          case rel => exact ⟨k + 1, by omega, by go_num, by rw [HES'.out, HU.out]; go_num, hg.trans g7⟩
          case measure => simp [intOf]; omega
        · have v1 : decide ((es : Int) + (13 + (nx : Int)) ≤ (off : Int)) = false := decide_eq_false (by omega)
          have nxb : nx ≤ 70000 := by omega
          have esb : es ≤ 70000 := by omega
          have HU := Lib.hid u3
          clear hr hbx u2 u3
          go_wp2_with fail
          go_roundw
          case rel => exact ⟨k + 1, by omega, by go_num, by rw [HES'.out, HU.out]; go_num, hg⟩
          case measure => simp [intOf]; omega
      · go_wp2_with fail
        go_ret
        exact ⟨rfl, gg.trans hg⟩

theorem jdam_true (v : Value) (d : Ds) (a : Int) (A3 : Option Addr) (n3 c3 : Nat) (data : List UInt8) (w : World) (h : Disk w v d) (hD : Bytes w A3 n3 c3 data) (hmo : Modest d) (a0 : 0 ≤ a) (a1 : a ≤ 65535) :
    Calls Try.prog 12 #[v, .int .u16 a, .slice A3 n3 c3] w fun e w' => e = .returned (.bool true) ∧ Grew w w' := by
  obtain ⟨A, n, c, A', n', c', rfl, _, _⟩ := h.form
  cases hs : jsmallB d with
  | false => exact jdam_s1 A n c A' n' c' d a A3 n3 c3 w h hmo hs
  | true =>
    cases hv : validB d with
    | false => exact jdam_s2 A n c A' n' c' d a A3 n3 c3 w h hmo hs hv
    | true =>
      by_cases hn : n = 0
      · exact jdam_s3 A n c A' n' c' d a A3 n3 c3 w h hmo hs hv hn
      · by_cases hp : n' < 64
        · exact jdam_main A n c A' n' c' d a A3 n3 c3 data w h hD hmo a0 a1 hs hv (by omega) hp
        · exact jdam_s4 A n c A' n' c' d a A3 n3 c3 w h hmo hs hv (by omega) (by omega)
end Go.Proofs.Ytneipacdpojjkaa
