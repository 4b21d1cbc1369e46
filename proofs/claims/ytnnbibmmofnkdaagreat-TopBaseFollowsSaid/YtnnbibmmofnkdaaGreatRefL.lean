/-
 Refutations: unit.
-/
import Derived.Test.YtnnbibmmofnkdaaGreatRefJ
import Derived.Test.YtnnbibmmofnkdaaGreatEqT
namespace Go.Proofs.YtnnbibmmofnkdaaGreat
open Go.RowKit Go.Proofs WageMem WageReg WageRec WageSpan WageTop
open WageMap
/-- A map that says of a literal whether it is in a list. -/
def TrueIs (m : List (Li × Bool)) (T : List Li) : Prop := ∀ l, (alFind l m).getD false = T.contains l
theorem TrueIs.put {m : List (Li × Bool)} {T : List Li} (h : TrueIs m T) (x : Li) : TrueIs (alPut x true m) (x :: T) := fun l => by
 by_cases hl : l = x
 ·subst hl
  rw [alFind_put_self]; simp
 ·rw [alFind_put_ne _ hl, h l, List.contains_cons]
  simp [hl]
theorem TrueIs.perm {m : List (Li × Bool)} {T U : List Li} (h : TrueIs m T) (hp : ∀ l, l ∈ T ↔ l ∈ U) : TrueIs m U := fun l => by
 rw [h l, Bool.eq_iff_iff, List.contains_iff_mem, List.contains_iff_mem, hp]
/-- The open literals of a clause. -/
def openL (T : List Li) (c : List Li) : List Li := c.filter fun l => !T.contains l.neg
theorem openL_step {T : List Li} {c : List Li} {k : Nat} {l : Li} (h : c[k]? = some l) : openL T (c.take (k + 1)) = openL T (c.take k) ++ (if T.contains l.neg then [] else [l]) := by
 unfold openL
 rw [List.take_add_one, h, Option.toList, List.filter_append]
 congr 1
 simp only [List.filter_cons, List.filter_nil]
 cases T.contains l.neg <;> rfl
def clOf (log : List Stp) (k : Int) : List Li := (log.map (·.cl)).getD k.toNat []
theorem clOf_at {log : List Stp} {k : Nat} {s : Stp} (h : log[k]? = some s) : clOf log (k : Int) = s.cl := by
 unfold clOf; rw [Int.toNat_natCast, List.getD_eq_getElem?_getD, List.getElem?_map, h]; rfl
/-- What is left of a chain behind its next step. -/
def unitN (log : List Stp) (T : List Li) (op : List Li) (ks : List Int) : Bool := match op with
 | [] => ks.isEmpty
 | x :: xs => xs.all (fun y => decide (y = x)) && unitGo log (x :: T) ks
theorem unit_step {log : List Stp} {T : List Li} {frm : List Int} {k : Nat} {x : Int} (h : frm[k]? = some x) : unitGo log T (frm.drop k) = unitN log T (openL T (clOf log x)) (frm.drop (k + 1)) := by
 rw [drop_at' h]; rfl
theorem li_eq {a b c d : Int} {x y : Bool} : eqT122 a b c d x y = decide ((⟨a, c, x⟩ : Li) = ⟨b, d, y⟩) := by
 rw [Bool.eq_iff_iff, decide_eq_true_eq, eqT122_iff]
 constructor
 ·rintro ⟨h1, h2, h3⟩; subst h1 h2 h3; rfl
 ·intro h; injection h with h1 h2 h3; exact ⟨h1, h2, h3⟩
set_option maxRecDepth 100000 in
set_option maxHeartbeats 16000000 in
theorem unit95 {w : World} {cb : Nat} {p : Pl} {M N : Pc} {ps : List Pc} {bound : Int} {LA : Option Addr} {ln lc : Nat} {log : List Stp} {kk : Nat} {q : Qs} {s : Stp} (h : CrAt w cb p M N ps bound LA ln lc log (kk : Int)) (hk : kk < ln) (hsz : ∀ s ∈ log, s.cl.length ≤ 1000) (hs : StRd w q s) :
  Calls Tryz.prog 95 #[.pointer (some ⟨cb, 0, none⟩), .agg #[pcV q.cl, .int .i64 q.ru, pcV q.fr]] w fun e w' => Judge (unitB log kk s) e ∧ Grew w w' := by
 obtain ⟨i122, hi122, hz122, hs122, hb122⟩ := info_parts info122
 obtain ⟨⟨CA, cn, cc⟩, ru, ⟨FA, fn, fc⟩⟩ := q
 obtain ⟨cl, rule, frm⟩ := s
 have HCR := Lib.hid h
 have HSZ := Lib.hid hsz
 have HCL : Hid (Recs encL 3 w CA cn cc cl) := hs.cl
 have HFR : Hid (Ints w FA fn fc frm) := hs.fr
 have HLN : Hid (cl.length = cn) := hs.cl.1
 have HFN : Hid (frm.length = fn) := hs.fr.1
 have cn9 : cn ≤ 9223372036854775807 := hs.cl.le
 have fn9 : fn ≤ 9223372036854775807 := Nat.le_trans hs.fr.2.1 hs.fr.2.2.1
 have ln9 : ln ≤ 9223372036854775807 := h.lg.le
 obtain ⟨t, ht⟩ : ∃ t, unitB log kk ⟨cl, rule, frm⟩ = t := ⟨_, rfl⟩
 rw [ht]
 have HT : Hid ((frm.all (fun j => decide (0 ≤ j ∧ j < (kk : Int))) && unitGo log (cl.map Li.neg) frm) = t) := ht
 have HKL := Lib.hid hk
 clear h hs ht hsz hk
 show Calls Tryz.prog 95 #[.pointer (some ⟨cb, 0, none⟩), .agg #[.slice CA cn cc, .int .i64 ru, .slice FA fn fc]] w _
 obtain ⟨w1, hw1⟩ : ∃ y, y = w.alloc (.cells #[.slice CA cn cc, .int .i64 ru, .slice FA fn fc] 71) := ⟨_, rfl⟩
 obtain ⟨sb, hsb⟩ : ∃ z, z = w.heap.size := ⟨_, rfl⟩
 have g1 : Grew w w1 := by rw [hw1]; exact (Grew.refl w).alloc _
 have HS1 : Hid (Blk w1 sb 71 [.slice CA cn cc, .int .i64 ru, .slice FA fn fc]) := by unfold Hid; rw [hw1, hsb]; exact Blk.new w 71 [.slice CA cn cc, .int .i64 ru, .slice FA fn fc]
 have hsz1 : w1.heap.size = sb + 1 := by rw [hw1, hsb]; simp
 obtain ⟨b1, hb1⟩ : ∃ z, z = sb + 1 := ⟨_, rfl⟩
 obtain ⟨w3, hw3⟩ : ∃ y, y = w1.alloc (.map #[] 0) := ⟨_, rfl⟩
 have g3 : Grew w1 w3 := by rw [hw3]; exact (Grew.refl w1).alloc _
 have HM3 : Hid (MapIs ekL bV w3 b1 ([] : List (Li × Bool))) := by unfold Hid; rw [hw3, hb1, ← hsz1]; exact MapIs.made w1
 have HSB : Hid (sb ≠ b1) := by unfold Hid; omega
 have HB1 : Hid (w.heap.size ≤ b1) := by unfold Hid; rw [hb1, ← hsz1]; exact g1.le
 have hmm := @run_makeMap Tryz.prog
 go_enter Tryz.func95, Tryz.ntmps95
 go_upto_region 2 with (fail)
 rw [← hw1, ← hsb, ← hw3, ← hb1]
 have HG3 := Lib.hid (g1.trans g3)
 have HS3 := Lib.hid (HS1.out.grew g3)
 clear hmm hw1 hsb hw3 hb1 hsz1 g1 g3 HS1
 have s0 : w3.cell? ⟨sb, 0, none⟩ = some (.slice CA cn cc) := HS3.out.cell rfl
 go_wp2_with fail
 clear s0
 go_loopw [20] (fun i y => ∃ (k : Nat) (m : List (Li × Bool)), k ≤ cn ∧ i = .int .i64 k ∧ Hid (MapIs ekL bV y b1 m) ∧ Hid (TrueIs m ((cl.take k).map Li.neg)) ∧ Hid (Blk y sb 71 [.slice CA cn cc, .int .i64 ru, .slice FA fn fc]) ∧ Hid (Grew w y)) (fun i _ => cn - (intOf i).toNat)
 case atStart => exact ⟨0, [], Nat.zero_le _, rfl, HM3.out, fun l => rfl, HS3.out, HG3.out⟩
 case round =>
  clear HM3 HS3 HG3
  obtain ⟨k, m, hk, rfl, HM, HTM, HS, HR⟩ := hrel
  by_cases hlt : k < cn
  ·obtain ⟨b, o, l, hA, hl, c0, c1, c2⟩ := Recs.lit (HCL.out.grew HR.out) hlt
   have HTN : Hid (TrueIs (alPut l.neg true m) ((cl.take (k + 1)).map Li.neg)) := (HTM.out.put l.neg).perm fun x => by
    rw [List.take_add_one, hl, Option.toList, List.map_append, List.mem_append, List.mem_cons]
    simp [or_comm]
   obtain ⟨l', hl'⟩ : ∃ y, y = l := ⟨_, rfl⟩
   have HLL := Lib.hid hl'
   obtain ⟨ld, lw, lis⟩ := l
   simp only at c0 c1 c2
   have e1 : (0 : Int) ≤ (k : Int) := by omega
   have e2 : (k : Int) < (cn : Int) := by omega
   subst hA
   clear hl hl' HTM
   obtain ⟨wa, hwa⟩ : ∃ y, y = wr.alloc (.cells #[.int .i64 ld, .int .i64 lw, .bool lis] 122) := ⟨_, rfl⟩
   obtain ⟨ba, hba⟩ : ∃ z, z = wr.heap.size := ⟨_, rfl⟩
   have HBA : Hid (Blk wa ba 122 [.int .i64 ld, .int .i64 lw, .bool lis]) := by unfold Hid; rw [hwa, hba]; exact Blk.new wr 122 [.int .i64 ld, .int .i64 lw, .bool lis]
   have ga : Grew wr wa := by rw [hwa]; exact (Grew.refl wr).alloc _
   go_upto_region 5 with (fail)
   rw [← hwa, ← hba]
   have HMa := Lib.hid (HM.out.grew ga)
   have HSa := Lib.hid (HS.out.grew ga)
   have HRa := Lib.hid (HR.out.trans ga)
   clear hwa hba c0 c1 c2 ga HM HS HR
   have u0 : wa.cell? ⟨ba, 0, none⟩ = some (.int .i64 ld) := HBA.out.cell rfl
   have u1 : wa.cell? ⟨ba, 1, none⟩ = some (.int .i64 lw) := HBA.out.cell rfl
   have u2 : wa.cell? ⟨ba, 2, none⟩ = some (.bool lis) := HBA.out.cell rfl
   go_wp2_with fail
   refine (negate123 ⟨ld, lw, lis⟩ _).mono ?_
   rintro r w6 ⟨rfl, g6⟩
   clear u0 u1 u2
   obtain ⟨wu, up, M2, gb⟩ := (HMa.out.grew g6).update lit_key map127 (⟨ld, lw, lis⟩ : Li).neg true
   replace up : (Instr.mapUpdate 127 (.map (some b1)) (.agg #[.int .i64 (⟨ld, lw, lis⟩ : Li).neg.d, .int .i64 (⟨ld, lw, lis⟩ : Li).neg.w, .bool (⟨ld, lw, lis⟩ : Li).neg.is]) (.bool true)).run Tryz.prog w6 = .ok () wu := up
   have HMu := Lib.hid M2
   have HSu := Lib.hid ((HSa.out.grew g6).kept gb (fun e => HSB.out (by injection e)))
   have HRu := Lib.hid ((HRa.out.trans g6).grown gb (fun q hq => by injection hq with hq; have := HB1.out; omega))
   clear M2 gb g6 HMa HSa HRa
   go_wp2_with fail
   go_roundw
   case rel => exact ⟨k + 1, _, by omega, by go_num, HMu, HTN, HSu, HRu⟩
   case measure => simp [intOf]; omega
  ·obtain rfl : cn = k := by omega
   have HTF : Hid (TrueIs m (cl.map Li.neg)) := by have h1 := HTM.out; rw [← HLN.out, List.take_length] at h1; exact h1
   clear HTM
   obtain ⟨T0, hT0⟩ : ∃ T, cl.map Li.neg = T := ⟨_, rfl⟩
   rw [hT0] at HTF HT
   clear hT0
   obtain ⟨w5, rfl⟩ : ∃ y : World, y = wr := ⟨_, rfl⟩
   have s2 : w5.cell? ⟨sb, 2, none⟩ = some (.slice FA fn fc) := HS.out.cell rfl
   go_wp2_with fail
   clear s2
   go_loopw [31] (fun i y => ∃ k : Nat, k ≤ fn ∧ i = .int .i64 k ∧ Hid (((frm.drop k).all (fun j => decide (0 ≤ j ∧ j < (kk : Int))) && unitGo log T0 frm) = t) ∧ Hid (∀ j ∈ frm.take k, 0 ≤ j ∧ j < (kk : Int)) ∧ y = w5) (fun i _ => fn - (intOf i).toNat)
   case atStart => exact ⟨0, Nat.zero_le _, rfl, HT.out, fun j hj => by (simp at hj), rfl⟩
   case round =>
    clear HT
    obtain ⟨k, hk, rfl, HZ, HIN, hy⟩ := hrel
    subst hy
    by_cases hlt : k < fn
    ·obtain ⟨b, o, hA, hcc⟩ := (HFR.out.grew HR.out).at_ (by omega)
     obtain ⟨x, hx⟩ : ∃ x, frm[k]? = some x := ⟨_, List.getElem?_eq_getElem (by rw [HFN.out]; exact hlt)⟩
     have c0 := hcc k _ hx
     have HZ2 : Hid ((decide (0 ≤ x ∧ x < (kk : Int)) && ((frm.drop (k + 1)).all (fun j => decide (0 ≤ j ∧ j < (kk : Int))) && unitGo log T0 frm)) = t) := by
      unfold Hid; rw [← HZ.out, drop_at' hx, List.all_cons, Bool.and_assoc]
     have HTK : Hid (frm.take (k + 1) = frm.take k ++ [x]) := by unfold Hid; rw [List.take_add_one, hx]; rfl
     have c15 : wr.cell? ⟨cb, 15, none⟩ = some (.int .i64 (kk : Int)) := (HCR.out.grew HR.out).blk.cell rfl
     have e1 : (0 : Int) ≤ (k : Int) := by omega
     have e2 : (k : Int) < (fn : Int) := by omega
     subst hA
     clear hcc hx HZ
     by_cases h0 : 0 ≤ x
     ·have q0 : decide (x ≥ 0) = true := decide_eq_true h0
      have q0' : decide (0 ≤ x) = true := decide_eq_true h0
      by_cases h1 : x < (kk : Int)
      ·have q1 : decide (x < (kk : Int)) = true := decide_eq_true h1
       have HZ3 : Hid (((frm.drop (k + 1)).all (fun j => decide (0 ≤ j ∧ j < (kk : Int))) && unitGo log T0 frm) = t) := by unfold Hid; rw [← HZ2.out, decide_eq_true (show 0 ≤ x ∧ x < (kk : Int) from ⟨h0, h1⟩), Bool.true_and]
       have HIN2 : Hid (∀ j ∈ frm.take (k + 1), 0 ≤ j ∧ j < (kk : Int)) := by
        unfold Hid; rw [HTK.out]; intro j hj
        rcases List.mem_append.1 hj with h2 | h2
        ·exact HIN.out j h2
        ·rw [List.mem_singleton] at h2; subst h2; exact ⟨h0, h1⟩
       clear h0 h1 HZ2
       go_wp2_with fail
       refine (require96 _ _).mono ?_
       rintro r w4 ⟨hj, rfl⟩
       obtain rfl : r = .returned (.tuple #[]) := hj
       clear q0 q0' q1 c0 c15
       go_wp2_with fail
       go_roundw
       case rel => exact ⟨k + 1, by omega, by go_num, HZ3, HIN2, trivial⟩
       case measure => simp [intOf]; omega
      ·have q1 : decide (x < (kk : Int)) = false := decide_eq_false h1
       have HN : Hid (t = false) := by unfold Hid; rw [← HZ2.out, decide_eq_false (fun h : 0 ≤ x ∧ x < (kk : Int) => h1 h.2), Bool.false_and]
       clear h0 h1
       go_wp2_with fail
       refine (require96 _ _).mono ?_
       rintro r w4 ⟨hj, rfl⟩
       obtain rfl : r = .panicked failC := hj
       exact ⟨rfl, by rw [HN.out]; exact judge_false rfl, HR.out⟩
     ·have q0 : decide (x ≥ 0) = false := decide_eq_false h0
      have q0' : decide (0 ≤ x) = false := decide_eq_false h0
      have HN : Hid (t = false) := by unfold Hid; rw [← HZ2.out, decide_eq_false (fun h : 0 ≤ x ∧ x < (kk : Int) => h0 h.1), Bool.false_and]
      clear h0
      go_wp2_with fail
      refine (require96 _ _).mono ?_
      rintro r w4 ⟨hj, rfl⟩
      obtain rfl : r = .panicked failC := hj
      exact ⟨rfl, by rw [HN.out]; exact judge_false rfl, HR.out⟩
    ·obtain rfl : fn = k := by omega
     have HFIN : Hid (∀ j ∈ frm, 0 ≤ j ∧ j < (kk : Int)) := by have h1 := HIN.out; rw [← HFN.out, List.take_length] at h1; exact h1
     have HUT : Hid (unitGo log T0 (frm.drop 0) = t) := by have h1 := HZ.out; rw [← HFN.out, List.drop_length] at h1; exact h1
     clear HZ HIN
     obtain ⟨w7, rfl⟩ : ∃ y : World, y = wr := ⟨_, rfl⟩
     have s2 : w7.cell? ⟨sb, 2, none⟩ = some (.slice FA fn fc) := HS.out.cell rfl
     go_wp2_with fail
     clear s2
     go_loopw [50] (fun i y => ∃ (k : Nat) (m : List (Li × Bool)) (T : List Li), k ≤ fn ∧ i = .int .i64 k ∧ Hid (unitGo log T (frm.drop k) = t) ∧ Hid (MapIs ekL bV y b1 m) ∧ Hid (TrueIs m T) ∧ Hid (Blk y sb 71 [.slice CA cn cc, .int .i64 ru, .slice FA fn fc]) ∧ Hid (Grew w y)) (fun i _ => fn - (intOf i).toNat)
     case atStart => exact ⟨0, m, T0, Nat.zero_le _, rfl, HUT.out, HM.out, HTF.out, HS.out, HR.out⟩
     case round =>
      clear HUT HM HTF HS HR
      obtain ⟨k, m, T, hk, rfl, HZ, HM, HTM, HS, HR⟩ := hrel
      by_cases hlt : k < fn
      ·obtain ⟨b, o, hA, hcc⟩ := (HFR.out.grew HR.out).at_ (by omega)
       obtain ⟨x, hx⟩ : ∃ x, frm[k]? = some x := ⟨_, List.getElem?_eq_getElem (by rw [HFN.out]; exact hlt)⟩
       have c0 := hcc k _ hx
       have hxk := HFIN.out x (List.mem_of_getElem? hx)
       have HU : Hid (unitN log T (openL T (clOf log x)) (frm.drop (k + 1)) = t) := by unfold Hid; rw [← unit_step hx]; exact HZ.out
       obtain ⟨xN, rfl⟩ : ∃ z : Nat, x = (z : Int) := ⟨x.toNat, by omega⟩
       have hxl : xN < ln := by have := HKL.out; omega
       obtain ⟨bl, ol, q', s', hLA, hs', hrd, v0, _, _⟩ := (HCR.out.grew HR.out).lg.at_ hxl
       rw [clOf_at hs'] at HU
       have HQ1 : Hid (Recs encL 3 wr q'.cl.A q'.cl.n q'.cl.c s'.cl) := hrd.cl
       have hqn : q'.cl.n ≤ 1000 := by have h1 := hrd.cl.1; have h2 := HSZ.out s' (List.mem_of_getElem? hs'); omega
       obtain ⟨⟨QA, qn, qc⟩, qru, qfr⟩ := q'
       obtain ⟨scl, srule, sfrm⟩ := s'
       simp only at v0 hqn
       have HQ : Hid (Recs encL 3 wr QA qn qc scl) := HQ1
       have HQL : Hid (scl.length = qn) := HQ.out.1
       have HUx : Hid (unitN log T (openL T scl) (frm.drop (k + 1)) = t) := HU
       have c14 : wr.cell? ⟨cb, 14, none⟩ = some (.slice (some ⟨bl, ol, none⟩) ln lc) := by rw [← hLA]; exact (HCR.out.grew HR.out).blk.cell rfl
       have e1 : (0 : Int) ≤ (k : Int) := by omega
       have e2 : (k : Int) < (fn : Int) := by omega
       have e3 : (0 : Int) ≤ (xN : Int) := by omega
       have e4 : (xN : Int) < (ln : Int) := by omega
       subst hA
       clear hcc hx HZ HU hLA hs' hrd HQ1 hxk
       obtain ⟨w9, rfl⟩ : ∃ y : World, y = wr := ⟨_, rfl⟩
       replace v0 : w9.cell? ⟨bl, ol + xN * 3, none⟩ = some (.slice QA qn qc) := v0
       go_upto_region 15 with (fail)
       clear c0
       go_wp2_with fail
       clear v0 c14
       go_loopw [11, 64] (fun v i y => ∃ (j mm c : Nat) (A : Option Addr), j ≤ qn ∧ i = .int .i64 j ∧ v = .slice A mm c ∧ mm ≤ j ∧ Hid (y.ownsRow w9.heap.size 122 3 (.slice A mm c) mm ((openL T (scl.take j)).flatMap encL)) ∧ Hid ((openL T (scl.take j)).length = mm) ∧ Hid (Grew w9 y)) (fun _ i _ => qn - (intOf i).toNat)
       case atStart => exact ⟨0, 0, 0, none, Nat.zero_le _, rfl, rfl, Nat.le_refl _, World.ownsRow_nil _ _ _ _, rfl, Grew.refl _⟩
       case round =>
        obtain ⟨j, mm, c, A, hj, rfl, rfl, hmj, OW, HL, HRi⟩ := hrel
        by_cases hlj : j < qn
        ·obtain ⟨b', o', l, hA, hl, d0, d1, d2⟩ := Recs.lit (HQ.out.grew HRi.out) hlj
         have HST := Lib.hid (openL_step (T := T) hl)
         obtain ⟨V, hV⟩ : ∃ V, T.contains l.neg = V := ⟨_, rfl⟩
         rw [hV] at HST
         have HVF : Hid ((alFind l.neg m).getD false = V) := by unfold Hid; rw [← hV]; exact HTM.out l.neg
         obtain ⟨ld, lw, lis⟩ := l
         simp only at d0 d1 d2
         have f1 : (0 : Int) ≤ (j : Int) := by omega
         have f2 : (j : Int) < (qn : Int) := by omega
         subst hA
         clear hl hV
         obtain ⟨wa, hwa⟩ : ∃ y, y = wr.alloc (.cells #[.int .i64 ld, .int .i64 lw, .bool lis] 122) := ⟨_, rfl⟩
         obtain ⟨ba, hba⟩ : ∃ z, z = wr.heap.size := ⟨_, rfl⟩
         have HBA : Hid (Blk wa ba 122 [.int .i64 ld, .int .i64 lw, .bool lis]) := by unfold Hid; rw [hwa, hba]; exact Blk.new wr 122 [.int .i64 ld, .int .i64 lw, .bool lis]
         have ga : Grew wr wa := by rw [hwa]; exact (Grew.refl wr).alloc _
         have HBR : Hid (∀ b, (Value.slice A mm c).ownBlock = some b → b ≠ ba) := fun b hb => by have := (OW.out.lt b hb).2; omega
         go_upto_region 19 with (fail)
         rw [← hwa, ← hba]
         have OWa := Lib.hid (own_grew OW.out ga)
         have HRa := Lib.hid (HRi.out.trans ga)
         clear hwa hba d0 d1 d2 ga OW HRi
         have u0 : wa.cell? ⟨ba, 0, none⟩ = some (.int .i64 ld) := HBA.out.cell rfl
         have u1 : wa.cell? ⟨ba, 1, none⟩ = some (.int .i64 lw) := HBA.out.cell rfl
         have u2 : wa.cell? ⟨ba, 2, none⟩ = some (.bool lis) := HBA.out.cell rfl
         go_wp2_with fail
         refine (negate123 ⟨ld, lw, lis⟩ _).mono ?_
         rintro r w6 ⟨rfl, g6⟩
         clear u0 u1 u2
         have hlk := (HM.out.grew (HRa.out.trans g6)).lookup lit_key map127 (zero4 _) (⟨ld, lw, lis⟩ : Li).neg false
         simp only [Bool.false_eq_true, if_false] at hlk
         rw [show ((alFind (⟨ld, lw, lis⟩ : Li).neg m).map bV).getD (.bool false) = .bool V by rw [← HVF.out]; cases alFind (⟨ld, lw, lis⟩ : Li).neg m <;> rfl] at hlk
         replace hlk : (Instr.lookup 127 (.map (some b1)) (.agg #[.int .i64 (⟨ld, lw, lis⟩ : Li).neg.d, .int .i64 (⟨ld, lw, lis⟩ : Li).neg.w, .bool (⟨ld, lw, lis⟩ : Li).neg.is]) false).run Tryz.prog w6 = .ok (.bool V) w6 := hlk
         have OW6 := Lib.hid (own_grew OWa.out g6)
         have HR6 := Lib.hid (HRa.out.trans g6)
         have HBA6 := Lib.hid (HBA.out.grew g6)
         clear OWa HRa HBA g6
         cases V with
         | true =>
          have HS2 : Hid (openL T (scl.take (j + 1)) = openL T (scl.take j)) := by unfold Hid; rw [HST.out]; simp
          rw [← HS2.out] at OW6 HL
          go_wp2_with fail
          go_roundw
          case rel => exact ⟨j + 1, mm, c, A, by omega, by go_num, rfl, by omega, OW6, HL, HR6⟩
          case measure => simp [intOf]; omega
         | false =>
          have HS2 : Hid (openL T (scl.take (j + 1)) = openL T (scl.take j) ++ [⟨ld, lw, lis⟩]) := by unfold Hid; rw [HST.out]; simp
          have u0 : w6.cell? ⟨ba, 0, none⟩ = some (.int .i64 ld) := HBA6.out.cell rfl
          have u1 : w6.cell? ⟨ba, 1, none⟩ = some (.int .i64 lw) := HBA6.out.cell rfl
          have u2 : w6.cell? ⟨ba, 2, none⟩ = some (.bool lis) := HBA6.out.cell rfl
          obtain ⟨wy, hwy⟩ : ∃ y, y = w6.alloc (.cells #[.int .i64 ld, .int .i64 lw, .bool lis] 122) := ⟨_, rfl⟩
          have gy : Grew w6 wy := by rw [hwy]; exact (Grew.refl w6).alloc _
          have BI : Hid (Sl wy 3 (some ⟨w6.heap.size, 0, none⟩) 1 1 (encL ⟨ld, lw, lis⟩)) := by unfold Hid; rw [hwy]; exact builtS (w := w6) (t := 122) 3 1 #[.int .i64 ld, .int .i64 lw, .bool lis] _ rfl rfl (by decide)
          have OWy := Lib.hid (own_grew OW6.out gy)
          have HRy := Lib.hid (HR6.out.trans gy)
          have HBs : Hid (w9.heap.size ≤ wy.heap.size) := HRy.out.le
          clear gy OW6 HR6
          go_upto_region 21 with (at_builtin; rw [← hwy]; refine wpList_append_sl _ rfl (.tmp 73) (.tmp 75) 69 rfl w9.heap.size 122 i122 (.agg #[.int .i64 0, .int .i64 0, .bool false]) 3 24 Tryz.underlying69 hi122 hz122 hs122 hb122 rfl (by decide) (.slice A mm c) mm _ rfl OWy.out (some ⟨w6.heap.size, 0, none⟩) 1 1 _ rfl BI.out (fun u hu => encL_ok.one _ u hu) (by unfold maxLen; omega) (by omega) HBs.out ?_; intro v7 w7 own7 hg7 hat7; obtain ⟨A7, c7, rfl⟩ := own_form own7)
          have OW7 : Hid (w7.ownsRow w9.heap.size 122 3 (.slice A7 (mm + 1) c7) (mm + 1) ((openL T (scl.take (j + 1))).flatMap encL)) := by unfold Hid; rw [HS2.out, List.flatMap_append, List.flatMap_singleton]; exact own7
          have HL7 : Hid ((openL T (scl.take (j + 1))).length = mm + 1) := by unfold Hid; rw [HS2.out, List.length_append, HL.out]; rfl
          have HR7 : Hid (Grew w9 w7) := HRy.out.grown hg7 (fun q hq => (OWy.out.lt q hq).1)
          clear hwy own7 hg7 hat7 OWy HRy HBs BI u0 u1 u2 hlk
          go_wp2_with fail
          go_roundw
          case rel => exact ⟨j + 1, mm + 1, c7, A7, by omega, by go_num, rfl, by omega, OW7, HL7, HR7⟩
          case measure => simp [intOf]; omega
        ·obtain rfl : qn = j := by omega
         rw [← HQL.out, List.take_length] at OW HL
         obtain ⟨op, hop⟩ : ∃ l, openL T scl = l := ⟨_, rfl⟩
         rw [hop] at OW HL HUx
         clear hop
         have HRo := Lib.hid (HR.out.trans HRi.out)
         have HMo := Lib.hid (HM.out.grew HRi.out)
         have HSo := Lib.hid (HS.out.grew HRi.out)
         obtain ⟨wb, rfl⟩ : ∃ y : World, y = wr := ⟨_, rfl⟩
         have HOR : Hid (Recs encL 3 wb A mm c op) := Recs.own HL.out OW.out
         clear OW HRi HM HS HR
         by_cases h0 : mm = 0
         ·subst h0
          have HOP : op = [] := List.eq_nil_of_length_eq_zero HL.out
          subst HOP
          have s2 : wb.cell? ⟨sb, 2, none⟩ = some (.slice (some ⟨b, o, none⟩) fn fc) := HSo.out.cell rfl
          have m1 : IntKind.i64.wrap ((fn : Int) - 1) = (fn : Int) - 1 := IntWalk.i64_in _ (by omega)
          have HIE : Hid ((frm.drop (k + 1)).isEmpty = t) := HUx.out
          have HFE : Hid (decide (k + 1 = fn) = t) := by
           unfold Hid
           rw [← HIE.out, ← HFN.out, Bool.eq_iff_iff, decide_eq_true_eq, List.isEmpty_iff, List.drop_eq_nil_iff]
           have := HFN.out; omega
          have r1 : ((k : Int) == (fn : Int) - 1) = t := by rw [← HFE.out, Bool.eq_iff_iff, beq_iff_eq, decide_eq_true_eq]; omega
          have HR1 := Lib.hid r1
          clear HIE HFE
          go_wp2_with fail
          refine (require96 t _).mono ?_
          rintro r w4 ⟨hj, rfl⟩
          cases t with
          | false =>
           obtain rfl : r = .panicked failC := hj
           exact ⟨rfl, judge_false rfl, HRo.out⟩
          | true =>
           obtain rfl : r = .returned (.tuple #[]) := hj
           clear r1
           go_wp2
           (try simp only [Exit.inBlock, Exit.then])
           refine bodyPost_ret (results_none rfl _ _ _) rfl ?_
           exact ⟨judge_true rfl, HRo.out⟩
         ·have q0 : (mm == 0) = false := by simpa using h0
          have q0' : ((mm : Int) == 0) = false := by simp; omega
          obtain ⟨b3, o3, l0, hA3, hl0, x0, x1, x2⟩ := Recs.lit HOR.out (show 0 < mm by omega)
          have HOX : Hid ((op.all (fun y => decide (y = l0)) && unitGo log (l0 :: T) (frm.drop (k + 1))) = t) := by
           cases op with
           | nil => simp at hl0
           | cons y ys =>
            simp at hl0
            subst hl0
            unfold Hid
            rw [← HUx.out, List.all_cons, decide_eq_true rfl, Bool.true_and]; rfl
          rw [Nat.zero_mul, Nat.add_zero] at x0 x1 x2
          obtain ⟨xd, xw, xi⟩ := l0
          simp only at x0 x1 x2
          have HX : Hid (∀ y, Grew wb y → y.cell? ⟨b3, o3, none⟩ = some (.int .i64 xd) ∧ y.cell? ⟨b3, o3 + 1, none⟩ = some (.int .i64 xw) ∧ y.cell? ⟨b3, o3 + 2, none⟩ = some (.bool xi)) := fun y g => ⟨g.cell x0, g.cell x1, g.cell x2⟩
          have g0 : (0 : Int) < (mm : Int) := by omega
          have g0' : 0 < mm := by omega
          subst hA3
          clear hl0 x0 x1 x2 HUx
          go_upto_region 24 with (fail)
          clear q0 q0' h0
          go_wp2_with fail
          go_loopw [90] (fun i y => ∃ j : Nat, j ≤ mm ∧ i = .int .i64 j ∧ Hid (((op.drop j).all (fun y => decide (y = ⟨xd, xw, xi⟩)) && unitGo log (⟨xd, xw, xi⟩ :: T) (frm.drop (k + 1))) = t) ∧ Hid (Grew wb y)) (fun i _ => mm - (intOf i).toNat)
          case atStart => exact ⟨0, Nat.zero_le _, rfl, HOX.out, Grew.refl _⟩
          case round =>
           clear HOX
           obtain ⟨j, hj, rfl, HZ, HRj⟩ := hrel
           by_cases hlj : j < mm
           ·obtain ⟨b', o', l, hA, hl, d0, d1, d2⟩ := Recs.lit (HOR.out.grew HRj.out) hlj
            have HZS : Hid ((decide (l = ⟨xd, xw, xi⟩) && ((op.drop (j + 1)).all (fun y => decide (y = ⟨xd, xw, xi⟩)) && unitGo log (⟨xd, xw, xi⟩ :: T) (frm.drop (k + 1)))) = t) := by
             unfold Hid; rw [← HZ.out, drop_at' hl, List.all_cons, Bool.and_assoc]
            injection hA with hA
            injection hA with h1 h2
            subst h1 h2
            obtain ⟨ld, lw, lis⟩ := l
            simp only at d0 d1 d2
            obtain ⟨bq, hbq⟩ : ∃ z, eqT122 ld xd lw xw lis xi = z := ⟨_, rfl⟩
            rw [← li_eq, hbq] at HZS
            have HBQ := Lib.hid hbq
            have f1 : (0 : Int) ≤ (j : Int) := by omega
            have f2 : (j : Int) < (mm : Int) := by omega
            clear hl hbq HZ
            obtain ⟨wa, hwa⟩ : ∃ y, y = wr.alloc (.cells #[.int .i64 ld, .int .i64 lw, .bool lis] 122) := ⟨_, rfl⟩
            obtain ⟨ba, hba⟩ : ∃ z, z = wr.heap.size := ⟨_, rfl⟩
            have HBA : Hid (Blk wa ba 122 [.int .i64 ld, .int .i64 lw, .bool lis]) := by unfold Hid; rw [hwa, hba]; exact Blk.new wr 122 [.int .i64 ld, .int .i64 lw, .bool lis]
            have ga : Grew wr wa := by rw [hwa]; exact (Grew.refl wr).alloc _
            go_upto_region 27 with (fail)
            rw [← hwa, ← hba]
            have HRa := Lib.hid (HRj.out.trans ga)
            clear hwa hba d0 d1 d2 ga HRj
            have hA : ∀ w', Grew wa.drew w' → (w'.cell? ⟨ba, 0, none⟩ = some (.int .i64 ld) ∧ w'.cell? ⟨ba, 1, none⟩ = some (.int .i64 lw) ∧ w'.cell? ⟨ba, 2, none⟩ = some (.bool lis)) ∧ w'.cell? ⟨b3, o3, none⟩ = some (.int .i64 xd) ∧ w'.cell? ⟨b3, o3 + 1, none⟩ = some (.int .i64 xw) ∧ w'.cell? ⟨b3, o3 + 2, none⟩ = some (.bool xi) := fun w' g' => by
             have gg := (Grew.refl wa).drew.trans g'
             have hb := HBA.out.grew gg
             exact ⟨⟨hb.cell rfl, hb.cell rfl, hb.cell rfl⟩, HX.out _ (HRa.out.trans gg)⟩
            have HA := Lib.hid hA
            clear hA
            refine wp_region_G (by kernel_rfl) Grew.refl 6 ?_
            refine wpAnyG_takes Grew.refl (fun _ _ _ => Grew.trans) (fun _ _ _ _ _ h => h) [0, 1, 2, 3, 4] (fuel' := 1) (by kernel_rfl) (by kernel_rfl) (by simp only [pickOps, ugT, ug0, ug1]; rfl) ?_
            repeat (first
             | (refine TakeAll.pure (v := ?_) (by rfl) ?_ ?_; rotate_left; (intro w' g'; obtain ⟨⟨y0, y1, y2⟩, y3, y4, y5⟩ := HA.out w' g'; go_simp; first | done | with_reducible rfl); (simp only [Act.put, uzT, uz0, uz1]))
             | (refine TakeAll.pure (v := .bool bq) (by rfl) (fun w' _ => exec_eql122 HBQ.out rfl rfl rfl w') ?_; (simp only [Act.put, uzT, uz0, uz1]))
             | (refine TakeAll.skip (by rfl) ?_; (simp only [Act.put, uzT, uz0, uz1])))
            refine TakeAll.nil ?_
            refine wpAnyG_stepW (i := 5) (by kernel_rfl) (fuel' := 0) (by kernel_rfl) (by simp only [pickOps, ugT, ug0, ug1]; rfl) (by rfl) ?_
            intro w3 g3 K hK
            refine wp_callJ 96 _ (by go_simp; first | done | rfl) ?_
            refine (require96 bq _).mono ?_
            rintro r w4 ⟨hj, rfl⟩
            cases bq with
            | false =>
             obtain rfl : r = .panicked failC := hj
             have HN : Hid (t = false) := HZS.out.symm
             exact .inr ⟨_, rfl, rfl, by rw [HN.out]; exact judge_false rfl, HRo.out.trans (HRa.out.trans ((Grew.refl wa).drew.trans g3))⟩
            | true =>
             obtain rfl : r = .returned (.tuple #[]) := hj
             have HN : Hid (((op.drop (j + 1)).all (fun y => decide (y = ⟨xd, xw, xi⟩)) && unitGo log (⟨xd, xw, xi⟩ :: T) (frm.drop (k + 1))) = t) := HZS.out
             refine .inl ⟨_, rfl, hK _ _ (Grew.refl _) ?_⟩
             clear hK K
             refine wpAnyG_done (by kernel_rfl) ?_ _
             intro w5 g5
             have HR5 := Lib.hid (HRa.out.trans ((Grew.refl wa).drew.trans (g3.trans g5)))
             simp only [Act.put, uzT, uz0, uz1]
             clear g3 g5 HA HZS HRa
             go_wp2_with fail
             go_roundw
             case rel => exact ⟨j + 1, by omega, by go_num, HN, HR5⟩
             case measure => simp [intOf]; omega
           ·obtain rfl : mm = j := by omega
            have HUN : Hid (unitGo log (⟨xd, xw, xi⟩ :: T) (frm.drop (k + 1)) = t) := by have h1 := HZ.out; rw [← HL.out, List.drop_length] at h1; exact h1
            obtain ⟨x0, x1, x2⟩ := HX.out _ HRj.out
            have HMj := Lib.hid (HMo.out.grew HRj.out)
            have HSj := Lib.hid (HSo.out.grew HRj.out)
            obtain ⟨wu, up, M2, gb⟩ := HMj.out.update lit_key map127 (⟨xd, xw, xi⟩ : Li) true
            replace up : (Instr.mapUpdate 127 (.map (some b1)) (.agg #[.int .i64 xd, .int .i64 xw, .bool xi]) (.bool true)).run Tryz.prog wr = .ok () wu := up
            have HMu := Lib.hid M2
            have HTu := Lib.hid (HTM.out.put (⟨xd, xw, xi⟩ : Li))
            have HSu := Lib.hid (HSj.out.kept gb (fun e => HSB.out (by injection e)))
            have HRu := Lib.hid ((HRo.out.trans HRj.out).grown gb (fun q hq => by injection hq with hq; have := HB1.out; omega))
            clear M2 gb HMj HSj HZ HRj HTM
            go_wp2_with fail
            go_roundw
            case rel => exact ⟨k + 1, _, _, by omega, by go_num, HUN, HMu, HTu, HSu, HRu⟩
            case measure => simp [intOf]; omega
      ·obtain rfl : fn = k := by omega
       have HN : Hid (t = false) := by have h1 := HZ.out; rw [← HFN.out, List.drop_length] at h1; exact h1.symm
       go_wp2_with fail
       refine (require96 _ _).mono ?_
       rintro r w4 ⟨hj, rfl⟩
       obtain rfl : r = .panicked failC := hj
       exact ⟨rfl, by rw [HN.out]; exact judge_false rfl, HR.out⟩
end Go.Proofs.YtnnbibmmofnkdaaGreat
