/-
 The violations of a roster.
-/
import Derived.Test.YtnnbibmmofnkdaaGreatBadB
namespace Go.Proofs.YtnnbibmmofnkdaaGreat
open Go.RowKit Go.Proofs WageMem WageReg WageRec WageSpan WageTop
def RetBad (p : Pl) (l : List Int) (w : World) (e : Ending) (w' : World) : Prop := ∃ (A : Option Addr) (m c : Nat), e = .returned (.tuple #[.slice A m c, .int .i64 0]) ∧ (m = 0 ↔ violated (envP p) l = false) ∧ Grew w w'
set_option maxRecDepth 100000 in
theorem compact_none (c : Nat) (w : World) : Calls Tryz.prog 48 #[.slice none 0 c] w fun e w' => e = .returned (.slice none 0 c) ∧ w' = w := by
 go_enter Tryz.func48, Tryz.ntmps48
 go_wp2
 go_ret
 exact ⟨rfl, rfl⟩
set_option maxRecDepth 100000 in
set_option maxHeartbeats 16000000 in
theorem bad18 {w : World} {p : Pl} {R : Option Addr} {rn rc : Nat} {rs : List Int} (hp : PlanAt w p) (ok : planB p = true) (hi : Ints w R rn rc rs) (hr : rosB p rs = true) :
  Calls Tryz.prog 18 #[planV p, .slice R rn rc] w (RetBad p rs w) := by
 obtain ⟨i0, hi0, hz0, hz1, hz2⟩ := info_parts info109
 have HP := Lib.hid hp
 have HI := Lib.hid hi
 have HOK := Lib.hid ok
 have HRO := Lib.hid hr
 have wn12 : p.wn ≤ 12 := (dn_le ok).2
 have HWL : Hid (p.ws.length = p.wn) := hp.ws.len
 have HRN : Hid (rn ≤ p.dn) := by
  unfold rosB at hr
  rw [Bool.and_eq_true, decide_eq_true_eq] at hr
  unfold Hid
  rw [← hi.1, hr.1]
  exact Nat.le_refl _
 clear hp hi ok hr
 show Calls Tryz.prog 18 #[.agg #[.string p.nm, .int .i64 p.zb, .slice p.C p.cn p.cc, .slice p.D p.dn p.dc, .slice p.W p.wn p.wc, .int .i64 p.lm.rest, .int .i64 p.lm.week, .int .i64 p.lm.nf, .int .i64 p.lm.nt, .int .i64 p.lm.mn], .slice R rn rc] w _
 obtain ⟨w1, hw1⟩ : ∃ y, y = w.alloc (.cells #[.string p.nm, .int .i64 p.zb, .slice p.C p.cn p.cc, .slice p.D p.dn p.dc, .slice p.W p.wn p.wc, .int .i64 p.lm.rest, .int .i64 p.lm.week, .int .i64 p.lm.nf, .int .i64 p.lm.nt, .int .i64 p.lm.mn] 32) := ⟨_, rfl⟩
 obtain ⟨tb, htb⟩ : ∃ z, z = w.heap.size := ⟨_, rfl⟩
 have g1 : Grew w w1 := by rw [hw1]; exact (Grew.refl w).alloc _
 have X1 : Hid (Blk w1 tb 32 (planC p)) := by unfold Hid; rw [hw1, htb]; exact Blk.new w 32 (planC p)
 have HG1 := Lib.hid g1
 clear g1
 go_enter Tryz.func18, Tryz.ntmps18
 go_upto_region 1 with (fail)
 rw [← hw1, ← htb]
 clear hw1 htb
 have v0 : w1.cell? ⟨tb, 0, none⟩ = some (.string p.nm) := X1.out.cell rfl
 have v1 : w1.cell? ⟨tb, 1, none⟩ = some (.int .i64 p.zb) := X1.out.cell rfl
 have v2 : w1.cell? ⟨tb, 2, none⟩ = some (.slice p.C p.cn p.cc) := X1.out.cell rfl
 have v3 : w1.cell? ⟨tb, 3, none⟩ = some (.slice p.D p.dn p.dc) := X1.out.cell rfl
 have v4 : w1.cell? ⟨tb, 4, none⟩ = some (.slice p.W p.wn p.wc) := X1.out.cell rfl
 have v5 : w1.cell? ⟨tb, 5, none⟩ = some (.int .i64 p.lm.rest) := X1.out.cell rfl
 have v6 : w1.cell? ⟨tb, 6, none⟩ = some (.int .i64 p.lm.week) := X1.out.cell rfl
 have v7 : w1.cell? ⟨tb, 7, none⟩ = some (.int .i64 p.lm.nf) := X1.out.cell rfl
 have v8 : w1.cell? ⟨tb, 8, none⟩ = some (.int .i64 p.lm.nt) := X1.out.cell rfl
 have v9 : w1.cell? ⟨tb, 9, none⟩ = some (.int .i64 p.lm.mn) := X1.out.cell rfl
 go_wp2_with fail
 refine (prep33 p w1 (HP.out.grew HG1.out)).mono ?_
 rintro r w2 (⟨_, cb, rfl, hck, g2⟩ | ⟨h, _⟩)
 rotate_left
 ·exact absurd (HOK.out.symm.trans h) (by simp)
 have HCK := Lib.hid hck
 have X2 := Lib.hid (X1.out.grew g2)
 have HG2 := Lib.hid (HG1.out.trans g2)
 clear v0 v1 v2 v3 v4 v5 v6 v7 v8 v9 g2 hck X1 HG1
 have v0 : w2.cell? ⟨tb, 0, none⟩ = some (.string p.nm) := X2.out.cell rfl
 have v1 : w2.cell? ⟨tb, 1, none⟩ = some (.int .i64 p.zb) := X2.out.cell rfl
 have v2 : w2.cell? ⟨tb, 2, none⟩ = some (.slice p.C p.cn p.cc) := X2.out.cell rfl
 have v3 : w2.cell? ⟨tb, 3, none⟩ = some (.slice p.D p.dn p.dc) := X2.out.cell rfl
 have v4 : w2.cell? ⟨tb, 4, none⟩ = some (.slice p.W p.wn p.wc) := X2.out.cell rfl
 have v5 : w2.cell? ⟨tb, 5, none⟩ = some (.int .i64 p.lm.rest) := X2.out.cell rfl
 have v6 : w2.cell? ⟨tb, 6, none⟩ = some (.int .i64 p.lm.week) := X2.out.cell rfl
 have v7 : w2.cell? ⟨tb, 7, none⟩ = some (.int .i64 p.lm.nf) := X2.out.cell rfl
 have v8 : w2.cell? ⟨tb, 8, none⟩ = some (.int .i64 p.lm.nt) := X2.out.cell rfl
 have v9 : w2.cell? ⟨tb, 9, none⟩ = some (.int .i64 p.lm.mn) := X2.out.cell rfl
 go_wp2_with fail
 refine (isros42 p R rn rc rs true w2 (HP.out.grew HG2.out) (HI.out.grew HG2.out) HRO.out).mono ?_
 rintro r w3 ⟨rfl, g3⟩
 have X3 := Lib.hid (X2.out.grew g3)
 have HG3 := Lib.hid (HG2.out.trans g3)
 have HCK3 := Lib.hid (HCK.out.grew g3)
 clear v0 v1 v2 v3 v4 v5 v6 v7 v8 v9 g3 X2 HG2 HCK
 have v4 : w3.cell? ⟨tb, 4, none⟩ = some (.slice p.W p.wn p.wc) := X3.out.cell rfl
 go_wp2_with fail
 clear v4
 go_loopw [8, 26] (fun v i y => ∃ (k m bc : Nat) (B : Option Addr) (vs : List Vi), k ≤ p.wn ∧ i = .int .i64 k ∧ v = .slice B m bc ∧ m ≤ k * 600000 ∧
  Hid (y.ownsRow w3.heap.size 109 4 (.slice B m bc) m (vs.flatMap encV)) ∧ Hid (vs.length = m) ∧ Hid (m = 0 ↔ (List.range k).any (fun j => violP p j (idxF 0 rs (j : Int))) = false) ∧ Hid (Grew w3 y)) (fun _ i _ => p.wn - (intOf i).toNat)
 case atStart => exact ⟨0, 0, 0, none, [], Nat.zero_le _, rfl, rfl, Nat.zero_le _, World.ownsRow_nil _ _ _ _, rfl, by simp [Hid], Grew.refl _⟩
 case round =>
  obtain ⟨k, m, bc, B, vs, hk, rfl, rfl, hm, OW, HL, HZ, HR⟩ := hrel
  by_cases hlt : k < p.wn
  ·obtain ⟨x, hx⟩ : ∃ x, p.ws[k]? = some x := ⟨_, List.getElem?_eq_getElem (by rw [HWL.out]; exact hlt)⟩
   have HX := Lib.hid hx
   have HVP : Hid (violP p k (idxF 0 rs (k : Int)) = violW p x (idxF 0 rs (k : Int))) := by unfold Hid violP; rw [hx]
   clear hx
   go_wp2_with fail
   refine (worker43 (HCK3.out.grew HR.out) HOK.out HX.out (HI.out.grew (HG3.out.trans HR.out)) HRN.out).mono ?_
   rintro r w4 ⟨A4, n4, c4, vs4, rfl, hrc, hz4, hn4, g4⟩
   have HRC := Lib.hid hrc
   have HZ4 : Hid (n4 = 0 ↔ violP p k (idxF 0 rs (k : Int)) = false) := by unfold Hid; rw [HVP.out]; exact hz4
   have OW4 := Lib.hid (own_grew OW.out g4)
   have HR4 := Lib.hid (HR.out.trans g4)
   clear hrc hz4 OW HR g4 HX HVP
   go_wp2_with (at_builtin; refine wpList_append_sl _ rfl (.tmp 29) (.tmp 33) 57 rfl w3.heap.size 109 i0 (.agg #[.int .i64 0, .int .i64 0, .int .i64 0, .int .i64 0]) 4 32 Tryz.underlying57 hi0 hz0 hz1 hz2 rfl (by decide) (.slice B m bc) m _ rfl OW4.out A4 n4 c4 _ rfl HRC.out.2 (WageRec.flat_one encV_ok _) (by unfold maxLen; omega) (by omega) HR4.out.le ?_; intro v7 w7 own7 hg7 hat7; obtain ⟨A7, c7, rfl⟩ := own_form own7)
   have HR7 := Lib.hid (HR4.out.grown hg7 (fun j hj => (OW4.out.lt j hj).1))
   have OW7 : Hid (w7.ownsRow w3.heap.size 109 4 (.slice A7 (m + n4) c7) (m + n4) ((vs ++ vs4).flatMap encV)) := by unfold Hid; rw [List.flatMap_append]; exact own7
   have HL7 : Hid ((vs ++ vs4).length = m + n4) := by unfold Hid; rw [List.length_append, HL.out, HRC.out.1]
   have HZ7 : Hid (m + n4 = 0 ↔ (List.range (k + 1)).any (fun j => violP p j (idxF 0 rs (j : Int))) = false) := any_step (f := fun j => violP p j (idxF 0 rs (j : Int))) HZ.out HZ4.out
   clear own7 hg7 hat7 OW4 HR4 HRC HZ HZ4
   go_wp2_with fail
   go_roundw
   case rel => exact ⟨k + 1, m + n4, c7, A7, vs ++ vs4, by omega, by go_num, by go_num, by omega, OW7.out, HL7.out, HZ7.out, HR7.out⟩
   case measure => simp [intOf]; omega
  ·obtain rfl : p.wn = k := by omega
   have HVV : Hid (m = 0 ↔ violated (envP p) rs = false) := HZ.out
   have HGR := Lib.hid (HG3.out.trans HR.out)
   clear HZ
   have hB : (B = none ∧ m = 0) ∨ ∃ g, B = some ⟨g, 0, none⟩ := by
    rcases OW.out.2 with ⟨h1, h2⟩ | ⟨g, cap, cur, h1, _⟩
    ·injection h1 with h1 _ _
     exact .inl ⟨h1, h2⟩
    ·injection h1 with h1 _ _
     exact .inr ⟨g, h1⟩
   rcases hB with ⟨rfl, rfl⟩ | ⟨g, rfl⟩
   ·clear OW
    go_wp2_with fail
    have hcon := AnyF.slices_SortFunc_none { Tryz.sortV with } none bc (.func (.func 45) #[] #[]) wr
    change Calls Tryz.prog 44 _ _ _ at hcon
    refine Calls.mono hcon ?_
    clear hcon
    rintro r w5 ⟨rfl, rfl⟩
    go_wp2_with fail
    refine (compact_none bc _).mono ?_
    rintro r w6 ⟨rfl, rfl⟩
    go_wp2
    go_ret2
    exact ⟨none, 0, bc, rfl, by have := HVV.out; simpa using this, HGR.out⟩
   ·go_wp2_with fail
    refine (sort44 OW.out HL.out (by omega) HR.out).mono ?_
    rintro r w5 ⟨rfl, vs5, hl5, own5, g5⟩
    have OW5 := Lib.hid own5
    have HL5 := Lib.hid hl5
    have HG5 := Lib.hid g5
    clear hl5 own5 g5 OW HL HR HGR
    go_wp2_with fail
    refine (compact48 OW5.out HL5.out (by omega) HG5.out).mono ?_
    rintro r w6 ⟨A6, m6, c6, rfl, hz6, g6⟩
    have HVZ : Hid (m6 = 0 ↔ violated (envP p) rs = false) := hz6.trans HVV.out
    have HG6 := Lib.hid (HG3.out.trans g6)
    clear hz6 g6 HVV
    go_wp2
    go_ret2
    exact ⟨A6, m6, c6, rfl, HVZ.out, HG6.out⟩
end Go.Proofs.YtnnbibmmofnkdaaGreat
