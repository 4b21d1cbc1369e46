/-
 Base steps: not, denial.
-/
import Derived.Test.YtnnbibmmofnkdaaGreatPrpP
import Derived.Test.YtnnbibmmofnkdaaGreatRefI
namespace Go.Proofs.YtnnbibmmofnkdaaGreat
open Go.RowKit Go.Proofs WageMem WageReg WageRec WageSpan WageTop
theorem not58 (d v : Int) (w : World) : Calls Tryz.prog 58 #[.int .i64 d, .int .i64 v] w fun r w' => r = .returned (.agg #[.int .i64 d, .int .i64 v, .bool false]) ∧ Grew w w' := by
 obtain ⟨w1, hw1⟩ : ∃ y, y = w.alloc (.cells #[.int .i64 d, .int .i64 v, .bool false] 122) := ⟨_, rfl⟩
 go_enter Tryz.func58, Tryz.ntmps58
 go_wp2_with fail
 rw [← hw1]
 refine bodyPost_ret (results_li rfl _ _ w.heap.size _ rfl (by rw [hw1]; exact World.alloc_heap_new w _) rfl) rfl ?_
 exact ⟨rfl, by rw [hw1]; exact (Grew.refl w).alloc _⟩
theorem size71 : (Tryz.prog.info? 71).map (·.size) = some 3 := by kernel_rfl
theorem results_st {fn : Func} {p : Tmp} (h : fn.results = #[.cell p 71]) (tmps : Array Value) (w : World) (b : Nat) (cs : Array Value) (hp : tmps.getD p undef = .pointer (some ⟨b, 0, none⟩)) (hb : w.heap[b]? = some (.cells cs 71 (0, 0))) (hs : cs.size = 3) :
  (results fn tmps).run Tryz.prog w = .ok (.agg cs) w :=
 results_cell_row h tmps w b 71 cs (0, 0) _ hp hb Tryz.underlying71 rfl (by rw [hs]; exact size71)
/-- What denial returns: a step with the rule, its clause in a row of its own. -/
def RetDen (base : Nat) (ru : Int) (n : Nat) (cl : List Li) (w : World) (e : Ending) (w' : World) : Prop := ∃ A c, e = .returned (.agg #[.slice A n c, .int .i64 ru, .slice none 0 0]) ∧ w'.ownsRow base 122 3 (.slice A n c) n (cl.flatMap encL) ∧ Grew w w'
set_option maxRecDepth 100000 in
set_option maxHeartbeats 4000000 in
theorem denial57 {w : World} {base : Nat} {ru : Int} {A : Option Addr} {n c : Nat} {cl : List Li} (h : Recs encL 3 w A n c cl) (hn : n ≤ 1000) (hb : base ≤ w.heap.size) :
  Calls Tryz.prog 57 #[.int .i64 ru, .slice A n c] w (RetDen base ru n cl w) := by
 obtain ⟨i1, hi1, hy0, hy1, hy2⟩ := info_parts info122
 obtain ⟨w1, hw1⟩ : ∃ y, y = w.alloc (.cells #[.slice none 0 0, .int .i64 0, .slice none 0 0] 71) := ⟨_, rfl⟩
 obtain ⟨rb, hrb⟩ : ∃ z, z = w.heap.size := ⟨_, rfl⟩
 have g1 : Grew w w1 := by rw [hw1]; exact (Grew.refl w).alloc _
 have B1 : Hid (Blk w1 rb 71 [.slice none 0 0, .int .i64 0, .slice none 0 0]) := by unfold Hid; rw [hw1, hrb]; exact Blk.new w 71 _
 have HR := Lib.hid (h.grew g1)
 have HG1 := Lib.hid g1
 have HL : Hid (cl.length = n) := h.1
 have hb1 : base ≤ w1.heap.size := Nat.le_trans hb g1.le
 have HRW : Hid (w.heap.size ≤ rb) := by unfold Hid; omega
 clear h g1
 go_enter Tryz.func57, Tryz.ntmps57
 go_upto_region 1 with (fail)
 rw [← hw1, ← hrb]
 clear hw1 hrb
 go_wp2_with (first | (at_builtin; refine wpList_append_sl _ rfl (.const (.slice none 0 0)) (.tmp 5) 69 rfl base 122 i1 (.agg #[.int .i64 0, .int .i64 0, .bool false]) 3 24 Tryz.underlying69 hi1 hy0 hy1 hy2 rfl (by decide) (.slice none 0 0) 0 [] rfl (World.ownsRow_nil _ _ _ _) A n c _ rfl HR.out.2 (WageRec.flat_one encL_ok _) (by unfold maxLen; omega) (by omega) hb1 ?_; intro v7 w7 own7 hg7 hat7; obtain ⟨A7, c7, rfl⟩ := own_form own7; rw [Nat.zero_add, List.nil_append] at own7; have HB7 := Lib.hid (B1.out.kept hg7 (fun e => by cases e))) | (refine wpList_store_row rfl 71 (.tmp 4) (.tmp 8) rfl rb #[.slice A7 n c7, .int .i64 ru, .slice none 0 0] rfl rfl 71 _ HB7.out size71 rfl (by simp [Value.oneCell']) ?_))
 have HB := setRow_heap w7 rb _ #[.slice A7 n c7, .int .i64 ru, .slice none 0 0] 71 (0, 0) HB7.out
 refine bodyPost_ret (results_st rfl _ _ rb _ rfl HB rfl) rfl ?_
 refine ⟨A7, c7, rfl, own7.kept (grown_setRow w7 rb _) ?_, (HG1.out.grown hg7 (fun j hj => by cases hj)).grown (grown_setRow w7 rb _) (fun j hj => ?_)⟩
 ·cases hv : (Value.slice A7 n c7).ownBlock with
  | none => exact .inl rfl
  | some g => exact .inr (fun e => own_off own7 HB7.out (by decide) hv (by injection e))
 ·injection hj with hj
  have := HRW.out
  omega
end Go.Proofs.YtnnbibmmofnkdaaGreat
namespace Go.Proofs.YtnnbibmmofnkdaaGreat
open Go.RowKit Go.Proofs WageMem WageReg WageRec WageSpan WageTop
/-- A step is appended to a log. -/
theorem LogAt.push {base : Nat} {Pr : Nat → Prop} {y wy w7 : World} {GA : Option Addr} {n gc : Nat} {log : List Stp} {A : Option Addr} {cn cc : Nat} {cl : List Li} {ru : Int} {A7 : Option Addr} {c7 : Nat} (h : LogAt base Pr y (.slice GA n gc) log) (hn : log.length = n)
  (hcl : y.ownsRow base 122 3 (.slice A cn cc) cn (cl.flatMap encL)) (hcn : cl.length = cn) (g : Grew y wy) (hg7 : wy.grownBy w7 (Value.slice GA n gc).ownBlock)
  (own7 : ∀ xs, wy.ownsRow base 71 3 (.slice GA n gc) n xs → w7.ownsRow base 71 3 (.slice A7 (n + 1) c7) (n + 1) (xs ++ [.slice A cn cc, .int .i64 ru, .slice none 0 0])) : LogAt base Pr w7 (.slice A7 (n + 1) c7) (log ++ [⟨cl, ru, []⟩]) := by
 have hs : StepAt base Pr wy ⟨⟨A, cn, cc⟩, ru, ⟨none, 0, 0⟩⟩ ⟨cl, ru, []⟩ := ⟨rfl, hcn, own_grew hcl g, rfl, World.ownsRow_nil _ _ _ _, fun b hb => by cases hb⟩
 exact (h.grew g).snoc hs hg7 (fun qs hq => by
  rw [hn] at hq ⊢
  exact own7 _ hq)
theorem LogAt.row {base : Nat} {Pr : Nat → Prop} {y : World} {G : Value} {n : Nat} {log : List Stp} (h : LogAt base Pr y G log) (hn : log.length = n) : ∃ xs, y.ownsRow base 71 3 G n xs := by
 obtain ⟨qs, h1, _⟩ := h
 exact ⟨_, hn ▸ h1⟩
theorem range_map_snoc {α : Type} (f : Nat → α) (k : Nat) : (List.range (k + 1)).map f = (List.range k).map f ++ [f k] := by rw [List.range_succ, List.map_append]; rfl
theorem range_flat_snoc {α : Type} (f : Nat → List α) (k : Nat) : (List.range (k + 1)).flatMap f = (List.range k).flatMap f ++ f k := by rw [List.range_succ, List.flatMap_append, List.flatMap_singleton]
theorem range'_map_snoc {α : Type} (f : Nat → α) (s m : Nat) : (List.range' s (m + 1)).map f = (List.range' s m).map f ++ [f (s + m)] := by rw [List.range'_1_concat, List.map_append]; rfl
/-- What exactlyOne returns. -/
def RetOne (dn wn : Nat) (w : World) (e : Ending) (w' : World) : Prop := ∃ GA n gc, e = .returned (.slice GA n gc) ∧ LogAt w.heap.size (fun _ => True) w' (.slice GA n gc) (someA dn wn ++ oneA dn wn) ∧ (someA dn wn ++ oneA dn wn).length = n ∧ n ≤ 2000 ∧ Grew w w'
set_option maxRecDepth 100000 in
set_option maxHeartbeats 16000000 in
theorem exactlyOne55 {w : World} {dn wn : Nat} (hd : dn ≤ 7) (hw : wn ≤ 12) : Calls Tryz.prog 55 #[.int .i64 dn, .int .i64 wn] w (RetOne dn wn w) := by
 obtain ⟨i0, hi0, hz0, hz1, hz2⟩ := info_parts info71
 obtain ⟨i1, hi1, hy0, hy1, hy2⟩ := info_parts info122
 go_enter Tryz.func55, Tryz.ntmps55
 go_wp2_with fail
 go_loopw [5, 13] (fun v i y => ∃ (k gc : Nat) (GA : Option Addr), k ≤ dn ∧ i = .int .i64 k ∧ v = .slice GA k gc ∧ Hid (LogAt w.heap.size (fun _ => True) y (.slice GA k gc) (someA k wn)) ∧ Hid (Grew w y)) (fun _ i _ => dn - (intOf i).toNat)
 case atStart => exact ⟨0, 0, none, Nat.zero_le _, rfl, rfl, LogAt.nil, Grew.refl _⟩
 case round =>
  obtain ⟨k, gc, GA, hk, rfl, rfl, HL, HG⟩ := hrel
  by_cases hlt : k < dn
  ·have e1 : decide ((k : Int) < (dn : Int)) = true := decide_eq_true (by omega)
   obtain ⟨wq, rfl⟩ : ∃ y : World, y = wr := ⟨_, rfl⟩
   go_wp2_with fail
   clear e1
   go_loopw [7, 17] (fun v i z => ∃ (j c : Nat) (A : Option Addr), j ≤ wn ∧ v = .slice A j c ∧ i = .int .i64 j ∧ Hid (z.ownsRow wq.heap.size 122 3 (.slice A j c) j (((List.range j).map (fun (x : Nat) => (⟨k, x, true⟩ : Li))).flatMap encL)) ∧ Hid (Grew wq z)) (fun _ i _ => wn - (intOf i).toNat)
   case atStart => exact ⟨0, 0, none, Nat.zero_le _, rfl, rfl, World.ownsRow_nil _ _ _ _, Grew.refl _⟩
   case round =>
    obtain ⟨j, c, A, hj, rfl, rfl, HO, HR⟩ := hrel
    by_cases hjt : j < wn
    ·have e2 : decide ((j : Int) < (wn : Int)) = true := decide_eq_true (by omega)
     obtain ⟨wy, hwy⟩ : ∃ y, y = wr.alloc (.cells #[.int .i64 (k : Int), .int .i64 (j : Int), .bool true] 122) := ⟨_, rfl⟩
     have gy : Grew wr wy := by rw [hwy]; exact (Grew.refl wr).alloc _
     have BI : Hid (Sl wy 3 (some ⟨wr.heap.size, 0, none⟩) 1 1 (encL ⟨(k : Int), (j : Int), true⟩)) := by unfold Hid; rw [hwy]; exact builtS (w := wr) (t := 122) 3 1 #[.int .i64 (k : Int), .int .i64 (j : Int), .bool true] _ rfl rfl (by decide)
     have OWy := Lib.hid (own_grew HO.out gy)
     have HRy := Lib.hid (HR.out.trans gy)
     clear gy HO HR
     go_upto_region 10 with (at_builtin; rw [← hwy]; refine wpList_append_sl _ rfl (.tmp 20) (.tmp 24) 69 rfl wq.heap.size 122 i1 (.agg #[.int .i64 0, .int .i64 0, .bool false]) 3 24 Tryz.underlying69 hi1 hy0 hy1 hy2 rfl (by decide) (.slice A j c) j _ rfl OWy.out (some ⟨wr.heap.size, 0, none⟩) 1 1 _ rfl BI.out (fun u hu => encL_ok.one _ u hu) (by unfold maxLen; omega) (by omega) HRy.out.le ?_; intro v7 w7 own7 hg7 hat7; obtain ⟨A7, c7, rfl⟩ := own_form own7)
     have HO7 : Hid (w7.ownsRow wq.heap.size 122 3 (.slice A7 (j + 1) c7) (j + 1) (((List.range (j + 1)).map (fun (x : Nat) => (⟨k, x, true⟩ : Li))).flatMap encL)) := by
      unfold Hid; rw [range_map_snoc, List.flatMap_append, List.flatMap_singleton]; exact own7
     have HR7 := Lib.hid (HRy.out.grown hg7 (fun q hq => (OWy.out.lt q hq).1))
     clear hwy own7 hg7 hat7 OWy HRy BI e2
     go_wp2_with fail
     go_roundw
     case rel => exact ⟨j + 1, c7, A7, by omega, rfl, by go_num, HO7, HR7⟩
     case measure => simp [intOf]; omega
    ·obtain rfl : j = wn := by omega
     have e2 : decide ((j : Int) < (j : Int)) = false := decide_eq_false (by omega)
     have HCL : Hid (((List.range j).map (fun (x : Nat) => (⟨k, x, true⟩ : Li))).length = j) := by unfold Hid; rw [List.length_map, List.length_range]
     have HRC : Hid (Recs encL 3 wr A j c ((List.range j).map (fun (x : Nat) => (⟨k, x, true⟩ : Li)))) := Recs.own HCL.out HO.out
     have HGr := Lib.hid (HG.out.trans HR.out)
     have HLr := Lib.hid (HL.out.grew HR.out)
     clear HO HR HL HG
     go_wp2_with fail
     refine (denial57 HRC.out (by omega) HGr.out.le).mono ?_
     rintro r w5 ⟨A5, c5, rfl, own5, g5⟩
     have HO5 := Lib.hid own5
     have HG5 := Lib.hid (HGr.out.trans g5)
     have HL5 := Lib.hid (HLr.out.grew g5)
     have HLN : Hid ((someA k j).length = k) := by unfold Hid someA; rw [List.length_map, List.length_range]
     clear own5 g5 HGr HLr HRC e2
     obtain ⟨wy, hwy⟩ : ∃ y, y = w5.alloc (.cells #[.slice A5 j c5, .int .i64 1, .slice none 0 0] 71) := ⟨_, rfl⟩
     have gy : Grew w5 wy := by rw [hwy]; exact (Grew.refl w5).alloc _
     have BQ : Hid (Sl wy 3 (some ⟨w5.heap.size, 0, none⟩) 1 1 (encQ ⟨⟨A5, j, c5⟩, 1, ⟨none, 0, 0⟩⟩)) := by unfold Hid; rw [hwy]; exact builtS (w := w5) (t := 71) 3 1 #[.slice A5 j c5, .int .i64 1, .slice none 0 0] _ rfl rfl (by decide)
     obtain ⟨xs, hxs⟩ := (HL5.out.grew gy).row HLN.out
     have HOV := Lib.hid hxs
     have HGY := Lib.hid gy
     have HBS : Hid (w.heap.size ≤ wy.heap.size) := Nat.le_trans HG5.out.le gy.le
     clear gy hxs
     go_upto_region 12 with (at_builtin; rw [← hwy]; refine wpList_append_sl _ rfl (.tmp 27) (.tmp 30) 39 rfl w.heap.size 71 i0 (.agg #[.slice none 0 0, .int .i64 0, .slice none 0 0]) 3 56 Tryz.underlying39 hi0 hz0 hz1 hz2 rfl (by decide) (.slice GA k gc) k _ rfl HOV.out (some ⟨w5.heap.size, 0, none⟩) 1 1 _ rfl BQ.out (fun u hu => encQ_ok.one _ u hu) (by unfold maxLen; omega) (by omega) HBS.out ?_; intro v7 w7 own7 hg7 hat7; obtain ⟨A7, c7, rfl⟩ := own_form own7)
     have HL7 : Hid (LogAt w.heap.size (fun _ => True) w7 (.slice A7 (k + 1) c7) (someA (k + 1) j)) := by unfold Hid someA; rw [range_map_snoc]; exact HL5.out.push HLN.out HO5.out (cl := ((List.range j).map (fun (x : Nat) => (⟨k, x, true⟩ : Li)))) HCL.out HGY.out hg7 (fun ys hy => by rw [own_inj hy HOV.out]; exact own7)
     have HG7 : Hid (Grew w w7) := (HG5.out.trans HGY.out).grown hg7 (fun j hj => (HOV.out.lt j hj).1)
     clear hwy own7 hg7 hat7 HOV HGY HBS BQ
     go_wp2_with fail
     go_roundw
     case rel => exact ⟨k + 1, c7, A7, by omega, by go_num, rfl, HL7, HG7⟩
     case measure => simp [intOf]; omega
  ·obtain rfl : k = dn := by omega
   have e1 : decide ((k : Int) < (k : Int)) = false := decide_eq_false (by omega)
   obtain ⟨wq, rfl⟩ : ∃ y : World, y = wr := ⟨_, rfl⟩
   obtain ⟨S1, hS1⟩ : ∃ z, someA k wn = z := ⟨_, rfl⟩
   have HLS : Hid (S1.length = k) := by unfold Hid; rw [← hS1]; unfold someA; rw [List.length_map, List.length_range]
   rw [hS1] at HL
   have HS1 := Lib.hid hS1
   clear hS1
   go_wp2_with fail
   clear e1
   go_loopw [5, 34] (fun v i y => ∃ (x n gc : Nat) (GA : Option Addr), x ≤ k ∧ i = .int .i64 x ∧ v = .slice GA n gc ∧ n ≤ k + x * 144 ∧ Hid (LogAt w.heap.size (fun _ => True) y (.slice GA n gc) (S1 ++ (List.range x).flatMap (oneA1 wn))) ∧ Hid ((S1 ++ (List.range x).flatMap (oneA1 wn)).length = n) ∧ Hid (Grew w y)) (fun _ i _ => k - (intOf i).toNat)
   case atStart => exact ⟨0, k, gc, GA, Nat.zero_le _, rfl, rfl, by omega, by rw [List.range_zero, List.flatMap_nil, List.append_nil]; exact HL, by rw [List.range_zero, List.flatMap_nil, List.append_nil]; exact HLS.out, HG⟩
   case round =>
    clear HL HG
    obtain ⟨x, n, gc, GA, hx, rfl, rfl, hn, HL, HN, HG⟩ := hrel
    by_cases hxt : x < k
    ·have e1 : decide ((x : Int) < (k : Int)) = true := decide_eq_true (by omega)
     obtain ⟨S2, hS2⟩ : ∃ z, S1 ++ (List.range x).flatMap (oneA1 wn) = z := ⟨_, rfl⟩
     rw [hS2] at HL HN
     have HS2 := Lib.hid hS2
     clear hS2
     obtain ⟨wq2, rfl⟩ : ∃ y : World, y = wr := ⟨_, rfl⟩
     go_wp2_with fail
     clear e1
     go_loopw [5, 38] (fun v i y => ∃ (f n2 gc : Nat) (GA : Option Addr), f ≤ wn ∧ i = .int .i64 f ∧ v = .slice GA n2 gc ∧ n2 ≤ n + f * 12 ∧ Hid (LogAt w.heap.size (fun _ => True) y (.slice GA n2 gc) (S2 ++ (List.range f).flatMap (fun f => (List.range' (f + 1) (wn - (f + 1))).map fun s => oneS x f s))) ∧ Hid ((S2 ++ (List.range f).flatMap (fun f => (List.range' (f + 1) (wn - (f + 1))).map fun s => oneS x f s)).length = n2) ∧ Hid (Grew w y)) (fun _ i _ => wn - (intOf i).toNat)
     case atStart => exact ⟨0, n, gc, GA, Nat.zero_le _, rfl, rfl, by omega, by rw [List.range_zero, List.flatMap_nil, List.append_nil]; exact HL, by rw [List.range_zero, List.flatMap_nil, List.append_nil]; exact HN.out, HG⟩
     case round =>
      clear HL HG HN
      obtain ⟨f, n2, gc, GA, hf, rfl, rfl, hn2, HL, HN, HG⟩ := hrel
      by_cases hft : f < wn
      ·have e1 : decide ((f : Int) < (wn : Int)) = true := decide_eq_true (by omega)
       obtain ⟨S3, hS3⟩ : ∃ z, S2 ++ (List.range f).flatMap (fun f => (List.range' (f + 1) (wn - (f + 1))).map fun s => oneS x f s) = z := ⟨_, rfl⟩
       rw [hS3] at HL HN
       have HS3 := Lib.hid hS3
       clear hS3
       obtain ⟨wq3, rfl⟩ : ∃ y : World, y = wr := ⟨_, rfl⟩
       go_wp2_with fail
       clear e1
       go_loopw [5, 11] (fun v i y => ∃ (g n3 gc : Nat) (GA : Option Addr), f + 1 ≤ g ∧ g ≤ wn ∧ i = .int .i64 g ∧ v = .slice GA n3 gc ∧ n3 ≤ n2 + g ∧ Hid (LogAt w.heap.size (fun _ => True) y (.slice GA n3 gc) (S3 ++ (List.range' (f + 1) (g - (f + 1))).map fun s => oneS x f s)) ∧ Hid ((S3 ++ (List.range' (f + 1) (g - (f + 1))).map fun s => oneS x f s).length = n3) ∧ Hid (Grew w y)) (fun _ i _ => wn - (intOf i).toNat)
       case atStart => exact ⟨f + 1, n2, gc, GA, by omega, by omega, by go_num, rfl, by omega, by rw [Nat.sub_self, List.range'_zero, List.map_nil, List.append_nil]; exact HL, by rw [Nat.sub_self, List.range'_zero, List.map_nil, List.append_nil]; exact HN.out, HG⟩
       case round =>
        clear HL HG HN
        obtain ⟨g, n3, gc, GA, hfg, hg, rfl, rfl, hn3, HL, HN, HG⟩ := hrel
        by_cases hgt : g < wn
        ·have e1 : decide ((g : Int) < (wn : Int)) = true := decide_eq_true (by omega)
         have hsn : (List.range' (f + 1) (g + 1 - (f + 1))).map (fun s => oneS x f s) = (List.range' (f + 1) (g - (f + 1))).map (fun s => oneS x f s) ++ [oneS x f g] := by
          rw [show g + 1 - (f + 1) = (g - (f + 1)) + 1 by omega, range'_map_snoc, show f + 1 + (g - (f + 1)) = g by omega]
         have HSN : Hid (S3 ++ (List.range' (f + 1) (g + 1 - (f + 1))).map (fun s => oneS x f s) = (S3 ++ (List.range' (f + 1) (g - (f + 1))).map (fun s => oneS x f s)) ++ [oneS x f g]) := by unfold Hid; rw [hsn, List.append_assoc]
         obtain ⟨S4, hS4⟩ : ∃ z, S3 ++ (List.range' (f + 1) (g - (f + 1))).map (fun s => oneS x f s) = z := ⟨_, rfl⟩
         rw [hS4] at HL HN HSN
         clear hsn hS4
         go_wp2_with fail
         refine (not58 _ _ _).mono ?_
         rintro r w3 ⟨rfl, g3⟩
         have HL3 := Lib.hid (HL.out.grew g3)
         have HG3 := Lib.hid (HG.out.trans g3)
         clear g3 HL HG
         go_wp2_with fail
         refine (not58 _ _ _).mono ?_
         rintro r w4 ⟨rfl, g4⟩
         obtain ⟨wb, hwb⟩ : ∃ y, y = w4.alloc (.cells #[.int .i64 x, .int .i64 f, .bool false, .int .i64 x, .int .i64 g, .bool false] 122) := ⟨_, rfl⟩
         have gb : Grew w4 wb := by rw [hwb]; exact (Grew.refl w4).alloc _
         have HRC : Hid (Recs encL 3 wb (some ⟨w4.heap.size, 0, none⟩) 2 2 (oneS x f g).cl) := by unfold Hid; rw [hwb]; exact Recs.built encL_ok _ rfl rfl (by omega)
         have HL4 := Lib.hid ((HL3.out.grew g4).grew gb)
         have HG4 := Lib.hid ((HG3.out.trans g4).trans gb)
         clear g4 gb HL3 HG3
         go_wp2_with fail
         rw [← hwb]
         clear hwb
         refine (denial57 HRC.out (by omega) HG4.out.le).mono ?_
         rintro r w5 ⟨A5, c5, rfl, own5, g5⟩
         have HO5 := Lib.hid own5
         have HG5 := Lib.hid (HG4.out.trans g5)
         have HL5 := Lib.hid (HL4.out.grew g5)
         clear own5 g5 HG4 HL4 HRC e1
         obtain ⟨wy, hwy⟩ : ∃ y, y = w5.alloc (.cells #[.slice A5 2 c5, .int .i64 2, .slice none 0 0] 71) := ⟨_, rfl⟩
         have gy : Grew w5 wy := by rw [hwy]; exact (Grew.refl w5).alloc _
         have BQ : Hid (Sl wy 3 (some ⟨w5.heap.size, 0, none⟩) 1 1 (encQ ⟨⟨A5, 2, c5⟩, 2, ⟨none, 0, 0⟩⟩)) := by unfold Hid; rw [hwy]; exact builtS (w := w5) (t := 71) 3 1 #[.slice A5 2 c5, .int .i64 2, .slice none 0 0] _ rfl rfl (by decide)
         obtain ⟨xs, hxs⟩ := (HL5.out.grew gy).row HN.out
         have HOV := Lib.hid hxs
         have HGY := Lib.hid gy
         have HBS : Hid (w.heap.size ≤ wy.heap.size) := Nat.le_trans HG5.out.le gy.le
         clear gy hxs
         go_upto_region 21 with (at_builtin; rw [← hwy]; refine wpList_append_sl _ rfl (.tmp 48) (.tmp 57) 39 rfl w.heap.size 71 i0 (.agg #[.slice none 0 0, .int .i64 0, .slice none 0 0]) 3 56 Tryz.underlying39 hi0 hz0 hz1 hz2 rfl (by decide) (.slice GA n3 gc) n3 _ rfl HOV.out (some ⟨w5.heap.size, 0, none⟩) 1 1 _ rfl BQ.out (fun u hu => encQ_ok.one _ u hu) (by unfold maxLen; omega) (by omega) HBS.out ?_; intro v7 w7 own7 hg7 hat7; obtain ⟨A7, c7, rfl⟩ := own_form own7)
         have HL7 : Hid (LogAt w.heap.size (fun _ => True) w7 (.slice A7 (n3 + 1) c7) (S3 ++ (List.range' (f + 1) (g + 1 - (f + 1))).map fun s => oneS x f s)) := by unfold Hid; rw [HSN.out]; exact HL5.out.push HN.out HO5.out (cl := (oneS x f g).cl) rfl HGY.out hg7 (fun ys hy => by rw [own_inj hy HOV.out]; exact own7)
         have HG7 : Hid (Grew w w7) := (HG5.out.trans HGY.out).grown hg7 (fun j hj => (HOV.out.lt j hj).1)
         clear hwy own7 hg7 hat7 HOV HGY HBS BQ
         have HN7 : Hid ((S3 ++ (List.range' (f + 1) (g + 1 - (f + 1))).map fun s => oneS x f s).length = n3 + 1) := by unfold Hid; rw [HSN.out, List.length_append, HN.out]; rfl
         go_wp2_with fail
         go_roundw
         case rel => exact ⟨g + 1, n3 + 1, c7, A7, by omega, by omega, by go_num, rfl, by omega, HL7, HN7, HG7⟩
         case measure => simp [intOf]; omega
        ·obtain rfl : g = wn := by omega
         have e1 : decide ((g : Int) < (g : Int)) = false := decide_eq_false (by omega)
         have HL7 : Hid (LogAt w.heap.size (fun _ => True) wr (.slice GA n3 gc) (S2 ++ (List.range (f + 1)).flatMap (fun f => (List.range' (f + 1) (g - (f + 1))).map fun s => oneS x f s))) := by
          unfold Hid; rw [range_flat_snoc, ← List.append_assoc, HS3.out]; exact HL.out
         have HN7 : Hid ((S2 ++ (List.range (f + 1)).flatMap (fun f => (List.range' (f + 1) (g - (f + 1))).map fun s => oneS x f s)).length = n3) := by
          unfold Hid; rw [range_flat_snoc, ← List.append_assoc, HS3.out]; exact HN.out
         clear HL HN
         go_wp2_with fail
         go_roundw
         case rel => exact ⟨f + 1, n3, gc, GA, by omega, by go_num, rfl, by omega, HL7, HN7, HG⟩
         case measure => simp [intOf]; omega
      ·obtain rfl : f = wn := by omega
       have e1 : decide ((f : Int) < (f : Int)) = false := decide_eq_false (by omega)
       have HL7 : Hid (LogAt w.heap.size (fun _ => True) wr (.slice GA n2 gc) (S1 ++ (List.range (x + 1)).flatMap (oneA1 f))) := by
        unfold Hid; rw [range_flat_snoc, ← List.append_assoc, HS2.out]; exact HL.out
       have HN7 : Hid ((S1 ++ (List.range (x + 1)).flatMap (oneA1 f)).length = n2) := by
        unfold Hid; rw [range_flat_snoc, ← List.append_assoc, HS2.out]; exact HN.out
       clear HL HN
       go_wp2_with fail
       go_roundw
       case rel => exact ⟨x + 1, n2, gc, GA, by omega, by go_num, rfl, by omega, HL7, HN7, HG⟩
       case measure => simp [intOf]; omega
    ·obtain rfl : x = k := by omega
     have e1 : decide ((x : Int) < (x : Int)) = false := decide_eq_false (by omega)
     rw [← HS1.out] at HL HN
     go_wp2
     go_ret
     exact ⟨GA, n, gc, rfl, HL.out, HN.out, by omega, HG.out⟩
end Go.Proofs.YtnnbibmmofnkdaaGreat
