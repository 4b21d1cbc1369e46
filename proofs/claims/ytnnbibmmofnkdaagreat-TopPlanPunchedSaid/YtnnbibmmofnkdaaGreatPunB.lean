/-
 Punches: marksOf, exact.
-/
import Derived.Test.YtnnbibmmofnkdaaGreatPunA
namespace Go.Proofs.YtnnbibmmofnkdaaGreat
open Go.RowKit Go.Proofs WageMem WageReg WageRec WageSpan WageTop
end Go.Proofs.YtnnbibmmofnkdaaGreat
namespace WageReg
open Go
section
variable {P : Program} {ops : Array Oper} {Q : Exit → Act → World → Prop} {md : Region.Mode}
/-- One operation alone, in the world as it is. -/
theorem wpAny_one {i : Nat} {o : Oper} {fuel fuel' : Nat} {listed : Array Bool} {a : Act} {w : World} (hr : Region.ready md ops listed = [i]) (hf : fuel = fuel' + 1) (ho : pickOps ops [i] = [o]) (hw : Region.wanted o (yielded ops a.tmps) = true)
  (h : ∀ K : Act → World → Prop, (∀ a1 w1, wpAny P md ops Q fuel' (listed.setIfInBounds i true) a1 w1 → K a1 w1) → o.wp P a w K Q) : wpAny P md ops Q fuel listed a w := by
 subst hf
 refine wpAny_all hr (by simp) fun j hj => ?_
 obtain rfl : j = i := by simpa using hj
 unfold wpOp
 simp only [pick_one ho, hw, if_true]
 exact .inl (h _ fun a1 w1 h1 => h1)
end
end WageReg
namespace Go.Proofs.YtnnbibmmofnkdaaGreat
open Go.RowKit Go.Proofs WageMem WageReg WageRec WageSpan WageTop
theorem info138 : (Tryz.prog.info? 138).map (fun i => (i.zero, i.size, i.bytes)) = some (some (.agg #[.int .i64 0, .bool false]), 2, 16) := by kernel_rfl
theorem info149 : (Tryz.prog.info? 149).map (fun i => (i.zero, i.size, i.bytes)) = some (some (.agg #[.int .i64 0, .bool false, .int .i64 0]), 3, 24) := by kernel_rfl
/-- What exact returns. -/
def RetXt (ds : List Du) (n : Nat) (w : World) (r : Ending) (w' : World) : Prop := ∃ B e, r = .returned (.slice B (2 * n) e) ∧ Recs encU 2 w' B (2 * n) e (puL ds n) ∧ Grew w w'
/-- What marksOf returns. -/
def RetMo (ds : List Du) (n : Nat) (w : World) (r : Ending) (w' : World) : Prop := ∃ B e, r = .returned (.slice B (2 * n) e) ∧ Recs encM 3 w' B (2 * n) e (mkL ds n) ∧ Grew w w'
set_option maxRecDepth 100000 in
set_option maxHeartbeats 4000000 in
theorem exact29 {w : World} {A : Option Addr} {n c : Nat} {ds : List Du} (hd : Dus w A n c ds) (hn : n ≤ 24) : Calls Tryz.prog 29 #[.slice A n c] w (RetXt ds n w) := by
 obtain ⟨i0, hi0, hz0, hz1, hz2⟩ := info_parts info138
 have HD := Lib.hid hd
 clear hd
 go_enter Tryz.func29, Tryz.ntmps29
 go_wp2_with fail
 go_loopw [3, 4] (fun v i y => ∃ (k : Nat) (B : Option Addr) (e : Nat), k ≤ n ∧ v = .slice B (2 * k) e ∧ i = .int .i64 k ∧ Hid (y.ownsRow w.heap.size 138 2 (.slice B (2 * k) e) (2 * k) ((puL ds k).flatMap encU)) ∧ Hid (Grew w y)) (fun _ i _ => n - (intOf i).toNat)
 case atStart => exact ⟨0, none, 0, Nat.zero_le _, rfl, rfl, World.ownsRow_nil _ _ _ _, Grew.refl _⟩
 case round =>
  obtain ⟨k, B, e, hk, rfl, rfl, OW, HR⟩ := hrel
  by_cases hlt : k < n
  ·obtain ⟨b, o, x, hA, hx, ⟨c0, c1, _⟩, _⟩ := (HD.out.grew HR.out).at_ hlt
   have HST := Lib.hid (puL_step ds hx)
   obtain ⟨xa, xb, xs⟩ := x
   simp only at c0 c1
   have HST2 : Hid (puL ds (k + 1) = puL ds k ++ [⟨xa, true⟩, ⟨xb, false⟩]) := HST
   have e1 : (0 : Int) ≤ (k : Int) := by omega
   have e2 : (k : Int) < (n : Int) := by omega
   have hC : ∀ w', Grew wr.drew w' → w'.cell? ⟨b, o + k * 3, none⟩ = some (.int .i64 xa) ∧ w'.cell? ⟨b, o + k * 3 + 1, none⟩ = some (.int .i64 xb) := fun w' g' => by
    have gg := (Grew.refl wr).drew.trans g'
    exact ⟨gg.cell c0, gg.cell c1⟩
   have HC := Lib.hid hC
   subst hA
   clear hx hC c0 c1 HST
   go_upto_region 5 with (fail)
   refine wp_region_G (by kernel_rfl) Grew.refl 14 ?_
   refine wpAnyG_takes Grew.refl (fun _ _ _ => Grew.trans) (fun _ _ _ _ _ h => h) [0, 1, 2, 3, 4, 5, 6, 7, 8, 9, 10, 11, 12] (fuel' := 3) (by kernel_rfl) (by kernel_rfl) (by simp only [pickOps, ugT, ug0, ug1]; rfl) ?_
   repeat (first
    | (refine TakeAll.pure (v := ?_) (by rfl) ?_ ?_; rotate_left; (intro w' g'; obtain ⟨q_0, q_1⟩ := HC.out w' g'; go_simp; first | done | with_reducible rfl); (simp only [Act.put, uzT, uz0, uz1]))
    | (refine TakeAll.skip (by rfl) ?_; (simp only [Act.put, uzT, uz0, uz1])))
   refine TakeAll.nil ?_
   clear HC
   refine wpAnyG_stepW (i := 13) (by kernel_rfl) (fuel' := 2) (by kernel_rfl) (by simp only [pickOps, ugT, ug0, ug1]; rfl) (by rfl) ?_
   intro w3 g3 K hK
   go_simp
   refine hK _ _ ((Grew.refl w3).alloc _) ?_
   clear hK K
   try simp only [Act.put, uzT, uz0, uz1]
   obtain ⟨wy, hwy⟩ : ∃ y, y = w3.alloc (.cells #[.int .i64 xa, .bool true, .int .i64 xb, .bool false] 138) := ⟨_, rfl⟩
   obtain ⟨b5, hb5⟩ : ∃ z, z = w3.heap.size := ⟨_, rfl⟩
   have BI : Hid (Sl wy 2 (some ⟨b5, 0, none⟩) 2 2 ([(⟨xa, true⟩ : Pu), ⟨xb, false⟩].flatMap encU)) := by unfold Hid; rw [hwy, hb5]; exact builtS (w := w3) (t := 138) 2 2 #[.int .i64 xa, .bool true, .int .i64 xb, .bool false] _ rfl rfl (by decide)
   have gy : Grew wr wy := ((Grew.refl wr).drew.trans g3).trans (by rw [hwy]; exact (Grew.refl w3).alloc _)
   rw [← hwy, ← hb5]
   clear hwy hb5 g3
   refine wpAnyG_end (by kernel_rfl) (fuel' := 1) (by kernel_rfl) (by simp only [pickOps, ugT, ug0, ug1]; rfl) rfl ?_
   intro w5 g5 K hK
   have gz := gy.trans g5
   refine wp_append_sl _ (.tmp 11) (.tmp 24) 77 rfl w.heap.size 138 i0 (.agg #[.int .i64 0, .bool false]) 2 16 Tryz.underlying77 hi0 hz0 hz1 hz2 rfl (by decide) (.slice B (2 * k) e) (2 * k) _ rfl (own_grew OW.out gz) (some ⟨b5, 0, none⟩) 2 2 _ rfl (BI.out.grew g5) (WageRec.flat_one encU_ok _) (by unfold maxLen; omega) (by omega) (HR.out.trans gz).le ?_
   intro v7 w7 own7 hg7 _
   obtain ⟨A7, c7, rfl⟩ := own_form own7
   refine hK _ _ ?_
   clear hK K
   have G7 := Lib.hid ((HR.out.trans gz).grown hg7 (fun q hq => ((own_grew OW.out gz).lt q hq).1))
   have OW7 : Hid (w7.ownsRow w.heap.size 138 2 (.slice A7 (2 * (k + 1)) c7) (2 * (k + 1)) ((puL ds (k + 1)).flatMap encU)) := by unfold Hid; rw [HST2.out, List.flatMap_append]; exact own7
   clear own7 hg7 gz g5 gy BI OW HR
   try simp only [Act.put, uzT, uz0, uz1]
   refine wpAny_one (i := 15) (by kernel_rfl) (fuel' := 0) (by kernel_rfl) (by simp only [pickOps, ugT, ug0, ug1]; rfl) (by rfl) ?_
   intro K hK
   go_simp
   refine hK _ _ ?_
   clear hK K
   try simp only [Act.put, uzT, uz0, uz1]
   refine wpAny_done (by kernel_rfl) ?_ _
   go_wp2_with fail
   go_roundw
   case rel => exact ⟨k + 1, A7, c7, by omega, rfl, by go_num, OW7.out, G7.out⟩
   case measure => simp [intOf]; omega
  ·obtain rfl : n = k := by omega
   go_wp2
   go_ret
   exact ⟨B, e, rfl, Recs.own (puL_len ds n) OW.out, HR.out⟩
set_option maxRecDepth 100000 in
set_option maxHeartbeats 4000000 in
theorem marks64 {w : World} {A : Option Addr} {n c : Nat} {ds : List Du} (hd : Dus w A n c ds) (hn : n ≤ 24) : Calls Tryz.prog 64 #[.slice A n c] w (RetMo ds n w) := by
 obtain ⟨i0, hi0, hz0, hz1, hz2⟩ := info_parts info149
 have HD := Lib.hid hd
 clear hd
 go_enter Tryz.func64, Tryz.ntmps64
 go_wp2_with fail
 go_loopw [3, 8] (fun v i y => ∃ (k : Nat) (B : Option Addr) (e : Nat), k ≤ n ∧ v = .slice B (2 * k) e ∧ i = .int .i64 k ∧ Hid (y.ownsRow w.heap.size 149 3 (.slice B (2 * k) e) (2 * k) ((mkL ds k).flatMap encM)) ∧ Hid (Grew w y)) (fun _ i _ => n - (intOf i).toNat)
 case atStart => exact ⟨0, none, 0, Nat.zero_le _, rfl, rfl, World.ownsRow_nil _ _ _ _, Grew.refl _⟩
 case round =>
  obtain ⟨k, B, e, hk, rfl, rfl, OW, HR⟩ := hrel
  by_cases hlt : k < n
  ·obtain ⟨b, o, x, hA, hx, ⟨c0, c1, c2⟩, _⟩ := (HD.out.grew HR.out).at_ hlt
   have HST := Lib.hid (mkL_step ds hx)
   obtain ⟨xa, xb, xs⟩ := x
   simp only at c0 c1 c2
   have HST2 : Hid (mkL ds (k + 1) = mkL ds k ++ [⟨(k : Int), true, xa⟩, ⟨(k : Int), false, xb⟩]) := HST
   have e1 : (0 : Int) ≤ (k : Int) := by omega
   have e2 : (k : Int) < (n : Int) := by omega
   subst hA
   clear hx HST
   obtain ⟨wa, hwa⟩ : ∃ y, y = wr.alloc (.cells #[.int .i64 xa, .int .i64 xb, .int .i64 xs] 47) := ⟨_, rfl⟩
   obtain ⟨db, hdb⟩ : ∃ z, z = wr.heap.size := ⟨_, rfl⟩
   have ga : Grew wr wa := by rw [hwa]; exact (Grew.refl wr).alloc _
   have DB : Blk wa db 47 [.int .i64 xa, .int .i64 xb, .int .i64 xs] := by rw [hwa, hdb]; exact Blk.new wr 47 [.int .i64 xa, .int .i64 xb, .int .i64 xs]
   go_upto_region 5 with (fail)
   rw [← hwa, ← hdb]
   clear hwa hdb c0 c1 c2
   have d0 : wa.cell? ⟨db, 0, none⟩ = some (.int .i64 xa) := DB.cell rfl
   have d1 : wa.cell? ⟨db, 1, none⟩ = some (.int .i64 xb) := DB.cell rfl
   obtain ⟨wy, hwy⟩ : ∃ y, y = wa.alloc (.cells #[.int .i64 (k : Int), .bool true, .int .i64 xa, .int .i64 (k : Int), .bool false, .int .i64 xb] 149) := ⟨_, rfl⟩
   have gy : Grew wa wy := by rw [hwy]; exact (Grew.refl wa).alloc _
   have BI : Hid (Sl wy 3 (some ⟨wa.heap.size, 0, none⟩) 2 2 ([(⟨(k : Int), true, xa⟩ : Mk), ⟨(k : Int), false, xb⟩].flatMap encM)) := by unfold Hid; rw [hwy]; exact builtS (w := wa) (t := 149) 3 2 #[.int .i64 (k : Int), .bool true, .int .i64 xa, .int .i64 (k : Int), .bool false, .int .i64 xb] _ rfl rfl (by decide)
   have OWy := Lib.hid (own_grew OW.out (ga.trans gy))
   have HRy := Lib.hid (HR.out.trans (ga.trans gy))
   clear gy ga OW HR DB
   go_wp2_with (at_builtin; rw [← hwy]; refine wpList_append_sl _ rfl (.tmp 13) (.tmp 22) 140 rfl w.heap.size 149 i0 (.agg #[.int .i64 0, .bool false, .int .i64 0]) 3 24 Tryz.underlying140 hi0 hz0 hz1 hz2 rfl (by decide) (.slice B (2 * k) e) (2 * k) _ rfl OWy.out (some ⟨wa.heap.size, 0, none⟩) 2 2 _ rfl BI.out (WageRec.flat_one encM_ok _) (by unfold maxLen; omega) (by omega) HRy.out.le ?_; intro v7 w7 own7 hg7 hat7; obtain ⟨A7, c7, rfl⟩ := own_form own7)
   have G7 := Lib.hid (HRy.out.grown hg7 (fun q hq => (OWy.out.lt q hq).1))
   have OW7 : Hid (w7.ownsRow w.heap.size 149 3 (.slice A7 (2 * (k + 1)) c7) (2 * (k + 1)) ((mkL ds (k + 1)).flatMap encM)) := by unfold Hid; rw [HST2.out, List.flatMap_append]; exact own7
   clear own7 hg7 hat7 OWy HRy BI hwy d0 d1
   go_wp2_with fail
   go_roundw
   case rel => exact ⟨k + 1, A7, c7, by omega, rfl, by go_num, OW7.out, G7.out⟩
   case measure => simp [intOf]; omega
  ·obtain rfl : n = k := by omega
   go_wp2
   go_ret
   exact ⟨B, e, rfl, Recs.own (mkL_len ds n) OW.out, HR.out⟩
end Go.Proofs.YtnnbibmmofnkdaaGreat
