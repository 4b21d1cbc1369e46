/-
 Propagations: next, walked.
-/
import Derived.Test.YtnnbibmmofnkdaaGreatPrpD
import Derived.Test.YtnnbibmmofnkdaaGreatPrpP
import Derived.WalkMore
namespace Go.Proofs.YtnnbibmmofnkdaaGreat
open Go.RowKit Go.Proofs WageMem WageReg WageRec WageSpan WageTop
open WageMap
/-- Where the clauses lie: a slice of slices, each of which stays. -/
def ClAt (w : World) (q : Pp) (R : Nat → Prop) (dl : List (List Li)) : Prop :=
 dl.length = q.N ∧ ∃ (CA : Option Addr) (cc : Nat), q.CS = .slice CA q.N cc ∧ ∀ i, i < q.N → ∃ (cg co : Nat) (A : Option Addr) (n c : Nat), CA = some ⟨cg, co, none⟩ ∧ R cg ∧ w.cell? ⟨cg, co + i, none⟩ = some (.slice A n c) ∧ Recs encL 3 w A n c (dl.getD i []) ∧ (∀ b o, A = some ⟨b, o, none⟩ → 0 < n → R b)
theorem ClAt.keep {w w' : World} {q : Pp} {R : Nat → Prop} {dl : List (List Li)} (h : ClAt w q R dl) (k : KeepD R w w') : ClAt w' q R dl := by
 obtain ⟨h1, CA, cc, h2, h3⟩ := h
 refine ⟨h1, CA, cc, h2, fun i hi => ?_⟩
 obtain ⟨cg, co, A, n, c, e1, e2, e3, e4, e5⟩ := h3 i hi
 exact ⟨cg, co, A, n, c, e1, e2, k.cell e2 e3, ⟨e4.1, KeepD.sl e4.2 k e5⟩, e5⟩
theorem ClAt.less {w : World} {q : Pp} {R R' : Nat → Prop} {dl : List (List Li)} (h : ClAt w q R dl) (hr : ∀ j, R j → R' j) : ClAt w q R' dl := by
 obtain ⟨h1, CA, cc, h2, h3⟩ := h
 refine ⟨h1, CA, cc, h2, fun i hi => ?_⟩
 obtain ⟨cg, co, A, n, c, e1, e2, e3, e4, e5⟩ := h3 i hi
 exact ⟨cg, co, A, n, c, e1, hr _ e2, e3, e4, fun b o h h' => hr _ (e5 b o h h')⟩
/-- A block that must stay has changed, nothing else: the propagation is there as before. -/
theorem PgAt.kept {w w' : World} {q : Pp} {R R' : Nat → Prop} {s : Pg} {x : Option Nat} (h : PgAt w q R s) (hg : w.grownBy w' x) (hx : ∀ k, x = some k → R k) (hr : ∀ j, R' j → R j) : PgAt w' q R' s := by
 obtain ⟨LA, lc, UA, un, uc, m, HP, HLo, HM, HT, hLR, hUR⟩ := h.ex
 have hb := HP.hd
 have hsz : w.heap.size ≤ w'.heap.size := hg.size
 have ap : ∀ {base e size v n xs}, w.ownsRow base e size v n xs → (∀ g', Value.ownBlock v = some g' → ¬ R g') → w'.ownsRow base e size v n xs := fun {base e size v n xs} ho hne => ho.kept hg (by
  cases hv : Value.ownBlock v with
  | none => exact .inl rfl
  | some g' => exact .inr (fun e => hne g' hv (hx g' e.symm)))
 have HP2 : HpAt w' q.b q.base [.slice LA s.lst.length lc, .map (some q.b1), .map (some q.b2), q.CS, .slice (some ⟨q.gO, 0, none⟩) q.N q.oc, .slice (some ⟨q.gS, 0, none⟩) q.N q.sc, .int .i64 s.fa] (fun j => j < w.heap.size ∧ j ≠ q.b ∧ some j ≠ Value.ownBlock (.slice UA un uc)) UA un uc s.U :=
  ⟨hb.kept hg (fun e => h.nR.1 (hx _ e.symm)), ap HP.own (fun g hg => (hUR g hg).1), HP.len, rfl, HP.nb, HP.ng, HP.le⟩
 exact ⟨⟨LA, lc, UA, un, uc, m, HP2.can, ap HLo hLR, HM.kept hg (fun e => h.nR.2.1 (hx _ e.symm)), HT, fun g hg hh => hLR g hg (hr g hh), fun g hg => ⟨fun hh => (hUR g hg).1 (hr g hh), (hUR g hg).2⟩⟩, ap h.op (fun g hg hR => by injection hg with hg; subst hg; exact h.nR.2.2.1 hR), ap h.sa (fun g hg hR => by injection hg with hg; subst hg; exact h.nR.2.2.2 hR), h.ol, h.sl, ⟨fun hh => h.nR.1 (hr _ hh), fun hh => h.nR.2.1 (hr _ hh), fun hh => h.nR.2.2.1 (hr _ hh), fun hh => h.nR.2.2.2 (hr _ hh)⟩, h.N, Nat.le_trans h.base hsz, fun j hj => Nat.lt_of_lt_of_le (h.lt j (hr j hj)) hsz⟩
theorem PgAt.sa_at {w : World} {q : Pp} {R : Nat → Prop} {s : Pg} (h : PgAt w q R s) {i : Nat} (hi : i < q.N) : w.cell? ⟨q.gS, i, none⟩ = some (.bool (s.sa.getD i false)) := by
 have h1 := h.sa.cellAt i (by omega)
 rw [h1, List.getElem?_map, List.getD_eq_getElem?_getD, List.getElem?_eq_getElem (by rw [h.sl]; exact hi)]
 rfl
def unitsN (w : World) (b : Nat) : Nat := match w.cell? ⟨b, 7, none⟩ with
 | some (.slice _ n _) => n
 | _ => 0
theorem HpAt.units {w : World} {b base : Nat} {pre : List Value} {Pr : Nat → Prop} {A : Option Addr} {n c : Nat} {U : List Int} (h : HpAt w b base pre Pr A n c U) : unitsN w b = U.length := by
 unfold unitsN
 rw [h.cell, h.len]
theorem PgAt.units {w : World} {q : Pp} {R : Nat → Prop} {s : Pg} (h : PgAt w q R s) : unitsN w q.b = s.U.length := by
 obtain ⟨LA, lc, UA, un, uc, m, HP, _⟩ := h.ex
 exact HP.units
theorem results_lt {fn : Func} {p u : Tmp} (h : fn.results = #[.cell p 122, .tmp u]) (tmps : Array Value) (w : World) (b : Nat) (cs : Array Value) (hp : tmps.getD p undef = .pointer (some ⟨b, 0, none⟩)) (hb : w.heap[b]? = some (.cells cs 122 (0, 0))) (hs : cs.size = 3) :
  (results fn tmps).run Tryz.prog w = .ok (.tuple #[.agg cs, tmps.getD u undef]) w := by
 rw [results_cell_tmp h, hp]
 simp [asAddr, run_loadVar_row w b 122 122 cs (0, 0) _ hb Tryz.underlying122 rfl (by rw [hs]; exact size122), Result.andThen, Sem.run_pure]
/-- What next returns. -/
def RetNx (q : Pp) (R : Nat → Prop) (dl : List (List Li)) (s : Pg) (w : World) (e : Ending) (w' : World) : Prop := ∃ (r : Option Li) (l : Li) (s1 : Pg), e = .returned (.tuple #[.agg #[.int .i64 l.d, .int .i64 l.w, .bool l.is], .bool r.isSome]) ∧ (∀ x, r = some x → x = l) ∧ NxR dl s r s1 ∧ PgAt w' q R s1 ∧ KeepD R w w'
theorem res_put {w y : World} {q : Pp} {R : Nat → Prop} {s : Pg} {rb : Nat} (h : PgAt y q (fun j => R j ∨ j = rb) s) (k : KeepD (fun j => R j ∨ j = rb) w y) (hlt : ∀ j, R j → j < rb) (cs : Array Value) : PgAt (y.setRow rb cs) q R s ∧ KeepD R w (y.setRow rb cs) :=
 ⟨h.kept (grown_setRow y rb cs) (fun k e => .inr (by injection e with e; exact e.symm)) (fun _ h => .inl h), (keepB_mono k (fun _ h => .inl h)).trans (KeepD.grown (grown_setRow y rb cs) (fun hh => by have := hlt _ hh; omega))⟩
set_option maxRecDepth 100000 in
set_option maxHeartbeats 16000000 in
theorem next61 {w : World} {q : Pp} {R : Nat → Prop} {s : Pg} {dl : List (List Li)} (h : PgAt w q R s) (hcl : ClAt w q R dl) (hU : ∀ x ∈ s.U, ∃ i : Nat, x = (i : Int) ∧ i < q.N) (hU9 : s.U.length ≤ 1000000) :
  Calls Tryz.prog 61 #[.pointer (some ⟨q.b, 0, none⟩)] w (RetNx q R dl s w) := by
 obtain ⟨w1, hw1⟩ : ∃ y, y = w.alloc (.cells #[.int .i64 0, .int .i64 0, .bool false] 122) := ⟨_, rfl⟩
 obtain ⟨rb, hrb⟩ : ∃ z, z = w.heap.size := ⟨_, rfl⟩
 have g1 : Grew w w1 := by rw [hw1]; exact (Grew.refl w).alloc _
 have B1 : Hid (Blk w1 rb 122 [.int .i64 0, .int .i64 0, .bool false]) := by unfold Hid; rw [hw1, hrb]; exact Blk.new w 122 _
 have H1 : Hid (PgAt w1 q (fun j => R j ∨ j = rb) s) := h.more g1 (by omega) B1.out.lt
 have HLT : Hid (∀ j, R j → j < rb) := fun j hj => by have := h.lt j hj; omega
 have HK0 : Hid (KeepD R w w1) := KeepD.grew g1
 have HCL : Hid (ClAt w1 q (fun j => R j ∨ j = rb) dl) := (hcl.keep (KeepD.grew g1)).less (fun _ h => .inl h)
 have HU := Lib.hid hU
 clear h hcl hU g1
 go_enter Tryz.func61, Tryz.ntmps61
 go_wp2_with fail
 rw [← hw1, ← hrb]
 clear hw1 hrb
 go_step3
 go_wp2_with fail
 go_step3
 go_wp2_with fail
 go_loopw [] (fun y => ∃ (ps U1 : List Int), Hid (s.U.Perm (ps ++ U1)) ∧ Hid (∀ x ∈ ps, Dull dl s x) ∧ Hid (PgAt y q (fun j => R j ∨ j = rb) { s with U := U1 }) ∧ Hid (KeepD (fun j => R j ∨ j = rb) w1 y)) (fun y => unitsN y q.b)
 case atStart => exact ⟨[], s.U, List.Perm.refl _, fun x hx => (by cases hx), H1.out, KeepD.refl _⟩
 case round =>
  clear H1
  obtain ⟨ps, U1, HP, HD, HQ, HKr⟩ := hrel
  obtain ⟨LA, lc, UA, un, uc, Pr, hun, hPr, hHp, hback⟩ := HQ.out.heap
  have HH := Lib.hid hHp
  have HBK := Lib.hid hback
  have c7 : wr.cell? ⟨q.b, 7, none⟩ = some (.slice UA un uc) := hHp.cell
  have HRB : Hid (Blk wr rb 122 [.int .i64 0, .int .i64 0, .bool false]) := HKr.out.2 _ _ (.inr rfl) B1.out
  have HMS : Hid (unitsN wr q.b = U1.length) := HQ.out.units
  clear hHp hback hPr
  cases U1 with
  | nil =>
   obtain rfl : un = 0 := hun
   clear HBK HH
   go_wp2_with fail
   refine (len112 _ _ _ wr).mono ?_
   rintro r w2 ⟨rfl, rfl⟩
   clear c7
   go_wp2_with (refine wpList_store_row rfl 122 (.tmp 2) (.tmp 55) rfl rb #[.int .i64 0, .int .i64 0, .bool false] rfl rfl 122 _ HRB.out size122 rfl (by simp [Value.oneCell']) ?_)
   have HB := setRow_heap w2 rb _ #[.int .i64 0, .int .i64 0, .bool false] 122 (0, 0) HRB.out
   refine bodyPost_ret (results_lt rfl _ _ rb _ rfl HB rfl) rfl ?_
   obtain ⟨a1, a2⟩ := res_put HQ.out HKr.out HLT.out #[.int .i64 0, .int .i64 0, .bool false]
   exact ⟨none, ⟨0, 0, false⟩, _, rfl, fun x h => (by cases h), ⟨ps, [], HP.out, rfl, rfl, HD.out⟩, a1, HK0.out.trans a2⟩
  | cons u T =>
   replace hun : un = T.length + 1 := hun
   obtain ⟨i, rfl, hi⟩ := HU.out u (HP.out.mem_iff.2 (List.mem_append_right _ List.mem_cons_self))
   have hT9 : T.length + 1 ≤ 1000000 := by
    have h1 := HP.out.length_eq
    rw [List.length_append, List.length_cons] at h1
    omega
   obtain ⟨g, rfl⟩ := HH.out.form (by omega)
   have c8 : wr.cell? ⟨g, 0, none⟩ = some (.int .i64 (i : Int)) := HH.out.at_ (i := 0) (by omega)
   have e0 : (0 : Int) < (un : Int) := by omega
   have t1 : decide ((un : Int) > 0) = true := decide_eq_true e0
   have t2 : decide ((0 : Int) < (un : Int)) = true := decide_eq_true e0
   have HUN := Lib.hid hun
   clear hun
   go_wp2_with fail
   refine (len112 _ _ _ wr).mono ?_
   rintro r w2 ⟨rfl, rfl⟩
   go_wp2_with fail
   have HH2 := HH.out
   rw [HUN.out] at HH2
   refine (hpop113 HH2).mono ?_
   rintro r w3 ⟨A3, c3, V, rfl, hv, h3, k3⟩
   obtain ⟨h4, k4⟩ := HBK.out w3 A3 T.length c3 V h3 k3
   have H3 : Hid (PgAt w3 q (fun j => R j ∨ j = rb) { s with U := V }) := h4
   have HK3 := Lib.hid (HKr.out.trans k4)
   have HVL : Hid (V.length = T.length) := hv.length_eq
   have HV : Hid (s.U.Perm ((ps ++ [(i : Int)]) ++ V)) := HP.out.trans (by rw [List.append_assoc]; exact List.Perm.append_left ps (List.Perm.cons _ hv.symm))
   have HDX : Hid (Dull dl s (i : Int) → ∀ x ∈ ps ++ [(i : Int)], Dull dl s x) := fun hd x hx => by
    rcases List.mem_append.1 hx with h | h
    ·exact HD.out x h
    ·rw [List.mem_singleton.1 h]; exact hd
   have HNXD : Hid (∀ x ∈ ps ++ [(i : Int)], x = (i : Int) ∨ Dull dl s x) := fun x hx => by
    rcases List.mem_append.1 hx with h | h
    ·exact .inr (HD.out x h)
    ·exact .inl (List.mem_singleton.1 h)
   obtain ⟨c4, c5, c6, c1, c2, c3', _⟩ := H3.out.cells
   have p5 := H3.out.sa_at hi
   obtain ⟨bb, hbb⟩ : ∃ z, s.sa.getD i false = z := ⟨_, rfl⟩
   replace p5 : w3.cell? ⟨q.gS, i, none⟩ = some (.bool bb) := by rw [← hbb]; exact p5
   have HBB := Lib.hid hbb
   have e2 : (0 : Int) ≤ (i : Int) := by omega
   have e3 : (i : Int) < (q.N : Int) := by omega
   clear hbb h3 k3 h4 k4 hv HQ HKr HBK HH HH2 c7 c8 t1 t2 HRB c4 c6 c2 HP HD HUN
   cases bb with
   | true =>
    clear c1 c3'
    go_wp2_with fail
    go_roundw
    case rel => exact ⟨ps ++ [(i : Int)], V, HV, HDX.out (.inl (by rw [Int.toNat_natCast]; exact HBB.out)), H3, HK3⟩
    case measure =>
     have h1 := HMS.out
     have h2 := H3.out.units
     have h3 := HVL.out
     rw [List.length_cons] at h1
     simp only at h2
     omega
   | false =>
    obtain ⟨cl0, CA, cc, hCS, hcl⟩ := HCL.out.keep HK3.out
    obtain ⟨cg, co, A, n, c, hCA, hRc, pcell, hrec, hRA⟩ := hcl i hi
    subst hCA
    rw [hCS] at c3'
    have HREC := Lib.hid hrec
    have hn9 := hrec.le
    have HRN : Hid ((dl.getD i []).length = n) := hrec.1
    clear hCS hcl hrec hRA hRc cl0 c1
    go_wp2_with fail
    clear p5 c5 c3' pcell
    go_loopw [41] (fun v y => ∃ j : Nat, j ≤ n ∧ v = .int .i64 j ∧ Hid (∀ l ∈ (dl.getD i []).take j, s.T.contains l.neg = true) ∧ Hid (Grew w3 y)) (fun v _ => n - (intOf v).toNat)
    case atStart => exact ⟨0, Nat.zero_le _, rfl, fun l hl => (by simp at hl), Grew.refl _⟩
    case round =>
     obtain ⟨j, hj, rfl, HA, HR⟩ := hrel
     by_cases hlj : j < n
     ·obtain ⟨b', o', l, hA, hl, d0, d1, d2⟩ := Recs.lit (HREC.out.grew HR.out) hlj
      obtain ⟨V2, hV2⟩ : ∃ V, s.T.contains l.neg = V := ⟨_, rfl⟩
      have HLM : Hid (l ∈ dl.getD i []) := List.mem_of_getElem? hl
      have HA2 : Hid (V2 = true → ∀ m ∈ (dl.getD i []).take (j + 1), s.T.contains m.neg = true) := fun hv m hm => by
       rw [List.take_add_one, hl, Option.toList] at hm
       rcases List.mem_append.1 hm with h | h
       ·exact HA.out m h
       ·rw [List.mem_singleton.1 h, hV2]; exact hv
      have HV2 := Lib.hid hV2
      obtain ⟨nl, hnl⟩ : ∃ z, l.neg = z := ⟨_, rfl⟩
      have HLK := H3.out.look l.neg
      rw [hV2] at HLK
      have HNG := fun w0 => negate111 l w0
      rw [hnl] at HLK HNG
      obtain ⟨ld, lw, lis⟩ := l
      obtain ⟨nd, nw, nis⟩ := nl
      simp only at d0 d1 d2
      have HLK := Lib.hid HLK
      have HNEG : Hid (∀ w0, Calls Tryz.prog 111 #[.agg #[.int .i64 ld, .int .i64 lw, .bool lis]] w0 fun r w' => r = .returned (.agg #[.int .i64 nd, .int .i64 nw, .bool nis]) ∧ Grew w0 w') := HNG
      have f1 : (0 : Int) ≤ (j : Int) := by omega
      have f2 : (j : Int) < (n : Int) := by omega
      subst hA
      clear hl hV2 hnl HNG HA
      obtain ⟨wa, hwa⟩ : ∃ y, y = wr.alloc (.cells #[.int .i64 ld, .int .i64 lw, .bool lis] 122) := ⟨_, rfl⟩
      obtain ⟨ba, hba⟩ : ∃ z, z = wr.heap.size := ⟨_, rfl⟩
      have HBA : Hid (Blk wa ba 122 [.int .i64 ld, .int .i64 lw, .bool lis]) := by unfold Hid; rw [hwa, hba]; exact Blk.new wr 122 [.int .i64 ld, .int .i64 lw, .bool lis]
      have ga : Grew wr wa := by rw [hwa]; exact (Grew.refl wr).alloc _
      have HRa := Lib.hid (HR.out.trans ga)
      go_upto_region 8 with (fail)
      rw [← hwa, ← hba]
      clear hwa hba d0 d1 d2 ga HR
      have hC : ∀ w', Grew wa w' → w'.cell? ⟨q.b, 1, none⟩ = some (.map (some q.b1)) ∧ (w'.cell? ⟨ba, 0, none⟩ = some (.int .i64 ld) ∧ w'.cell? ⟨ba, 1, none⟩ = some (.int .i64 lw) ∧ w'.cell? ⟨ba, 2, none⟩ = some (.bool lis)) ∧ (Instr.lookup 127 (.map (some q.b1)) (.agg #[.int .i64 nd, .int .i64 nw, .bool nis]) false).run Tryz.prog w' = .ok (.bool V2) w' := fun w' g' =>
       ⟨(HRa.out.trans g').cell H3.out.cells.2.2.2.1, ⟨g'.cell (HBA.out.cell rfl), g'.cell (HBA.out.cell rfl), g'.cell (HBA.out.cell rfl)⟩, HLK.out w' (HRa.out.trans g')⟩
      have HC := Lib.hid hC
      clear hC
      refine wp_region_seq (by kernel_rfl) Grew.refl (fun _ _ _ => Grew.trans) (fun _ _ _ _ _ h => h) (by kernel_rfl) ?_
      repeat (first
       | (refine TakeAll.pure (v := ?_) (by rfl) ?_ ?_; rotate_left; (intro w' g'; obtain ⟨q_0, ⟨q_2, q_3, q_4⟩, q_5⟩ := HC.out w' ((Grew.refl wa).drew.trans g'); go_simp; first | done | with_reducible rfl); (simp only [Act.put, uzT, uz0, uz1]))
       | (refine TakeAll.skip (by rfl) ?_; (simp only [Act.put, uzT, uz0, uz1]))
       | (refine TakeAll.call (by rfl) 111 _ (fun _ => by go_simp; first | done | rfl) (fun w' g' => HNEG.out w') ?_; (simp only [Act.put, uzT, uz0, uz1])))
      refine TakeAll.nil ?_
      intro w8 g8
      have gg8 := (Grew.refl wa).drew.trans g8
      have HR8 := Lib.hid (HRa.out.trans gg8)
      have HBA8 := Lib.hid (HBA.out.grew gg8)
      clear g8 gg8 HC HRa HBA HNEG HLK
      cases V2 with
      | true =>
       go_wp2_with fail
       go_roundw
       case rel => exact ⟨j + 1, by omega, by go_num, HA2.out rfl, HR8⟩
       case measure => simp [intOf]; omega
      | false =>
       have u0 : w8.cell? ⟨ba, 0, none⟩ = some (.int .i64 ld) := HBA8.out.cell rfl
       have u1 : w8.cell? ⟨ba, 1, none⟩ = some (.int .i64 lw) := HBA8.out.cell rfl
       have u2 : w8.cell? ⟨ba, 2, none⟩ = some (.bool lis) := HBA8.out.cell rfl
       have H8 := Lib.hid (H3.out.grew HR8.out)
       have HK8 := Lib.hid (HK3.out.trans (KeepD.grew HR8.out))
       have HRB8 : Hid (Blk w8 rb 122 [.int .i64 0, .int .i64 0, .bool false]) := HK8.out.2 _ _ (.inr rfl) B1.out
       have HNX : Hid (NxR dl s (some ⟨ld, lw, lis⟩) { s with U := V }) := ⟨ps ++ [(i : Int)], V, HV.out, rfl, i, List.mem_append_right _ (List.mem_singleton.2 rfl), HLM.out, HV2.out, HBB.out, HNXD.out⟩
       clear HBA8 HR8
       go_wp2_with (refine wpList_store_row rfl 122 (.tmp 2) (.tmp 53) rfl rb #[.int .i64 ld, .int .i64 lw, .bool lis] rfl rfl 122 _ HRB8.out size122 rfl (by simp [Value.oneCell']) ?_)
       have HB := setRow_heap w8 rb _ #[.int .i64 ld, .int .i64 lw, .bool lis] 122 (0, 0) HRB8.out
       refine bodyPost_ret (results_lt rfl _ _ rb _ rfl HB rfl) rfl ?_
       obtain ⟨a1, a2⟩ := res_put H8.out HK8.out HLT.out #[.int .i64 ld, .int .i64 lw, .bool lis]
       exact ⟨some ⟨ld, lw, lis⟩, ⟨ld, lw, lis⟩, _, rfl, fun x h => (by injection h with h; exact h.symm), HNX.out, a1, HK0.out.trans a2⟩
     ·obtain rfl : n = j := by omega
      have HAL : Hid (Dull dl s (i : Int)) := by
       have h1 := HA.out
       rw [List.take_of_length_le (by rw [HRN.out]; exact Nat.le_refl _)] at h1
       exact .inr (by rw [Int.toNat_natCast]; exact h1)
      have H9 := Lib.hid (H3.out.grew HR.out)
      have HK9 := Lib.hid (HK3.out.trans (KeepD.grew HR.out))
      clear HA HR H3 HK3
      go_wp2_with fail
      go_roundw
      case rel => exact ⟨ps ++ [(i : Int)], V, HV, HDX.out HAL.out, H9, HK9⟩
      case measure =>
       have h1 := HMS.out
       have h2 := H9.out.units
       have h3 := HVL.out
       rw [List.length_cons] at h1
       simp only at h2
       omega
end Go.Proofs.YtnnbibmmofnkdaaGreat
