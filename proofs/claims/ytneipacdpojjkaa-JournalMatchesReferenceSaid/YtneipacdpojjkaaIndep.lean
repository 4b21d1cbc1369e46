/-
  The law DiskIndependence, walked.
-/
import Derived.Test.YtneipacdpojjkaaSwapMem
import Derived.Deep.DeepCutAuto
namespace Go.Proofs.Ytneipacdpojjkaa
open Go.RowKit Go.Proofs WageMem WageDisk

section
variable {P : Program} (w : World)
theorem step_append_sl {ops : Array Oper} {o : Oper} {a : Act} {K : Act → World → Prop} {Q : Exit → Act → World → Prop} {E : Prop} (hgd : o.guard = none) (s x : Operand) (t : TypeId)
    (ho : o.op = .call { callee := .builtin .append, args := #[s, x], argTypes := #[t, t] })
    (base : Nat) (e : TypeId) (i : TypeInfo) (z : Value) (size bytes : Nat) (ht : P.underlying t = some (.slice e)) (hi : P.info? e = some i) (hz : i.zero = some z)
    (hsize : i.size = size) (hby : i.bytes = bytes) (hzs : z.cells.size = size) (hsz : 0 < size)
    (v : Value) (n : Nat) (xs : List Value) (hs : a.eval s = v) (hown : w.ownsRow base e size v n xs)
    (A : Option Addr) (m c : Nat) (news : List Value) (hx : a.eval x = .slice A m c) (hr : Sl w size A m c news) (h1 : ∀ u ∈ news, u.oneCell' = true)
    (h63 : n + m ≤ maxLen) (hbytes : (n + m) * bytes ≤ 140737488355328) (hbase : base ≤ w.heap.size)
    (h : ∀ v' w', w'.ownsRow base e size v' (n + m) (xs ++ news) → w.grownBy w' v.ownBlock → (v'.ownBlock = v.ownBlock ∨ v'.ownBlock = some w.heap.size) → K (a.put o.dst v') w') :
    if Region.wanted o (yielded ops a.tmps) = true then Oper.wp P o a w K Q else E := by
  have hw : Region.wanted o (yielded ops a.tmps) = true := by simp [Region.wanted, hgd]
  rw [if_pos hw]
  exact wp_append_sl w s x t ho base e i z size bytes ht hi hz hsize hby hzs hsz v n xs hs hown A m c news hx hr h1 h63 hbytes hbase h
end

theorem far1 {W : World} {g o1 r k : Nat} {u1 v : Value} (h : W.cell? ⟨r, k, none⟩ = some v) (hne : g ≠ r) : (W.setCell ⟨g, o1, none⟩ u1).drew.cell? ⟨r, k, none⟩ = some v :=
  (World.cell?_setCell_other _ _ _ _ (fun e => hne (by injection e))).trans h
theorem far2 {W : World} {g o1 o2 r k : Nat} {u1 u2 v : Value} (h : W.cell? ⟨r, k, none⟩ = some v) (hne : g ≠ r) : ((W.setCell ⟨g, o1, none⟩ u1).setCell ⟨g, o2, none⟩ u2).drew.cell? ⟨r, k, none⟩ = some v :=
  (World.cell?_setCell_other _ _ _ _ (fun e => hne (by injection e))).trans ((World.cell?_setCell_other _ _ _ _ (fun e => hne (by injection e))).trans h)
theorem far4 {W : World} {g o1 o2 o3 o4 r k : Nat} {u1 u2 u3 u4 v : Value} (h : W.cell? ⟨r, k, none⟩ = some v) (hne : g ≠ r) : ((((W.setCell ⟨g, o1, none⟩ u1).setCell ⟨g, o2, none⟩ u2).setCell ⟨g, o3, none⟩ u3).setCell ⟨g, o4, none⟩ u4).drew.cell? ⟨r, k, none⟩ = some v :=
  (World.cell?_setCell_other _ _ _ _ (fun e => hne (by injection e))).trans ((World.cell?_setCell_other _ _ _ _ (fun e => hne (by injection e))).trans (far2 h hne))
theorem far0 {W : World} {r k : Nat} {v : Value} (h : W.cell? ⟨r, k, none⟩ = some v) : W.drew.cell? ⟨r, k, none⟩ = some v := h
theorem own_empty {W : World} {H base : Nat} {e : TypeId} {size : Nat} (h : W.heap[H]? = some (.cells #[] e (0, 0))) (hb : base ≤ H) : W.ownsRow base e size (.slice (some ⟨H, 0, none⟩) 0 0) 0 [] :=
  ⟨by simp, .inr ⟨H, 0, #[], rfl, hb, h, Nat.le_refl _, Nat.zero_le _, by simp, by simp⟩⟩
theorem crash_o {R R' : Nat} {dv0 dv1 sv0 sv1 : Value} {d s : Ds} {Ak : Option Addr} {nk ck : Nat} {kept : List Int} {w W : World} (h : Bnd R R' dv0 dv1 sv0 sv1 d s Ak nk ck kept w W) {Ao : Option Addr} {no co : Nat} {other : List Int} (ho : Ints w Ao no co other) {s' : Ds} (hs : crashD s other = s') :
    Calls Try.prog 28 #[.agg #[sv0, sv1], .slice Ao no co] W fun e w' => ∃ A n c A' n' c', e = .returned (.agg #[.slice A n c, .slice A' n' c']) ∧ Disk w' (.agg #[.slice A n c, .slice A' n' c']) s' ∧ Beside R R' dv0 dv1 sv0 sv1 d s Ak nk ck kept w W w' :=
  (crash_val h.s (ho.grew h.g) hs).mono fun _ _ ⟨A, n, c, A', n', c', e, f, g⟩ => ⟨A, n, c, A', n', c', e, f.now, h.beside g⟩
theorem pcells_one (ws : List Wr) (vs : List Value) (h : ∀ v ∈ vs, v.oneCell' = true) : ∀ u ∈ pcells ws vs, u.oneCell' = true := by
  unfold pcells
  induction ws generalizing vs with
  | nil => simp
  | cons x ws ih =>
    cases vs with
    | nil => simp
    | cons v vs =>
      intro u hu
      simp only [List.zipWith_cons_cons, List.flatten_cons, List.mem_append, List.mem_cons, List.not_mem_nil, or_false] at hu
      rcases hu with (rfl | rfl) | hu
      · rfl
      · exact h _ (by simp)
      · exact ih vs (fun v hv => h v (by simp [hv])) u hu

set_option maxRecDepth 100000 in
set_option maxHeartbeats 64000000 in
theorem indep_main (A : Option Addr) (n c : Nat) (A' : Option Addr) (n' c' : Nat) (d : Ds) (Ak : Option Addr) (nk ck : Nat) (kept : List Int) (m : Int) (w : World) (h : Disk w (.agg #[.slice A n c, .slice A' n' c']) d) (hK : Ints w Ak nk ck kept)
    (m0 : 0 ≤ m) (m1 : m < 256) (hsm : smallB d 600 = true) (hv : validB d = true) (hk : nk ≤ 80) (hkn : n' ≤ nk) (h2 : 2 ≤ n') (i : Nat) (hq : Int.tmod m ((n' : Int) - 1) = i) (hi : i + 1 < n')
    (a b : Wr) (ha : d.pe[i]? = some a) (hb : d.pe[i + 1]? = some b) (hd : ¬ (a.off < b.off + b.data.length ∧ b.off < a.off + a.data.length)) (x y : Int) (hx : kept[i]? = some x) (hy : kept[i + 1]? = some y) :
    Calls Try.prog 9 #[.agg #[.slice A n c, .slice A' n' c'], .slice Ak nk ck, .int .u8 m] w fun e w' => e = .returned (.bool true) ∧ Grew w w' := by
  have g0 : Grew w (w.alloc (.cells #[.slice A n c, .slice A' n' c'] 25)) := (Grew.refl w).alloc _
  have dd : decide (80 < (nk : Int)) = false := decide_eq_false (by omega)
  have de : decide (nk < n') = false := decide_eq_false (by omega)
  have df : decide ((n' : Int) < 2) = false := decide_eq_false (by omega)
  have E1 := Lib.hid (crash_valid hv kept)
  have E2 := Lib.hid (sync_valid hv)
  have E3 := Lib.hid (swap_crash hv ha hb hd hx hy)
  have E4 := Lib.hid (swap_sync hv ha hb hd)
  have va := valid_in hv ha
  have vb := valid_in hv hb
  have hn' := h.parts.2.1
  have hsz := (valid_size hv).2
  have hsz1 := (valid_size hv).1
  have hn := h.parts.1.1
  have s1 : n ≤ 65536 := by omega
  have s2 : n' ≤ 64 := by omega
  have HN := Lib.hid hn
  have HN' := Lib.hid hn'
  have HS := Lib.hid hsm
  have HV := Lib.hid hv
  have HH := Lib.hid h
  have HK := Lib.hid hK
  have HA := Lib.hid ha
  have HB := Lib.hid hb
  have HX := Lib.hid hx
  have HY := Lib.hid hy
  have HDis := Lib.hid hd
  clear hsm hv h hK hn hn' hsz hsz1 ha hb hx hy hd
  go_enter Try.func9, Try.ntmps9
  go_wp2_with fail
  refine (head_true _).mono ?_
  rintro e w1 ⟨rfl, g1⟩
  have d0 : w1.cell? ⟨w.heap.size, 0, none⟩ = some (.slice A n c) := g1.cell (by simp)
  have d1 : w1.cell? ⟨w.heap.size, 1, none⟩ = some (.slice A' n' c') := g1.cell (by simp)
  have gg := g0.trans g1
  clear g0 g1
  go_wp2_with fail
  refine (small_any _ d 600 _ (HH.out.grew gg)).mono ?_
  rw [HS.out]
  rintro e w2 ⟨rfl, g2⟩
  have d0' := g2.cell d0
  have d1' := g2.cell d1
  have gg2 := gg.trans g2
  clear d0 d1 gg g2
  go_wp2_with fail
  refine (rvalid_any _ d _ (HH.out.grew gg2)).mono ?_
  rw [HV.out]
  rintro e w3 ⟨rfl, g3⟩
  have d0 := g3.cell d0'
  have d1 := g3.cell d1'
  have gg3 := gg2.trans g3
  clear d0' d1' gg2 g3
  go_upto_region 6 with fail
  obtain ⟨vs, hlv, hsl, hdat⟩ := writes_rows (HH.out.grew gg3).parts.2
  obtain ⟨_, Aa, na, ca, hva, hba⟩ := hdat i a HA.out
  obtain ⟨_, Ab, nb, cb, hvb, hbb⟩ := hdat (i + 1) b HB.out
  obtain ⟨bp, op, rfl, hcp⟩ := hsl.2.2.2.1 (by intro e; have := hsl.2.2.1; rw [e] at this; simp at this; omega)
  have pa := pcells_at HA.out hva
  have pb := pcells_at HB.out hvb
  have c1 := hcp _ _ pa.1
  have c2 := hcp _ _ pa.2
  have c3 := hcp _ _ pb.1
  have c4 := hcp _ _ pb.2
  rw [← Nat.add_assoc] at c2 c4
  have la := hba.1
  have lb := hbb.1
  have HDT := Lib.hid hdat
  have HLV := Lib.hid hlv
  have HSL := Lib.hid hsl
  have HVA := Lib.hid hva
  have HVB := Lib.hid hvb
  clear hdat hlv hsl hva hvb hcp pa pb hba hbb
  rw [la] at va
  rw [lb] at vb
  have hdis := HDis.out
  rw [la, lb] at hdis
  rw [HN.out] at va vb
  obtain ⟨va0, va1⟩ := va
  obtain ⟨vb0, vb1⟩ := vb
  have va2 : a.off + na ≤ 65536 := by omega
  have vb2 : b.off + nb ≤ 65536 := by omega
  clear la lb HDis
  have i0 : (0 : Int) ≤ (i : Int) := by omega
  have i1 : (i : Int) < (n' : Int) := by omega
  have i2 : (0 : Int) ≤ (i : Int) + 1 := by omega
  have i3 : (i : Int) + 1 < (n' : Int) := by omega
  have wr1 : IntKind.i64.wrap ((i : Int) + 1) = (i : Int) + 1 := IntWalk.i64_in _ (by omega)
  have tn1 : ((i : Int) + 1).toNat = i + 1 := by omega
  have n1 := World.new_ne w3 _ d1
  have n2 := World.new_ne w3 _ c1
  have n3 := World.new_ne w3 _ c2
  have n4 := World.new_ne w3 _ c3
  have n5 := World.new_ne w3 _ c4
  go_cut [10, 11] (fun s10 s11 wx => ∃ r1 r2 : Nat, s10 = .pointer (some ⟨r1, 0, none⟩) ∧ s11 = .pointer (some ⟨r2, 0, none⟩) ∧ wx.cell? ⟨r1, 0, none⟩ = some (.int .i64 a.off) ∧ wx.cell? ⟨r1, 1, none⟩ = some (.slice Aa na ca) ∧ wx.cell? ⟨r2, 0, none⟩ = some (.int .i64 b.off) ∧ wx.cell? ⟨r2, 1, none⟩ = some (.slice Ab nb cb) ∧ Grew w3 wx)
  case first =>
    go_region_held3 (fun w' => w'.cell? ⟨w.heap.size, 1, none⟩ = some (.slice (some ⟨bp, op, none⟩) n' c') ∧ w'.cell? ⟨bp, op + i * 2, none⟩ = some (.int .i64 a.off) ∧ w'.cell? ⟨bp, op + i * 2 + 1, none⟩ = some (.slice Aa na ca) ∧ w'.cell? ⟨bp, op + (i + 1) * 2, none⟩ = some (.int .i64 b.off) ∧ w'.cell? ⟨bp, op + (i + 1) * 2 + 1, none⟩ = some (.slice Ab nb cb)) (go_keep) (fail)
    all_goals (go_wp2_with fail; go_meet; exact ⟨_, _, rfl, rfl, by simp, by simp, by simp, by simp, (((Grew.refl w3).alloc _).alloc _).drew⟩)
  case rest =>
    obtain ⟨r1, r2, rfl, rfl, a0, a1, b0, b1, g4⟩ := hcut
    obtain ⟨w4, rfl⟩ : ∃ w4 : World, w4 = wc := ⟨_, rfl⟩
    have d0' := g4.cell d0
    have d1' := g4.cell d1
    have gg4 := gg3.trans g4
    clear d0 d1 n1 n2 n3 n4 n5 c1 c2 c3 c4
    go_upto_region 7 with fail
    go_cut [77] (fun s wx => s = .bool false ∧ w4 = wx)
    case first =>
      by_cases q : a.off < b.off + nb
      · have q1 : decide (a.off < b.off + nb) = true := decide_eq_true q
        have q2 : decide (b.off < a.off + na) = false := decide_eq_false (by omega)
        clear hdis
        go_wp2_with fail
        go_meet
        exact ⟨rfl, rfl⟩
      · have q1 : decide (a.off < b.off + nb) = false := decide_eq_false q
        clear hdis
        go_wp2_with fail
        go_meet
        exact ⟨rfl, rfl⟩
    case rest =>
      obtain ⟨rfl, rfl⟩ := hcut
      clear hdis
      have ONE := Lib.hid (pcells_one d.pe vs (fun v hv => by
        obtain ⟨j, hj⟩ := List.mem_iff_getElem?.1 hv
        have hl : j < d.pe.length := by rw [HN'.out, ← HLV.out]; exact (List.getElem?_eq_some_iff.1 hj).1
        obtain ⟨_, A1, m1, c1, h1, _⟩ := HDT.out j _ (List.getElem?_eq_getElem hl)
        rw [hj] at h1
        injection h1 with h1
        subst h1
        rfl))
      have HSL4 := Lib.hid (HSL.out.grew g4)
      obtain ⟨j0, hj, hj0, hj1, hj2⟩ := info_parts info45
      have sz4 : w.heap.size < w4.heap.size := World.block_lt_of_cell? _ _ d0'
      go_upto_region 9 with fail
      go_cut [12] (fun s wx => ∃ r3 A9 c9, s = .pointer (some ⟨r3, 0, none⟩) ∧ wx.heap[r3]? = some (.cells #[.slice A n c, .slice A9 n' c9] 25 (0, 0)) ∧ wx.ownsRow w4.heap.size 45 2 (.slice A9 n' c9) n' (pcells d.pe vs) ∧ Grew w4 wx ∧ w4.heap.size ≤ r3)
      case first =>
        go_region_held3 (fun w' => w'.cell? ⟨w.heap.size, 0, none⟩ = some (.slice A n c) ∧ w'.cell? ⟨w.heap.size, 1, none⟩ = some (.slice (some ⟨bp, op, none⟩) n' c'))
          (first | (refine ⟨?_, ?_⟩ <;> assumption) | (refine ⟨?_, ?_⟩ <;> (refine (World.cell?_setCell_other _ _ _ _ ?_).trans ((World.cell?_setCell_other _ _ _ _ ?_).trans (by assumption)) <;> (intro he; injection he with he; omega))) | go_keep)
          (first
            | (refine step_append_sl (w4.drew.alloc (.cells #[] 45)) (by rfl) (.tmp 81) (.tmp 83) 23 (by rfl) w4.heap.size 45 j0 _ 2 32 Try.underlying23 hj hj0 hj1 hj2 (by rfl) (by decide) (.slice (some ⟨w4.heap.size, 0, none⟩) 0 0) 0 [] (by rfl) (own_empty (heap_alloc_new _ _) (Nat.le_refl _)) (some ⟨bp, op, none⟩) n' c' (pcells d.pe vs) (by rfl) (HSL4.out.grew ((Grew.refl w4).drew.alloc _)) ONE.out (by unfold maxLen; omega) (by omega) (by simp <;> omega) ?_; intro v9 x9 own9 hg9 hat9; obtain ⟨A9, c9, rfl⟩ := own_form own9; have gx9 : Grew w4 x9 := ((Grew.refl w4).drew.alloc _).grown hg9 (by simp [Value.ownBlock]); have k0 := gx9.cell d0'; have k1 := gx9.cell d1')
            | (refine step_append_sl ((w4.drew.alloc (.cells #[] 45)).alloc (.cells #[.slice none 0 0, .slice none 0 0] 25)) (by rfl) (.tmp 81) (.tmp 83) 23 (by rfl) w4.heap.size 45 j0 _ 2 32 Try.underlying23 hj hj0 hj1 hj2 (by rfl) (by decide) (.slice (some ⟨w4.heap.size, 0, none⟩) 0 0) 0 [] (by rfl) (own_empty (blk_new1 _ _ _ _) (Nat.le_refl _)) (some ⟨bp, op, none⟩) n' c' (pcells d.pe vs) (by rfl) (HSL4.out.grew (((Grew.refl w4).drew.alloc _).alloc _)) ONE.out (by unfold maxLen; omega) (by omega) (by simp <;> omega) ?_; intro v9 x9 own9 hg9 hat9; obtain ⟨A9, c9, rfl⟩ := own_form own9; have gx9 : Grew w4 x9 := (((Grew.refl w4).drew.alloc _).alloc _).grown hg9 (by simp [Value.ownBlock]); have k0 := gx9.cell d0'; have k1 := gx9.cell d1'; have hR : x9.heap[w4.heap.size + 1]? = some (.cells #[.slice none 0 0, .slice none 0 0] 25 (0, 0)) := (hg9.block _ (by simp <;> omega) (by simp [Value.ownBlock])).trans (blk_new2 w4.drew _ _ _); have kz0 : x9.cell? ⟨w4.heap.size + 1, 0, none⟩ = some (.slice none 0 0) := blk_cell hR 0; have kz1 : x9.cell? ⟨w4.heap.size + 1, 1, none⟩ = some (.slice none 0 0) := blk_cell hR 1; have fz0 := blk_frozen hR 0; have fz1 := blk_frozen hR 1; have HR := Lib.hid hR; clear hR)
            | (refine step_append_sl ((w4.drew.alloc (.cells #[.slice none 0 0, .slice none 0 0] 25)).alloc (.cells #[] 45)) (by rfl) (.tmp 81) (.tmp 83) 23 (by rfl) w4.heap.size 45 j0 _ 2 32 Try.underlying23 hj hj0 hj1 hj2 (by rfl) (by decide) (.slice (some ⟨w4.heap.size + 1, 0, none⟩) 0 0) 0 [] (by rfl) (own_empty (blk_new2 w4.drew _ _ _) (Nat.le_succ _)) (some ⟨bp, op, none⟩) n' c' (pcells d.pe vs) (by rfl) (HSL4.out.grew (((Grew.refl w4).drew.alloc _).alloc _)) ONE.out (by unfold maxLen; omega) (by omega) (by simp <;> omega) ?_; intro v9 x9 own9 hg9 hat9; obtain ⟨A9, c9, rfl⟩ := own_form own9; have gx9 : Grew w4 x9 := (((Grew.refl w4).drew.alloc _).alloc _).grown hg9 (by simp [Value.ownBlock]); have k0 := gx9.cell d0'; have k1 := gx9.cell d1'; have hR : x9.heap[w4.heap.size]? = some (.cells #[.slice none 0 0, .slice none 0 0] 25 (0, 0)) := (hg9.block _ (by simp <;> omega) (by simp [Value.ownBlock])).trans (blk_new1 w4.drew _ _ _); have kz0 : x9.cell? ⟨w4.heap.size, 0, none⟩ = some (.slice none 0 0) := blk_cell hR 0; have kz1 : x9.cell? ⟨w4.heap.size, 1, none⟩ = some (.slice none 0 0) := blk_cell hR 1; have fz0 := blk_frozen hR 0; have fz1 := blk_frozen hR 1; have HR := Lib.hid hR; clear hR))
        all_goals (go_wp2_with fail; go_meet; simp only [Nat.zero_add, List.nil_append] at own9)
        · exact ⟨_, A9, c9, rfl, heap_alloc_new _ _, own9.alloc _, gx9.alloc _, gx9.le⟩
        · exact ⟨_, A9, c9, rfl, blk_two HR.out _ _, own_far (own_far own9 HR.out (by decide) 0 _) (heap_set HR.out 0 _) (by decide) 1 _, (gx9.set (by simp) _).set (by simp) _, by omega⟩
        · exact ⟨_, A9, c9, rfl, blk_two HR.out _ _, own_far (own_far own9 HR.out (by decide) 0 _) (heap_set HR.out 0 _) (by decide) 1 _, (gx9.set (by simp) _).set (by simp) _, by omega⟩
      case rest =>
        obtain ⟨r3, A9, c9, rfl, e3, own9, g9, hr3⟩ := hcut
        obtain ⟨w9, rfl⟩ : ∃ w9 : World, w9 = wc := ⟨_, rfl⟩
        have nr3 := own_ne_type own9 e3 (by decide)
        rcases own9.2 with ⟨_, h0⟩ | ⟨g, cap, cur, hvv, hgb, hg, hnc, hcm, hcs, ht⟩
        · exfalso; omega
        injection hvv with hv1 hv2 hv3
        subst hv1 hv3
        have ng3 : g ≠ r3 := fun e => nr3 (by rw [e]; rfl)
        have gn := ng3.symm
        have e0 : w9.cell? ⟨r3, 0, none⟩ = some (.slice A n c) := blk_cell e3 0
        have e1 : w9.cell? ⟨r3, 1, none⟩ = some (.slice (some ⟨g, 0, none⟩) n' c9) := blk_cell e3 1
        have a0' := g9.cell a0
        have a1' := g9.cell a1
        have b0' := g9.cell b0
        have b1' := g9.cell b1
        have q1 : r1 < w4.heap.size := World.block_lt_of_cell? _ _ a0
        have q2 : r2 < w4.heap.size := World.block_lt_of_cell? _ _ b0
        have old : ∀ k u, k < n' * 2 → (pcells d.pe vs)[k]? = some u → w9.cell? ⟨g, k, none⟩ = some u := fun k u hk hu => by
          rw [blk_cell hg, ← hu, ← ht, List.getElem?_take, if_pos hk, Array.getElem?_toList]
        have o1 := old _ _ (by omega) (pcells_at HA.out HVA.out).1
        have o2 := old _ _ (by omega) (pcells_at HA.out HVA.out).2
        have o3 := old _ _ (by omega) (pcells_at HB.out HVB.out).1
        have o4 := old _ _ (by omega) (pcells_at HB.out HVB.out).2
        have z1 := blk_frozen hg (i * 2)
        have z2 := blk_frozen hg (i * 2 + 1)
        have z3 := blk_frozen hg ((i + 1) * 2)
        have z4 := blk_frozen hg ((i + 1) * 2 + 1)
        have HG := Lib.hid hg
        have HT := Lib.hid ht
        have HE3 := Lib.hid e3
        have hcs' : n' * 2 ≤ cur.size := by rw [hcs]; omega
        have HCS := Lib.hid hcs'
        have ng1 : g ≠ r1 := by omega
        have ng2 : g ≠ r2 := by omega
        clear hg ht old own9 nr3 hcs hcs' a0 a1 b0 b1 e3 gn
        go_upto_region 10 with fail
        go_region_held3 (fun w' => w'.cell? ⟨r3, 1, none⟩ = some (.slice (some ⟨g, 0, none⟩) n' c9) ∧ w'.cell? ⟨r1, 0, none⟩ = some (.int .i64 a.off) ∧ w'.cell? ⟨r1, 1, none⟩ = some (.slice Aa na ca) ∧ w'.cell? ⟨r2, 0, none⟩ = some (.int .i64 b.off) ∧ w'.cell? ⟨r2, 1, none⟩ = some (.slice Ab nb cb))
          (first | (with_reducible exact ⟨far0 e1, far0 a0', far0 a1', far0 b0', far0 b1'⟩) | (with_reducible exact ⟨far2 e1 ng3, far2 a0' ng1, far2 a1' ng1, far2 b0' ng2, far2 b1' ng2⟩) | (with_reducible exact ⟨far4 e1 ng3, far4 a0' ng1, far4 a1' ng1, far4 b0' ng2, far4 b1' ng2⟩)) (fail)
        obtain ⟨wx, hwx⟩ : ∃ wx, wx = (((w9.setCell ⟨g, i * 2, none⟩ (.int .i64 b.off)).setCell ⟨g, i * 2 + 1, none⟩ (.slice Ab nb cb)).setCell ⟨g, (i + 1) * 2, none⟩ (.int .i64 a.off)).setCell ⟨g, (i + 1) * 2 + 1, none⟩ (.slice Aa na ca) := ⟨_, rfl⟩
        have gx : Grew w4 wx := by rw [hwx]; exact (((g9.set hgb _).set hgb _).set hgb _).set hgb _
        have WRT := Lib.hid (writes_swap HG.out hnc hcm HT.out HN'.out HLV.out HA.out HB.out HVA.out HVB.out HCS.out hwx (fun j y hj => ⟨(HDT.out j y hj).1, by
          obtain ⟨_, A1, m1, c1, h1, h2⟩ := HDT.out j y hj
          exact ⟨A1, m1, c1, h1, h2.grew (g4.trans gx)⟩⟩))
        have e0x : wx.cell? ⟨r3, 0, none⟩ = some (.slice A n c) := by rw [hwx]; exact far4 e0 ng3
        have e1x : wx.cell? ⟨r3, 1, none⟩ = some (.slice (some ⟨g, 0, none⟩) n' c9) := by rw [hwx]; exact far4 e1 ng3
        rw [← hwx]
        have d0 := gx.cell d0'
        have d1 := gx.cell d1'
        have ggx := gg4.trans gx
        clear hwx d0' d1' e0 e1 a0' a1' b0' b1' o1 o2 o3 o4 z1 z2 z3 z4 HG HT HE3 HCS ng1 ng2 ng3 q1 q2
        obtain ⟨k0, hk0, hkz0, hkz1, hkz2⟩ := info_parts info3
        have HKX := Lib.hid (HK.out.grew (ggx.drew.alloc (.cells #[] 3)))
        go_upto_region 12 with (at_builtin; refine wpList_append_sl _ rfl (.tmp 97) (.tmp 98) 26 rfl wx.heap.size 3 k0 (.int .i64 0) 1 8 Try.underlying26 hk0 hkz0 hkz1 hkz2 rfl (by decide) (.slice (some ⟨wx.heap.size, 0, none⟩) 0 0) 0 [] rfl (own_empty (heap_alloc_new _ _) (Nat.le_refl _)) Ak nk ck (kept.map iv) rfl HKX.out.2 (iv_one kept) (by unfold maxLen; omega) (by omega) (by simp) ?_; intro v11 x11 own11 hg11 hat11; obtain ⟨A11, c11, rfl⟩ := own_form own11)
        simp only [Nat.zero_add, List.nil_append] at own11
        have gx11 : Grew wx x11 := ((Grew.refl wx).drew.alloc _).grown hg11 (by simp [Value.ownBlock])
        rcases own11.2 with ⟨_, h0⟩ | ⟨g', cap', cur', hvv', hgb', hg', hnc', hcm', hcs', ht'⟩
        · exfalso; omega
        injection hvv' with hv1' hv2' hv3'
        subst hv1' hv3'
        obtain ⟨bk, ok, rfl, hck⟩ := (HK.out.grew (ggx.trans gx11)).at_ (by omega)
        have kx := hck _ _ HX.out
        have ky := hck _ _ HY.out
        have bkl : bk < wx.heap.size := by
          obtain ⟨bk', ok', hh, hck'⟩ := (HK.out.grew ggx).at_ (by omega)
          injection hh with hh
          injection hh with hh1 hh2
          subst hh1
          exact World.block_lt_of_cell? _ _ (hck' _ _ HX.out)
        have ngk : g' ≠ bk := by omega
        have p1 : x11.cell? ⟨g', i, none⟩ = some (.int .i64 x) := by
          rw [blk_cell hg', ← Array.getElem?_toList]
          have := congrArg (·[i]?) ht'
          simp only [List.getElem?_take, List.getElem?_map, HX.out] at this
          rw [if_pos (by omega)] at this
          exact this
        have p2 : x11.cell? ⟨g', i + 1, none⟩ = some (.int .i64 y) := by
          rw [blk_cell hg', ← Array.getElem?_toList]
          have := congrArg (·[i + 1]?) ht'
          simp only [List.getElem?_take, List.getElem?_map, HY.out] at this
          rw [if_pos (by omega)] at this
          exact this
        have z1 := blk_frozen hg' i
        have z2 := blk_frozen hg' (i + 1)
        have HG := Lib.hid hg'
        have ht2 : cur'.toList.take nk = kept.map iv := by rw [← ht', Nat.mul_one]
        have HT := Lib.hid ht2
        have hcs2 : nk ≤ cur'.size := by rw [hcs']; omega
        have HCS := Lib.hid hcs2
        have HKL := Lib.hid HK.out.1
        have d0' := gx11.cell d0
        have d1' := gx11.cell d1
        have e0' := gx11.cell e0x
        have e1' := gx11.cell e1x
        have j0 : (0 : Int) ≤ (i : Int) := by omega
        have j1 : (i : Int) < (nk : Int) := by omega
        have j3 : (i : Int) + 1 < (nk : Int) := by omega
        clear hg' ht' ht2 hcs' hcs2 hck own11 hg11 hat11 HKX d0' d1' e0' e1'
        go_region_held3 (fun w' => w'.cell? ⟨bk, ok + i, none⟩ = some (.int .i64 x) ∧ w'.cell? ⟨bk, ok + (i + 1), none⟩ = some (.int .i64 y))
          (first | (with_reducible exact ⟨far0 kx, far0 ky⟩) | (with_reducible exact ⟨far1 kx ngk, far1 ky ngk⟩) | (with_reducible exact ⟨far2 kx ngk, far2 ky ngk⟩)) (fail)
        obtain ⟨wy, hwy⟩ : ∃ wy, wy = (x11.setCell ⟨g', i, none⟩ (.int .i64 y)).setCell ⟨g', i + 1, none⟩ (.int .i64 x) := ⟨_, rfl⟩
        have gy : Grew wx wy := by rw [hwy]; exact (gx11.set hgb' _).set hgb' _
        have KO := Lib.hid (ints_swap HG.out hnc' hcm' HT.out HKL.out (by omega) HCS.out hwy)
        rw [← hwy]
        have bnd : Bnd w.heap.size r3 (.slice A n c) (.slice (some ⟨bp, op, none⟩) n' c') (.slice A n c) (.slice (some ⟨g, 0, none⟩) n' c9) d ⟨d.st, swapAt d.pe i a b⟩ (some ⟨bk, ok, none⟩) nk ck kept wy wy.drew.drew :=
          ⟨gy.cell d0, gy.cell d1, gy.cell e0x, gy.cell e1x, HH.out.grew (ggx.trans gy).drew.drew, Disk.mk_ (HH.out.grew (ggx.trans gy).drew.drew).parts.1 (WRT.out.grew gy.drew.drew), HK.out.grew (ggx.trans gy).drew.drew, (Grew.refl wy).drew.drew⟩
        have ggy := ggx.trans gy
        clear hwy kx ky p1 p2 z1 z2 HG HT HCS d0 d1 e0x e1x WRT
        go_upto_region 13 with fail
        go_region_held3 (fun w' => w'.cell? ⟨w.heap.size, 0, none⟩ = some (.slice A n c) ∧ w'.cell? ⟨w.heap.size, 1, none⟩ = some (.slice (some ⟨bp, op, none⟩) n' c') ∧ w'.cell? ⟨r3, 0, none⟩ = some (.slice A n c) ∧ w'.cell? ⟨r3, 1, none⟩ = some (.slice (some ⟨g, 0, none⟩) n' c9))
          (first | exact ⟨bnd.c0, bnd.c1, bnd.c2, bnd.c3⟩ | (refine ⟨?_, ?_, ?_, ?_⟩ <;> with_reducible assumption))
          (first
            | (go_at_call 28; ((with_reducible refine (crash_d bnd E1.out).mono ?_); rintro e w6 ⟨Ax, nx, cx, Ay, ny, cy, rfl, hDx, k0, k1, k2, k3, kb, kg⟩))
            | (go_at_call 28; ((with_reducible refine (crash_o kb KO.out E3.out).mono ?_); rintro e w6 ⟨Az, nz, cz, Au, nu, cu, rfl, hDy, k0, k1, k2, k3, kb, kg⟩; replace hDx := hDx.grew kg))
            | (go_at_call 26; ((with_reducible refine (sync_d kb E2.out).mono ?_); rintro e w6 ⟨Ax, nx, cx, Ay, ny, cy, rfl, hDx, k0, k1, k2, k3, kb, kg⟩))
            | (go_at_call 26; ((with_reducible refine (sync_s kb E4.out).mono ?_); rintro e w6 ⟨Az, nz, cz, Au, nu, cu, rfl, hDy, k0, k1, k2, k3, kb, kg⟩; replace hDx := hDx.grew kg))
            | (go_at_call 19; ((with_reducible refine (same_b kb hDx hDy).mono ?_); rintro e w6 ⟨rfl, k0, k1, k2, k3, kb, kg⟩)))
        have gfin := ggy.trans kb.g
        go_wp2_with fail
        go_ret
        exact ⟨rfl, gfin⟩

set_option maxRecDepth 100000 in
set_option maxHeartbeats 16000000 in
theorem indep_skip (A : Option Addr) (n c : Nat) (A' : Option Addr) (n' c' : Nat) (d : Ds) (Ak : Option Addr) (nk ck : Nat) (m : Int) (w : World) (h : Disk w (.agg #[.slice A n c, .slice A' n' c']) d)
    (hs : smallB d 600 = false ∨ validB d = false ∨ n' < 2 ∨ nk < n' ∨ 80 < nk) :
    Calls Try.prog 9 #[.agg #[.slice A n c, .slice A' n' c'], .slice Ak nk ck, .int .u8 m] w fun e w' => e = .returned (.bool true) ∧ Grew w w' := by
  have g0 : Grew w (w.alloc (.cells #[.slice A n c, .slice A' n' c'] 25)) := (Grew.refl w).alloc _
  have HH := Lib.hid h
  clear h
  cases hsm : smallB d 600 with
  | false =>
    have HS := Lib.hid hsm
    clear hsm hs
    go_enter Try.func9, Try.ntmps9
    go_wp2_with fail
    refine (head_true _).mono ?_
    rintro e w1 ⟨rfl, g1⟩
    have d0 : w1.cell? ⟨w.heap.size, 0, none⟩ = some (.slice A n c) := g1.cell (by simp)
    have d1 : w1.cell? ⟨w.heap.size, 1, none⟩ = some (.slice A' n' c') := g1.cell (by simp)
    have gg := g0.trans g1
    clear g0 g1
    go_wp2_with fail
    refine (small_any _ d 600 _ (HH.out.grew gg)).mono ?_
    rw [HS.out]
    rintro e w2 ⟨rfl, g2⟩
    clear d0 d1
    go_wp2_with fail
    go_ret
    exact ⟨rfl, gg.trans g2⟩
  | true =>
    cases hv : validB d with
    | false =>
      have HS := Lib.hid hsm
      have HV := Lib.hid hv
      clear hsm hs hv
      go_enter Try.func9, Try.ntmps9
      go_wp2_with fail
      refine (head_true _).mono ?_
      rintro e w1 ⟨rfl, g1⟩
      have d0 : w1.cell? ⟨w.heap.size, 0, none⟩ = some (.slice A n c) := g1.cell (by simp)
      have d1 : w1.cell? ⟨w.heap.size, 1, none⟩ = some (.slice A' n' c') := g1.cell (by simp)
      have gg := g0.trans g1
      clear g0 g1
      go_wp2_with fail
      refine (small_any _ d 600 _ (HH.out.grew gg)).mono ?_
      rw [HS.out]
      rintro e w2 ⟨rfl, g2⟩
      have d0' := g2.cell d0
      have d1' := g2.cell d1
      have gg2 := gg.trans g2
      clear d0 d1 gg g2
      go_wp2_with fail
      refine (rvalid_any _ d _ (HH.out.grew gg2)).mono ?_
      rw [HV.out]
      rintro e w3 ⟨rfl, g3⟩
      clear d0' d1'
      go_wp2_with fail
      go_ret
      exact ⟨rfl, gg2.trans g3⟩
    | true =>
      have hk : n' < 2 ∨ nk < n' ∨ 80 < nk := by
        rcases hs with hs | hs | hs
        · rw [hsm] at hs; cases hs
        · rw [hv] at hs; cases hs
        · exact hs
      have HS := Lib.hid hsm
      have HV := Lib.hid hv
      clear hsm hs hv
      by_cases k1 : n' < 2
      · have t1 : decide ((n' : Int) < 2) = true := decide_eq_true (by omega)
        clear hk
        go_enter Try.func9, Try.ntmps9
        go_wp2_with fail
        refine (head_true _).mono ?_
        rintro e w1 ⟨rfl, g1⟩
        have d0 : w1.cell? ⟨w.heap.size, 0, none⟩ = some (.slice A n c) := g1.cell (by simp)
        have d1 : w1.cell? ⟨w.heap.size, 1, none⟩ = some (.slice A' n' c') := g1.cell (by simp)
        have gg := g0.trans g1
        clear g0 g1
        go_wp2_with fail
        refine (small_any _ d 600 _ (HH.out.grew gg)).mono ?_
        rw [HS.out]
        rintro e w2 ⟨rfl, g2⟩
        have d0' := g2.cell d0
        have d1' := g2.cell d1
        have gg2 := gg.trans g2
        clear d0 d1 gg g2
        go_wp2_with fail
        refine (rvalid_any _ d _ (HH.out.grew gg2)).mono ?_
        rw [HV.out]
        rintro e w3 ⟨rfl, g3⟩
        clear d0' d1'
        go_wp2_with fail
        go_ret
        exact ⟨rfl, gg2.trans g3⟩
      · have t1 : decide ((n' : Int) < 2) = false := decide_eq_false (by omega)
        by_cases k2 : nk < n'
        · have t2 : decide (nk < n') = true := decide_eq_true k2
          clear hk
          go_enter Try.func9, Try.ntmps9
          go_wp2_with fail
          refine (head_true _).mono ?_
          rintro e w1 ⟨rfl, g1⟩
          have d0 : w1.cell? ⟨w.heap.size, 0, none⟩ = some (.slice A n c) := g1.cell (by simp)
          have d1 : w1.cell? ⟨w.heap.size, 1, none⟩ = some (.slice A' n' c') := g1.cell (by simp)
          have gg := g0.trans g1
          clear g0 g1
          go_wp2_with fail
          refine (small_any _ d 600 _ (HH.out.grew gg)).mono ?_
          rw [HS.out]
          rintro e w2 ⟨rfl, g2⟩
          have d0' := g2.cell d0
          have d1' := g2.cell d1
          have gg2 := gg.trans g2
          clear d0 d1 gg g2
          go_wp2_with fail
          refine (rvalid_any _ d _ (HH.out.grew gg2)).mono ?_
          rw [HV.out]
          rintro e w3 ⟨rfl, g3⟩
          clear d0' d1'
          go_wp2_with fail
          go_ret
          exact ⟨rfl, gg2.trans g3⟩
        · have t2 : decide (nk < n') = false := decide_eq_false k2
          have t3 : decide (80 < (nk : Int)) = true := decide_eq_true (by omega)
          clear hk
          go_enter Try.func9, Try.ntmps9
          go_wp2_with fail
          refine (head_true _).mono ?_
          rintro e w1 ⟨rfl, g1⟩
          have d0 : w1.cell? ⟨w.heap.size, 0, none⟩ = some (.slice A n c) := g1.cell (by simp)
          have d1 : w1.cell? ⟨w.heap.size, 1, none⟩ = some (.slice A' n' c') := g1.cell (by simp)
          have gg := g0.trans g1
          clear g0 g1
          go_wp2_with fail
          refine (small_any _ d 600 _ (HH.out.grew gg)).mono ?_
          rw [HS.out]
          rintro e w2 ⟨rfl, g2⟩
          have d0' := g2.cell d0
          have d1' := g2.cell d1
          have gg2 := gg.trans g2
          clear d0 d1 gg g2
          go_wp2_with fail
          refine (rvalid_any _ d _ (HH.out.grew gg2)).mono ?_
          rw [HV.out]
          rintro e w3 ⟨rfl, g3⟩
          clear d0' d1'
          go_wp2_with fail
          go_ret
          exact ⟨rfl, gg2.trans g3⟩
end Go.Proofs.Ytneipacdpojjkaa
