/-
 Propagations: add.
-/
import Derived.Test.YtnnbibmmofnkdaaGreatPrpA
namespace Go.Proofs.YtnnbibmmofnkdaaGreat
open Go.RowKit Go.Proofs WageMem WageReg WageRec WageSpan WageTop
open WageMap
theorem PgAt.set_op {w : World} {q : Pp} {R : Nat → Prop} {s : Pg} (h : PgAt w q R s) (i : Nat) (x : Int) : PgAt (w.setCell ⟨q.gO, i, none⟩ (.int .i64 x)) q R { s with op := s.op.set i x } ∧ KeepD R w (w.setCell ⟨q.gO, i, none⟩ (.int .i64 x)) := by
 obtain ⟨LA, lc, UA, un, uc, m, HP, HLo, HM, HT, hLR, hUR⟩ := h.ex
 have hb := HP.hd
 have hg := grown_set w q.gO i (.int .i64 x)
 have hsz : w.heap.size ≤ (w.setCell ⟨q.gO, i, none⟩ (.int .i64 x)).heap.size := hg.size
 have hgb : q.gO ≠ q.b := own_off h.op hb (by decide) rfl
 have ap : ∀ {base e size v n xs}, w.ownsRow base e size v n xs → (∀ g', v.ownBlock = some g' → g' ≠ q.gO) → (w.setCell ⟨q.gO, i, none⟩ (.int .i64 x)).ownsRow base e size v n xs := fun {base e size v n xs} ho hne => ho.kept hg (by
  cases hv : v.ownBlock with
  | none => exact .inl rfl
  | some g' => exact .inr (fun e => hne g' hv (by injection e)))
 have HP2 : HpAt (w.setCell ⟨q.gO, i, none⟩ (.int .i64 x)) q.b q.base [.slice LA s.lst.length lc, .map (some q.b1), .map (some q.b2), q.CS, .slice (some ⟨q.gO, 0, none⟩) q.N q.oc, .slice (some ⟨q.gS, 0, none⟩) q.N q.sc, .int .i64 s.fa] (fun j => j < w.heap.size ∧ j ≠ q.b ∧ some j ≠ Value.ownBlock (.slice UA un uc)) UA un uc s.U :=
  ⟨hb.kept hg (fun e => hgb (by injection e with e; exact e.symm)), ap HP.own (fun g' hg' => (hUR g' hg').2), HP.len, rfl, HP.nb, HP.ng, HP.le⟩
 have hst := (h.op.stored i (.int .i64 x)).1
 refine ⟨⟨⟨LA, lc, UA, un, uc, m, HP2.can, ap HLo (fun g' hg' => own_apart HLo h.op (by decide) hg' rfl), HM.kept hg (fun e => by
  obtain ⟨es, ck, h1, h2⟩ := HM
  obtain ⟨cur, hc⟩ := own_block h.op rfl
  exact map_ne (ek := ekL) (ev := bV) ⟨es, ck, h1, h2⟩ hc (by injection e)), HT, hLR, hUR⟩, (by rw [List.map_set]; exact hst), ap h.sa (fun g' hg' => own_apart h.sa h.op (by decide) hg' rfl), (by rw [List.length_set]; exact h.ol), h.sl, h.nR, h.N, Nat.le_trans h.base hsz, fun j hj => Nat.lt_of_lt_of_le (h.lt j hj) hsz⟩, KeepD.grown hg h.nR.2.2.1⟩
theorem PgAt.set_sa {w : World} {q : Pp} {R : Nat → Prop} {s : Pg} (h : PgAt w q R s) (i : Nat) (x : Bool) : PgAt (w.setCell ⟨q.gS, i, none⟩ (.bool x)) q R { s with sa := s.sa.set i x } ∧ KeepD R w (w.setCell ⟨q.gS, i, none⟩ (.bool x)) := by
 obtain ⟨LA, lc, UA, un, uc, m, HP, HLo, HM, HT, hLR, hUR⟩ := h.ex
 have hb := HP.hd
 have hg := grown_set w q.gS i (.bool x)
 have hsz : w.heap.size ≤ (w.setCell ⟨q.gS, i, none⟩ (.bool x)).heap.size := hg.size
 have hgb : q.gS ≠ q.b := own_off h.sa hb (by decide) rfl
 have ap : ∀ {base e size v n xs}, w.ownsRow base e size v n xs → (∀ g', v.ownBlock = some g' → g' ≠ q.gS) → (w.setCell ⟨q.gS, i, none⟩ (.bool x)).ownsRow base e size v n xs := fun {base e size v n xs} ho hne => ho.kept hg (by
  cases hv : v.ownBlock with
  | none => exact .inl rfl
  | some g' => exact .inr (fun e => hne g' hv (by injection e)))
 have HP2 : HpAt (w.setCell ⟨q.gS, i, none⟩ (.bool x)) q.b q.base [.slice LA s.lst.length lc, .map (some q.b1), .map (some q.b2), q.CS, .slice (some ⟨q.gO, 0, none⟩) q.N q.oc, .slice (some ⟨q.gS, 0, none⟩) q.N q.sc, .int .i64 s.fa] (fun j => j < w.heap.size ∧ j ≠ q.b ∧ some j ≠ Value.ownBlock (.slice UA un uc)) UA un uc s.U :=
  ⟨hb.kept hg (fun e => hgb (by injection e with e; exact e.symm)), ap HP.own (fun g' hg' => own_apart HP.own h.sa (by decide) hg' rfl), HP.len, rfl, HP.nb, HP.ng, HP.le⟩
 have hst := (h.sa.stored i (.bool x)).1
 refine ⟨⟨⟨LA, lc, UA, un, uc, m, HP2.can, ap HLo (fun g' hg' => own_apart HLo h.sa (by decide) hg' rfl), HM.kept hg (fun e => by
  obtain ⟨es, ck, h1, h2⟩ := HM
  obtain ⟨cur, hc⟩ := own_block h.sa rfl
  exact map_ne (ek := ekL) (ev := bV) ⟨es, ck, h1, h2⟩ hc (by injection e)), HT, hLR, hUR⟩, ap h.op (fun g' hg' => own_apart h.op h.sa (by decide) hg' rfl), (by rw [List.map_set]; exact hst), h.ol, (by rw [List.length_set]; exact h.sl), h.nR, h.N, Nat.le_trans h.base hsz, fun j hj => Nat.lt_of_lt_of_le (h.lt j hj) hsz⟩, KeepD.grown hg h.nR.2.2.2⟩
set_option maxRecDepth 100000 in
theorem PgAt.put {w : World} {q : Pp} {R : Nat → Prop} {s : Pg} (h : PgAt w q R s) (l : Li) : ∃ w', (Instr.mapUpdate 127 (.map (some q.b1)) (ekL l) (.bool true)).run Tryz.prog w = .ok () w' ∧ PgAt w' q R { s with T := l :: s.T } ∧ KeepD R w w' := by
 obtain ⟨LA, lc, UA, un, uc, m, HP, HLo, HM, HT, hLR, hUR⟩ := h.ex
 obtain ⟨w', hup, HM2, hg⟩ := HM.update lit_key map127 l true
 have hb := HP.hd
 have hsz : w.heap.size ≤ w'.heap.size := hg.size
 have hmb : q.b1 ≠ q.b := map_ne HM hb
 have ap : ∀ {base e size v n xs}, w.ownsRow base e size v n xs → w'.ownsRow base e size v n xs := fun {base e size v n xs} ho => ho.kept hg (by
  cases hv : v.ownBlock with
  | none => exact .inl rfl
  | some g' =>
   refine .inr (fun e => ?_)
   obtain ⟨cur, hc⟩ := own_block ho hv
   injection e with e
   exact map_ne HM hc e.symm)
 have HP2 : HpAt w' q.b q.base [.slice LA s.lst.length lc, .map (some q.b1), .map (some q.b2), q.CS, .slice (some ⟨q.gO, 0, none⟩) q.N q.oc, .slice (some ⟨q.gS, 0, none⟩) q.N q.sc, .int .i64 s.fa] (fun j => j < w.heap.size ∧ j ≠ q.b ∧ some j ≠ Value.ownBlock (.slice UA un uc)) UA un uc s.U :=
  ⟨hb.kept hg (fun e => hmb (by injection e with e; exact e.symm)), ap HP.own, HP.len, rfl, HP.nb, HP.ng, HP.le⟩
 refine ⟨w', hup, ⟨⟨LA, lc, UA, un, uc, _, HP2.can, ap HLo, HM2, HT.put l, hLR, hUR⟩, ap h.op, ap h.sa, h.ol, h.sl, h.nR, h.N, Nat.le_trans h.base hsz, fun j hj => Nat.lt_of_lt_of_le (h.lt j hj) hsz⟩, KeepD.grown hg h.nR.2.1⟩
theorem PgAt.list {w : World} {q : Pp} {R : Nat → Prop} {s : Pg} (h : PgAt w q R s) (l : Li) : ∃ (LA : Option Addr) (lc : Nat), w.cell? ⟨q.b, 0, none⟩ = some (.slice LA s.lst.length lc) ∧ w.ownsRow q.base 122 3 (.slice LA s.lst.length lc) s.lst.length (s.lst.flatMap encL) ∧
  ∀ (wA w7 : World) (A7 : Option Addr) (c7 : Nat), Grew w wA → wA.grownBy w7 (Value.ownBlock (.slice LA s.lst.length lc)) → w7.ownsRow q.base 122 3 (.slice A7 (s.lst.length + 1) c7) (s.lst.length + 1) (s.lst.flatMap encL ++ [l].flatMap encL) → (Value.ownBlock (.slice A7 (s.lst.length + 1) c7) = Value.ownBlock (.slice LA s.lst.length lc) ∨ Value.ownBlock (.slice A7 (s.lst.length + 1) c7) = some wA.heap.size) →
   (w7.cell? ⟨q.b, 0, none⟩ = some (.slice LA s.lst.length lc) ∧ w7.frozen? ⟨q.b, 0, none⟩ = false) ∧ PgAt (w7.setCell ⟨q.b, 0, none⟩ (.slice A7 (s.lst.length + 1) c7)) q R { s with lst := s.lst ++ [l] } ∧ KeepD R w (w7.setCell ⟨q.b, 0, none⟩ (.slice A7 (s.lst.length + 1) c7)) := by
 obtain ⟨LA, lc, UA, un, uc, m, HP, HLo, HM, HT, hLR, hUR⟩ := h.ex
 have hb := HP.hd
 refine ⟨LA, lc, hb.cell rfl, HLo, fun wA w7 A7 c7 g0 hg7 own7 hat7 => ?_⟩
 have HLA := own_grew HLo g0
 have hbA := hb.grew g0
 have hb7 : Blk w7 q.b 133 _ := hbA.kept hg7 (fun e => own_off HLA hbA (by decide) e.symm rfl)
 refine ⟨⟨hb7.cell rfl, hb7.frozen 0⟩, ?_⟩
 have hs := grown_set w7 q.b 0 (.slice A7 (s.lst.length + 1) c7)
 have ap : ∀ {base e size v n xs}, w.ownsRow base e size v n xs → 122 ≠ e → 133 ≠ e → (w7.setCell ⟨q.b, 0, none⟩ (.slice A7 (s.lst.length + 1) c7)).ownsRow base e size v n xs := fun {base e size v n xs} ho h1 h2 => by
  have hoA := own_grew ho g0
  have ho7 := hoA.kept hg7 (by
   cases hv : v.ownBlock with
   | none => exact .inl rfl
   | some g' => exact .inr (fun e => own_apart HLA hoA h1 e.symm hv rfl))
  refine ho7.kept hs ?_
  cases hv : v.ownBlock with
  | none => exact .inl rfl
  | some g' => exact .inr (fun e => own_off ho7 hb7 h2 hv (by injection e))
 have hMA := HM.grew g0
 have hM7 : MapIs ekL bV w7 q.b1 m := hMA.kept hg7 (fun e => by
  obtain ⟨cur, hc⟩ := own_block HLA e.symm
  exact map_ne hMA hc rfl)
 have hM8 := hM7.kept hs (fun e => map_ne hM7 hb7 (by injection e))
 have own8 : (w7.setCell ⟨q.b, 0, none⟩ (.slice A7 (s.lst.length + 1) c7)).ownsRow q.base 122 3 (.slice A7 (s.lst.length + 1) c7) (s.lst.length + 1) ((s.lst ++ [l]).flatMap encL) := by
  rw [List.flatMap_append]
  refine own7.kept hs ?_
  cases hv : Value.ownBlock (.slice A7 (s.lst.length + 1) c7) with
  | none => exact .inl rfl
  | some g' => exact .inr (fun e => own_off own7 hb7 (by decide) hv (by injection e))
 have hsz : w.heap.size ≤ (w7.setCell ⟨q.b, 0, none⟩ (.slice A7 (s.lst.length + 1) c7)).heap.size := Nat.le_trans g0.le (Nat.le_trans hg7.size hs.size)
 have hll : (s.lst ++ [l]).length = s.lst.length + 1 := by rw [List.length_append]; rfl
 have HP2 : HpAt (w7.setCell ⟨q.b, 0, none⟩ (.slice A7 (s.lst.length + 1) c7)) q.b q.base [.slice A7 (s.lst.length + 1) c7, .map (some q.b1), .map (some q.b2), q.CS, .slice (some ⟨q.gO, 0, none⟩) q.N q.oc, .slice (some ⟨q.gS, 0, none⟩) q.N q.sc, .int .i64 s.fa] (fun j => j < w.heap.size ∧ j ≠ q.b ∧ some j ≠ Value.ownBlock (.slice UA un uc)) UA un uc s.U :=
  ⟨hb7.set 0 _, ap HP.own (by decide) (by decide), HP.len, rfl, HP.nb, HP.ng, HP.le⟩
 have hk : KeepD R w w7 := keep_grown (KeepD.grew g0) hg7 hLR
 refine ⟨⟨⟨A7, c7, UA, un, uc, m, ?_, ?_, hM8, HT, ?_, hUR⟩, ap h.op (by decide) (by decide), ap h.sa (by decide) (by decide), h.ol, h.sl, h.nR, h.N, Nat.le_trans h.base hsz, fun j hj => Nat.lt_of_lt_of_le (h.lt j hj) hsz⟩, hk.trans (KeepD.grown hs h.nR.1)⟩
 ·rw [hll]; exact HP2.can
 ·rw [hll]; exact own8
 ·intro g hg hr
  rw [hll] at hg
  rw [hg] at hat7
  rcases hat7 with e | e
  ·exact hLR g e.symm hr
  ·injection e with e
   have := h.lt g hr
   have := g0.le
   omega
end Go.Proofs.YtnnbibmmofnkdaaGreat
