/-
 Propagations: what lies in memory, negate, examine.
-/
import Derived.Test.YtnnbibmmofnkdaaGreatHeap
import Derived.Test.YtnnbibmmofnkdaaGreatMapE
import Derived.Test.YtnnbibmmofnkdaaGreatRefL
namespace Go.Proofs.YtnnbibmmofnkdaaGreat
open Go.RowKit Go.Proofs WageMem WageReg WageRec WageSpan WageTop
open WageMap
theorem negate111 (l : Li) (w : World) : Calls Tryz.prog 111 #[.agg #[.int .i64 l.d, .int .i64 l.w, .bool l.is]] w fun r w' => r = .returned (.agg #[.int .i64 l.neg.d, .int .i64 l.neg.w, .bool l.neg.is]) ∧ Grew w w' := by
 obtain ⟨d, v, is⟩ := l
 show Calls Tryz.prog 111 #[.agg #[.int .i64 d, .int .i64 v, .bool is]] w fun r w' => r = .returned (.agg #[.int .i64 d, .int .i64 v, .bool (!is)]) ∧ Grew w w'
 obtain ⟨w1, hw1⟩ : ∃ y, y = (w.alloc (.cells #[.int .i64 d, .int .i64 v, .bool is] 122)).alloc (.cells #[.int .i64 0, .int .i64 0, .bool false] 122) := ⟨_, rfl⟩
 have g1 : Grew w w1 := by rw [hw1]; exact ((Grew.refl w).alloc _).alloc _
 obtain ⟨a, ha⟩ : ∃ z, z = w.heap.size := ⟨_, rfl⟩
 have HA : Hid (Blk w1 a 122 [.int .i64 d, .int .i64 v, .bool is]) := by unfold Hid; rw [hw1, ha]; exact (Blk.new w 122 [.int .i64 d, .int .i64 v, .bool is]).grew ((Grew.refl _).alloc _)
 have HR : Hid (Blk w1 (a + 1) 122 [.int .i64 0, .int .i64 0, .bool false]) := by
  have h1 := Blk.new (w.alloc (.cells #[.int .i64 d, .int .i64 v, .bool is] 122)) 122 [.int .i64 0, .int .i64 0, .bool false]
  rw [World.size_alloc] at h1
  unfold Hid; rw [hw1, ha]; exact h1
 have hge : w.heap.size ≤ a := by omega
 go_enter Tryz.func111, Tryz.ntmps111
 go_upto_region 1 with (fail)
 rw [← hw1, ← ha]
 clear hw1 ha
 have c2 : w1.cell? ⟨a, 2, none⟩ = some (.bool is) := HA.out.cell rfl
 have f2 := HA.out.frozen 2
 obtain ⟨w2, hw2⟩ : ∃ y, y = w1.setCell ⟨a, 2, none⟩ (.bool (!is)) := ⟨_, rfl⟩
 go_upto_region 2 with (fail)
 rw [← hw2]
 have k2 := grown_set w1 a 2 (.bool (!is))
 rw [← hw2] at k2
 have HA2 : Hid (Blk w2 a 122 [.int .i64 d, .int .i64 v, .bool (!is)]) := by unfold Hid; rw [hw2]; exact HA.out.set 2 _
 have HR2 : Hid (Blk w2 (a + 1) 122 [.int .i64 0, .int .i64 0, .bool false]) := HR.out.kept k2 (fun e => by injection e; omega)
 have g2 : Grew w w2 := g1.grown k2 (fun q hq => by injection hq; omega)
 clear hw2 k2 c2 f2 HA HR
 have v0 : w2.cell? ⟨a, 0, none⟩ = some (.int .i64 d) := HA2.out.cell rfl
 have v1 : w2.cell? ⟨a, 1, none⟩ = some (.int .i64 v) := HA2.out.cell rfl
 have v2 : w2.cell? ⟨a, 2, none⟩ = some (.bool (!is)) := HA2.out.cell rfl
 go_wp2_with (refine wpList_store_row rfl 122 (.tmp 2) (.tmp 7) rfl (a + 1) #[.int .i64 d, .int .i64 v, .bool (!is)] rfl rfl 122 _ HR2.out size122 rfl (by simp [Value.oneCell']) ?_)
 have HB := setRow_heap w2 (a + 1) _ #[.int .i64 d, .int .i64 v, .bool (!is)] 122 (0, 0) HR2.out
 have GF : Grew w (w2.setRow (a + 1) #[.int .i64 d, .int .i64 v, .bool (!is)]) := grew_setRow g2 (by omega) _
 refine bodyPost_ret (results_li rfl _ _ (a + 1) _ rfl HB rfl) rfl ?_
 exact ⟨rfl, GF⟩
/-- A propagation: its literals, those that are set, the clauses' open counts, which are satisfied, the falsified one, and the units. -/
structure Pg where
 lst : List Li
 T : List Li
 op : List Int
 sa : List Bool
 fa : Int
 U : List Int
/-- Where it lies: the struct's block, the maps, the rows. R: the blocks that stay as they are. -/
structure Pp where
 b : Nat
 b1 : Nat
 b2 : Nat
 N : Nat
 gO : Nat
 oc : Nat
 gS : Nat
 sc : Nat
 CS : Value
 base : Nat
structure PgAt (w : World) (q : Pp) (R : Nat → Prop) (s : Pg) : Prop where
 ex : ∃ (LA : Option Addr) (lc : Nat) (UA : Option Addr) (un uc : Nat) (m : List (Li × Bool)),
  HpAt w q.b q.base [.slice LA s.lst.length lc, .map (some q.b1), .map (some q.b2), q.CS, .slice (some ⟨q.gO, 0, none⟩) q.N q.oc, .slice (some ⟨q.gS, 0, none⟩) q.N q.sc, .int .i64 s.fa] (fun j => j < w.heap.size ∧ j ≠ q.b ∧ some j ≠ Value.ownBlock (.slice UA un uc)) UA un uc s.U ∧
  w.ownsRow q.base 122 3 (.slice LA s.lst.length lc) s.lst.length (s.lst.flatMap encL) ∧ MapIs ekL bV w q.b1 m ∧ TrueIs m s.T ∧
  (∀ g, Value.ownBlock (.slice LA s.lst.length lc) = some g → ¬ R g) ∧ (∀ g, Value.ownBlock (.slice UA un uc) = some g → ¬ R g ∧ g ≠ q.gO)
 op : w.ownsRow q.base 3 1 (.slice (some ⟨q.gO, 0, none⟩) q.N q.oc) q.N (s.op.map iv)
 sa : w.ownsRow q.base 4 1 (.slice (some ⟨q.gS, 0, none⟩) q.N q.sc) q.N (s.sa.map bV)
 ol : s.op.length = q.N
 sl : s.sa.length = q.N
 nR : ¬ R q.b ∧ ¬ R q.b1 ∧ ¬ R q.gO ∧ ¬ R q.gS
 N : q.N ≤ 100000
 base : q.base ≤ w.heap.size
 lt : ∀ j, R j → j < w.heap.size
theorem HpAt.pr {w : World} {b base : Nat} {pre : List Value} {Pr Pr' : Nat → Prop} {A : Option Addr} {n c : Nat} {U : List Int} (h : HpAt w b base pre Pr A n c U) (h1 : ¬ Pr' b) (h2 : ∀ g, Value.ownBlock (.slice A n c) = some g → ¬ Pr' g) : HpAt w b base pre Pr' A n c U :=
 ⟨h.hd, h.own, h.len, h.pre, h1, fun g hg => ⟨h2 g hg, (h.ng g hg).2⟩, h.le⟩
theorem HpAt.can {w : World} {b base : Nat} {pre : List Value} {Pr : Nat → Prop} {A : Option Addr} {n c : Nat} {U : List Int} (h : HpAt w b base pre Pr A n c U) : HpAt w b base pre (fun j => j < w.heap.size ∧ j ≠ b ∧ some j ≠ Value.ownBlock (.slice A n c)) A n c U :=
 h.pr (fun h => h.2.1 rfl) (fun _ hg h => h.2.2 hg.symm)
def Pg.exam (s : Pg) (i : Nat) (s' : Pg) : Prop :=
 s'.lst = s.lst ∧ s'.T = s.T ∧ s'.op = s.op ∧ s'.sa = s.sa ∧
  (if s.op.getD i 0 = 0 then s'.fa = (if s.fa < 0 ∨ (i : Int) < s.fa then (i : Int) else s.fa) ∧ s'.U = s.U
  else if s.op.getD i 0 = 1 then s'.fa = s.fa ∧ s'.U.Perm (s.U ++ [(i : Int)])
  else s'.fa = s.fa ∧ s'.U = s.U)
theorem own_off {w : World} {base : Nat} {e T : TypeId} {size n : Nat} {v : Value} {xs : List Value} (h : w.ownsRow base e size v n xs) {b : Nat} {cs : List Value} (hb : Blk w b T cs) (hne : T ≠ e) {g : Nat} (hg : v.ownBlock = some g) : g ≠ b := by
 rintro rfl
 rcases h.2 with ⟨rfl, _⟩ | ⟨g', cap, cur, rfl, _, h2, _⟩
 ·cases hg
 ·injection hg with hg
  subst hg
  rw [show w.heap[g']? = some (.cells cs.toArray T (0, 0)) from hb] at h2
  injection h2 with h2
  injection h2 with _ h2
  exact hne h2
theorem own_apart {w : World} {base base' : Nat} {e e' : TypeId} {size size' n n' : Nat} {v v' : Value} {xs xs' : List Value} (h : w.ownsRow base e size v n xs) (h' : w.ownsRow base' e' size' v' n' xs') (hne : e ≠ e') {g g' : Nat} (hg : v.ownBlock = some g) (hg' : v'.ownBlock = some g') : g ≠ g' := by
 rintro rfl
 rcases h.2 with ⟨rfl, _⟩ | ⟨g1, cap, cur, rfl, _, h2, _⟩
 ·cases hg
 ·rcases h'.2 with ⟨rfl, _⟩ | ⟨g3, cap3, cur3, rfl, _, h4, _⟩
  ·cases hg'
  ·injection hg with hg
   injection hg' with hg'
   subst hg
   simp only at hg'
   rw [hg', h2] at h4
   injection h4 with h4
   injection h4 with _ h4
   exact hne h4
theorem map_ne {κ β : Type} {ek : κ → Value} {ev : β → Value} {w : World} {b1 : Nat} {m : List (κ × β)} (h : MapIs ek ev w b1 m) {b : Nat} {cs : Array Value} {T : TypeId} {fz : Nat × Nat} (hb : w.heap[b]? = some (.cells cs T fz)) : b1 ≠ b := by
 rintro rfl
 obtain ⟨es, clock, h1, _⟩ := h
 rw [h1] at hb
 cases hb
theorem own_block {w : World} {base : Nat} {e : TypeId} {size n : Nat} {v : Value} {xs : List Value} (h : w.ownsRow base e size v n xs) {g : Nat} (hg : v.ownBlock = some g) : ∃ cur, w.heap[g]? = some (.cells cur e (0, 0)) := by
 rcases h.2 with ⟨rfl, _⟩ | ⟨g', cap, cur, rfl, _, h2, _⟩
 ·cases hg
 ·injection hg with hg
  subst hg
  exact ⟨cur, h2⟩
theorem keepB_mono {G G' : Nat → Prop} {A B : World} (h : KeepD G A B) (hg : ∀ j, G' j → G j) : KeepD G' A B := ⟨h.1, fun k o hk ho => h.2 k o (hg k hk) ho, h.os, h.tape, h.output⟩
/-- The heap has changed, and nothing else. -/
theorem PgAt.heap {w : World} {q : Pp} {R : Nat → Prop} {s : Pg} (h : PgAt w q R s) : ∃ (LA : Option Addr) (lc : Nat) (UA : Option Addr) (un uc : Nat) (Pr : Nat → Prop), un = s.U.length ∧ (∀ j, Pr j → j < w.heap.size) ∧
  HpAt w q.b q.base [.slice LA s.lst.length lc, .map (some q.b1), .map (some q.b2), q.CS, .slice (some ⟨q.gO, 0, none⟩) q.N q.oc, .slice (some ⟨q.gS, 0, none⟩) q.N q.sc, .int .i64 s.fa] Pr UA un uc s.U ∧
  ∀ (w' : World) (A' : Option Addr) (n' c' : Nat) (V : List Int), HpAt w' q.b q.base [.slice LA s.lst.length lc, .map (some q.b1), .map (some q.b2), q.CS, .slice (some ⟨q.gO, 0, none⟩) q.N q.oc, .slice (some ⟨q.gS, 0, none⟩) q.N q.sc, .int .i64 s.fa] Pr A' n' c' V → KeepD Pr w w' →
   PgAt w' q R { s with U := V } ∧ KeepD R w w' := by
 obtain ⟨LA, lc, UA, un, uc, m, HP, HLo, HM, HT, hLR, hUR⟩ := h.ex
 refine ⟨LA, lc, UA, un, uc, _, HP.len.symm, fun j hj => hj.1, HP, fun w' A' n' c' V H' hk => ?_⟩
 have hb := HP.hd
 have P_of : ∀ j, j < w.heap.size → j ≠ q.b → (∀ g, Value.ownBlock (.slice UA un uc) = some g → j ≠ g) → (j < w.heap.size ∧ j ≠ q.b ∧ some j ≠ Value.ownBlock (.slice UA un uc)) := fun j h1 h2 h3 => ⟨h1, h2, fun e => h3 j e.symm rfl⟩
 have hR : KeepD R w w' := keepB_mono hk fun j hj => P_of j (h.lt j hj) (fun e => h.nR.1 (e ▸ hj)) (fun g hg e => (hUR g hg).1 (e ▸ hj))
 have hgO : q.gO < w.heap.size := (h.op.lt q.gO rfl).2
 have hgS : q.gS < w.heap.size := (h.sa.lt q.gS rfl).2
 have kO : w'.ownsRow q.base 3 1 (.slice (some ⟨q.gO, 0, none⟩) q.N q.oc) q.N (s.op.map iv) := own_keepD h.op hk fun g hg => by
  injection hg with hg
  subst hg
  exact P_of _ hgO (own_off h.op hb (by decide) rfl) (fun g hg => fun e => (hUR g hg).2 e.symm)
 have kS : w'.ownsRow q.base 4 1 (.slice (some ⟨q.gS, 0, none⟩) q.N q.sc) q.N (s.sa.map bV) := own_keepD h.sa hk fun g hg => by
  injection hg with hg
  subst hg
  exact P_of _ hgS (own_off h.sa hb (by decide) rfl) (fun g hg => own_apart h.sa HP.own (by decide) rfl hg)
 have kL : w'.ownsRow q.base 122 3 (.slice LA s.lst.length lc) s.lst.length (s.lst.flatMap encL) := own_keepD HLo hk fun g hg => P_of g (HLo.lt g hg).2 (own_off HLo hb (by decide) hg) (fun g' hg' => own_apart HLo HP.own (by decide) hg hg')
 have kM : MapIs ekL bV w' q.b1 m := HM.same (by
  obtain ⟨es, ck, h1, _⟩ := HM
  have h2 := hk.2 q.b1 _ (P_of _ (Array.getElem?_eq_some_iff.1 h1).1 (map_ne (ek := ekL) (ev := bV) ⟨es, ck, h1, by assumption⟩ hb) (fun g hg => by
   obtain ⟨cur, hc⟩ := own_block HP.own hg
   exact map_ne (ek := ekL) (ev := bV) ⟨es, ck, h1, by assumption⟩ hc)) h1
  rw [h2, h1])
 have hg' : ∀ g, Value.ownBlock (.slice A' n' c') = some g → ¬ R g ∧ g ≠ q.gO := fun g hg => by
  obtain ⟨n1, n2⟩ := H'.ng g hg
  refine ⟨fun hr => n1 (P_of g (h.lt g hr) n2 (fun g2 hg2 e => (hUR g2 hg2).1 (e ▸ hr))), fun e => n1 ?_⟩
  rw [e]
  exact P_of _ hgO (own_off h.op hb (by decide) rfl) (fun g hg e => (hUR g hg).2 e.symm)
 exact ⟨⟨⟨LA, lc, A', n', c', m, H'.can, kL, kM, HT, hLR, hg'⟩, kO, kS, h.ol, h.sl, h.nR, h.N, Nat.le_trans h.base hk.1, fun j hj => Nat.lt_of_lt_of_le (h.lt j hj) hk.1⟩, hR⟩
theorem PgAt.set_fa {w : World} {q : Pp} {R : Nat → Prop} {s : Pg} (h : PgAt w q R s) (x : Int) : PgAt (w.setCell ⟨q.b, 6, none⟩ (.int .i64 x)) q R { s with fa := x } ∧ KeepD R w (w.setCell ⟨q.b, 6, none⟩ (.int .i64 x)) := by
 obtain ⟨LA, lc, UA, un, uc, m, HP, HLo, HM, HT, hLR, hUR⟩ := h.ex
 have hb := HP.hd
 have hg := grown_set w q.b 6 (.int .i64 x)
 have hsz : w.heap.size ≤ (w.setCell ⟨q.b, 6, none⟩ (.int .i64 x)).heap.size := hg.size
 have hk : ∀ {base e size v n xs}, w.ownsRow base e size v n xs → 133 ≠ e → (w.setCell ⟨q.b, 6, none⟩ (.int .i64 x)).ownsRow base e size v n xs := fun {base e size v n xs} ho hne => ho.kept hg (by
  cases hv : v.ownBlock with
  | none => exact .inl rfl
  | some g => exact .inr (fun e => own_off ho hb hne hv (by injection e)))
 have hd2 : Blk (w.setCell ⟨q.b, 6, none⟩ (.int .i64 x)) q.b 133 ([.slice LA s.lst.length lc, .map (some q.b1), .map (some q.b2), q.CS, .slice (some ⟨q.gO, 0, none⟩) q.N q.oc, .slice (some ⟨q.gS, 0, none⟩) q.N q.sc, .int .i64 x] ++ [.slice UA un uc]) := hb.set 6 _
 have HP2 : HpAt (w.setCell ⟨q.b, 6, none⟩ (.int .i64 x)) q.b q.base [.slice LA s.lst.length lc, .map (some q.b1), .map (some q.b2), q.CS, .slice (some ⟨q.gO, 0, none⟩) q.N q.oc, .slice (some ⟨q.gS, 0, none⟩) q.N q.sc, .int .i64 x] (fun j => j < w.heap.size ∧ j ≠ q.b ∧ some j ≠ Value.ownBlock (.slice UA un uc)) UA un uc s.U :=
  ⟨hd2, hk HP.own (by decide), HP.len, rfl, HP.nb, HP.ng, HP.le⟩
 refine ⟨⟨⟨LA, lc, UA, un, uc, m, HP2.can, hk HLo (by decide), HM.kept hg (fun e => by
  obtain ⟨es, ck, h1, h2⟩ := HM
  exact map_ne (ek := ekL) (ev := bV) ⟨es, ck, h1, h2⟩ hb (by injection e)), HT, hLR, hUR⟩, hk h.op (by decide), hk h.sa (by decide), h.ol, h.sl, h.nR, h.N, Nat.le_trans h.base hsz, fun j hj => Nat.lt_of_lt_of_le (h.lt j hj) hsz⟩, KeepD.grown hg h.nR.1⟩
theorem PgAt.cells {w : World} {q : Pp} {R : Nat → Prop} {s : Pg} (h : PgAt w q R s) : w.cell? ⟨q.b, 4, none⟩ = some (.slice (some ⟨q.gO, 0, none⟩) q.N q.oc) ∧ w.cell? ⟨q.b, 5, none⟩ = some (.slice (some ⟨q.gS, 0, none⟩) q.N q.sc) ∧ w.cell? ⟨q.b, 6, none⟩ = some (.int .i64 s.fa) ∧ w.cell? ⟨q.b, 1, none⟩ = some (.map (some q.b1)) ∧ w.cell? ⟨q.b, 2, none⟩ = some (.map (some q.b2)) ∧ w.cell? ⟨q.b, 3, none⟩ = some q.CS ∧ w.frozen? ⟨q.b, 6, none⟩ = false := by
 obtain ⟨LA, lc, UA, un, uc, m, HP, _⟩ := h.ex
 exact ⟨HP.hd.cell rfl, HP.hd.cell rfl, HP.hd.cell rfl, HP.hd.cell rfl, HP.hd.cell rfl, HP.hd.cell rfl, HP.hd.frozen 6⟩
theorem PgAt.op_at {w : World} {q : Pp} {R : Nat → Prop} {s : Pg} (h : PgAt w q R s) {i : Nat} (hi : i < q.N) : w.cell? ⟨q.gO, i, none⟩ = some (.int .i64 (s.op.getD i 0)) := by
 have h1 := h.op.cellAt i (by omega)
 rw [h1, List.getElem?_map, List.getD_eq_getElem?_getD, List.getElem?_eq_getElem (by rw [h.ol]; exact hi)]
 rfl
def RetXm (q : Pp) (R : Nat → Prop) (s : Pg) (i : Nat) (w : World) (e : Ending) (w' : World) : Prop := ∃ s', e = .returned (.tuple #[]) ∧ s.exam i s' ∧ PgAt w' q R s' ∧ KeepD R w w'
set_option maxRecDepth 100000 in
set_option maxHeartbeats 4000000 in
theorem examine110 {w : World} {q : Pp} {R : Nat → Prop} {s : Pg} (h : PgAt w q R s) {i : Nat} (hi : i < q.N) (hU : s.U.length + 1 ≤ 1000000) :
  Calls Tryz.prog 110 #[.pointer (some ⟨q.b, 0, none⟩), .int .i64 i] w (RetXm q R s i w) := by
 have H := Lib.hid h
 have hN := h.N
 obtain ⟨c4, c5, c6, c1, c2, c3, f6⟩ := h.cells
 obtain ⟨o, ho⟩ : ∃ o, s.op.getD i 0 = o := ⟨_, rfl⟩
 have co := h.op_at hi
 rw [ho] at co
 have HO := Lib.hid ho
 have e0 : (0 : Int) ≤ (i : Int) := by omega
 have e1 : (i : Int) < (q.N : Int) := by omega
 clear h ho c5 c1 c2 c3
 by_cases h0 : o = 0
 ·subst h0
  by_cases hf : s.fa < 0 ∨ (i : Int) < s.fa
  ·have H2 := Lib.hid (H.out.set_fa (i : Int))
   have HX : Hid (s.exam i { s with fa := (i : Int) }) := ⟨rfl, rfl, rfl, rfl, by rw [if_pos HO.out, if_pos hf]; exact ⟨rfl, rfl⟩⟩
   obtain ⟨wn, hwn⟩ : ∃ z, z = w.setCell ⟨q.b, 6, none⟩ (.int .i64 (i : Int)) := ⟨_, rfl⟩
   rw [← hwn] at H2
   by_cases hf0 : s.fa < 0
   ·have q1 : decide (s.fa < 0) = true := decide_eq_true hf0
    clear hf hf0
    go_enter Tryz.func110, Tryz.ntmps110
    go_wp2_with fail
    rw [← hwn]
    go_end0
    exact ⟨_, rfl, HX.out, H2.out.1, H2.out.2⟩
   ·have q1 : decide (s.fa < 0) = false := decide_eq_false hf0
    have q2 : decide ((i : Int) < s.fa) = true := decide_eq_true (by omega)
    clear hf hf0
    go_enter Tryz.func110, Tryz.ntmps110
    go_wp2_with fail
    rw [← hwn]
    go_end0
    exact ⟨_, rfl, HX.out, H2.out.1, H2.out.2⟩
  ·have HX : Hid (s.exam i s) := ⟨rfl, rfl, rfl, rfl, by rw [if_pos HO.out, if_neg hf]; exact ⟨rfl, rfl⟩⟩
   have q1 : decide (s.fa < 0) = false := decide_eq_false (by omega)
   have q2 : decide ((i : Int) < s.fa) = false := decide_eq_false (by omega)
   clear hf
   go_enter Tryz.func110, Tryz.ntmps110
   go_wp2_with fail
   go_end0
   exact ⟨_, rfl, HX.out, H.out, KeepD.refl _⟩
 ·have q0 : (o == 0) = false := beq_eq_false_iff_ne.2 h0
  by_cases h1 : o = 1
  ·subst h1
   go_enter Tryz.func110, Tryz.ntmps110
   go_wp2_with fail
   obtain ⟨LA, lc, UA, un, uc, Pr, hun, hPr, HP, hall⟩ := PgAt.heap H.out
   refine (hpush140 HP (by omega) hPr H.out.base (i : Int)).mono ?_
   rintro r w2 ⟨A2, c2, V, rfl, hv, h2, k2⟩
   have H2 := Lib.hid (hall w2 _ _ _ _ h2 k2)
   have HX : Hid (s.exam i { s with U := V }) := ⟨rfl, rfl, rfl, rfl, by rw [HO.out, if_neg h0, if_pos rfl]; exact ⟨rfl, hv⟩⟩
   clear hall HP h2 k2 hPr
   go_wp2_with fail
   go_end0
   exact ⟨_, rfl, HX.out, H2.out.1, H2.out.2⟩
  ·have q1 : (o == 1) = false := beq_eq_false_iff_ne.2 h1
   have HX : Hid (s.exam i s) := ⟨rfl, rfl, rfl, rfl, by rw [HO.out, if_neg h0, if_neg h1]; exact ⟨rfl, rfl⟩⟩
   go_enter Tryz.func110, Tryz.ntmps110
   go_wp2_with fail
   go_end0
   exact ⟨_, rfl, HX.out, H.out, KeepD.refl _⟩
end Go.Proofs.YtnnbibmmofnkdaaGreat
