/-
  disk.Write.
-/
import Derived.Test.YtneipacdpojjkaaBuild
namespace Go.Proofs.Ytneipacdpojjkaa
open Go.RowKit Go.Proofs WageMem WageDisk

def writeOk (d : Ds) (off : Int) (data : List UInt8) : Bool := validB d && insideB off data.length d.st.length
def writeD (d : Ds) (off : Int) (data : List UInt8) : Ds := if writeOk d off data && decide (d.pe.length < 64) then ⟨d.st, d.pe ++ [⟨off, data⟩]⟩ else emptyD
def writeE (d : Ds) (off : Int) (data : List UInt8) : Int := if writeOk d off data then (if d.pe.length < 64 then 0 else 2) else 1

theorem info45 : (Try.prog.info? 45).map (fun i => (i.zero, i.size, i.bytes)) = some (some (.agg #[.int .i64 0, .slice none 0 0]), 2, 32) := by kernel_rfl

/-- Clone, beside three cells that are loaded. -/
theorem clone_beside {A : Option Addr} {n c : Nat} {bs : List UInt8} {w : World} (h : Bytes w A n c bs) (hn : n ≤ 65536) {p q r : Addr} {u v x : Value} (h1 : w.cell? p = some u) (h2 : w.cell? q = some v) (h3 : w.cell? r = some x) :
    Calls Try.prog 45 #[.slice A n c] w fun e w' => ∃ A' c', e = .returned (.slice A' n c') ∧ w'.cell? p = some u ∧ w'.cell? q = some v ∧ w'.cell? r = some x ∧ w'.ownsRow w.heap.size 5 1 (.slice A' n c') n (bs.map bv) ∧ Grew w w' :=
  (clone_any A n c bs w h hn).mono fun _ _ ⟨A', c', e, o, g⟩ => ⟨A', c', e, g.cell h1, g.cell h2, g.cell h3, o, g⟩

theorem stepped {base : Nat} {w w4 w5 : World} {R : Nat} {As : Option Addr} {n cs : Nat} {sb : List UInt8} {Ap : Option Addr} {k cp : Nat} {ws ws' : List Wr} {vs : List Value} {x : Wr} {A6 : Option Addr} {nx c6 g6 cap6 base' : Nat} {xo : Int}
    (h : Build base w w4 R As n cs sb Ap k cp ws vs) (own4 : w4.ownsRow base' 5 1 (.slice A6 nx c6) nx (x.data.map bv))
    (grow5 : (w4.alloc (.cells #[.int .i64 xo, .slice A6 nx c6] 45)).grownBy w5 (Value.slice Ap k cp).ownBlock)
    (own5 : w5.ownsRow base 45 2 (.slice (some ⟨g6, 0, none⟩) (k + 1) cap6) (k + 1) (pcells ws vs ++ [.int .i64 xo, .slice A6 nx c6])) (hbase : base ≤ base')
    (hnx : x.data.length = nx) (hxo : x.off = xo) (x0 : -9223372036854775808 ≤ xo) (x1 : xo ≤ 9223372036854775807) (ht : ws' = ws ++ [x]) :
    Build base w (w5.setCell ⟨R, 1, none⟩ (.slice (some ⟨g6, 0, none⟩) (k + 1) cap6)) R As n cs sb (some ⟨g6, 0, none⟩) (k + 1) cap6 ws' (vs ++ [.slice A6 nx c6]) := by
  subst hxo ht
  exact (h.later ((Grew.refl w4).alloc _)).step hnx ⟨x0, x1⟩ ((own_base own4 hbase).alloc _) own5 grow5

set_option maxRecDepth 100000 in
set_option maxHeartbeats 16000000 in
theorem write_ok (v : Value) (d : Ds) (off : Int) (A3 : Option Addr) (n3 c3 : Nat) (data : List UInt8) (w : World) (h : Disk w v d) (hD : Bytes w A3 n3 c3 data) (o0 : -9223372036854775808 ≤ off) (o1 : off ≤ 9223372036854775807)
    (hok : writeOk d off data = true) (hlt : d.pe.length < 64) :
    Calls Try.prog 21 #[v, .int .i64 off, .slice A3 n3 c3] w (RetDiskE ⟨d.st, d.pe ++ [⟨off, data⟩]⟩ 0 w) := by
  obtain ⟨A, n, c, A', n', c', rfl, hB, hW⟩ := h.form
  obtain ⟨i0, hi0, hz0, hz1, hz2⟩ := info_parts info45
  unfold writeOk at hok
  rw [Bool.and_eq_true] at hok
  obtain ⟨hv, hi⟩ := hok
  have hvs := valid_size hv
  have hn := hB.1
  have hn' := hW.1
  have hn3 := hD.1
  rw [hn, hn3] at hi
  have hin := of_decide_eq_true hi
  obtain ⟨j0, j1, j2, j3⟩ := hin
  have s1 : n ≤ 65536 := by omega
  have s2 : n' < 64 := by omega
  have s3 : n3 ≤ 65536 := by omega
  have HV := Lib.hid hv
  have HI := Lib.hid hi
  have HN := Lib.hid hn
  have HN' := Lib.hid hn'
  have HN3 := Lib.hid hn3
  have HDD := Lib.hid hD
  clear hv hi hvs hn hn' hn3 hlt hD
  have d64 : decide (64 ≤ (n' : Int)) = false := decide_eq_false (by omega)
  go_enter Try.func21, Try.ntmps21
  go_wp2_with fail
  refine (valid_any _ d _ (h.grew (((Grew.refl w).alloc _).alloc _))).mono ?_
  rw [HV.out]
  rintro e w1 ⟨rfl, g1⟩
  have hr1 : w1.heap[w.heap.size + 1]? = some (.cells #[.slice none 0 0, .slice none 0 0] 25 (0, 0)) := g1.block (blk_new2 _ _ _ _)
  have hd : w1.heap[w.heap.size]? = some (.cells #[.slice A n c, .slice A' n' c'] 25 (0, 0)) := g1.block (blk_new1 _ _ _ _)
  have d0 : w1.cell? ⟨w.heap.size, 0, none⟩ = some (.slice A n c) := blk_cell hd 0
  have d1 : w1.cell? ⟨w.heap.size, 1, none⟩ = some (.slice A' n' c') := blk_cell hd 1
  have gg : Grew w w1 := (((Grew.refl w).alloc _).alloc _).trans g1
  have HR1 := Lib.hid hr1
  clear hd g1 hr1
  go_wp2_with fail
  refine (inside_any off n3 n _ (by omega) (by omega) o0).mono ?_
  rw [HI.out]
  rintro e _ ⟨rfl, rfl⟩
  go_wp2_with fail
  refine (clone_any A n c d.st _ (hB.grew gg) s1).mono ?_
  rintro e w2 ⟨As, cs, rfl, own2, g2⟩
  have d0' := g2.cell d0
  have d1' := g2.cell d1
  clear d0 d1
  have sz : w.heap.size < w2.heap.size := World.block_lt_of_cell? _ _ d0'
  go_wp2_with fail
  obtain ⟨w3, hw3⟩ : ∃ w3, w3 = w2.alloc (.cells #[.slice As n cs, .slice none 0 0] 25) := ⟨_, rfl⟩
  have bld : Build w1.heap.size w1 w3 w2.heap.size As n cs d.st none 0 0 [] [] := by
    rw [hw3]
    refine ⟨heap_alloc_new _ _, own2.alloc _, ⟨rfl, rfl, HN.out⟩, World.ownsRow_nil _ _ _ _, fun j x hx => by simp at hx, g2.alloc _, Nat.le_refl _, g2.le⟩
  rw [← hw3]
  clear hw3 own2 g2 d0' d1' sz
  go_loopw [37] (fun i wr => ∃ (k : Nat) (Ap : Option Addr) (cp : Nat) (vs : List Value), k ≤ n' ∧ i = .int .i64 k ∧ Build w1.heap.size w1 wr w2.heap.size As n cs d.st Ap k cp (d.pe.take k) vs) (fun i _ => n' - (intOf i).toNat)
  case atStart => exact ⟨0, none, 0, [], Nat.zero_le _, rfl, by rw [List.take_zero]; exact bld⟩
  case round =>
    obtain ⟨k, Ap, cp, vs, hk, rfl, hb⟩ := hrel
    clear bld
    by_cases hlt : k < n'
    · obtain ⟨x, hx⟩ : ∃ x, d.pe[k]? = some x := ⟨_, List.getElem?_eq_getElem (by rw [HN'.out]; exact hlt)⟩
      obtain ⟨b, o, rfl, hc⟩ := (hW.grew (gg.trans hb.grew)).2.2.2.2 (by omega)
      obtain ⟨c1, x0, x1, Ax, nx, cx, c2, hbx⟩ := hc k x hx
      have hin := valid_in HV.out hx
      rw [HN.out, hbx.1] at hin
      have snx : nx ≤ 65536 := by omega
      have ht : Hid (d.pe.take (k + 1) = d.pe.take k ++ [x]) := by unfold Hid; rw [List.take_add_one, hx]; rfl
      have hnx := Lib.hid hbx.1
      have HBX := Lib.hid hbx
      have HB := Lib.hid hb
      have rc : wr.cell? ⟨w2.heap.size, 1, none⟩ = some (.slice Ap k cp) := blk_cell hb.blk 1
      have szr : w2.heap.size < wr.heap.size := World.block_lt_of_cell? _ _ rc
      clear hc hx hin hbx hb
      generalize hxo : x.off = xo at *
      have HXO := Lib.hid hxo
      clear hxo
      obtain ⟨wa, hwa⟩ : ∃ wa, wa = wr.alloc (.cells #[.int .i64 xo, .slice Ax nx cx] 45) := ⟨_, rfl⟩
      go_wp2_with fail
      rw [← hwa]
      have gwa : Grew wr wa := by rw [hwa]; exact (Grew.refl wr).alloc _
      have e0 : wa.cell? ⟨wr.heap.size, 0, none⟩ = some (.int .i64 xo) := by rw [hwa]; simp
      have e1 : wa.cell? ⟨wr.heap.size, 1, none⟩ = some (.slice Ax nx cx) := by rw [hwa]; simp
      have e2 := gwa.cell rc
      have HBA := Lib.hid (HB.out.later gwa.drew)
      have HNE : Hid (some wr.heap.size ≠ (Value.slice Ap k cp).ownBlock) := by
        unfold Hid; intro h0; have := (HB.out.pe.lt _ h0.symm).2; omega
      have HBX' := Lib.hid (HBX.out.grew gwa.drew)
      have sza := gwa.le
      have szb : wr.heap.size < wa.heap.size := World.block_lt_of_cell? _ _ e0
      clear hwa gwa rc c1 c2
      have hmm : k + 1 ≤ maxLen := by unfold maxLen; omega
      go_region_law
        (first
          | (refine step_append_lies _ (by rfl) _ _ _ (by rfl) w1.heap.size 45 i0 _ 2 32 Try.underlying23 hi0 hz0 hz1 hz2 rfl (by omega) (.slice Ap k cp) k (pcells (d.pe.take k) vs) (by rfl) (HB2.out.pe.alloc _)
              ⟨w4.heap.size, 0, none⟩ 1 1 [.int .i64 xo, .slice A6 nx c6] (by rfl) (by rfl) (World.news_of_block (cs := #[.int .i64 xo, .slice A6 nx c6]) (t := 45) (fr := (0, 0)) (heap_alloc_new w4 _)) (by simp [Value.oneCell'])
              (by omega) hmm (by omega) (by have := HB2.out.grew.le; simp; omega) (w4.heap.size + 1) (by simp) ?_; intro g6 cap6 w5 own5 grow5 hat5 hlt5; have hb5 := blk_grown (HB2.out.later ((Grew.refl w4).alloc (.cells #[.int .i64 xo, .slice A6 nx c6] 45))).blk (HB2.out.later ((Grew.refl w4).alloc (.cells #[.int .i64 xo, .slice A6 nx c6] 45))).pe (by decide) grow5; have qq0 : w5.cell? ⟨w2.heap.size, 1, none⟩ = some (.slice Ap k cp) := blk_cell hb5 1; have zz0 : w5.frozen? ⟨w2.heap.size, 1, none⟩ = false := blk_frozen hb5 1; have qq1 := grow5.cell (((Grew.refl w4).alloc (.cells #[.int .i64 xo, .slice A6 nx c6] 45)).cell kk1) HNE.out; have qq2 := grow5.cell (((Grew.refl w4).alloc (.cells #[.int .i64 xo, .slice A6 nx c6] 45)).cell kk2) HNE.out)
          | (go_simp; go_at_call 45; refine (clone_beside HBX'.out snx (p := ⟨w2.heap.size, 1, none⟩) (q := ⟨wr.heap.size, 0, none⟩) (r := ⟨wr.heap.size, 1, none⟩) e2 e0 e1).mono ?_; rintro e w4 ⟨A6, c6, rfl, kk0, kk1, kk2, own4, g4⟩; have HB2 := Lib.hid (HBA.out.later g4); have sz4 : w2.heap.size < w4.heap.size := World.block_lt_of_cell? _ _ kk0; have sz5 : wr.heap.size < w4.heap.size := World.block_lt_of_cell? _ _ kk1))
      all_goals
        have hb6 := stepped HB2.out own4 grow5 own5 (by have := HB.out.grew.le; have := sza; simp; omega) hnx.out HXO.out x0 x1 ht.out
        clear own5 grow5 hat5 hlt5 hb5 qq0 qq1 qq2 zz0 own4 g4 HB2 kk0 kk1 kk2 HBA e0 e1 e2
        go_wp2_with fail
        go_roundw
        case rel => exact ⟨k + 1, _, _, _, by omega, by go_num, hb6⟩
        case measure => simp [intOf]; omega
    · obtain rfl : k = n' := by omega
      go_wp2_with fail
      have HBA := Lib.hid (hb.later (Grew.refl wr).drew)
      have rc : wr.cell? ⟨w2.heap.size, 1, none⟩ = some (.slice Ap k cp) := blk_cell hb.blk 1
      have szr : w2.heap.size < wr.heap.size := World.block_lt_of_cell? _ _ rc
      have HBX' : Hid (Bytes wr.drew A3 n3 c3 data) := HDD.out.grew (gg.trans (hb.grew.trans (Grew.refl wr).drew))
      have hle := hb.grew.le
      have HT : Hid (d.pe ++ [⟨off, data⟩] = d.pe.take k ++ [⟨off, data⟩]) := by unfold Hid; rw [← HN'.out, List.take_length]
      have HR2 := Lib.hid (hb.grew.block HR1.out)
      have hw12 : Hid (w.heap.size + 1 < w1.heap.size) := World.block_lt_of_cell? _ _ (blk_cell HR1.out 0)
      have hmm : k + 1 ≤ maxLen := by unfold maxLen; omega
      clear hb
      go_region_law
        (first
          | (refine step_append_lies _ (by rfl) _ _ _ (by rfl) w1.heap.size 45 i0 _ 2 32 Try.underlying23 hi0 hz0 hz1 hz2 rfl (by omega) (.slice Ap k cp) k (pcells (d.pe.take k) vs) (by rfl) (HB2.out.pe.alloc _)
              ⟨w4.heap.size, 0, none⟩ 1 1 [.int .i64 off, .slice A6 n3 c6] (by rfl) (by rfl) (World.news_of_block (cs := #[.int .i64 off, .slice A6 n3 c6]) (t := 45) (fr := (0, 0)) (heap_alloc_new w4 _)) (by simp [Value.oneCell'])
              (by omega) hmm (by omega) (by have := HB2.out.grew.le; simp; omega) (w4.heap.size + 1) (by simp) ?_; intro g6 cap6 w5 own5 grow5 hat5 hlt5; have hb5 := blk_grown (HB2.out.later ((Grew.refl w4).alloc (.cells #[.int .i64 off, .slice A6 n3 c6] 45))).blk (HB2.out.later ((Grew.refl w4).alloc (.cells #[.int .i64 off, .slice A6 n3 c6] 45))).pe (by decide) grow5; have qq0 : w5.cell? ⟨w2.heap.size, 1, none⟩ = some (.slice Ap k cp) := blk_cell hb5 1; have zz0 : w5.frozen? ⟨w2.heap.size, 1, none⟩ = false := blk_frozen hb5 1)
          | (go_simp; go_at_call 45; refine (clone_beside HBX'.out s3 (p := ⟨w2.heap.size, 1, none⟩) (q := ⟨w2.heap.size, 1, none⟩) (r := ⟨w2.heap.size, 1, none⟩) rc rc rc).mono ?_; rintro e w4 ⟨A6, c6, rfl, kk0, kk1, kk2, own4, g4⟩; have HB2 := Lib.hid (HBA.out.later g4); have sz4 : w2.heap.size < w4.heap.size := World.block_lt_of_cell? _ _ kk0))
      all_goals
        have hb6 := stepped HB2.out own4 grow5 own5 (by have := HBA.out.grew.le; simp; omega) (x := ⟨off, data⟩) HN3.out rfl o0 o1 HT.out
        have HB6 := Lib.hid hb6
        have t0 := blk_cell hb6.blk 0
        have t1 := blk_cell hb6.blk 1
        have hr6 := hb6.grew.block HR1.out
        have r0 := blk_cell hr6 0
        have r1 := blk_cell hr6 1
        have z0 := blk_frozen hr6 0
        have z1 := blk_frozen hr6 1
        generalize w5.setCell ⟨w2.heap.size, 1, none⟩ (.slice (some ⟨g6, 0, none⟩) (k + 1) cap6) = w6 at *
        clear own5 grow5 hat5 hlt5 hb5 qq0 zz0 own4 g4 HB2 kk0 kk1 kk2 HBA hb6 hr6
        go_wp2_with fail
        obtain ⟨q0, q1⟩ := two_set r0 r1 (.slice As n cs) (.slice (some ⟨g6, 0, none⟩) (k + 1) cap6)
        refine bodyPost_ret (v := .tuple #[.agg #[.slice As n cs, .slice (some ⟨g6, 0, none⟩) (k + 1) cap6], .int .i64 0]) (by simp [results, Try.results21, go_sem, q0, q1]) rfl ⟨_, _, _, _, _, _, rfl, ?_, ((gg.trans HB6.out.grew).set (by simp) _).set (by simp) _⟩
        exact ((HB6.out.fresh_.set hw12.out _).set hw12.out _).mono gg.le
end Go.Proofs.Ytneipacdpojjkaa
