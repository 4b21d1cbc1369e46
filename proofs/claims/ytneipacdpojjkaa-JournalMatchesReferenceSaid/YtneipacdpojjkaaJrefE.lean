/-
  The reference of the journal: Writes.
-/
import Derived.Test.YtneipacdpojjkaaJrefD
import Derived.Test.YtneipacdpojjkaaAppB
namespace Go.Proofs.Ytneipacdpojjkaa
open Go.RowKit Go.Proofs WageMem WageDisk

/-- The three writes of Append in memory. -/
def Thr (d : Ds) (rec : List UInt8) (H : Nat) (W : World) : Prop :=
  ∀ k, k < 3 → ∃ (A : Option Addr) (n c : Nat), W.cell? ⟨H, k * 2, none⟩ = some (.int .i64 (woff d k : Int)) ∧ W.cell? ⟨H, k * 2 + 1, none⟩ = some (.slice A n c) ∧ Bytes W A n c (wdata d rec k)
def RetThr (d : Ds) (rec : List UInt8) (w : World) (r : Ending) (w' : World) : Prop := ∃ H, r = .returned (.slice (some ⟨H, 0, none⟩) 3 3) ∧ Fresh w.heap.size w' (Thr d rec H) ∧ Grew w w'

theorem blk_fresh {base g : Nat} {w : World} {o : Obj} (h : w.heap[g]? = some o) (hb : base ≤ g) : Fresh base w fun W => W.heap[g]? = some o := fun _ hW =>
  (hW g hb (Array.getElem?_eq_some_iff.1 h).1).trans h
theorem bytes_blk {w : World} {g n : Nat} {t : TypeId} (bs : List UInt8) (cs : Array Value) (hcs : cs = (bs.map bv).toArray) (hn : bs.length = n) (hm : n ≤ 1000) (h : w.heap[g]? = some (.cells cs t (0, 0))) : Bytes w (some ⟨g, 0, none⟩) n n bs := by
  subst hcs
  refine ⟨hn, Nat.le_refl _, by unfold maxLen; omega, by rw [List.length_map, hn]; omega, fun _ => ⟨_, _, rfl, fun j u hu => ?_⟩, fun h => by cases h⟩
  rw [blk_cell h, Nat.zero_add]
  simpa using hu
def thrW (W : World) (en : Int) (A4 : Option Addr) (n4 c4 : Nat) : World :=
  ((W.alloc (.cells #[.int .u8 0] 5)).alloc (.cells #[.int .u8 82] 5)).alloc (.cells #[.int .i64 en, .slice (some ⟨W.heap.size, 0, none⟩) 1 1, .int .i64 (en + 1), .slice A4 n4 c4, .int .i64 en, .slice (some ⟨W.heap.size + 1, 0, none⟩) 1 1] 45)
theorem thr_done {W : World} {base : Nat} {d : Ds} {rec : List UInt8} {en : Nat} (hen : jEnd d = en) {A4 : Option Addr} {n4 c4 : Nat} (O : W.ownsRow base 5 1 (.slice A4 n4 c4) n4 ((tailB d rec).map bv)) (hn : (tailB d rec).length = n4) (hb : base ≤ W.heap.size) :
    Fresh base (thrW W en A4 n4 c4) (Thr d rec (W.heap.size + 1 + 1)) := by
  have b0 : (thrW W en A4 n4 c4).heap[W.heap.size]? = some (.cells #[.int .u8 0] 5 (0, 0)) := ((Grew.refl _).alloc _).block (((Grew.refl _).alloc _).block (heap_alloc_new W _))
  have b1 : (thrW W en A4 n4 c4).heap[W.heap.size + 1]? = some (.cells #[.int .u8 82] 5 (0, 0)) := by
    have := ((Grew.refl ((W.alloc (.cells #[.int .u8 0] 5)).alloc (.cells #[.int .u8 82] 5))).alloc (.cells #[.int .i64 (en : Int), .slice (some ⟨W.heap.size, 0, none⟩) 1 1, .int .i64 ((en : Int) + 1), .slice A4 n4 c4, .int .i64 (en : Int), .slice (some ⟨W.heap.size + 1, 0, none⟩) 1 1] 45)).block (heap_alloc_new (W.alloc (.cells #[.int .u8 0] 5)) _)
    simpa [thrW] using this
  have b2 : (thrW W en A4 n4 c4).heap[W.heap.size + 1 + 1]? = some (.cells #[.int .i64 (en : Int), .slice (some ⟨W.heap.size, 0, none⟩) 1 1, .int .i64 ((en : Int) + 1), .slice A4 n4 c4, .int .i64 (en : Int), .slice (some ⟨W.heap.size + 1, 0, none⟩) 1 1] 45 (0, 0)) := by
    have := heap_alloc_new ((W.alloc (.cells #[.int .u8 0] 5)).alloc (.cells #[.int .u8 82] 5)) (.cells #[.int .i64 (en : Int), .slice (some ⟨W.heap.size, 0, none⟩) 1 1, .int .i64 ((en : Int) + 1), .slice A4 n4 c4, .int .i64 (en : Int), .slice (some ⟨W.heap.size + 1, 0, none⟩) 1 1] 45)
    simpa [thrW] using this
  have o4 : (thrW W en A4 n4 c4).ownsRow base 5 1 (.slice A4 n4 c4) n4 ((tailB d rec).map bv) := own_grew O ((((Grew.refl W).alloc _).alloc _).alloc _)
  refine (((blk_fresh b0 hb).and (blk_fresh b1 (by omega))).and ((blk_fresh b2 (by omega)).and (own_fresh o4))).imp fun V ⟨⟨h0, h1⟩, h2, h3⟩ => ?_
  intro k hk
  match k, hk with
  | 0, _ => exact ⟨_, _, _, by rw [blk_cell h2]; unfold woff; rw [hen]; rfl, by rw [blk_cell h2]; rfl, bytes_blk [0] _ rfl rfl (by decide) h0⟩
  | 1, _ => exact ⟨_, _, _, by rw [blk_cell h2]; unfold woff; rw [hen]; show some (Value.int .i64 ((en : Int) + 1)) = some (.int .i64 ((en + 1 : Nat) : Int)); congr 2, by rw [blk_cell h2]; rfl, Bytes.own hn h3⟩
  | 2, _ => exact ⟨_, _, _, by rw [blk_cell h2]; unfold woff; rw [hen]; rfl, by rw [blk_cell h2]; rfl, bytes_blk [82] _ rfl rfl (by decide) h1⟩

set_option maxRecDepth 100000 in
set_option maxHeartbeats 4000000 in
theorem rwrites_any (v : Value) (d : Ds) (A3 : Option Addr) (n3 c3 : Nat) (rec : List UInt8) (w : World) (h : Disk w v d) (hD : Bytes w A3 n3 c3 rec) (hv : validB d = true) (hf : fitsB d rec = true) :
    Calls Try.prog 42 #[v, .slice A3 n3 c3] w (RetThr d rec w) := by
  obtain ⟨A, n, c, A', n', c', rfl, hB, _⟩ := h.form
  obtain ⟨i0, hi, hz0, hz1, hz2⟩ := info_parts info5
  have hs := (valid_size hv).1
  rw [hB.1] at hs
  have hff := hf
  unfold fitsB at hff
  rw [Bool.and_eq_true, hD.1, hB.1] at hff
  have f1 := of_decide_eq_true hff.1
  have f2 := of_decide_eq_true hff.2
  obtain ⟨ls, hls⟩ : ∃ ls, jRecs d = ls := ⟨_, rfl⟩
  obtain ⟨en, hen⟩ : ∃ en, jEnd d = en := ⟨_, rfl⟩
  obtain ⟨kk, hkk⟩ : ∃ kk, ls.length = kk := ⟨_, rfl⟩
  rw [hen] at f2
  obtain ⟨cb, hcb⟩ : ∃ cb, codeB rec (ls.length : Nat) = cb := ⟨_, rfl⟩
  have hcl : cb.length = 13 + n3 := by rw [← hcb, codeB_len, hD.1]
  have HT : Hid (tailB d rec = cb.drop 1 ++ (if en + (13 + n3) < n then [0] else [])) := by unfold Hid tailB; rw [hls, hen, hD.1, hB.1, hcb]
  have HEN := Lib.hid hen
  have HCB : Hid (codeB rec ((kk : Nat) : Int) = cb) := by unfold Hid; rw [← hkk]; exact hcb
  have HCL := Lib.hid hcl
  have HLS := Lib.hid hls
  have HKK := Lib.hid hkk
  have g0 : Grew w (w.alloc (.cells #[.slice A n c, .slice A' n' c'] 25)) := (Grew.refl w).alloc _
  have HH := Lib.hid (h.grew g0)
  have HD := Lib.hid hD
  clear hls hen hkk hcb hcl h hD hB hff hf hv
  go_enter Try.func42, Try.ntmps42
  go_wp2_with fail
  refine (rrecs_int HH.out HLS.out (e := (en : Int)) (by rw [HEN.out])).mono ?_
  rintro e w1 ⟨L1, l1, t1, rfl, hL, g1⟩
  obtain rfl : l1 = kk := by rw [← hL.1]; exact HKK.out
  have d0 : w1.cell? ⟨w.heap.size, 0, none⟩ = some (.slice A n c) := g1.cell (by simp)
  have gg := g0.trans g1
  clear hL g0 g1
  go_wp2_with fail
  refine (rcode_any A3 n3 c3 rec l1 _ (HD.out.grew gg) (by omega)).mono ?_
  rw [HCB.out]
  rintro e w2 ⟨A2, c2, rfl, own2, g2⟩
  obtain ⟨m, hm⟩ : ∃ m, 13 + n3 = m := ⟨_, rfl⟩
  rw [hm] at own2 f2
  rw [hm]
  have HCM : Hid (cb.length = m) := by unfold Hid; rw [HCL.out, hm]
  have HTM : Hid (tailB d rec = cb.drop 1 ++ (if en + m < n then [0] else [])) := by unfold Hid; rw [HT.out, hm]
  have hm14 : 13 ≤ m ∧ m ≤ 4109 := by omega
  obtain ⟨G, rfl, hG⟩ := own_at own2 (by omega)
  have hc2 : m ≤ c2 := (Sl.own own2).1
  have hc2' : c2 ≤ 9223372036854775807 := (Sl.own own2).2.1
  have hne : ¬ c2 = 1 := by omega
  have hB2 : Bytes w2 (some ⟨G, 0, none⟩) m c2 cb := Bytes.own HCM.out own2
  have hp := hB2.part (a := 1) (m := m - 1) (by omega)
  rw [if_neg hne, Option.map_some, addp, Nat.zero_add, List.take_of_length_le (by rw [List.length_drop, HCM.out]; omega)] at hp
  have HP := Lib.hid hp
  replace d0 := g2.cell d0
  replace gg := gg.trans g2
  have i1 : (1 : Int) ≤ (m : Int) := by omega
  have i2 : (m : Int) ≤ (c2 : Int) := by omega
  have hbase : w.heap.size ≤ w2.heap.size := gg.le
  clear own2 g2 hB2 hp hG HT HCL hm
  go_upto_region 5 with (at_builtin; refine wpList_append_sl _ rfl (.tmp 18) (.tmp 20) 22 rfl w2.heap.size 5 i0 (.int .u8 0) 1 1 Try.underlying22 hi hz0 hz1 hz2 rfl (by decide) (.slice none 0 0) 0 [] rfl (World.ownsRow_nil _ _ _ _) (some ⟨G, 1, none⟩) (m - 1) (c2 - 1) ((cb.drop 1).map bv) rfl HP.out.2 (bv_one _) (by unfold maxLen; omega) (by omega) (Nat.le_refl _) ?_; intro v3 w3 own3 hg3 hat3; obtain ⟨A3', c3', rfl⟩ := own_form own3)
  rw [Nat.zero_add, List.nil_append] at own3
  have OWN := Lib.hid own3
  have G3 := (Grew.refl w2).grown hg3 (by simp [Value.ownBlock])
  replace d0 := G3.cell d0
  clear own3 hg3 hat3
  by_cases ht : en + m < n
  · have t1 : decide ((en : Int) + m < n) = true := decide_eq_true (by omega)
    have HTT : Hid (tailB d rec = cb.drop 1 ++ [0]) := by unfold Hid; rw [HTM.out, if_pos ht]
    clear HTM
    have BI : Hid (Sl (w3.alloc (.cells #[.int .u8 0] 5)) 1 (some ⟨w3.heap.size, 0, none⟩) 1 1 [.int .u8 0]) := (built [0] _ rfl 1 rfl (by decide)).2
    go_upto_region 7 with (at_builtin; refine wpList_append_sl _ rfl (.tmp 30) (.tmp 31) 22 rfl w2.heap.size 5 i0 (.int .u8 0) 1 1 Try.underlying22 hi hz0 hz1 hz2 rfl (by decide) (.slice A3' (m - 1) c3') (m - 1) _ rfl (OWN.out.alloc _) (some ⟨w3.heap.size, 0, none⟩) 1 1 [.int .u8 0] rfl BI.out (by simp [Value.oneCell']) (by unfold maxLen; omega) (by omega) (by have := G3.le; simp; omega) ?_; intro v4 w4 own4 hg4 hat4; obtain ⟨A4, c4, rfl⟩ := own_form own4)
    have G4 : Grew w2 w4 := (G3.alloc _).grown hg4 (fun j hj => (OWN.out.lt j hj).1)
    have O4 : Hid (w4.ownsRow w2.heap.size 5 1 (.slice A4 (m - 1 + 1) c4) (m - 1 + 1) ((tailB d rec).map bv)) := by unfold Hid; rw [HTT.out, List.map_append]; exact own4
    clear own4 hg4 hat4 BI OWN d0
    have hl : Hid ((tailB d rec).length = m - 1 + 1) := by unfold Hid; rw [HTT.out, List.length_append, List.length_drop, HCM.out]; rfl
    go_wp2_with fail
    go_ret
    exact ⟨w4.heap.size + 1 + 1, rfl, (thr_done HEN.out O4.out hl.out G4.le).mono hbase, (((gg.trans G4).alloc _).alloc _).alloc _⟩
  · have t1 : decide ((en : Int) + m < n) = false := decide_eq_false (by omega)
    have HTT : Hid (tailB d rec = cb.drop 1) := by unfold Hid; rw [HTM.out, if_neg ht, List.append_nil]
    clear HTM
    have O4 : Hid (w3.ownsRow w2.heap.size 5 1 (.slice A3' (m - 1) c3') (m - 1) ((tailB d rec).map bv)) := by unfold Hid; rw [HTT.out]; exact OWN.out
    go_upto_region 7 with (fail)
    go_wp2_with fail
    go_ret
    have hl : (tailB d rec).length = m - 1 := by rw [HTT.out, List.length_drop, HCM.out]
    exact ⟨w3.heap.size + 1 + 1, rfl, (thr_done HEN.out O4.out hl G3.le).mono hbase, (((gg.trans G3).alloc _).alloc _).alloc _⟩
end Go.Proofs.Ytneipacdpojjkaa
