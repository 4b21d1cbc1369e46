/-
  The law JournalSequence, walked.
-/
import Derived.Test.YtneipacdpojjkaaJseqP
import Derived.Test.YtneipacdpojjkaaApnd
namespace Go.Proofs.Ytneipacdpojjkaa
open Go.RowKit Go.Proofs WageMem WageDisk

set_option maxRecDepth 100000 in
set_option maxHeartbeats 16000000 in
theorem jseq_skip (a : Int) (A : Option Addr) (n c : Nat) (w : World) (a0 : 0 ≤ a) (a1 : a ≤ 65535) (hn : 40 < n) :
    Calls Try.prog 13 #[.int .u16 a, .slice A n c] w fun e w' => e = .returned (.bool true) ∧ Grew w w' := by
  obtain ⟨sz, hsz⟩ : ∃ sz : Nat, a % 4000 = (sz : Int) := ⟨(a % 4000).toNat, by omega⟩
  have hs4 : sz < 4000 := by omega
  have t1 : decide (40 < (n : Int)) = true := decide_eq_true (by omega)
  have HE : Hid (newE (sz : Int) = 0) := by unfold Hid newE; rw [if_pos (by omega)]
  clear hn
  go_enter Try.func13, Try.ntmps13
  go_wp2_with fail
  refine (jhead_true _).mono ?_
  rintro e w1 ⟨rfl, g1⟩
  go_wp2_with fail
  refine (new_val rfl HE.out).mono ?_
  rintro e w2 ⟨B4, m4, f4, C4, p4, q4, rfl, fr4, g4⟩
  go_wp2_with fail
  go_ret
  exact ⟨rfl, (g1.trans g4).alloc _⟩

theorem Fresh.grown_ {B : Nat} {w w' : World} {row : Option Nat} {F : World → Prop} (h : Fresh B w F) (hg : w.grownBy w' row) (hr : ∀ k, row = some k → k < B) : Fresh B w' F := fun W hW => h W fun k h1 h2 =>
  (hW k h1 (Nat.lt_of_lt_of_le h2 hg.size)).trans (hg.block k h2 (fun e => by have := hr k e.symm; omega))
structure SqInv (w : World) (B base size : Nat) (d : Ds) (want : List (List UInt8)) (sum : Nat) (Ad : Option Addr) (nd cd : Nat) (Ae : Option Addr) (ne ce : Nat) (Aw : Option Addr) (m cw : Nat) (vs : List Value) (W : World) : Prop where
  box : W.heap[B]? = some (.cells #[.slice Ad nd cd, .slice Ae ne ce] 25 (0, 0))
  disk : Disk W (.agg #[.slice Ad nd cd, .slice Ae ne ce]) d
  seq : Seq d size want sum
  own : W.ownsRow base 22 1 (.slice Aw m cw) m vs
  len : want.length = m
  gots : Gots w vs want
  grew : Grew w W
  le : base ≤ W.heap.size

set_option maxRecDepth 100000 in
set_option maxHeartbeats 16000000 in
theorem jseq_main (a : Int) (A : Option Addr) (n c : Nat) (ls : List (List UInt8)) (w : World) (h : Lists w A n c ls) (a0 : 0 ≤ a) (a1 : a ≤ 65535) (hn : n ≤ 40) :
    Calls Try.prog 13 #[.int .u16 a, .slice A n c] w fun e w' => e = .returned (.bool true) ∧ Grew w w' := by
  obtain ⟨i0, hi, hz0, hz1, hz2⟩ := info_parts info22
  obtain ⟨sz, hsz⟩ : ∃ sz : Nat, a % 4000 = (sz : Int) := ⟨(a % 4000).toNat, by omega⟩
  have hs4 : sz < 4000 := by omega
  have t1 : decide (40 < (n : Int)) = false := decide_eq_false (by omega)
  have HE : Hid (newE (sz : Int) = 0) := by unfold Hid newE; rw [if_pos (by omega)]
  have HQ := Lib.hid (Seq.new (s := sz) (by omega))
  have HL := Lib.hid h
  clear h
  go_enter Try.func13, Try.ntmps13
  go_wp2_with fail
  refine (jhead_true _).mono ?_
  rintro e w1 ⟨rfl, g1⟩
  go_wp2_with fail
  refine (new_val rfl HE.out).mono ?_
  rintro e w2 ⟨B4, m4, f4, C4, p4, q4, rfl, fr4, g4⟩
  have gg := g1.trans g4
  go_wp2_with fail
  obtain ⟨w3, hw3⟩ : ∃ x, x = w2.alloc (.cells #[.slice B4 m4 f4, .slice C4 p4 q4] 25) := ⟨_, rfl⟩
  have ga : Grew w2 w3 := by rw [hw3]; exact (Grew.refl _).alloc _
  have hbx : w3.heap[w2.heap.size]? = some (.cells #[.slice B4 m4 f4, .slice C4 p4 q4] 25 (0, 0)) := by rw [hw3]; exact heap_alloc_new _ _
  have inv0 : SqInv w w2.heap.size w3.heap.size sz (newD sz) [] 0 B4 m4 f4 C4 p4 q4 none 0 0 [] w3 := ⟨hbx, fr4.now.grew ga, HQ.out, World.ownsRow_nil _ _ _ _, rfl, Gots.nil, gg.trans ga, Nat.le_refl _⟩
  have INV0 := Lib.hid inv0
  have sz3 : w2.heap.size < w3.heap.size := World.block_lt_of_cell? _ _ (blk_cell hbx 0)
  rw [← hw3]
  have hgw : w.heap.size ≤ w2.heap.size := gg.le
  clear hw3 ga hbx inv0 fr4 g1 g4 gg
  go_loopw [8, 9, 39] (fun v s i wr => ∃ (k : Nat) (d : Ds) (want : List (List UInt8)) (sum : Nat) (Ad : Option Addr) (nd cd : Nat) (Ae : Option Addr) (ne ce : Nat) (Aw : Option Addr) (m cw : Nat) (vs : List Value), k ≤ n ∧ m ≤ k ∧ sum ≤ sz ∧ i = .int .i64 k ∧ s = .int .i64 sum ∧ v = .slice Aw m cw ∧ Hid (SqInv w w2.heap.size w3.heap.size sz d want sum Ad nd cd Ae ne ce Aw m cw vs wr)) (fun _ _ i _ => n - (intOf i).toNat)
  case atStart => exact ⟨0, _, _, 0, _, _, _, _, _, _, _, 0, _, _, by omega, by omega, by omega, rfl, rfl, rfl, INV0⟩
  case round =>
    clear INV0
    obtain ⟨k, d, want, sum, Ad, nd, cd, Ae, ne, ce, Aw, m, cw, vs, hk, hmk, hsum, rfl, rfl, rfl, INV⟩ := hrel
    have e0 : wr.cell? ⟨w2.heap.size, 0, none⟩ = some (.slice Ad nd cd) := blk_cell INV.out.box 0
    have e1 : wr.cell? ⟨w2.heap.size, 1, none⟩ = some (.slice Ae ne ce) := blk_cell INV.out.box 1
    have szr : w2.heap.size < wr.heap.size := World.block_lt_of_cell? _ _ e0
    by_cases hlt : k < n
    · obtain ⟨b, o, r, Ar, nr, cr, rfl, hr, c1, hbr⟩ := lists_at (HL.out.grew INV.out.grew) hlt
      obtain ⟨b', o', r', Ar', nr', cr', hA', hr', c1', hbr'⟩ := lists_at HL.out hlt
      obtain rfl : r' = r := by rw [hr] at hr'; injection hr' with hr'; exact hr'.symm
      have hcc := INV.out.grew.cell c1'
      injection hA' with hA'
      injection hA' with q1 q2
      subst q1 q2
      rw [c1] at hcc
      injection hcc with hcc
      injection hcc with q3 q4 q5
      subst q3 q4 q5
      have HBW := Lib.hid hbr'
      have HBR := Lib.hid hbr
      have hrn := hbr.1
      have HRN := Lib.hid hrn
      have nrb : nr ≤ 9223372036854775807 := Nat.le_trans hbr.2.1 hbr.2.2.1
      have i0' : (0 : Int) ≤ (k : Int) := by omega
      have i1' : (k : Int) < (n : Int) := by omega
      clear c1' hr' hbr hbr' hr hrn
      by_cases h0 : nr = 0
      · have u1 : ((nr : Int) == 0) = true := by rw [h0]; rfl
        clear h0
        go_wp2_with fail
        go_roundw
        case rel => exact ⟨k + 1, d, want, sum, _, _, _, _, _, _, _, m, _, _, by omega, by omega, by omega, by go_num, rfl, rfl, INV⟩
        case measure => simp [intOf]; omega
      · have u1 : ((nr : Int) == 0) = false := beq_eq_false_iff_ne.2 (by omega)
        by_cases h1000 : 1000 < nr
        · have u2 : decide (1000 < (nr : Int)) = true := decide_eq_true (by omega)
          clear h0
          go_wp2_with fail
          go_roundw
          case rel => exact ⟨k + 1, d, want, sum, _, _, _, _, _, _, _, m, _, _, by omega, by omega, by omega, by go_num, rfl, rfl, INV⟩
          case measure => simp [intOf]; omega
        · have u2 : decide (1000 < (nr : Int)) = false := decide_eq_false (by omega)
          have hnd : Hid (d.st.length = nd) := INV.out.disk.parts.1.1
          have hnd2 : nd = sz := by rw [← hnd.out]; exact INV.out.seq.len
          have l1 : 1 ≤ r'.length := by rw [HRN.out]; omega
          have l2 : r'.length ≤ 1000 := by rw [HRN.out]; omega
          by_cases hfit : sum + (13 + nr) ≤ sz
          · obtain ⟨p1, p2⟩ := INV.out.seq.step l1 l2 (by rw [HRN.out]; exact hfit)
            rw [HRN.out] at p2
            obtain ⟨aD, haD⟩ : ∃ s, appD d r' = s := ⟨_, rfl⟩
            rw [haD] at p2
            have P1 := Lib.hid p1
            have P2 := Lib.hid p2
            have HAD := Lib.hid haD
            have u3 : decide ((sum : Int) + 13 + nr ≤ nd) = true := decide_eq_true (by omega)
            have u4 : ((0 : Int) == 0) = true := rfl
            have BI : ∀ W : World, Sl (W.alloc (.cells #[.slice Ar nr cr] 22)) 1 (some ⟨W.heap.size, 0, none⟩) 1 1 [.slice Ar nr cr] := by
              intro W
              refine ⟨Nat.le_refl _, by unfold maxLen; omega, rfl, fun _ => ⟨W.heap.size, 0, rfl, fun j u hu => ?_⟩, fun h => by cases h⟩
              rw [blk_cell (heap_alloc_new W _), Nat.zero_add]
              simpa using hu
            have HBI := Lib.hid BI
            clear p1 p2 haD BI hnd2 l1 l2 h0
            go_wp2_with fail
            refine (append_val INV.out.disk HBR.out HAD.out P1.out).mono ?_
            rintro e wb ⟨X1, o1, y1, X2, o2, y2, rfl, fb, gb⟩
            replace e0 := gb.cell e0
            replace e1 := gb.cell e1
            have szb : w2.heap.size < wb.heap.size := World.block_lt_of_cell? _ _ e0
            go_upto_region 16 with (fail)
            obtain ⟨wx, hwx⟩ : ∃ x, x = wb.alloc (.cells #[.slice X1 o1 y1, .slice X2 o2 y2] 25) := ⟨_, rfl⟩
            have gx : Grew wb wx := by rw [hwx]; exact (Grew.refl _).alloc _
            have x0 : wx.cell? ⟨wb.heap.size, 0, none⟩ = some (.slice X1 o1 y1) := by rw [hwx]; simp
            have x1 : wx.cell? ⟨wb.heap.size, 1, none⟩ = some (.slice X2 o2 y2) := by rw [hwx]; simp
            have hxX : Hid (wx.heap[wb.heap.size]? = some (.cells #[.slice X1 o1 y1, .slice X2 o2 y2] 25 (0, 0))) := by unfold Hid; rw [hwx]; exact heap_alloc_new _ _
            rw [← hwx]
            clear hwx e0 e1
            have GX := Lib.hid (gb.trans gx)
            have KX := Lib.hid (fb.later gx)
            have OX := Lib.hid (own_grew INV.out.own (gb.trans gx))
            have szx : wb.heap.size < wx.heap.size := World.block_lt_of_cell? _ _ x0
            have hle3 : w3.heap.size ≤ wx.heap.size := Nat.le_trans INV.out.le GX.out.le
            have m1 : w2.heap.size ≠ wb.heap.size := by omega
            have hbX : Hid (wx.heap[w2.heap.size]? = some (.cells #[.slice Ad nd cd, .slice Ae ne ce] 25 (0, 0))) := GX.out.block INV.out.box
            have w5 : IntKind.i64.wrap ((sum : Int) + 13) = (sum : Int) + 13 := IntWalk.i64_in _ (by omega)
            have w6 : IntKind.i64.wrap ((sum : Int) + 13 + nr) = (sum : Int) + 13 + nr := IntWalk.i64_in _ (by omega)
            clear fb gb gx
            go_region_held3 (fun w' => w'.cell? ⟨wb.heap.size, 0, none⟩ = some (.slice X1 o1 y1) ∧ w'.cell? ⟨wb.heap.size, 1, none⟩ = some (.slice X2 o2 y2))
              (first | (with_reducible exact ⟨far0 x0, far0 x1⟩) | (refine ⟨?_, ?_⟩ <;> assumption) | (with_reducible exact ⟨far2 k0 m1, far2 k1 m1⟩) | go_keep)
              (first
                | (refine step_append_sl (wx.drew.alloc (.cells #[.slice Ar nr cr] 22)) (by rfl) (.tmp 73) (.tmp 75) 49 (by rfl) w3.heap.size 22 i0 _ 1 24 Try.underlying49 hi hz0 hz1 hz2 (by rfl) (by decide) (.slice Aw m cw) m vs (by rfl) (own_grew OX.out ((Grew.refl wx).drew.alloc _)) (some ⟨wx.heap.size, 0, none⟩) 1 1 [.slice Ar nr cr] (by rfl) (HBI.out wx.drew) (by simp [Value.oneCell']) (by unfold maxLen; omega) (by omega) (by simp <;> omega) ?_; intro v9 x9 own9 hg9 hat9; obtain ⟨A9, c9, rfl⟩ := own_form own9; have hX9 := blk_grown (((Grew.refl wx).drew.alloc (.cells #[.slice Ar nr cr] 22)).block hxX.out) (own_grew OX.out ((Grew.refl wx).drew.alloc _)) (by decide) hg9; have k0 := blk_cell hX9 0; have k1 := blk_cell hX9 1; have hB9 := blk_grown (((Grew.refl wx).drew.alloc (.cells #[.slice Ar nr cr] 22)).block hbX.out) (own_grew OX.out ((Grew.refl wx).drew.alloc _)) (by decide) hg9; have r0 := blk_cell hB9 0; have r1 := blk_cell hB9 1; have z0 := blk_frozen hB9 0; have z1 := blk_frozen hB9 1; have HB9 := Lib.hid hB9; clear hX9 hB9))
            obtain ⟨wz, hwz⟩ : ∃ x, x = (x9.setCell ⟨w2.heap.size, 0, none⟩ (.slice X1 o1 y1)).setCell ⟨w2.heap.size, 1, none⟩ (.slice X2 o2 y2) := ⟨_, rfl⟩
            have hlow : ∀ j, (Value.slice Aw m cw).ownBlock = some j → w3.heap.size ≤ j ∧ j < wr.heap.size := INV.out.own.lt
            have inv2 : SqInv w w2.heap.size w3.heap.size sz aD (want ++ [r']) (sum + (13 + nr)) X1 o1 y1 X2 o2 y2 A9 (m + 1) c9 (vs ++ [.slice Ar nr cr]) wz := by
              rw [hwz]
              have k9 := (KX.out.later ((Grew.refl wx).drew.alloc (.cells #[.slice Ar nr cr] 22))).grown_ hg9 (fun j hj => (hlow j hj).2)
              have hg0 : Grew w x9 := (((INV.out.grew.trans GX.out).drew.alloc (.cells #[.slice Ar nr cr] 22))).grown hg9 (fun j hj => by have := (hlow j hj).1; omega)
              refine ⟨blk_two HB9.out _ _, ((k9.set (by show w2.heap.size < _; omega) _).set (by show w2.heap.size < _; omega) _).now, P2.out, own_far (own_far own9 HB9.out (by decide) 0 _) (heap_set HB9.out 0 _) (by decide) 1 _, by rw [List.length_append, INV.out.len]; rfl, INV.out.gots.snoc HBW.out, (hg0.set (by show w.heap.size ≤ w2.heap.size; omega) _).set (by show w.heap.size ≤ w2.heap.size; omega) _, ?_⟩
              have := hg9.size
              simp at this
              simp [World.setCell]
              omega
            have INV2 := Lib.hid inv2
            rw [← hwz]
            clear hwz inv2 INV KX GX OX HB9 hbX hxX own9 hg9 hat9 k0 k1 r0 r1 z0 z1 x0 x1 hlow w5 w6
            go_wp2_with fail
            go_roundw
            case rel => exact ⟨k + 1, aD, _, sum + (13 + nr), _, _, _, _, _, _, _, m + 1, _, _, by omega, by omega, by omega, by go_num, by go_num, rfl, INV2⟩
            case measure => simp [intOf]; omega
          · have p1 := INV.out.seq.full l1 (by rw [HRN.out]; exact hfit)
            have P1 := Lib.hid p1
            have u3 : decide ((sum : Int) + 13 + nr ≤ nd) = false := decide_eq_false (by omega)
            have u4 : ((2 : Int) == 0) = false := rfl
            have HRC := Lib.hid INV.out.seq.recs
            have HEN : Hid ((jEnd d : Int) = (sum : Int)) := by unfold Hid; rw [INV.out.seq.end_]
            clear p1 hnd2 l1 l2 h0
            go_wp2_with fail
            refine (append_val INV.out.disk HBR.out rfl P1.out).mono ?_
            rintro e wb ⟨X1, o1, y1, X2, o2, y2, rfl, fb, gb⟩
            replace e0 := gb.cell e0
            replace e1 := gb.cell e1
            have szb : w2.heap.size < wb.heap.size := World.block_lt_of_cell? _ _ e0
            have ga9 : Grew wb (wb.alloc (.cells #[.slice X1 o1 y1, .slice X2 o2 y2] 25)) := (Grew.refl _).alloc _
            have gt := gb.trans ga9
            have KD := Lib.hid (INV.out.disk.grew gt)
            have GW := Lib.hid (INV.out.grew.trans gt)
            have HLW := Lib.hid (INV.out.gots.lists (own_grew INV.out.own gt) INV.out.len GW.out)
            clear INV fb gb ga9 gt
            go_wp2_with fail
            refine (recs_int KD.out HRC.out HEN.out).mono ?_
            rintro e v1 ⟨M1, m1, o1', rfl, hM1, p1⟩
            go_wp2_with fail
            refine (sameAll_any _ _ _ _ _ _ _ _ _ hM1 (HLW.out.grew p1)).mono ?_
            rw [decide_eq_true rfl]
            rintro e v2 ⟨rfl, p2⟩
            go_wp2_with fail
            go_ret
            exact ⟨rfl, (GW.out.trans p1).trans p2⟩
    · have HRC := Lib.hid INV.out.seq.recs
      have HEN : Hid ((jEnd d : Int) = (sum : Int)) := by unfold Hid; rw [INV.out.seq.end_]
      have KD := Lib.hid INV.out.disk
      have GW := Lib.hid INV.out.grew
      have HLW := Lib.hid (INV.out.gots.lists INV.out.own INV.out.len GW.out)
      clear INV
      go_wp2_with fail
      refine (recs_int KD.out HRC.out HEN.out).mono ?_
      rintro e v1 ⟨M1, m1, o1', rfl, hM1, p1⟩
      go_wp2_with fail
      refine (sameAll_any _ _ _ _ _ _ _ _ _ hM1 (HLW.out.grew p1)).mono ?_
      rw [decide_eq_true rfl]
      rintro e v2 ⟨rfl, p2⟩
      go_wp2_with fail
      go_ret
      exact ⟨rfl, (GW.out.trans p1).trans p2⟩
theorem jseq_true (a : Int) (A : Option Addr) (n c : Nat) (ls : List (List UInt8)) (w : World) (h : Lists w A n c ls) (a0 : 0 ≤ a) (a1 : a ≤ 65535) :
    Calls Try.prog 13 #[.int .u16 a, .slice A n c] w fun e w' => e = .returned (.bool true) ∧ Grew w w' := by
  by_cases hn : 40 < n
  · exact jseq_skip a A n c w a0 a1 hn
  · exact jseq_main a A n c ls w h a0 a1 (by omega)
end Go.Proofs.Ytneipacdpojjkaa
