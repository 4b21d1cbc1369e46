/-
  disk.apply with a choice of how many bytes of each write are kept.
-/
import Derived.Test.YtneipacdpojjkaaApply
namespace Go.Proofs.Ytneipacdpojjkaa
open Go.RowKit Go.Proofs WageMem WageDisk

theorem keptC_le (kept : List Int) (i n : Nat) : keptC kept i n ≤ n := by
  unfold keptC
  split <;> omega
theorem cells_take {w : World} {A : Option Addr} {xs : List Value} (h : Cells w A xs) (m : Nat) : Cells w A (xs.take m) := fun hne => by
  obtain ⟨b, o, e, hc⟩ := h (by intro h0; rw [h0] at hne; simp at hne)
  refine ⟨b, o, e, fun j u hu => hc j u ?_⟩
  rw [List.getElem?_take] at hu
  split at hu
  · exact hu
  · cases hu
theorem _root_.WageMem.Cells.take {w : World} {A : Option Addr} {xs : List Value} (h : Cells w A xs) (m : Nat) : Cells w A (xs.take m) := cells_take h m

theorem ret_int {k : IntKind} {a b : Int} (h : a = b) : Ending.returned (.int k a) = .returned (.int k b) := by rw [h]
theorem keep1_any (i n : Int) (w : World) (kept : List Int) (Bk : Nat) (Ak : Option Addr) (nk ck : Nat) (hi : 0 ≤ i) (hn : 0 ≤ n) (hbox : w.cell? ⟨Bk, 0, none⟩ = some (.slice Ak nk ck)) (hK : Ints w Ak nk ck kept) :
    Calls Try.prog 55 #[.int .i64 i, .int .i64 n, .pointer (some ⟨Bk, 0, none⟩)] w fun e w' => e = .returned (.int .i64 (keptC kept i.toNat n.toNat : Nat)) ∧ w = w' := by
  obtain ⟨k, rfl⟩ := Int.eq_ofNat_of_zero_le hi
  rw [Int.toNat_natCast]
  have hlen := hK.1
  by_cases h1 : nk ≤ k
  · have d1 : decide ((nk : Int) ≤ (k : Int)) = true := decide_eq_true (by omega)
    have d1' : decide (nk ≤ k) = true := decide_eq_true h1
    have E : Hid (keptC kept k n.toNat = 0) := by unfold Hid keptC; rw [List.getElem?_eq_none (by omega)]
    clear hlen
    go_enter Try.func55, Try.ntmps55
    go_wp2
    go_ret
    exact ⟨by rw [E.out]; rfl, rfl⟩
  · have d1' : decide (nk ≤ k) = false := decide_eq_false h1
    obtain ⟨x, hx⟩ : ∃ x, kept[k]? = some x := ⟨_, List.getElem?_eq_getElem (by omega)⟩
    obtain ⟨b, o, rfl, hc⟩ := hK.at_ (by omega)
    have hcell := hc k x hx
    have hlt : k < nk := by omega
    have E : Hid (((keptC kept k n.toNat : Nat) : Int) = max (min x n) 0) := by unfold Hid keptC; rw [hx]; simp only; omega
    clear hlen hc hx
    go_enter Try.func55, Try.ntmps55
    go_wp2
    all_goals
      go_ret
      exact ⟨ret_int (by rw [E.out]; omega), rfl⟩

set_option maxHeartbeats 4000000 in
theorem apply_keep (v : Value) (d : Ds) (w : World) (h : Disk w v d) (hv : validB d = true) (kept : List Int) (Bk : Nat) (Ak : Option Addr) (nk ck : Nat) (hbox : w.cell? ⟨Bk, 0, none⟩ = some (.slice Ak nk ck)) (hK : Ints w Ak nk ck kept) :
    Calls Try.prog 47 #[v, .func (.func 55) #[] #[.pointer (some ⟨Bk, 0, none⟩)]] w (RetOwn 5 d.st.length ((applyTo (keptC kept) d.st 0 d.pe).map bv) w) := by
  obtain ⟨A, n, c, A', n', c', rfl, hB, hW⟩ := h.form
  have hn := hB.1
  have hn' := hW.1
  have hsz := valid_size hv
  have s1 : n ≤ 65536 := by omega
  have s2 : n' ≤ 64 := by omega
  have HN := Lib.hid hn
  have HN' := Lib.hid hn'
  have HV := Lib.hid hv
  clear hn hn' hsz hv
  have hbox := Lib.hid hbox
  have hK := Lib.hid hK
  go_enter Try.func47, Try.ntmps47
  go_wp2_with fail
  have g0 : Grew w (w.alloc (.cells #[.slice A n c, .slice A' n' c'] 25)) := (Grew.refl w).alloc _
  refine (clone_any A n c d.st _ (hB.grew g0) s1).mono ?_
  rintro e w1 ⟨A5, c5, rfl, own1, g1⟩
  have b1 := g1.cell (p := ⟨w.heap.size, 1, none⟩) (v := .slice A' n' c') (by simp)
  have own2 := own_base own1 (base' := w.heap.size) (by simp)
  have g2 := g0.trans g1
  clear g0 g1 own1
  go_wp2_with fail
  go_loopw [16] (fun i wr => ∃ k : Nat, k ≤ n' ∧ i = .int .i64 k ∧ wr.ownsRow w.heap.size 5 1 (.slice A5 n c5) n ((applyTo (keptC kept) d.st 0 (d.pe.take k)).map bv) ∧ Grew w wr) (fun i _ => n' - (intOf i).toNat)
  case atStart => exact ⟨0, Nat.zero_le _, rfl, by rw [List.take_zero]; exact own2, g2⟩
  case round =>
    obtain ⟨k, hk, rfl, hown, hg⟩ := hrel
    clear own2 g2 b1
    by_cases hlt : k < n'
    · obtain ⟨x, hx⟩ : ∃ x, d.pe[k]? = some x := ⟨_, List.getElem?_eq_getElem (by rw [HN'.out]; exact hlt)⟩
      have hs := applyTo_take (ch := keptC kept) hx d.st
      have hin := valid_in HV.out hx
      obtain ⟨b, o, rfl, hc⟩ := (hW.grew hg).2.2.2.2 (by omega)
      obtain ⟨c1, x0, x1, Ax, nx, cx, c2, hbx⟩ := hc k x hx
      rw [HN.out] at hin
      have hnx := hbx.1
      rw [hnx] at hin
      obtain ⟨i0, i1⟩ := hin
      have hsl := Lib.hid hbx
      have HO := Lib.hid hown
      have HS := Lib.hid hs
      have HNX := Lib.hid hnx
      have hcc : n ≤ c5 := by
        have := Sl.own hown
        exact this.1
      have hcm : c5 ≤ 9223372036854775807 := (Sl.own hown).2.1
      have hxc : nx ≤ cx := hbx.2.1
      clear hc hx hs hnx hbx hown
      generalize hxo : x.off = xo at *
      have HXO := Lib.hid hxo
      clear hxo
      obtain ⟨m, hm⟩ : ∃ m, m = keptC kept k nx := ⟨_, rfl⟩
      have hmx : m ≤ nx := by rw [hm]; exact keptC_le _ _ _
      have HM := Lib.hid hm
      clear hm
      go_wp2_with fail
      have gb : Grew w (wr.alloc (.cells #[.int .i64 xo, .slice Ax nx cx] 45)) := hg.trans ((Grew.refl wr).alloc _)
      refine (keep1_any k nx _ kept Bk Ak nk ck (by omega) (by omega) (gb.cell hbox.out) (hK.out.grew gb)).mono ?_
      rw [Int.toNat_natCast, Int.toNat_natCast, ← HM.out]
      rintro e w2 ⟨rfl, rfl⟩
      clear gb
      go_wp2_with fail
      have fm : m ≤ cx := by omega
      have f1 : 0 ≤ xo + (m : Int) := by omega
      have f2 : xo + (m : Int) ≤ c5 := by omega
      have f3 : xo + (m : Int) ≤ max (xo + (m : Int)) 0 := by omega
      have f4 : xo ≤ max (xo + (m : Int)) 0 := by omega
      have ga : Grew wr (wr.alloc (.cells #[.int .i64 xo, .slice Ax nx cx] 45)).drew := ((Grew.refl wr).alloc _).drew
      have HO' : Hid ((wr.alloc (.cells #[.int .i64 xo, .slice Ax nx cx] 45)).drew.ownsRow w.heap.size 5 1 (.slice A5 n c5) n ((applyTo (keptC kept) d.st 0 (d.pe.take k)).map bv)) := (HO.out.alloc _).drew
      have HC : Hid (Cells (wr.alloc (.cells #[.int .i64 xo, .slice Ax nx cx] 45)).drew Ax ((x.data.take m).map bv)) := by
        unfold Hid; rw [List.map_take]; exact (hsl.out.grew ga).2.2.2.2.1.take m
      have HL : Hid (((x.data.take m).map bv).length = Nat.min m ((xo + (m : Int)).toNat - xo.toNat)) := by
        unfold Hid; rw [List.length_map, List.length_take, HNX.out, Nat.min_eq_left hmx]; exact len_min i0
      have HD : Hid (∀ g, A5 = some ⟨g, 0, none⟩ → 0 < ((x.data.take m).map bv).length → (if (xo + (m : Int)).toNat = xo.toNat then A5 else Option.map (fun x => x.add xo.toNat) A5) = some ⟨g, xo.toNat, none⟩) := by
        unfold Hid; rw [List.length_map, List.length_take, HNX.out, Nat.min_eq_left hmx]; intro g hg hp; exact cut_at hg (by omega)
      have HF : Hid (xo.toNat + ((x.data.take m).map bv).length ≤ n) := by unfold Hid; rw [List.length_map, List.length_take, HNX.out, Nat.min_eq_left hmx]; omega
      go_region_law (refine step_copy_owned _ rfl (.tmp 36) (.tmp 40) 22 rfl 5 Try.underlying22 size5 w.heap.size A5 n c5 _ HO'.out _ Ax _ _ m cx xo.toNat rfl rfl ((x.data.take m).map bv) HL.out HD.out HC.out HF.out (bv_one _) ?_; intro w3 own3 grow3)
      all_goals
        have hg3 : Grew w w3 := (hg.trans ga).grown grow3.out (fun j hj => (HO'.out.lt j hj).1)
        have own4 : w3.ownsRow w.heap.size 5 1 (.slice A5 n c5) n ((applyTo (keptC kept) d.st 0 (d.pe.take (k + 1))).map bv) := by
          have e := HS.out
          rw [HNX.out, ← HM.out] at e
          rw [e, map_over]
          exact own3.out
        clear own3 grow3 HO HO' HC HL HD HF f1 f2 f3 f4 c1 c2
        go_wp2_with fail
        go_roundw
        case rel => exact ⟨k + 1, by omega, by go_num, own4, hg3⟩
        case measure => simp [intOf]; omega
    · obtain rfl : k = n' := by omega
      have hfin : wr.ownsRow w.heap.size 5 1 (.slice A5 n c5) n ((applyTo (keptC kept) d.st 0 d.pe).map bv) := by
        rw [← HN'.out, List.take_length] at hown; exact hown
      clear hown
      go_wp2_with fail
      go_ret
      rw [HN.out]
      exact ⟨A5, c5, rfl, hfin, hg⟩
end Go.Proofs.Ytneipacdpojjkaa
