/-
  disk.apply: the bytes after some bytes of each pending write were applied.
-/
import Derived.Test.YtneipacdpojjkaaSmall
import Derived.Test.YtneipacdpojjkaaCopy
import Derived.Deep.RegionLaw
namespace Go.Proofs.Ytneipacdpojjkaa
open Go.RowKit Go.Proofs WageMem WageDisk

theorem size5 : (Try.prog.info? 5).map (·.size) = some 1 := by kernel_rfl
theorem own_base {w : World} {base base' : Nat} {e : TypeId} {size : Nat} {v : Value} {n : Nat} {xs : List Value} (h : w.ownsRow base e size v n xs) (hb : base' ≤ base) : w.ownsRow base' e size v n xs := by
  refine ⟨h.1, ?_⟩
  rcases h.2 with h2 | ⟨g, cap, cur, hv, hg, r⟩
  · exact .inl h2
  · exact .inr ⟨g, cap, cur, hv, by omega, r⟩

theorem applyTo_snoc (ch : Nat → Nat → Nat) (x : Wr) : ∀ (l : List Wr) (st : List UInt8) (i : Nat), applyTo ch st i (l ++ [x]) = over (applyTo ch st i l) x.off.toNat (x.data.take (ch (i + l.length) x.data.length))
  | [], st, i => rfl
  | y :: l, st, i => by
    simp only [List.cons_append, applyTo, List.length_cons]
    rw [applyTo_snoc ch x l]
    rw [show i + 1 + l.length = i + (l.length + 1) by omega]
theorem applyTo_take {ch : Nat → Nat → Nat} {pe : List Wr} {k : Nat} {x : Wr} (hx : pe[k]? = some x) (st : List UInt8) :
    applyTo ch st 0 (pe.take (k + 1)) = over (applyTo ch st 0 (pe.take k)) x.off.toNat (x.data.take (ch k x.data.length)) := by
  have hk : k < pe.length := (List.getElem?_eq_some_iff.1 hx).1
  rw [List.take_add_one, hx]
  show applyTo ch st 0 (pe.take k ++ [x]) = _
  rw [applyTo_snoc, Nat.zero_add, List.length_take, Nat.min_eq_left (by omega)]
theorem over_length {l : List UInt8} {off : Nat} {xs : List UInt8} (h : off + xs.length ≤ l.length) : (over l off xs).length = l.length := by
  unfold over; simp; omega
theorem valid_in {d : Ds} (h : validB d = true) {k : Nat} {x : Wr} (hx : d.pe[k]? = some x) : 0 ≤ x.off ∧ x.off + x.data.length ≤ d.st.length := by
  unfold validB at h
  rw [Bool.and_eq_true, List.all_eq_true] at h
  have := of_decide_eq_true (h.2 x (List.mem_of_getElem? hx))
  omega
theorem valid_size {d : Ds} (h : validB d = true) : d.st.length ≤ 65536 ∧ d.pe.length ≤ 64 := by
  unfold validB at h
  rw [Bool.and_eq_true] at h
  exact of_decide_eq_true h.1

theorem whole_any (a n : Int) (w : World) : Calls Try.prog 48 #[.int .i64 a, .int .i64 n] w fun e w' => e = .returned (.int .i64 n) ∧ w = w' := by
  go_enter Try.func48, Try.ntmps48
  go_wp2
  go_ret
  exact ⟨rfl, rfl⟩

theorem cut_at {A : Option Addr} {g : Nat} {a b : Nat} (hA : A = some ⟨g, 0, none⟩) (h : b ≠ a) : (if b = a then A else Option.map (fun x => x.add a) A) = some ⟨g, a, none⟩ := by
  rw [if_neg h, hA]
  unfold Addr.add
  simp only [Option.map_some]
  split
  · rename_i h0; rw [h0]
  · rw [Nat.zero_add]
theorem len_min {m : Nat} {xo : Int} (h0 : 0 ≤ xo) : m = Nat.min m ((xo + (m : Int)).toNat - xo.toNat) := by
  show m = min m _; omega

theorem map_over (l : List UInt8) (off : Nat) (xs : List UInt8) : (over l off xs).map bv = splice (l.map bv) off (xs.map bv) := by
  unfold over splice; simp [List.map_take, List.map_drop]

set_option maxHeartbeats 4000000 in
theorem apply_whole (v : Value) (d : Ds) (w : World) (h : Disk w v d) (hv : validB d = true) :
    Calls Try.prog 47 #[v, .func (.func 48) #[] #[]] w (RetOwn 5 d.st.length ((applyTo wholeC d.st 0 d.pe).map bv) w) := by
  obtain ⟨A, n, c, A', n', c', rfl, hB, hW⟩ := h.form
  have hn := hB.1
  have hn' := hW.1
  have hsz := valid_size hv
  have s1 : n ≤ 65536 := by omega
  have s2 : n' ≤ 64 := by omega
  have HN := Lib.hid hn
  have HN' := Lib.hid hn'
  have HV := Lib.hid hv
  clear hn hn' hsz hv
  go_enter Try.func47, Try.ntmps47
  go_wp2_with fail
  have g0 : Grew w (w.alloc (.cells #[.slice A n c, .slice A' n' c'] 25)) := (Grew.refl w).alloc _
  refine (clone_any A n c d.st _ (hB.grew g0) s1).mono ?_
  rintro e w1 ⟨A5, c5, rfl, own1, g1⟩
  have b1 := g1.cell (p := ⟨w.heap.size, 1, none⟩) (v := .slice A' n' c') (by simp)
  have own2 := own_base own1 (base' := w.heap.size) (by simp)
  have g2 := g0.trans g1
  clear g0 g1 own1
  go_wp2_with fail
  go_loopw [16] (fun i wr => ∃ k : Nat, k ≤ n' ∧ i = .int .i64 k ∧ wr.ownsRow w.heap.size 5 1 (.slice A5 n c5) n ((applyTo wholeC d.st 0 (d.pe.take k)).map bv) ∧ Grew w wr) (fun i _ => n' - (intOf i).toNat)
  case atStart => exact ⟨0, Nat.zero_le _, rfl, by rw [List.take_zero]; exact own2, g2⟩
  case round =>
    obtain ⟨k, hk, rfl, hown, hg⟩ := hrel
    clear own2 g2 b1
    by_cases hlt : k < n'
    · obtain ⟨x, hx⟩ : ∃ x, d.pe[k]? = some x := ⟨_, List.getElem?_eq_getElem (by rw [HN'.out]; exact hlt)⟩
      have hs := applyTo_take (ch := wholeC) hx d.st
      have hin := valid_in HV.out hx
      obtain ⟨b, o, rfl, hc⟩ := (hW.grew hg).2.2.2.2 (by omega)
      obtain ⟨c1, x0, x1, Ax, nx, cx, c2, hbx⟩ := hc k x hx
      rw [HN.out] at hin
      have hnx := hbx.1
      rw [hnx] at hin
      obtain ⟨i0, i1⟩ := hin
      have hsl := Lib.hid hbx
      have HO := Lib.hid hown
      have HS := Lib.hid hs
      have HNX := Lib.hid hnx
      have hcc : n ≤ c5 := by
        have := Sl.own hown
        exact this.1
      have hcm : c5 ≤ 9223372036854775807 := (Sl.own hown).2.1
      have hxc : nx ≤ cx := hbx.2.1
      clear hc hx hs hnx hbx hown
      generalize hxo : x.off = xo at *
      have HXO := Lib.hid hxo
      clear hxo
      go_wp2_with fail
      refine (whole_any k nx _).mono ?_
      rintro e w2 ⟨rfl, rfl⟩
      go_wp2_with fail
      have f1 : 0 ≤ xo + (nx : Int) := by omega
      have f2 : xo + (nx : Int) ≤ c5 := by omega
      have f3 : xo + (nx : Int) ≤ max (xo + (nx : Int)) 0 := by omega
      have f4 : xo ≤ max (xo + (nx : Int)) 0 := by omega
      have ga : Grew wr (wr.alloc (.cells #[.int .i64 xo, .slice Ax nx cx] 45)).drew := ((Grew.refl wr).alloc _).drew
      have HO' : Hid ((wr.alloc (.cells #[.int .i64 xo, .slice Ax nx cx] 45)).drew.ownsRow w.heap.size 5 1 (.slice A5 n c5) n ((applyTo wholeC d.st 0 (d.pe.take k)).map bv)) := (HO.out.alloc _).drew
      have HC : Hid (Cells (wr.alloc (.cells #[.int .i64 xo, .slice Ax nx cx] 45)).drew Ax (x.data.map bv)) := (hsl.out.grew ga).2.2.2.2.1
      have HL : Hid ((x.data.map bv).length = Nat.min nx ((xo + (nx : Int)).toNat - xo.toNat)) := by
        unfold Hid; rw [List.length_map, HNX.out]; exact len_min i0
      have HD : Hid (∀ g, A5 = some ⟨g, 0, none⟩ → 0 < (x.data.map bv).length → (if (xo + (nx : Int)).toNat = xo.toNat then A5 else Option.map (fun x => x.add xo.toNat) A5) = some ⟨g, xo.toNat, none⟩) := by
        unfold Hid; rw [List.length_map, HNX.out]; intro g hg hp; exact cut_at hg (by omega)
      have HF : Hid (xo.toNat + (x.data.map bv).length ≤ n) := by unfold Hid; rw [List.length_map, HNX.out]; omega
      go_region_law (refine step_copy_owned _ rfl (.tmp 36) (.tmp 40) 22 rfl 5 Try.underlying22 size5 w.heap.size A5 n c5 _ HO'.out _ Ax _ _ nx cx xo.toNat rfl rfl (x.data.map bv) HL.out HD.out HC.out HF.out (bv_one _) ?_; intro w3 own3 grow3)
      all_goals
        have hg3 : Grew w w3 := (hg.trans ga).grown grow3.out (fun j hj => (HO'.out.lt j hj).1)
        have own4 : w3.ownsRow w.heap.size 5 1 (.slice A5 n c5) n ((applyTo wholeC d.st 0 (d.pe.take (k + 1))).map bv) := by
          have e := HS.out
          rw [show x.data.take (wholeC k x.data.length) = x.data from List.take_length] at e
          rw [e, map_over]
          exact own3.out
        clear own3 grow3 HO HO' HC HL HD HF f1 f2 f3 f4 c1 c2
        go_wp2_with fail
        go_roundw
        case rel => exact ⟨k + 1, by omega, by go_num, own4, hg3⟩
        case measure => simp [intOf]; omega
    · obtain rfl : k = n' := by omega
      have hfin : wr.ownsRow w.heap.size 5 1 (.slice A5 n c5) n ((applyTo wholeC d.st 0 d.pe).map bv) := by
        rw [← HN'.out, List.take_length] at hown; exact hown
      clear hown
      go_wp2_with fail
      go_ret
      rw [HN.out]
      exact ⟨A5, c5, rfl, hfin, hg⟩
end Go.Proofs.Ytneipacdpojjkaa
