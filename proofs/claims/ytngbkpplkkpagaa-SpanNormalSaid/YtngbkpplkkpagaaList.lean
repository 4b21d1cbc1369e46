/-
  The law's functions list and short.
-/
import Derived.Test.YtngbkpplkkpagaaFns
import Derived.Deep.RegionHeld3
namespace Go.Proofs.Ytngbkpplkkpagaa
open Go.RowKit Go.Proofs WageMem WageSpan

section
variable {P : Program} (w : World)
theorem step_append_sl {ops : Array Oper} {o : Oper} {a : Act} {K : Act → World → Prop} {Q : Exit → Act → World → Prop} {E : Prop} (hgd : o.guard = none) (s x : Operand) (t : TypeId)
    (ho : o.op = .call { callee := .builtin .append, args := #[s, x], argTypes := #[t, t] })
    (base : Nat) (e : TypeId) (i : TypeInfo) (z : Value) (size bytes : Nat) (ht : P.underlying t = some (.slice e)) (hi : P.info? e = some i) (hz : i.zero = some z)
    (hsize : i.size = size) (hby : i.bytes = bytes) (hzs : z.cells.size = size) (hsz : 0 < size)
    (v : Value) (n : Nat) (xs : List Value) (hs : a.eval s = v) (hown : w.ownsRow base e size v n xs)
    (A : Option Addr) (m c : Nat) (news : List Value) (hx : a.eval x = .slice A m c) (hr : Sl w size A m c news) (h1 : ∀ u ∈ news, u.oneCell' = true)
    (h63 : n + m ≤ maxLen) (hbytes : (n + m) * bytes ≤ 140737488355328) (hbase : base ≤ w.heap.size)
    (h : ∀ v' w', w'.ownsRow base e size v' (n + m) (xs ++ news) → w.grownBy w' v.ownBlock → (v'.ownBlock = v.ownBlock ∨ v'.ownBlock = some w.heap.size) → K (a.put o.dst v') w') :
    if Region.wanted o (yielded ops a.tmps) = true then Oper.wp P o a w K Q else E := by
  have hw : Region.wanted o (yielded ops a.tmps) = true := by simp [Region.wanted, hgd]
  rw [if_pos hw]
  exact wp_append_sl w s x t ho base e i z size bytes ht hi hz hsize hby hzs hsz v n xs hs hown A m c news hx hr h1 h63 hbytes hbase h
end

/-- Numbers, two and two. -/
def pr : List Int → List Sp
  | a :: b :: r => (a, b) :: pr r
  | _ => []
theorem pr_at : ∀ (zs : List Int) (k : Nat) (x y : Int), zs[2 * k]? = some x → zs[2 * k + 1]? = some y → (pr zs)[k]? = some (x, y)
  | [], k, x, y, h, _ => by simp at h
  | [a], k, x, y, _, h => by rw [List.getElem?_eq_none (by simp)] at h; cases h
  | a :: b :: r, 0, x, y, h1, h2 => by simp at h1 h2; subst h1 h2; rfl
  | a :: b :: r, k + 1, x, y, h1, h2 => by
    have := pr_at r k x y (by simpa [show 2 * (k + 1) = 2 * k + 1 + 1 by omega] using h1) (by simpa [show 2 * (k + 1) + 1 = 2 * k + 1 + 1 + 1 by omega] using h2)
    show (pr r)[k]? = _
    exact this
theorem pr_len : ∀ zs : List Int, (pr zs).length = zs.length / 2
  | [] => rfl
  | [a] => by simp [pr]
  | a :: b :: r => by
    show (pr r).length + 1 = _
    rw [pr_len r]; simp only [List.length_cons]; omega
theorem pr_in : ∀ zs : List Int, (∀ z ∈ zs, -9223372036854775808 ≤ z ∧ z ≤ 9223372036854775807) → In64 (pr zs)
  | [], _ => fun s hs => by simp [pr] at hs
  | [a], _ => fun s hs => by simp [pr] at hs
  | a :: b :: r, h => fun s hs => by
    rcases List.mem_cons.1 hs with rfl | hs
    · exact ⟨h a List.mem_cons_self, h b (List.mem_cons_of_mem _ List.mem_cons_self)⟩
    · exact pr_in r (fun z hz => h z (List.mem_cons_of_mem _ (List.mem_cons_of_mem _ hz))) s hs

set_option maxRecDepth 100000 in
set_option maxHeartbeats 4000000 in
theorem list_any (A : Option Addr) (n c : Nat) (zs : List Int) (w : World) (h : Ints w A n c zs) (hn : n ≤ 1000) (hz : ∀ z ∈ zs, -9223372036854775808 ≤ z ∧ z ≤ 9223372036854775807) :
    Calls Try.prog 31 #[.slice A n c] w (RetR (pr zs) w) := by
  obtain ⟨i0, hi, hz0, hz1, hz2⟩ := info_parts info33
  have hl := h.1
  have HH := Lib.hid h
  have HZ := Lib.hid (pr_in zs hz)
  have HL := Lib.hid hl
  clear h hz hl
  go_enter Try.func31, Try.ntmps31
  go_wp2_with fail
  go_loopw [3, 4] (fun v i wr => ∃ (k : Nat) (Al : Option Addr) (cl : Nat), 2 * k ≤ n ∧ v = .slice Al k cl ∧ i = .int .i64 ((2 * k : Nat) : Int) ∧ Hid (wr.ownsRow w.heap.size 33 2 (.slice Al k cl) k (flat ((pr zs).take k))) ∧ Grew w wr) (fun _ i _ => n + 2 - (intOf i).toNat)
  case atStart => exact ⟨0, none, 0, Nat.zero_le _, rfl, rfl, World.ownsRow_nil _ _ _ _, Grew.refl _⟩
  case round =>
    obtain ⟨k, Al, cl, hk, rfl, rfl, OWN, hg⟩ := hrel
    obtain ⟨q, hq⟩ : ∃ q, 2 * k = q := ⟨_, rfl⟩
    rw [hq] at hk ⊢
    by_cases hlt : q + 1 < n
    · obtain ⟨x, hx⟩ : ∃ x, zs[q]? = some x := ⟨_, List.getElem?_eq_getElem (by rw [HL.out]; omega)⟩
      obtain ⟨y, hy⟩ : ∃ y, zs[q + 1]? = some y := ⟨_, List.getElem?_eq_getElem (by rw [HL.out]; exact hlt)⟩
      obtain ⟨b, o, rfl, hc⟩ := (HH.out.grew hg).at_ (by omega)
      have c1 := hc q x hx
      have c2 := hc (q + 1) y hy
      have HP : Hid ((pr zs).take (k + 1) = (pr zs).take k ++ [(x, y)]) := by
        unfold Hid
        rw [List.take_add_one, pr_at zs k x y (by rw [hq]; exact hx) (by rw [hq]; exact hy)]; rfl
      have HQ := Lib.hid hq
      have i0' : (0 : Int) ≤ (q : Int) := by omega
      have i1' : (q : Int) < (n : Int) := by omega
      have i2' : (0 : Int) ≤ (q : Int) + 1 := by omega
      have i3' : (q : Int) + 1 < (n : Int) := by omega
      have w5 : IntKind.i64.wrap ((q : Int) + 1) = (q : Int) + 1 := IntWalk.i64_in _ (by omega)
      have w6 : ((q : Int) + 1).toNat = q + 1 := by omega
      have hle := hg.le
      have hkb : k ≤ 1000 := by omega
      have szb : b < wr.heap.size := World.block_lt_of_cell? _ _ c1
      have hnb : Hid (∀ j, (Value.slice Al k cl).ownBlock = some j → j ≠ b ∨ True) := fun _ _ => .inr trivial
      clear hc hx hy hq hnb
      go_upto_region 5 with (fail)
      go_region_law
        (first
          | (refine step_append_sl (wr.drew.alloc (.cells #[.int .i64 x, .int .i64 y] 33)) (by rfl) (.tmp 12) (.tmp 23) 22 (by rfl) w.heap.size 33 i0 _ 2 16 Try.underlying22 hi hz0 hz1 hz2 (by rfl) (by decide) (.slice Al k cl) k _ (by rfl) (own_grew OWN.out ((Grew.refl wr).drew.alloc _)) (some ⟨wr.heap.size, 0, none⟩) 1 1 (flat [(x, y)]) (by rfl) (built 2 1 _ _ rfl rfl (by decide)) (flat_one _) (by unfold maxLen; omega) (by omega) (by simp <;> omega) ?_; intro v9 x9 own9 hg9 hat9; obtain ⟨A9, c9, rfl⟩ := own_form own9))
      all_goals
        have OWN3 : Hid (x9.ownsRow w.heap.size 33 2 (.slice A9 (k + 1) c9) (k + 1) (flat ((pr zs).take (k + 1)))) := by unfold Hid; rw [HP.out, flat_append]; exact own9
        have hg3 : Grew w x9 := (hg.drew.alloc _).grown hg9 (fun j hj => (OWN.out.lt j hj).1)
        clear own9 hg9 hat9 c1 c2
        go_wp2_with fail
        go_roundw
        case rel => exact ⟨k + 1, A9, c9, by have := HQ.out; omega, rfl, by have := HQ.out; congr 1; omega, OWN3, hg3⟩
        case measure => simp [intOf]; omega
    · have HF : Hid ((pr zs).take k = pr zs) := by
        unfold Hid
        exact List.take_of_length_le (by rw [pr_len, HL.out]; omega)
      have HLEN : Hid ((pr zs).length = k) := by unfold Hid; rw [pr_len, HL.out]; omega
      clear hq
      go_wp2_with fail
      go_ret
      have := OWN.out
      rw [HF.out] at this
      exact ⟨Al, k, cl, rfl, Spans.own HLEN.out HZ.out this, hg⟩
end Go.Proofs.Ytngbkpplkkpagaa
