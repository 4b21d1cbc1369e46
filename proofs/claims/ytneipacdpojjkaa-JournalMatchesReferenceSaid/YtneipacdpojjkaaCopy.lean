/-
  The builtin copy into a row that the call owns.
-/
import Derived.Test.YtneipacdpojjkaaMem
import Derived.Laws.CopyOwn
namespace WageMem
open Go Go.RowKit

theorem run_copy_owned {P : Program} (w : World) (t ty e : TypeId) (ht : P.underlying t = some (.slice e)) (hsz : (P.info? e).map (·.size) = some 1)
    (base : Nat) (A : Option Addr) (n c : Nat) (xs : List Value) (hown : w.ownsRow base e 1 (.slice A n c) n xs)
    (dp sp : Option Addr) (dLen dCap sLen sCap off : Nat) (cs : List Value) (hn : cs.length = Nat.min sLen dLen)
    (hd : ∀ g, A = some ⟨g, 0, none⟩ → 0 < cs.length → dp = some ⟨g, off, none⟩) (hsrc : Cells w sp cs) (hfit : off + cs.length ≤ n) (h1 : ∀ v ∈ cs, v.oneCell' = true) :
    ∃ w', (Builtin.copy_ #[t, t] ty #[.slice dp dLen dCap, .slice sp sLen sCap]).run P w = .ok (goInt cs.length) w' ∧
      w'.ownsRow base e 1 (.slice A n c) n (splice xs off cs) ∧ w.grownBy w' (Value.slice A n c).ownBlock := by
  by_cases h0 : cs.length = 0
  · obtain rfl : cs = [] := List.eq_nil_of_length_eq_zero h0
    have hrun := run_copy_none (P := P) w t t ty e dp sp dLen dCap sLen sCap ht hsz (by simpa using hn.symm)
    exact ⟨w, hrun, by simpa [splice] using hown, World.grownBy.refl w _⟩
  · obtain ⟨hl, h2⟩ := hown
    rcases h2 with ⟨hv, hn0⟩ | ⟨g, cap, cur, hv, hb, hg, hnc, hcm, hcs, htk⟩
    · omega
    · injection hv with e1 e2 e3
      subst e1 e3
      obtain rfl := hd g rfl (by omega)
      have hne : cs ≠ [] := by intro h; rw [h] at h0; exact h0 rfl
      obtain ⟨b, o, rfl, hc⟩ := hsrc hne
      have hsrc' : ∀ j v, cs[j]? = some v → w.cell? ((⟨b, o, none⟩ : Addr).add j) = some v := by
        intro j v hv
        have := hc j v hv
        unfold Addr.add
        split
        · rename_i h0; subst h0; simpa using this
        · exact this
      have hsize : cur.size = c := by rw [hcs, Nat.mul_one]
      have hrun := run_copy_row (P := P) w t t ty e g off dLen dCap ⟨b, o, none⟩ sLen sCap cur e cs ht hsz hg hn hsrc' (by omega) h1
      rw [List.append_assoc] at hrun
      refine ⟨_, hrun, ⟨?_, .inr ⟨g, c, (splice cur.toList off cs).toArray, rfl, hb, setRow_heap w g _ _ e _ hg, hnc, hcm, ?_, ?_⟩⟩, ?_⟩
      · simp only [splice, List.length_append, List.length_take, List.length_drop]; omega
      · simp only [splice, List.size_toArray, List.length_append, List.length_take, List.length_drop, Array.length_toList]; omega
      · rw [Nat.mul_one] at htk ⊢
        rw [← htk]
        simp only [splice]
        rw [List.take_take, Nat.min_eq_left (by omega)]
        rw [List.take_append, List.take_take, List.length_take, List.take_append, List.drop_take]
        simp only [Array.length_toList]
        rw [Nat.min_eq_right (by omega), Nat.min_eq_left (by omega : off ≤ cur.size), List.take_of_length_le (by omega : cs.length ≤ n - off)]
        rw [show n - off - cs.length = n - (off + cs.length) by omega]
      · exact ⟨rfl, rfl, rfl, by simp [World.setRow], fun k _ hk => setRow_other w g k _ (fun e => hk (by simp [Value.ownBlock, e]))⟩

section
variable {P : Program} (w : World)
theorem wp_copy_owned {o : Oper} {a : Act} {K : Act → World → Prop} {Q : Exit → Act → World → Prop} (d s : Operand) (t : TypeId)
    (ho : o.op = .call { callee := .builtin .copy, args := #[d, s], argTypes := #[t, t] }) (e : TypeId) (ht : P.underlying t = some (.slice e)) (hsz : (P.info? e).map (·.size) = some 1)
    (base : Nat) (A : Option Addr) (n c : Nat) (xs : List Value) (hown : w.ownsRow base e 1 (.slice A n c) n xs)
    (dp sp : Option Addr) (dLen dCap sLen sCap off : Nat) (hdv : a.eval d = .slice dp dLen dCap) (hsv : a.eval s = .slice sp sLen sCap) (cs : List Value) (hn : cs.length = Nat.min sLen dLen)
    (hd : ∀ g, A = some ⟨g, 0, none⟩ → 0 < cs.length → dp = some ⟨g, off, none⟩) (hsrc : Cells w sp cs) (hfit : off + cs.length ≤ n) (h1 : ∀ v ∈ cs, v.oneCell' = true)
    (h : ∀ w', Hid (w'.ownsRow base e 1 (.slice A n c) n (splice xs off cs)) → Hid (w.grownBy w' (Value.slice A n c).ownBlock) → K (a.put o.dst (goInt cs.length)) w') : o.wp P a w K Q := by
  obtain ⟨w', hrun, h2, h3⟩ := run_copy_owned (P := P) w t o.type e ht hsz base A n c xs hown dp sp dLen dCap sLen sCap off cs hn hd hsrc hfit h1
  unfold Oper.wp execOp
  simp only [ho, resolve, invoke, builtin, Sem.run_bind, Sem.run_pure, Result.andThen_ok, List.map_toArray, List.map_cons, List.map_nil, hdv, hsv, hrun]
  exact h w' h2 h3
theorem wpList_copy_owned {ops : Array Oper} {rest : List Oper} {o : Oper} {a : Act} {Q : Exit → Act → World → Prop} (hgd : o.guard = none) (d s : Operand) (t : TypeId)
    (ho : o.op = .call { callee := .builtin .copy, args := #[d, s], argTypes := #[t, t] }) (e : TypeId) (ht : P.underlying t = some (.slice e)) (hsz : (P.info? e).map (·.size) = some 1)
    (base : Nat) (A : Option Addr) (n c : Nat) (xs : List Value) (hown : w.ownsRow base e 1 (.slice A n c) n xs)
    (dp sp : Option Addr) (dLen dCap sLen sCap off : Nat) (hdv : a.eval d = .slice dp dLen dCap) (hsv : a.eval s = .slice sp sLen sCap) (cs : List Value) (hn : cs.length = Nat.min sLen dLen)
    (hd : ∀ g, A = some ⟨g, 0, none⟩ → 0 < cs.length → dp = some ⟨g, off, none⟩) (hsrc : Cells w sp cs) (hfit : off + cs.length ≤ n) (h1 : ∀ v ∈ cs, v.oneCell' = true)
    (h : ∀ w', Hid (w'.ownsRow base e 1 (.slice A n c) n (splice xs off cs)) → Hid (w.grownBy w' (Value.slice A n c).ownBlock) → wpList P ops Q rest (a.put o.dst (goInt cs.length)) w') : wpList P ops Q (o :: rest) a w :=
  wpList_plain hgd fun _ hK => wp_copy_owned w d s t ho e ht hsz base A n c xs hown dp sp dLen dCap sLen sCap off hdv hsv cs hn hd hsrc hfit h1 fun w' h2 h3 => hK _ _ (h w' h2 h3)
theorem step_copy_owned {ops : Array Oper} {o : Oper} {a : Act} {K : Act → World → Prop} {Q : Exit → Act → World → Prop} {E : Prop} (hgd : o.guard = none) (d s : Operand) (t : TypeId)
    (ho : o.op = .call { callee := .builtin .copy, args := #[d, s], argTypes := #[t, t] }) (e : TypeId) (ht : P.underlying t = some (.slice e)) (hsz : (P.info? e).map (·.size) = some 1)
    (base : Nat) (A : Option Addr) (n c : Nat) (xs : List Value) (hown : w.ownsRow base e 1 (.slice A n c) n xs)
    (dp sp : Option Addr) (dLen dCap sLen sCap off : Nat) (hdv : a.eval d = .slice dp dLen dCap) (hsv : a.eval s = .slice sp sLen sCap) (cs : List Value) (hn : cs.length = Nat.min sLen dLen)
    (hd : ∀ g, A = some ⟨g, 0, none⟩ → 0 < cs.length → dp = some ⟨g, off, none⟩) (hsrc : Cells w sp cs) (hfit : off + cs.length ≤ n) (h1 : ∀ v ∈ cs, v.oneCell' = true)
    (h : ∀ w', Hid (w'.ownsRow base e 1 (.slice A n c) n (splice xs off cs)) → Hid (w.grownBy w' (Value.slice A n c).ownBlock) → K (a.put o.dst (goInt cs.length)) w') :
    if Region.wanted o (yielded ops a.tmps) = true then Oper.wp P o a w K Q else E := by
  have hw : Region.wanted o (yielded ops a.tmps) = true := by simp [Region.wanted, hgd]
  rw [if_pos hw]
  exact wp_copy_owned w d s t ho e ht hsz base A n c xs hown dp sp dLen dCap sLen sCap off hdv hsv cs hn hd hsrc hfit h1 h
end
end WageMem
