/-
  The reference's functions on spans: Union.
-/
import Derived.Test.YtngbkpplkkpagaaRfD
namespace Go.Proofs.Ytngbkpplkkpagaa
open Go.RowKit Go.Proofs WageMem WageSpan

theorem rnormal_val {A : Option Addr} {n c : Nat} {a r : List Sp} {w : World} (ha : Spans w A n c a) (hn : n ≤ 2000) (h : rnorm a = r) : Calls Try.prog 16 #[.slice A n c] w (RetR r w) := by
  subst h; exact (rnormal_any A n c a w ha hn).mono fun _ _ h => h.read

set_option maxHeartbeats 1000000 in
theorem runion_any (A B : Option Addr) (n m c e : Nat) (a b : List Sp) (w : World) (ha : Spans w A n c a) (hb : Spans w B m e b) (hn : n ≤ 900) (hm : m ≤ 900) :
    Calls Try.prog 18 #[.slice A n c, .slice B m e] w (RetR (uni a b) w) := by
  obtain ⟨i0, hi, hz0, hz1, hz2⟩ := info_parts info33
  have IN := Lib.hid (in64_append ha.2.2 hb.2.2)
  have HA := Lib.hid ha
  have HB := Lib.hid hb
  have HU := Lib.hid (runion_eq a b)
  clear ha hb
  go_enter Try.func18, Try.ntmps18
  go_wp2_with (first
    | (at_builtin; refine wpList_append_sl _ rfl (.tmp 6) (.tmp 7) 22 rfl w.heap.size 33 i0 (.agg #[.int .i64 0, .int .i64 0]) 2 16 Try.underlying22 hi hz0 hz1 hz2 rfl (by decide) (.slice none 0 0) 0 [] rfl (World.ownsRow_nil _ _ _ _) A n c (flat a) rfl HA.out.2.1 (flat_one _) (by unfold maxLen; omega) (by omega) (Nat.le_refl _) ?_; intro v3 w3 own3 hg3 hat3; rw [Nat.zero_add, List.nil_append] at own3; obtain ⟨A3, c3, rfl⟩ := own_form own3; have gr3 : Grew w w3 := (Grew.refl w).grown hg3 (by simp [Value.ownBlock]))
    | (at_builtin; refine wpList_append_sl _ rfl (.tmp 9) (.tmp 10) 22 rfl w.heap.size 33 i0 (.agg #[.int .i64 0, .int .i64 0]) 2 16 Try.underlying22 hi hz0 hz1 hz2 rfl (by decide) _ n _ rfl own3 B m e (flat b) rfl (HB.out.2.1.grew gr3) (flat_one _) (by unfold maxLen; omega) (by omega) gr3.le ?_; intro v4 w4 own4 hg4 hat4; obtain ⟨A4, c4, rfl⟩ := own_form own4; have gr4 : Grew w w4 := gr3.grown hg4 (fun q hq => (own3.lt q hq).1)))
  rw [← flat_append] at own4
  refine (rnormal_val (Spans.own (by rw [List.length_append, HA.out.1, HB.out.1]) IN.out own4) (by omega) HU.out).mono ?_
  rintro e1 w5 ⟨A5, n5, c5, rfl, s5, g5⟩
  go_wp2_with fail
  go_ret
  exact ⟨A5, n5, c5, rfl, s5, gr4.trans g5⟩
end Go.Proofs.Ytngbkpplkkpagaa
