/-
  journal.Append: all cases; the examples of the head.
-/
import Derived.Test.YtneipacdpojjkaaAppC
namespace Go.Proofs.Ytneipacdpojjkaa
open Go.RowKit Go.Proofs WageMem WageDisk

theorem append_any (v : Value) (d : Ds) (A3 : Option Addr) (n3 c3 : Nat) (rec : List UInt8) (w : World) (h : Disk w v d) (hD : Bytes w A3 n3 c3 rec) :
    Calls Try.prog 34 #[v, .slice A3 n3 c3] w (RetDiskE (appD d rec) (appE d rec) w) := by
  obtain ⟨A, n, c, A', n', c', rfl, _, _⟩ := h.form
  have hl := hD.1
  unfold appD appE
  cases hv : validB d with
  | false => exact append_bad A n c A' n' c' d A3 n3 c3 w h (.inl hv)
  | true =>
    by_cases h3 : 0 < n3
    · rw [decide_eq_true (show 0 < rec.length by omega)]
      cases hf : fitsB d rec with
      | false => exact append_full A n c A' n' c' d A3 n3 c3 rec w h hD hv h3 hf
      | true =>
        by_cases hr : jEnd d + (13 + rec.length) < d.st.length
        · exact append_room A n c A' n' c' d A3 n3 c3 rec w h hD hv h3 hf hr
        · exact append_tight A n c A' n' c' d A3 n3 c3 rec w h hD hv h3 hf hr
    · rw [decide_eq_false (show ¬ 0 < rec.length by omega)]
      exact append_bad A n c A' n' c' d A3 n3 c3 w h (.inr (by omega))
theorem append_val {v : Value} {d d' : Ds} {e : Int} {A3 : Option Addr} {n3 c3 : Nat} {rec : List UInt8} {w : World} (h : Disk w v d) (hD : Bytes w A3 n3 c3 rec) (hd : appD d rec = d') (he : appE d rec = e) :
    Calls Try.prog 34 #[v, .slice A3 n3 c3] w (RetDiskE d' e w) := by
  subst hd he; exact append_any v d A3 n3 c3 rec w h hD

def H0 : Ds := newD 100
def H1 : Ds := appD H0 [97]
def H2 : Ds := appD H1 [98, 99, 100]
set_option maxRecDepth 1000000 in
theorem h_new : newE 100 = 0 ∧ newE 13 = 0 := by decide +kernel
set_option maxRecDepth 1000000 in
theorem h_app1 : appE H0 [97] = 0 := by decide +kernel
set_option maxRecDepth 1000000 in
theorem h_app2 : appE H1 [98, 99, 100] = 0 := by decide +kernel
set_option maxRecDepth 1000000 in
theorem h_recs : jRecs H2 = [[97], [98, 99, 100]] := by decide +kernel
set_option maxRecDepth 1000000 in
theorem h_end : jEnd H2 = 30 := by decide +kernel
set_option maxRecDepth 1000000 in
theorem h_none : jRecs H0 = [] ∧ jEnd H0 = 0 := by decide +kernel
set_option maxRecDepth 1000000 in
theorem h_small : appE (newD 13) [97] = 2 ∧ appE H0 [] = 1 := by decide +kernel
set_option maxRecDepth 1000000 in
theorem h_bytes : H2.st.length = 100 ∧ H2.st[0]? = some 82 ∧ H2.st[1]? = some 0 ∧ H2.st[2]? = some 1 ∧ H2.st[18]? = some 1 ∧ H2.st[30]? = some 0 ∧ H2.pe.length = 0 := by decide +kernel
end Go.Proofs.Ytneipacdpojjkaa
