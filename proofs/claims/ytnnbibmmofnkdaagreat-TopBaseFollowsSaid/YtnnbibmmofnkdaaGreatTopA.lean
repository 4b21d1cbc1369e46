/-
 The statements' helpers: Same, Short, Count, tiny.
-/
import Derived.Test.YtnnbibmmofnkdaaGreatRefN
import Derived.Test.YtnnbibmmofnkdaaGreatRpl
import Derived.Test.YtnnbibmmofnkdaaGreatArgP
namespace Go.Proofs.YtnnbibmmofnkdaaGreat
open Go.RowKit Go.Proofs WageMem WageReg WageRec WageSpan WageTop
end Go.Proofs.YtnnbibmmofnkdaaGreat
namespace Go.Proofs.YtnnbibmmofnkdaaGreat
open Go.RowKit Go.Proofs WageMem WageReg WageRec WageSpan WageTop
end Go.Proofs.YtnnbibmmofnkdaaGreat
namespace WageTop
end WageTop
namespace Go.Proofs.YtnnbibmmofnkdaaGreat
open Go.RowKit Go.Proofs WageMem WageReg WageRec WageSpan WageTop
/-- The fixed plan. -/
def p8 (b1 b2 : Nat) : Pl := ⟨⟨#[]⟩, 0, none, 0, 0, [], some ⟨b1, 0, none⟩, 2, 2, [⟨1440, 1500, 0⟩, ⟨1470, 1530, 0⟩], some ⟨b2, 0, none⟩, 3, 3, [⟨⟨#[]⟩, 0, false, 100, none, 0, 0, []⟩, ⟨⟨#[]⟩, 0, false, 50, none, 0, 0, []⟩, ⟨⟨#[]⟩, 0, false, 50, none, 0, 0, []⟩], ⟨0, 20000, 0, 0, 0⟩⟩
end Go.Proofs.YtnnbibmmofnkdaaGreat
namespace Go.Proofs.YtnnbibmmofnkdaaGreat
open Go.RowKit Go.Proofs WageMem WageReg WageRec WageSpan WageTop
theorem ros_full {p : Pl} {l : List Int} (h : Full (envP p) l) : rosB p l = true := by
 unfold rosB
 rw [Bool.and_eq_true, List.all_eq_true]
 refine ⟨decide_eq_true h.1, fun x hx => decide_eq_true ?_⟩
 have h1 : 0 ≤ x ∧ x < (p.wn : Int) := h.2 x hx
 omega
end Go.Proofs.YtnnbibmmofnkdaaGreat
