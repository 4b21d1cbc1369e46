/-
  No cell of these rows narrows 'for every input' (looked for: loops, veiled, ifaces, maps, wideKeys, modest, calm, conditions, laid).
  DERIVED. THE GIVEN ROWS OF THIS SEAT. 5 by the template 'for every input the law returns true; each argument reads behind the call as it read before'; 0 by the template 'total and deterministic' (their statements: YtnnbibmmofnkdaaGreatTotals.lean).
  GIVEN WITH THE SEED: the statements are not yours to turn. If you find one false, say at which input.
  Laid BY PROGRAM, IN A SANDBOX (cutbox-rows.mjs): the forced cells as the released guide's own fill.sh prints them over the translation 9bf39e68f1cdb21e… (all of the seat's roots in one cut). By AI agents, Wed Nov 11 2026. No macro, syntax, notation, axiom, sorry.
-/
import Derived.Test.YtnnbibmmofnkdaaGreatChecked
import GoSem.Claim
import GoSem.ClaimJoined
import GoSem.ClaimMapViews
import Derived.JoinedTies
import Derived.KernelRfl
namespace Go.Proofs.YtnnbibmmofnkdaaGreat
/- THE CELL 'sum', in the pinned program and in every row, IS THE sha256 OF THE DUMP (.gsa) THAT YtnnbibmmofnkdaaGreatProg.lean LOADS. Nothing in Lean hashes anything: it is a label: what it is worth is what the hold of that sum in a sandbox is worth. -/
noncomputable def Tryz.pinned : Pinned := { name := "ytnnbibmmofnkdaagreat", sum := "9bf39e68f1cdb21edbfe8c04eb27796be07520541660efb341d42b8e2ede48ae", checked := Tryz.checked }
namespace Rows
def none {H : Type} : Left H := { results := [], args := [] }

/-- 'wageofficetop.TopPlanMoved': WHATEVER THE INPUT: true; the input reads as it did. -/
def topPlanMovedSpec : ChangeSpec := { name := "topPlanMoved", fn := fun _ => fun
  | [d1, d2] => { results := [.lit (.bool true)], args := [d1, d2] }
  | _ => none }
def topPlanMovedRow : OpenClaim := { program := "ytnnbibmmofnkdaagreat", sum := "9bf39e68f1cdb21edbfe8c04eb27796be07520541660efb341d42b8e2ede48ae", func := "wageoffice/wageofficetop.TopPlanMoved", spec := "topPlanMoved", unfollowed := true, recurses := true, plainKeys := false, apart := false }
def TopPlanMovedSaid : Prop := topPlanMovedRow.holds Tryz.pinned (OpenSpec.ofChange topPlanMovedSpec)

/-- ITS FALSE NEIGHBOUR: 'it returns false'. Refute it at one input. -/
def topPlanMovedWrong : ChangeSpec := { name := "topPlanMoved", fn := fun _ => fun
  | [d1, d2] => { results := [.lit (.bool false)], args := [d1, d2] }
  | _ => none }
def TopPlanMovedWrongFalsely : Prop := topPlanMovedRow.holds Tryz.pinned (OpenSpec.ofChange topPlanMovedWrong)

/-- 'wageofficetop.TopRefutedPlan': WHATEVER THE INPUT: true; the input reads as it did. -/
def topRefutedPlanSpec : ChangeSpec := { name := "topRefutedPlan", fn := fun _ => fun
  | [d1, d2, d3] => { results := [.lit (.bool true)], args := [d1, d2, d3] }
  | _ => none }
def topRefutedPlanRow : OpenClaim := { program := "ytnnbibmmofnkdaagreat", sum := "9bf39e68f1cdb21edbfe8c04eb27796be07520541660efb341d42b8e2ede48ae", func := "wageoffice/wageofficetop.TopRefutedPlan", spec := "topRefutedPlan", unfollowed := true, recurses := true, plainKeys := false, apart := false }
def TopRefutedPlanSaid : Prop := topRefutedPlanRow.holds Tryz.pinned (OpenSpec.ofChange topRefutedPlanSpec)

/-- ITS FALSE NEIGHBOUR: 'it returns false'. Refute it at one input. -/
def topRefutedPlanWrong : ChangeSpec := { name := "topRefutedPlan", fn := fun _ => fun
  | [d1, d2, d3] => { results := [.lit (.bool false)], args := [d1, d2, d3] }
  | _ => none }
def TopRefutedPlanWrongFalsely : Prop := topRefutedPlanRow.holds Tryz.pinned (OpenSpec.ofChange topRefutedPlanWrong)

/-- 'wageofficetop.TopPlanRefuted': WHATEVER THE INPUT: true; the input reads as it did. -/
def topPlanRefutedSpec : ChangeSpec := { name := "topPlanRefuted", fn := fun _ => fun
  | [d1, d2] => { results := [.lit (.bool true)], args := [d1, d2] }
  | _ => none }
def topPlanRefutedRow : OpenClaim := { program := "ytnnbibmmofnkdaagreat", sum := "9bf39e68f1cdb21edbfe8c04eb27796be07520541660efb341d42b8e2ede48ae", func := "wageoffice/wageofficetop.TopPlanRefuted", spec := "topPlanRefuted", unfollowed := true, recurses := true, plainKeys := false, apart := false }
def TopPlanRefutedSaid : Prop := topPlanRefutedRow.holds Tryz.pinned (OpenSpec.ofChange topPlanRefutedSpec)

/-- ITS FALSE NEIGHBOUR: 'it returns false'. Refute it at one input. -/
def topPlanRefutedWrong : ChangeSpec := { name := "topPlanRefuted", fn := fun _ => fun
  | [d1, d2] => { results := [.lit (.bool false)], args := [d1, d2] }
  | _ => none }
def TopPlanRefutedWrongFalsely : Prop := topPlanRefutedRow.holds Tryz.pinned (OpenSpec.ofChange topPlanRefutedWrong)

/-- 'wageofficetop.TopBaseFollows': WHATEVER THE INPUT: true; the input reads as it did. -/
def topBaseFollowsSpec : ChangeSpec := { name := "topBaseFollows", fn := fun _ => fun
  | [d1, d2, d3] => { results := [.lit (.bool true)], args := [d1, d2, d3] }
  | _ => none }
def topBaseFollowsRow : OpenClaim := { program := "ytnnbibmmofnkdaagreat", sum := "9bf39e68f1cdb21edbfe8c04eb27796be07520541660efb341d42b8e2ede48ae", func := "wageoffice/wageofficetop.TopBaseFollows", spec := "topBaseFollows", unfollowed := true, recurses := true, plainKeys := false, apart := false }
def TopBaseFollowsSaid : Prop := topBaseFollowsRow.holds Tryz.pinned (OpenSpec.ofChange topBaseFollowsSpec)

/-- ITS FALSE NEIGHBOUR: 'it returns false'. Refute it at one input. -/
def topBaseFollowsWrong : ChangeSpec := { name := "topBaseFollows", fn := fun _ => fun
  | [d1, d2, d3] => { results := [.lit (.bool false)], args := [d1, d2, d3] }
  | _ => none }
def TopBaseFollowsWrongFalsely : Prop := topBaseFollowsRow.holds Tryz.pinned (OpenSpec.ofChange topBaseFollowsWrong)

/-- 'wageofficetop.TopPlanPunched': WHATEVER THE INPUT: true; the input reads as it did. -/
def topPlanPunchedSpec : ChangeSpec := { name := "topPlanPunched", fn := fun _ => fun
  | [d] => { results := [.lit (.bool true)], args := [d] }
  | _ => none }
def topPlanPunchedRow : OpenClaim := { program := "ytnnbibmmofnkdaagreat", sum := "9bf39e68f1cdb21edbfe8c04eb27796be07520541660efb341d42b8e2ede48ae", func := "wageoffice/wageofficetop.TopPlanPunched", spec := "topPlanPunched", unfollowed := true, recurses := true, plainKeys := false, apart := false }
def TopPlanPunchedSaid : Prop := topPlanPunchedRow.holds Tryz.pinned (OpenSpec.ofChange topPlanPunchedSpec)

/-- ITS FALSE NEIGHBOUR: 'it returns false'. Refute it at one input. -/
def topPlanPunchedWrong : ChangeSpec := { name := "topPlanPunched", fn := fun _ => fun
  | [d] => { results := [.lit (.bool false)], args := [d] }
  | _ => none }
def TopPlanPunchedWrongFalsely : Prop := topPlanPunchedRow.holds Tryz.pinned (OpenSpec.ofChange topPlanPunchedWrong)

/- THE SECOND FORM. 'bulk': how many values and letters a reading holds, each counted each time it is reached (what is shared counts as often as it is met; a slice's spare places count too). A statement '..UptoSaid' is the law's where the arguments, and the package variables that the reading takes, are together of bulk at most 1048576: NARROWER than '..Said'. Prove '..Said' where nothing that the law and all that it calls make is longer than what came in: it says more and counts as full. Else prove '..UptoSaid'. A law counts once. -/
mutual
def uptoBulk {H : Type} : DataW H → Nat
  | .lit (.string bytes) => bytes.length + 1
  | .lit _ => 1
  | .nil => 1
  | .ptr d => uptoBulk d + 1
  | .slice elems spare => uptoBulkAll elems + uptoBulkAll spare + 1
  | .agg parts => uptoBulkAll parts + 1
  | .iface _ d => uptoBulk d + 1
  | .map entries => uptoBulkEntries entries + 1
  | .held _ => 1
def uptoBulkAll {H : Type} : List (DataW H) → Nat
  | [] => 0
  | d :: r => uptoBulk d + uptoBulkAll r
def uptoBulkEntries {H : Type} : List (Lit × DataW H) → Nat
  | [] => 0
  | x :: r => uptoBulkEntry x + uptoBulkEntries r
def uptoBulkEntry {H : Type} : Lit × DataW H → Nat
  | (.string bytes, d) => bytes.length + uptoBulk d + 1
  | (_, d) => uptoBulk d + 1
 end
def uptoSmall : (H : Type) → List (DataW H) → Bool := fun _ ds => decide (uptoBulkAll ds ≤ 1048576)
def OpenSpec.upto (s : _root_.Go.ChangeSpec) : _root_.Go.OpenSpec := { _root_.Go.OpenSpec.ofChange s with cond := some uptoSmall }

/-- 'wageofficetop.TopPlanMoved', WHERE WHAT IT READS IS OF BULK AT MOST 1048576: true; the input reads as it did. -/
def topPlanMovedUptoRow : OpenClaim := { program := "ytnnbibmmofnkdaagreat", sum := "9bf39e68f1cdb21edbfe8c04eb27796be07520541660efb341d42b8e2ede48ae", func := "wageoffice/wageofficetop.TopPlanMoved", spec := "topPlanMoved", unfollowed := true, recurses := true, plainKeys := false, apart := false, narrowed := true }
def TopPlanMovedUptoSaid : Prop := topPlanMovedUptoRow.holds Tryz.pinned (OpenSpec.upto topPlanMovedSpec)

/-- 'wageofficetop.TopRefutedPlan', WHERE WHAT IT READS IS OF BULK AT MOST 1048576: true; the input reads as it did. -/
def topRefutedPlanUptoRow : OpenClaim := { program := "ytnnbibmmofnkdaagreat", sum := "9bf39e68f1cdb21edbfe8c04eb27796be07520541660efb341d42b8e2ede48ae", func := "wageoffice/wageofficetop.TopRefutedPlan", spec := "topRefutedPlan", unfollowed := true, recurses := true, plainKeys := false, apart := false, narrowed := true }
def TopRefutedPlanUptoSaid : Prop := topRefutedPlanUptoRow.holds Tryz.pinned (OpenSpec.upto topRefutedPlanSpec)

/-- 'wageofficetop.TopPlanRefuted', WHERE WHAT IT READS IS OF BULK AT MOST 1048576: true; the input reads as it did. -/
def topPlanRefutedUptoRow : OpenClaim := { program := "ytnnbibmmofnkdaagreat", sum := "9bf39e68f1cdb21edbfe8c04eb27796be07520541660efb341d42b8e2ede48ae", func := "wageoffice/wageofficetop.TopPlanRefuted", spec := "topPlanRefuted", unfollowed := true, recurses := true, plainKeys := false, apart := false, narrowed := true }
def TopPlanRefutedUptoSaid : Prop := topPlanRefutedUptoRow.holds Tryz.pinned (OpenSpec.upto topPlanRefutedSpec)

/-- 'wageofficetop.TopBaseFollows', WHERE WHAT IT READS IS OF BULK AT MOST 1048576: true; the input reads as it did. -/
def topBaseFollowsUptoRow : OpenClaim := { program := "ytnnbibmmofnkdaagreat", sum := "9bf39e68f1cdb21edbfe8c04eb27796be07520541660efb341d42b8e2ede48ae", func := "wageoffice/wageofficetop.TopBaseFollows", spec := "topBaseFollows", unfollowed := true, recurses := true, plainKeys := false, apart := false, narrowed := true }
def TopBaseFollowsUptoSaid : Prop := topBaseFollowsUptoRow.holds Tryz.pinned (OpenSpec.upto topBaseFollowsSpec)

/-- 'wageofficetop.TopPlanPunched', WHERE WHAT IT READS IS OF BULK AT MOST 1048576: true; the input reads as it did. -/
def topPlanPunchedUptoRow : OpenClaim := { program := "ytnnbibmmofnkdaagreat", sum := "9bf39e68f1cdb21edbfe8c04eb27796be07520541660efb341d42b8e2ede48ae", func := "wageoffice/wageofficetop.TopPlanPunched", spec := "topPlanPunched", unfollowed := true, recurses := true, plainKeys := false, apart := false, narrowed := true }
def TopPlanPunchedUptoSaid : Prop := topPlanPunchedUptoRow.holds Tryz.pinned (OpenSpec.upto topPlanPunchedSpec)

end Rows
end Go.Proofs.YtnnbibmmofnkdaaGreat
