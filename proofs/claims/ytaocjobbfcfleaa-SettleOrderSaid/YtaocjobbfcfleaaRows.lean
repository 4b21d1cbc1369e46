/-
  No cell of these rows narrows 'for every input' (looked for: loops, veiled, ifaces, maps, wideKeys, modest, calm, conditions, laid).
  DERIVED. THE GIVEN ROWS OF THIS SEAT. 7 by the template 'for every input the law returns true; each argument reads behind the call as it read before'; 0 by the template 'total and deterministic' (their statements: YtaocjobbfcfleaaTotals.lean).
  GIVEN WITH THE SEED: the statements are not yours to turn. If you find one false, say at which input.
  Laid BY PROGRAM, IN A SANDBOX (cutbox-rows.mjs): the forced cells as the released guide's own fill.sh prints them over the translation 6e9a2a17015a6be0… (all of the seat's roots in one cut). By AI agents, Wed Nov 11 2026. No macro, syntax, notation, axiom, sorry.
-/
import Derived.Test.YtaocjobbfcfleaaChecked
import GoSem.Claim
import GoSem.ClaimJoined
import GoSem.ClaimMapViews
import Derived.JoinedTies
import Derived.KernelRfl
namespace Go.Proofs.Ytaocjobbfcfleaa
/- THE CELL 'sum', in the pinned program and in every row, IS THE sha256 OF THE DUMP (.gsa) THAT YtaocjobbfcfleaaProg.lean LOADS. Nothing in Lean hashes anything: it is a label: what it is worth is what the hold of that sum in a sandbox is worth. -/
noncomputable def Try.pinned : Pinned := { name := "ytaocjobbfcfleaa", sum := "6e9a2a17015a6be024a8fccce4d00641e5162283d00ac9d194d9d4b8e44a5f72", checked := Try.checked }
namespace Rows
def none {H : Type} : Left H := { results := [], args := [] }

/-- 'wageofficelaw40.SettleMatchesReference': WHATEVER THE INPUT: true; the input reads as it did. -/
def settleMatchesReferenceSpec : ChangeSpec := { name := "settleMatchesReference", fn := fun _ => fun
  | [d1, d2, d3, d4] => { results := [.lit (.bool true)], args := [d1, d2, d3, d4] }
  | _ => none }
def settleMatchesReferenceRow : OpenClaim := { program := "ytaocjobbfcfleaa", sum := "6e9a2a17015a6be024a8fccce4d00641e5162283d00ac9d194d9d4b8e44a5f72", func := "wageoffice/wageofficelaw40.SettleMatchesReference", spec := "settleMatchesReference", inPlace := ["slices.overlaps[wageoffice/api.Answer]"], unfollowed := true, recurses := true, apart := false }
def SettleMatchesReferenceSaid : Prop := settleMatchesReferenceRow.holds Try.pinned (OpenSpec.ofChange settleMatchesReferenceSpec)

/-- ITS FALSE NEIGHBOUR: 'it returns false'. Refute it at one input. -/
def settleMatchesReferenceWrong : ChangeSpec := { name := "settleMatchesReference", fn := fun _ => fun
  | [d1, d2, d3, d4] => { results := [.lit (.bool false)], args := [d1, d2, d3, d4] }
  | _ => none }
def SettleMatchesReferenceWrongFalsely : Prop := settleMatchesReferenceRow.holds Try.pinned (OpenSpec.ofChange settleMatchesReferenceWrong)

/-- 'wageofficelaw40.SettleValid': WHATEVER THE INPUT: true; the input reads as it did. -/
def settleValidSpec : ChangeSpec := { name := "settleValid", fn := fun _ => fun
  | [d1, d2, d3] => { results := [.lit (.bool true)], args := [d1, d2, d3] }
  | _ => none }
def settleValidRow : OpenClaim := { program := "ytaocjobbfcfleaa", sum := "6e9a2a17015a6be024a8fccce4d00641e5162283d00ac9d194d9d4b8e44a5f72", func := "wageoffice/wageofficelaw40.SettleValid", spec := "settleValid", inPlace := ["slices.overlaps[wageoffice/api.Answer]"], unfollowed := true, recurses := true, apart := false }
def SettleValidSaid : Prop := settleValidRow.holds Try.pinned (OpenSpec.ofChange settleValidSpec)

/-- ITS FALSE NEIGHBOUR: 'it returns false'. Refute it at one input. -/
def settleValidWrong : ChangeSpec := { name := "settleValid", fn := fun _ => fun
  | [d1, d2, d3] => { results := [.lit (.bool false)], args := [d1, d2, d3] }
  | _ => none }
def SettleValidWrongFalsely : Prop := settleValidRow.holds Try.pinned (OpenSpec.ofChange settleValidWrong)

/-- 'wageofficelaw40.SettleOnce': WHATEVER THE INPUT: true; the input reads as it did. -/
def settleOnceSpec : ChangeSpec := { name := "settleOnce", fn := fun _ => fun
  | [d1, d2, d3] => { results := [.lit (.bool true)], args := [d1, d2, d3] }
  | _ => none }
def settleOnceRow : OpenClaim := { program := "ytaocjobbfcfleaa", sum := "6e9a2a17015a6be024a8fccce4d00641e5162283d00ac9d194d9d4b8e44a5f72", func := "wageoffice/wageofficelaw40.SettleOnce", spec := "settleOnce", inPlace := ["slices.overlaps[wageoffice/api.Answer]"], unfollowed := true, recurses := true, apart := false }
def SettleOnceSaid : Prop := settleOnceRow.holds Try.pinned (OpenSpec.ofChange settleOnceSpec)

/-- ITS FALSE NEIGHBOUR: 'it returns false'. Refute it at one input. -/
def settleOnceWrong : ChangeSpec := { name := "settleOnce", fn := fun _ => fun
  | [d1, d2, d3] => { results := [.lit (.bool false)], args := [d1, d2, d3] }
  | _ => none }
def SettleOnceWrongFalsely : Prop := settleOnceRow.holds Try.pinned (OpenSpec.ofChange settleOnceWrong)

/-- 'wageofficelaw40.SettleOrder': WHATEVER THE INPUT: true; the input reads as it did. -/
def settleOrderSpec : ChangeSpec := { name := "settleOrder", fn := fun _ => fun
  | [d1, d2, d3] => { results := [.lit (.bool true)], args := [d1, d2, d3] }
  | _ => none }
def settleOrderRow : OpenClaim := { program := "ytaocjobbfcfleaa", sum := "6e9a2a17015a6be024a8fccce4d00641e5162283d00ac9d194d9d4b8e44a5f72", func := "wageoffice/wageofficelaw40.SettleOrder", spec := "settleOrder", inPlace := ["slices.overlaps[wageoffice/api.Answer]"], unfollowed := true, recurses := true, apart := false }
def SettleOrderSaid : Prop := settleOrderRow.holds Try.pinned (OpenSpec.ofChange settleOrderSpec)

/-- ITS FALSE NEIGHBOUR: 'it returns false'. Refute it at one input. -/
def settleOrderWrong : ChangeSpec := { name := "settleOrder", fn := fun _ => fun
  | [d1, d2, d3] => { results := [.lit (.bool false)], args := [d1, d2, d3] }
  | _ => none }
def SettleOrderWrongFalsely : Prop := settleOrderRow.holds Try.pinned (OpenSpec.ofChange settleOrderWrong)

/-- 'wageofficelaw40.SettleAppends': WHATEVER THE INPUT: true; the input reads as it did. -/
def settleAppendsSpec : ChangeSpec := { name := "settleAppends", fn := fun _ => fun
  | [d1, d2, d3] => { results := [.lit (.bool true)], args := [d1, d2, d3] }
  | _ => none }
def settleAppendsRow : OpenClaim := { program := "ytaocjobbfcfleaa", sum := "6e9a2a17015a6be024a8fccce4d00641e5162283d00ac9d194d9d4b8e44a5f72", func := "wageoffice/wageofficelaw40.SettleAppends", spec := "settleAppends", inPlace := ["slices.overlaps[wageoffice/api.Answer]"], unfollowed := true, recurses := true, apart := false }
def SettleAppendsSaid : Prop := settleAppendsRow.holds Try.pinned (OpenSpec.ofChange settleAppendsSpec)

/-- ITS FALSE NEIGHBOUR: 'it returns false'. Refute it at one input. -/
def settleAppendsWrong : ChangeSpec := { name := "settleAppends", fn := fun _ => fun
  | [d1, d2, d3] => { results := [.lit (.bool false)], args := [d1, d2, d3] }
  | _ => none }
def SettleAppendsWrongFalsely : Prop := settleAppendsRow.holds Try.pinned (OpenSpec.ofChange settleAppendsWrong)

/-- 'wageofficelaw40.SettleBounds': WHATEVER THE INPUT: true; the input reads as it did. -/
def settleBoundsSpec : ChangeSpec := { name := "settleBounds", fn := fun _ => fun
  | [d1, d2] => { results := [.lit (.bool true)], args := [d1, d2] }
  | _ => none }
def settleBoundsRow : OpenClaim := { program := "ytaocjobbfcfleaa", sum := "6e9a2a17015a6be024a8fccce4d00641e5162283d00ac9d194d9d4b8e44a5f72", func := "wageoffice/wageofficelaw40.SettleBounds", spec := "settleBounds", inPlace := ["slices.overlaps[wageoffice/api.Answer]"], unfollowed := true, recurses := true, apart := false }
def SettleBoundsSaid : Prop := settleBoundsRow.holds Try.pinned (OpenSpec.ofChange settleBoundsSpec)

/-- ITS FALSE NEIGHBOUR: 'it returns false'. Refute it at one input. -/
def settleBoundsWrong : ChangeSpec := { name := "settleBounds", fn := fun _ => fun
  | [d1, d2] => { results := [.lit (.bool false)], args := [d1, d2] }
  | _ => none }
def SettleBoundsWrongFalsely : Prop := settleBoundsRow.holds Try.pinned (OpenSpec.ofChange settleBoundsWrong)

/-- 'wageofficelaw40.SettleBooks': WHATEVER THE INPUT: true; the input reads as it did. -/
def settleBooksSpec : ChangeSpec := { name := "settleBooks", fn := fun _ => fun
  | [d] => { results := [.lit (.bool true)], args := [d] }
  | _ => none }
def settleBooksRow : OpenClaim := { program := "ytaocjobbfcfleaa", sum := "6e9a2a17015a6be024a8fccce4d00641e5162283d00ac9d194d9d4b8e44a5f72", func := "wageoffice/wageofficelaw40.SettleBooks", spec := "settleBooks", inPlace := ["slices.overlaps[wageoffice/api.Answer]"], unfollowed := true, recurses := true, apart := false }
def SettleBooksSaid : Prop := settleBooksRow.holds Try.pinned (OpenSpec.ofChange settleBooksSpec)

/-- ITS FALSE NEIGHBOUR: 'it returns false'. Refute it at one input. -/
def settleBooksWrong : ChangeSpec := { name := "settleBooks", fn := fun _ => fun
  | [d] => { results := [.lit (.bool false)], args := [d] }
  | _ => none }
def SettleBooksWrongFalsely : Prop := settleBooksRow.holds Try.pinned (OpenSpec.ofChange settleBooksWrong)

/- THE SECOND FORM. 'bulk': how many values and letters a reading holds, each counted each time it is reached (what is shared counts as often as it is met; a slice's spare places count too). A statement '..UptoSaid' is the law's where the arguments, and the package variables that the reading takes, are together of bulk at most 1048576: NARROWER than '..Said'. Prove '..Said' where nothing that the law and all that it calls make is longer than what came in: it says more and counts as full. Else prove '..UptoSaid'. A law counts once. -/
mutual
def uptoBulk {H : Type} : DataW H → Nat
  | .lit (.string bytes) => bytes.length + 1
  | .lit _ => 1
  | .nil => 1
  | .ptr d => uptoBulk d + 1
  | .slice elems spare => uptoBulkAll elems + uptoBulkAll spare + 1
  | .agg parts => uptoBulkAll parts + 1
  | .iface _ d => uptoBulk d + 1
  | .map entries => uptoBulkEntries entries + 1
  | .held _ => 1
def uptoBulkAll {H : Type} : List (DataW H) → Nat
  | [] => 0
  | d :: r => uptoBulk d + uptoBulkAll r
def uptoBulkEntries {H : Type} : List (Lit × DataW H) → Nat
  | [] => 0
  | x :: r => uptoBulkEntry x + uptoBulkEntries r
def uptoBulkEntry {H : Type} : Lit × DataW H → Nat
  | (.string bytes, d) => bytes.length + uptoBulk d + 1
  | (_, d) => uptoBulk d + 1
 end
def uptoSmall : (H : Type) → List (DataW H) → Bool := fun _ ds => decide (uptoBulkAll ds ≤ 1048576)
def OpenSpec.upto (s : _root_.Go.ChangeSpec) : _root_.Go.OpenSpec := { _root_.Go.OpenSpec.ofChange s with cond := some uptoSmall }

/-- 'wageofficelaw40.SettleMatchesReference', WHERE WHAT IT READS IS OF BULK AT MOST 1048576: true; the input reads as it did. -/
def settleMatchesReferenceUptoRow : OpenClaim := { program := "ytaocjobbfcfleaa", sum := "6e9a2a17015a6be024a8fccce4d00641e5162283d00ac9d194d9d4b8e44a5f72", func := "wageoffice/wageofficelaw40.SettleMatchesReference", spec := "settleMatchesReference", inPlace := ["slices.overlaps[wageoffice/api.Answer]"], unfollowed := true, recurses := true, apart := false, narrowed := true }
def SettleMatchesReferenceUptoSaid : Prop := settleMatchesReferenceUptoRow.holds Try.pinned (OpenSpec.upto settleMatchesReferenceSpec)

/-- 'wageofficelaw40.SettleValid', WHERE WHAT IT READS IS OF BULK AT MOST 1048576: true; the input reads as it did. -/
def settleValidUptoRow : OpenClaim := { program := "ytaocjobbfcfleaa", sum := "6e9a2a17015a6be024a8fccce4d00641e5162283d00ac9d194d9d4b8e44a5f72", func := "wageoffice/wageofficelaw40.SettleValid", spec := "settleValid", inPlace := ["slices.overlaps[wageoffice/api.Answer]"], unfollowed := true, recurses := true, apart := false, narrowed := true }
def SettleValidUptoSaid : Prop := settleValidUptoRow.holds Try.pinned (OpenSpec.upto settleValidSpec)

/-- 'wageofficelaw40.SettleOnce', WHERE WHAT IT READS IS OF BULK AT MOST 1048576: true; the input reads as it did. -/
def settleOnceUptoRow : OpenClaim := { program := "ytaocjobbfcfleaa", sum := "6e9a2a17015a6be024a8fccce4d00641e5162283d00ac9d194d9d4b8e44a5f72", func := "wageoffice/wageofficelaw40.SettleOnce", spec := "settleOnce", inPlace := ["slices.overlaps[wageoffice/api.Answer]"], unfollowed := true, recurses := true, apart := false, narrowed := true }
def SettleOnceUptoSaid : Prop := settleOnceUptoRow.holds Try.pinned (OpenSpec.upto settleOnceSpec)

/-- 'wageofficelaw40.SettleOrder', WHERE WHAT IT READS IS OF BULK AT MOST 1048576: true; the input reads as it did. -/
def settleOrderUptoRow : OpenClaim := { program := "ytaocjobbfcfleaa", sum := "6e9a2a17015a6be024a8fccce4d00641e5162283d00ac9d194d9d4b8e44a5f72", func := "wageoffice/wageofficelaw40.SettleOrder", spec := "settleOrder", inPlace := ["slices.overlaps[wageoffice/api.Answer]"], unfollowed := true, recurses := true, apart := false, narrowed := true }
def SettleOrderUptoSaid : Prop := settleOrderUptoRow.holds Try.pinned (OpenSpec.upto settleOrderSpec)

/-- 'wageofficelaw40.SettleAppends', WHERE WHAT IT READS IS OF BULK AT MOST 1048576: true; the input reads as it did. -/
def settleAppendsUptoRow : OpenClaim := { program := "ytaocjobbfcfleaa", sum := "6e9a2a17015a6be024a8fccce4d00641e5162283d00ac9d194d9d4b8e44a5f72", func := "wageoffice/wageofficelaw40.SettleAppends", spec := "settleAppends", inPlace := ["slices.overlaps[wageoffice/api.Answer]"], unfollowed := true, recurses := true, apart := false, narrowed := true }
def SettleAppendsUptoSaid : Prop := settleAppendsUptoRow.holds Try.pinned (OpenSpec.upto settleAppendsSpec)

/-- 'wageofficelaw40.SettleBounds', WHERE WHAT IT READS IS OF BULK AT MOST 1048576: true; the input reads as it did. -/
def settleBoundsUptoRow : OpenClaim := { program := "ytaocjobbfcfleaa", sum := "6e9a2a17015a6be024a8fccce4d00641e5162283d00ac9d194d9d4b8e44a5f72", func := "wageoffice/wageofficelaw40.SettleBounds", spec := "settleBounds", inPlace := ["slices.overlaps[wageoffice/api.Answer]"], unfollowed := true, recurses := true, apart := false, narrowed := true }
def SettleBoundsUptoSaid : Prop := settleBoundsUptoRow.holds Try.pinned (OpenSpec.upto settleBoundsSpec)

/-- 'wageofficelaw40.SettleBooks', WHERE WHAT IT READS IS OF BULK AT MOST 1048576: true; the input reads as it did. -/
def settleBooksUptoRow : OpenClaim := { program := "ytaocjobbfcfleaa", sum := "6e9a2a17015a6be024a8fccce4d00641e5162283d00ac9d194d9d4b8e44a5f72", func := "wageoffice/wageofficelaw40.SettleBooks", spec := "settleBooks", inPlace := ["slices.overlaps[wageoffice/api.Answer]"], unfollowed := true, recurses := true, apart := false, narrowed := true }
def SettleBooksUptoSaid : Prop := settleBooksUptoRow.holds Try.pinned (OpenSpec.upto settleBooksSpec)

end Rows
end Go.Proofs.Ytaocjobbfcfleaa
