/-
  No cell of these rows narrows 'for every input' (looked for: loops, veiled, ifaces, maps, wideKeys, modest, calm, conditions, laid).
  DERIVED. THE GIVEN ROWS OF THIS SEAT. 13 by the template 'for every input the law returns true; each argument reads behind the call as it read before'; 0 by the template 'total and deterministic' (their statements: YtneipacdpojjkaaTotals.lean).
  GIVEN WITH THE SEED: the statements are not yours to turn. If you find one false, say at which input.
  Laid BY PROGRAM, IN A SANDBOX (cutbox-rows.mjs): the forced cells as the released guide's own fill.sh prints them over the translation c0cab5635a66b33e… (all of the seat's roots in one cut). By AI agents, Wed Nov 11 2026. No macro, syntax, notation, axiom, sorry.
-/
import Derived.Test.YtneipacdpojjkaaChecked
import GoSem.Claim
import GoSem.ClaimJoined
import GoSem.ClaimMapViews
import Derived.JoinedTies
import Derived.KernelRfl
namespace Go.Proofs.Ytneipacdpojjkaa
/- THE CELL 'sum', in the pinned program and in every row, IS THE sha256 OF THE DUMP (.gsa) THAT YtneipacdpojjkaaProg.lean LOADS. Nothing in Lean hashes anything: it is a label: what it is worth is what the hold of that sum in a sandbox is worth. -/
noncomputable def Try.pinned : Pinned := { name := "ytneipacdpojjkaa", sum := "c0cab5635a66b33e86fff0201993105030de711ecceb7f61b5efc152dc9dbd5c", checked := Try.checked }
namespace Rows
def none {H : Type} : Left H := { results := [], args := [] }

/-- 'wageofficelaw42.DiskMatchesReference': WHATEVER THE INPUT: true; the input reads as it did. -/
def diskMatchesReferenceSpec : ChangeSpec := { name := "diskMatchesReference", fn := fun _ => fun
  | [d1, d2, d3, d4, d5, d6] => { results := [.lit (.bool true)], args := [d1, d2, d3, d4, d5, d6] }
  | _ => none }
def diskMatchesReferenceRow : OpenClaim := { program := "ytneipacdpojjkaa", sum := "c0cab5635a66b33e86fff0201993105030de711ecceb7f61b5efc152dc9dbd5c", func := "wageoffice/wageofficelaw42.DiskMatchesReference", spec := "diskMatchesReference", unfollowed := true, recurses := true, apart := false }
def DiskMatchesReferenceSaid : Prop := diskMatchesReferenceRow.holds Try.pinned (OpenSpec.ofChange diskMatchesReferenceSpec)

/-- ITS FALSE NEIGHBOUR: 'it returns false'. Refute it at one input. -/
def diskMatchesReferenceWrong : ChangeSpec := { name := "diskMatchesReference", fn := fun _ => fun
  | [d1, d2, d3, d4, d5, d6] => { results := [.lit (.bool false)], args := [d1, d2, d3, d4, d5, d6] }
  | _ => none }
def DiskMatchesReferenceWrongFalsely : Prop := diskMatchesReferenceRow.holds Try.pinned (OpenSpec.ofChange diskMatchesReferenceWrong)

/-- 'wageofficelaw42.DiskReading': WHATEVER THE INPUT: true; the input reads as it did. -/
def diskReadingSpec : ChangeSpec := { name := "diskReading", fn := fun _ => fun
  | [d1, d2, d3] => { results := [.lit (.bool true)], args := [d1, d2, d3] }
  | _ => none }
def diskReadingRow : OpenClaim := { program := "ytneipacdpojjkaa", sum := "c0cab5635a66b33e86fff0201993105030de711ecceb7f61b5efc152dc9dbd5c", func := "wageoffice/wageofficelaw42.DiskReading", spec := "diskReading", unfollowed := true, recurses := true, apart := false }
def DiskReadingSaid : Prop := diskReadingRow.holds Try.pinned (OpenSpec.ofChange diskReadingSpec)

/-- ITS FALSE NEIGHBOUR: 'it returns false'. Refute it at one input. -/
def diskReadingWrong : ChangeSpec := { name := "diskReading", fn := fun _ => fun
  | [d1, d2, d3] => { results := [.lit (.bool false)], args := [d1, d2, d3] }
  | _ => none }
def DiskReadingWrongFalsely : Prop := diskReadingRow.holds Try.pinned (OpenSpec.ofChange diskReadingWrong)

/-- 'wageofficelaw42.DiskSyncing': WHATEVER THE INPUT: true; the input reads as it did. -/
def diskSyncingSpec : ChangeSpec := { name := "diskSyncing", fn := fun _ => fun
  | [d1, d2] => { results := [.lit (.bool true)], args := [d1, d2] }
  | _ => none }
def diskSyncingRow : OpenClaim := { program := "ytneipacdpojjkaa", sum := "c0cab5635a66b33e86fff0201993105030de711ecceb7f61b5efc152dc9dbd5c", func := "wageoffice/wageofficelaw42.DiskSyncing", spec := "diskSyncing", unfollowed := true, recurses := true, apart := false }
def DiskSyncingSaid : Prop := diskSyncingRow.holds Try.pinned (OpenSpec.ofChange diskSyncingSpec)

/-- ITS FALSE NEIGHBOUR: 'it returns false'. Refute it at one input. -/
def diskSyncingWrong : ChangeSpec := { name := "diskSyncing", fn := fun _ => fun
  | [d1, d2] => { results := [.lit (.bool false)], args := [d1, d2] }
  | _ => none }
def DiskSyncingWrongFalsely : Prop := diskSyncingRow.holds Try.pinned (OpenSpec.ofChange diskSyncingWrong)

/-- 'wageofficelaw42.DiskExtremes': WHATEVER THE INPUT: true; the input reads as it did. -/
def diskExtremesSpec : ChangeSpec := { name := "diskExtremes", fn := fun _ => fun
  | [d] => { results := [.lit (.bool true)], args := [d] }
  | _ => none }
def diskExtremesRow : OpenClaim := { program := "ytneipacdpojjkaa", sum := "c0cab5635a66b33e86fff0201993105030de711ecceb7f61b5efc152dc9dbd5c", func := "wageoffice/wageofficelaw42.DiskExtremes", spec := "diskExtremes", unfollowed := true, recurses := true, apart := false }
def DiskExtremesSaid : Prop := diskExtremesRow.holds Try.pinned (OpenSpec.ofChange diskExtremesSpec)

/-- ITS FALSE NEIGHBOUR: 'it returns false'. Refute it at one input. -/
def diskExtremesWrong : ChangeSpec := { name := "diskExtremes", fn := fun _ => fun
  | [d] => { results := [.lit (.bool false)], args := [d] }
  | _ => none }
def DiskExtremesWrongFalsely : Prop := diskExtremesRow.holds Try.pinned (OpenSpec.ofChange diskExtremesWrong)

/-- 'wageofficelaw42.DiskPrefixes': WHATEVER THE INPUT: true; the input reads as it did. -/
def diskPrefixesSpec : ChangeSpec := { name := "diskPrefixes", fn := fun _ => fun
  | [d1, d2] => { results := [.lit (.bool true)], args := [d1, d2] }
  | _ => none }
def diskPrefixesRow : OpenClaim := { program := "ytneipacdpojjkaa", sum := "c0cab5635a66b33e86fff0201993105030de711ecceb7f61b5efc152dc9dbd5c", func := "wageoffice/wageofficelaw42.DiskPrefixes", spec := "diskPrefixes", unfollowed := true, recurses := true, apart := false }
def DiskPrefixesSaid : Prop := diskPrefixesRow.holds Try.pinned (OpenSpec.ofChange diskPrefixesSpec)

/-- ITS FALSE NEIGHBOUR: 'it returns false'. Refute it at one input. -/
def diskPrefixesWrong : ChangeSpec := { name := "diskPrefixes", fn := fun _ => fun
  | [d1, d2] => { results := [.lit (.bool false)], args := [d1, d2] }
  | _ => none }
def DiskPrefixesWrongFalsely : Prop := diskPrefixesRow.holds Try.pinned (OpenSpec.ofChange diskPrefixesWrong)

/-- 'wageofficelaw42.DiskTearing': WHATEVER THE INPUT: true; the input reads as it did. -/
def diskTearingSpec : ChangeSpec := { name := "diskTearing", fn := fun _ => fun
  | [d1, d2] => { results := [.lit (.bool true)], args := [d1, d2] }
  | _ => none }
def diskTearingRow : OpenClaim := { program := "ytneipacdpojjkaa", sum := "c0cab5635a66b33e86fff0201993105030de711ecceb7f61b5efc152dc9dbd5c", func := "wageoffice/wageofficelaw42.DiskTearing", spec := "diskTearing", unfollowed := true, recurses := true, apart := false }
def DiskTearingSaid : Prop := diskTearingRow.holds Try.pinned (OpenSpec.ofChange diskTearingSpec)

/-- ITS FALSE NEIGHBOUR: 'it returns false'. Refute it at one input. -/
def diskTearingWrong : ChangeSpec := { name := "diskTearing", fn := fun _ => fun
  | [d1, d2] => { results := [.lit (.bool false)], args := [d1, d2] }
  | _ => none }
def DiskTearingWrongFalsely : Prop := diskTearingRow.holds Try.pinned (OpenSpec.ofChange diskTearingWrong)

/-- 'wageofficelaw42.DiskIndependence': WHATEVER THE INPUT: true; the input reads as it did. -/
def diskIndependenceSpec : ChangeSpec := { name := "diskIndependence", fn := fun _ => fun
  | [d1, d2, d3] => { results := [.lit (.bool true)], args := [d1, d2, d3] }
  | _ => none }
def diskIndependenceRow : OpenClaim := { program := "ytneipacdpojjkaa", sum := "c0cab5635a66b33e86fff0201993105030de711ecceb7f61b5efc152dc9dbd5c", func := "wageoffice/wageofficelaw42.DiskIndependence", spec := "diskIndependence", unfollowed := true, recurses := true, apart := false }
def DiskIndependenceSaid : Prop := diskIndependenceRow.holds Try.pinned (OpenSpec.ofChange diskIndependenceSpec)

/-- ITS FALSE NEIGHBOUR: 'it returns false'. Refute it at one input. -/
def diskIndependenceWrong : ChangeSpec := { name := "diskIndependence", fn := fun _ => fun
  | [d1, d2, d3] => { results := [.lit (.bool false)], args := [d1, d2, d3] }
  | _ => none }
def DiskIndependenceWrongFalsely : Prop := diskIndependenceRow.holds Try.pinned (OpenSpec.ofChange diskIndependenceWrong)

/-- 'wageofficelaw43.JournalMatchesReference': WHATEVER THE INPUT: true; the input reads as it did. -/
def journalMatchesReferenceSpec : ChangeSpec := { name := "journalMatchesReference", fn := fun _ => fun
  | [d1, d2] => { results := [.lit (.bool true)], args := [d1, d2] }
  | _ => none }
def journalMatchesReferenceRow : OpenClaim := { program := "ytneipacdpojjkaa", sum := "c0cab5635a66b33e86fff0201993105030de711ecceb7f61b5efc152dc9dbd5c", func := "wageoffice/wageofficelaw43.JournalMatchesReference", spec := "journalMatchesReference", unfollowed := true, recurses := true, apart := false }
def JournalMatchesReferenceSaid : Prop := journalMatchesReferenceRow.holds Try.pinned (OpenSpec.ofChange journalMatchesReferenceSpec)

/-- ITS FALSE NEIGHBOUR: 'it returns false'. Refute it at one input. -/
def journalMatchesReferenceWrong : ChangeSpec := { name := "journalMatchesReference", fn := fun _ => fun
  | [d1, d2] => { results := [.lit (.bool false)], args := [d1, d2] }
  | _ => none }
def JournalMatchesReferenceWrongFalsely : Prop := journalMatchesReferenceRow.holds Try.pinned (OpenSpec.ofChange journalMatchesReferenceWrong)

/-- 'wageofficelaw43.JournalAppend': WHATEVER THE INPUT: true; the input reads as it did. -/
def journalAppendSpec : ChangeSpec := { name := "journalAppend", fn := fun _ => fun
  | [d1, d2] => { results := [.lit (.bool true)], args := [d1, d2] }
  | _ => none }
def journalAppendRow : OpenClaim := { program := "ytneipacdpojjkaa", sum := "c0cab5635a66b33e86fff0201993105030de711ecceb7f61b5efc152dc9dbd5c", func := "wageoffice/wageofficelaw43.JournalAppend", spec := "journalAppend", unfollowed := true, recurses := true, apart := false }
def JournalAppendSaid : Prop := journalAppendRow.holds Try.pinned (OpenSpec.ofChange journalAppendSpec)

/-- ITS FALSE NEIGHBOUR: 'it returns false'. Refute it at one input. -/
def journalAppendWrong : ChangeSpec := { name := "journalAppend", fn := fun _ => fun
  | [d1, d2] => { results := [.lit (.bool false)], args := [d1, d2] }
  | _ => none }
def JournalAppendWrongFalsely : Prop := journalAppendRow.holds Try.pinned (OpenSpec.ofChange journalAppendWrong)

/-- 'wageofficelaw43.JournalDamage': WHATEVER THE INPUT: true; the input reads as it did. -/
def journalDamageSpec : ChangeSpec := { name := "journalDamage", fn := fun _ => fun
  | [d1, d2, d3] => { results := [.lit (.bool true)], args := [d1, d2, d3] }
  | _ => none }
def journalDamageRow : OpenClaim := { program := "ytneipacdpojjkaa", sum := "c0cab5635a66b33e86fff0201993105030de711ecceb7f61b5efc152dc9dbd5c", func := "wageoffice/wageofficelaw43.JournalDamage", spec := "journalDamage", unfollowed := true, recurses := true, apart := false }
def JournalDamageSaid : Prop := journalDamageRow.holds Try.pinned (OpenSpec.ofChange journalDamageSpec)

/-- ITS FALSE NEIGHBOUR: 'it returns false'. Refute it at one input. -/
def journalDamageWrong : ChangeSpec := { name := "journalDamage", fn := fun _ => fun
  | [d1, d2, d3] => { results := [.lit (.bool false)], args := [d1, d2, d3] }
  | _ => none }
def JournalDamageWrongFalsely : Prop := journalDamageRow.holds Try.pinned (OpenSpec.ofChange journalDamageWrong)

/-- 'wageofficelaw43.JournalSequence': WHATEVER THE INPUT: true; the input reads as it did. -/
def journalSequenceSpec : ChangeSpec := { name := "journalSequence", fn := fun _ => fun
  | [d1, d2] => { results := [.lit (.bool true)], args := [d1, d2] }
  | _ => none }
def journalSequenceRow : OpenClaim := { program := "ytneipacdpojjkaa", sum := "c0cab5635a66b33e86fff0201993105030de711ecceb7f61b5efc152dc9dbd5c", func := "wageoffice/wageofficelaw43.JournalSequence", spec := "journalSequence", unfollowed := true, recurses := true, apart := false }
def JournalSequenceSaid : Prop := journalSequenceRow.holds Try.pinned (OpenSpec.ofChange journalSequenceSpec)

/-- ITS FALSE NEIGHBOUR: 'it returns false'. Refute it at one input. -/
def journalSequenceWrong : ChangeSpec := { name := "journalSequence", fn := fun _ => fun
  | [d1, d2] => { results := [.lit (.bool false)], args := [d1, d2] }
  | _ => none }
def JournalSequenceWrongFalsely : Prop := journalSequenceRow.holds Try.pinned (OpenSpec.ofChange journalSequenceWrong)

/-- 'wageofficelaw43.JournalPending': WHATEVER THE INPUT: true; the input reads as it did. -/
def journalPendingSpec : ChangeSpec := { name := "journalPending", fn := fun _ => fun
  | [d1, d2] => { results := [.lit (.bool true)], args := [d1, d2] }
  | _ => none }
def journalPendingRow : OpenClaim := { program := "ytneipacdpojjkaa", sum := "c0cab5635a66b33e86fff0201993105030de711ecceb7f61b5efc152dc9dbd5c", func := "wageoffice/wageofficelaw43.JournalPending", spec := "journalPending", unfollowed := true, recurses := true, apart := false }
def JournalPendingSaid : Prop := journalPendingRow.holds Try.pinned (OpenSpec.ofChange journalPendingSpec)

/-- ITS FALSE NEIGHBOUR: 'it returns false'. Refute it at one input. -/
def journalPendingWrong : ChangeSpec := { name := "journalPending", fn := fun _ => fun
  | [d1, d2] => { results := [.lit (.bool false)], args := [d1, d2] }
  | _ => none }
def JournalPendingWrongFalsely : Prop := journalPendingRow.holds Try.pinned (OpenSpec.ofChange journalPendingWrong)

/-- 'wageofficelaw43.JournalCrash': WHATEVER THE INPUT: true; the input reads as it did. -/
def journalCrashSpec : ChangeSpec := { name := "journalCrash", fn := fun _ => fun
  | [d1, d2, d3, d4, d5] => { results := [.lit (.bool true)], args := [d1, d2, d3, d4, d5] }
  | _ => none }
def journalCrashRow : OpenClaim := { program := "ytneipacdpojjkaa", sum := "c0cab5635a66b33e86fff0201993105030de711ecceb7f61b5efc152dc9dbd5c", func := "wageoffice/wageofficelaw43.JournalCrash", spec := "journalCrash", unfollowed := true, recurses := true, apart := false }
def JournalCrashSaid : Prop := journalCrashRow.holds Try.pinned (OpenSpec.ofChange journalCrashSpec)

/-- ITS FALSE NEIGHBOUR: 'it returns false'. Refute it at one input. -/
def journalCrashWrong : ChangeSpec := { name := "journalCrash", fn := fun _ => fun
  | [d1, d2, d3, d4, d5] => { results := [.lit (.bool false)], args := [d1, d2, d3, d4, d5] }
  | _ => none }
def JournalCrashWrongFalsely : Prop := journalCrashRow.holds Try.pinned (OpenSpec.ofChange journalCrashWrong)

/- THE SECOND FORM. 'bulk': how many values and letters a reading holds, each counted each time it is reached (what is shared counts as often as it is met; a slice's spare places count too). A statement '..UptoSaid' is the law's where the arguments, and the package variables that the reading takes, are together of bulk at most 1048576: NARROWER than '..Said'. Prove '..Said' where nothing that the law and all that it calls make is longer than what came in: it says more and counts as full. Else prove '..UptoSaid'. A law counts once. -/
mutual
def uptoBulk {H : Type} : DataW H → Nat
  | .lit (.string bytes) => bytes.length + 1
  | .lit _ => 1
  | .nil => 1
  | .ptr d => uptoBulk d + 1
  | .slice elems spare => uptoBulkAll elems + uptoBulkAll spare + 1
  | .agg parts => uptoBulkAll parts + 1
  | .iface _ d => uptoBulk d + 1
  | .map entries => uptoBulkEntries entries + 1
  | .held _ => 1
def uptoBulkAll {H : Type} : List (DataW H) → Nat
  | [] => 0
  | d :: r => uptoBulk d + uptoBulkAll r
def uptoBulkEntries {H : Type} : List (Lit × DataW H) → Nat
  | [] => 0
  | x :: r => uptoBulkEntry x + uptoBulkEntries r
def uptoBulkEntry {H : Type} : Lit × DataW H → Nat
  | (.string bytes, d) => bytes.length + uptoBulk d + 1
  | (_, d) => uptoBulk d + 1
 end
def uptoSmall : (H : Type) → List (DataW H) → Bool := fun _ ds => decide (uptoBulkAll ds ≤ 1048576)
def OpenSpec.upto (s : _root_.Go.ChangeSpec) : _root_.Go.OpenSpec := { _root_.Go.OpenSpec.ofChange s with cond := some uptoSmall }

/-- 'wageofficelaw42.DiskMatchesReference', WHERE WHAT IT READS IS OF BULK AT MOST 1048576: true; the input reads as it did. -/
def diskMatchesReferenceUptoRow : OpenClaim := { program := "ytneipacdpojjkaa", sum := "c0cab5635a66b33e86fff0201993105030de711ecceb7f61b5efc152dc9dbd5c", func := "wageoffice/wageofficelaw42.DiskMatchesReference", spec := "diskMatchesReference", unfollowed := true, recurses := true, apart := false, narrowed := true }
def DiskMatchesReferenceUptoSaid : Prop := diskMatchesReferenceUptoRow.holds Try.pinned (OpenSpec.upto diskMatchesReferenceSpec)

/-- 'wageofficelaw42.DiskReading', WHERE WHAT IT READS IS OF BULK AT MOST 1048576: true; the input reads as it did. -/
def diskReadingUptoRow : OpenClaim := { program := "ytneipacdpojjkaa", sum := "c0cab5635a66b33e86fff0201993105030de711ecceb7f61b5efc152dc9dbd5c", func := "wageoffice/wageofficelaw42.DiskReading", spec := "diskReading", unfollowed := true, recurses := true, apart := false, narrowed := true }
def DiskReadingUptoSaid : Prop := diskReadingUptoRow.holds Try.pinned (OpenSpec.upto diskReadingSpec)

/-- 'wageofficelaw42.DiskSyncing', WHERE WHAT IT READS IS OF BULK AT MOST 1048576: true; the input reads as it did. -/
def diskSyncingUptoRow : OpenClaim := { program := "ytneipacdpojjkaa", sum := "c0cab5635a66b33e86fff0201993105030de711ecceb7f61b5efc152dc9dbd5c", func := "wageoffice/wageofficelaw42.DiskSyncing", spec := "diskSyncing", unfollowed := true, recurses := true, apart := false, narrowed := true }
def DiskSyncingUptoSaid : Prop := diskSyncingUptoRow.holds Try.pinned (OpenSpec.upto diskSyncingSpec)

/-- 'wageofficelaw42.DiskExtremes', WHERE WHAT IT READS IS OF BULK AT MOST 1048576: true; the input reads as it did. -/
def diskExtremesUptoRow : OpenClaim := { program := "ytneipacdpojjkaa", sum := "c0cab5635a66b33e86fff0201993105030de711ecceb7f61b5efc152dc9dbd5c", func := "wageoffice/wageofficelaw42.DiskExtremes", spec := "diskExtremes", unfollowed := true, recurses := true, apart := false, narrowed := true }
def DiskExtremesUptoSaid : Prop := diskExtremesUptoRow.holds Try.pinned (OpenSpec.upto diskExtremesSpec)

/-- 'wageofficelaw42.DiskPrefixes', WHERE WHAT IT READS IS OF BULK AT MOST 1048576: true; the input reads as it did. -/
def diskPrefixesUptoRow : OpenClaim := { program := "ytneipacdpojjkaa", sum := "c0cab5635a66b33e86fff0201993105030de711ecceb7f61b5efc152dc9dbd5c", func := "wageoffice/wageofficelaw42.DiskPrefixes", spec := "diskPrefixes", unfollowed := true, recurses := true, apart := false, narrowed := true }
def DiskPrefixesUptoSaid : Prop := diskPrefixesUptoRow.holds Try.pinned (OpenSpec.upto diskPrefixesSpec)

/-- 'wageofficelaw42.DiskTearing', WHERE WHAT IT READS IS OF BULK AT MOST 1048576: true; the input reads as it did. -/
def diskTearingUptoRow : OpenClaim := { program := "ytneipacdpojjkaa", sum := "c0cab5635a66b33e86fff0201993105030de711ecceb7f61b5efc152dc9dbd5c", func := "wageoffice/wageofficelaw42.DiskTearing", spec := "diskTearing", unfollowed := true, recurses := true, apart := false, narrowed := true }
def DiskTearingUptoSaid : Prop := diskTearingUptoRow.holds Try.pinned (OpenSpec.upto diskTearingSpec)

/-- 'wageofficelaw42.DiskIndependence', WHERE WHAT IT READS IS OF BULK AT MOST 1048576: true; the input reads as it did. -/
def diskIndependenceUptoRow : OpenClaim := { program := "ytneipacdpojjkaa", sum := "c0cab5635a66b33e86fff0201993105030de711ecceb7f61b5efc152dc9dbd5c", func := "wageoffice/wageofficelaw42.DiskIndependence", spec := "diskIndependence", unfollowed := true, recurses := true, apart := false, narrowed := true }
def DiskIndependenceUptoSaid : Prop := diskIndependenceUptoRow.holds Try.pinned (OpenSpec.upto diskIndependenceSpec)

/-- 'wageofficelaw43.JournalMatchesReference', WHERE WHAT IT READS IS OF BULK AT MOST 1048576: true; the input reads as it did. -/
def journalMatchesReferenceUptoRow : OpenClaim := { program := "ytneipacdpojjkaa", sum := "c0cab5635a66b33e86fff0201993105030de711ecceb7f61b5efc152dc9dbd5c", func := "wageoffice/wageofficelaw43.JournalMatchesReference", spec := "journalMatchesReference", unfollowed := true, recurses := true, apart := false, narrowed := true }
def JournalMatchesReferenceUptoSaid : Prop := journalMatchesReferenceUptoRow.holds Try.pinned (OpenSpec.upto journalMatchesReferenceSpec)

/-- 'wageofficelaw43.JournalAppend', WHERE WHAT IT READS IS OF BULK AT MOST 1048576: true; the input reads as it did. -/
def journalAppendUptoRow : OpenClaim := { program := "ytneipacdpojjkaa", sum := "c0cab5635a66b33e86fff0201993105030de711ecceb7f61b5efc152dc9dbd5c", func := "wageoffice/wageofficelaw43.JournalAppend", spec := "journalAppend", unfollowed := true, recurses := true, apart := false, narrowed := true }
def JournalAppendUptoSaid : Prop := journalAppendUptoRow.holds Try.pinned (OpenSpec.upto journalAppendSpec)

/-- 'wageofficelaw43.JournalDamage', WHERE WHAT IT READS IS OF BULK AT MOST 1048576: true; the input reads as it did. -/
def journalDamageUptoRow : OpenClaim := { program := "ytneipacdpojjkaa", sum := "c0cab5635a66b33e86fff0201993105030de711ecceb7f61b5efc152dc9dbd5c", func := "wageoffice/wageofficelaw43.JournalDamage", spec := "journalDamage", unfollowed := true, recurses := true, apart := false, narrowed := true }
def JournalDamageUptoSaid : Prop := journalDamageUptoRow.holds Try.pinned (OpenSpec.upto journalDamageSpec)

/-- 'wageofficelaw43.JournalSequence', WHERE WHAT IT READS IS OF BULK AT MOST 1048576: true; the input reads as it did. -/
def journalSequenceUptoRow : OpenClaim := { program := "ytneipacdpojjkaa", sum := "c0cab5635a66b33e86fff0201993105030de711ecceb7f61b5efc152dc9dbd5c", func := "wageoffice/wageofficelaw43.JournalSequence", spec := "journalSequence", unfollowed := true, recurses := true, apart := false, narrowed := true }
def JournalSequenceUptoSaid : Prop := journalSequenceUptoRow.holds Try.pinned (OpenSpec.upto journalSequenceSpec)

/-- 'wageofficelaw43.JournalPending', WHERE WHAT IT READS IS OF BULK AT MOST 1048576: true; the input reads as it did. -/
def journalPendingUptoRow : OpenClaim := { program := "ytneipacdpojjkaa", sum := "c0cab5635a66b33e86fff0201993105030de711ecceb7f61b5efc152dc9dbd5c", func := "wageoffice/wageofficelaw43.JournalPending", spec := "journalPending", unfollowed := true, recurses := true, apart := false, narrowed := true }
def JournalPendingUptoSaid : Prop := journalPendingUptoRow.holds Try.pinned (OpenSpec.upto journalPendingSpec)

/-- 'wageofficelaw43.JournalCrash', WHERE WHAT IT READS IS OF BULK AT MOST 1048576: true; the input reads as it did. -/
def journalCrashUptoRow : OpenClaim := { program := "ytneipacdpojjkaa", sum := "c0cab5635a66b33e86fff0201993105030de711ecceb7f61b5efc152dc9dbd5c", func := "wageoffice/wageofficelaw43.JournalCrash", spec := "journalCrash", unfollowed := true, recurses := true, apart := false, narrowed := true }
def JournalCrashUptoSaid : Prop := journalCrashUptoRow.holds Try.pinned (OpenSpec.upto journalCrashSpec)

end Rows
end Go.Proofs.Ytneipacdpojjkaa
