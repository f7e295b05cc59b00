/-
  No cell of these rows narrows 'for every input' (looked for: loops, veiled, ifaces, maps, wideKeys, modest, calm, conditions, laid).
  DERIVED. THE GIVEN ROWS OF THIS SEAT. 7 by the template 'for every input the law returns true; each argument reads behind the call as it read before'; 0 by the template 'total and deterministic' (their statements: YtfhoblchgeijkaaTotals.lean).
  GIVEN WITH THE SEED: the statements are not yours to turn. If you find one false, say at which input.
  Laid BY PROGRAM, IN A SANDBOX (cutbox-rows.mjs): the forced cells as the released guide's own fill.sh prints them over the translation 78bb8f397bc132b3… (all of the seat's roots in one cut). By AI agents, Wed Nov 11 2026. No macro, syntax, notation, axiom, sorry.
-/
import Derived.Test.YtfhoblchgeijkaaChecked
import GoSem.Claim
import GoSem.ClaimJoined
import GoSem.ClaimMapViews
import Derived.JoinedTies
import Derived.KernelRfl
namespace Go.Proofs.Ytfhoblchgeijkaa
/- THE CELL 'sum', in the pinned program and in every row, IS THE sha256 OF THE DUMP (.gsa) THAT YtfhoblchgeijkaaProg.lean LOADS. Nothing in Lean hashes anything: it is a label: what it is worth is what the hold of that sum in a sandbox is worth. -/
noncomputable def Try.pinned : Pinned := { name := "ytfhoblchgeijkaa", sum := "78bb8f397bc132b3349fd200669f8b06859b917cdf88b76f2706bcb3d41af848", checked := Try.checked }
namespace Rows
def none {H : Type} : Left H := { results := [], args := [] }

/-- 'forkledgerlaw30.DiskSynced': WHATEVER THE INPUT: true; the input reads as it did. -/
def diskSyncedSpec : ChangeSpec := { name := "diskSynced", fn := fun _ => fun
  | [d1, d2, d3, d4] => { results := [.lit (.bool true)], args := [d1, d2, d3, d4] }
  | _ => none }
def diskSyncedRow : OpenClaim := { program := "ytfhoblchgeijkaa", sum := "78bb8f397bc132b3349fd200669f8b06859b917cdf88b76f2706bcb3d41af848", func := "forkledger/forkledgerlaw30.DiskSynced", spec := "diskSynced", unfollowed := true, recurses := true, apart := false }
def DiskSyncedSaid : Prop := diskSyncedRow.holds Try.pinned (OpenSpec.ofChange diskSyncedSpec)

/-- ITS FALSE NEIGHBOUR: 'it returns false'. Refute it at one input. -/
def diskSyncedWrong : ChangeSpec := { name := "diskSynced", fn := fun _ => fun
  | [d1, d2, d3, d4] => { results := [.lit (.bool false)], args := [d1, d2, d3, d4] }
  | _ => none }
def DiskSyncedWrongFalsely : Prop := diskSyncedRow.holds Try.pinned (OpenSpec.ofChange diskSyncedWrong)

/-- 'forkledgerlaw30.DiskCopies': WHATEVER THE INPUT: true; the input reads as it did. -/
def diskCopiesSpec : ChangeSpec := { name := "diskCopies", fn := fun _ => fun
  | [d] => { results := [.lit (.bool true)], args := [d] }
  | _ => none }
def diskCopiesRow : OpenClaim := { program := "ytfhoblchgeijkaa", sum := "78bb8f397bc132b3349fd200669f8b06859b917cdf88b76f2706bcb3d41af848", func := "forkledger/forkledgerlaw30.DiskCopies", spec := "diskCopies", unfollowed := true, recurses := true, apart := false }
def DiskCopiesSaid : Prop := diskCopiesRow.holds Try.pinned (OpenSpec.ofChange diskCopiesSpec)

/-- ITS FALSE NEIGHBOUR: 'it returns false'. Refute it at one input. -/
def diskCopiesWrong : ChangeSpec := { name := "diskCopies", fn := fun _ => fun
  | [d] => { results := [.lit (.bool false)], args := [d] }
  | _ => none }
def DiskCopiesWrongFalsely : Prop := diskCopiesRow.holds Try.pinned (OpenSpec.ofChange diskCopiesWrong)

/-- 'forkledgerlaw30.DiskPower': WHATEVER THE INPUT: true; the input reads as it did. -/
def diskPowerSpec : ChangeSpec := { name := "diskPower", fn := fun _ => fun
  | [d1, d2] => { results := [.lit (.bool true)], args := [d1, d2] }
  | _ => none }
def diskPowerRow : OpenClaim := { program := "ytfhoblchgeijkaa", sum := "78bb8f397bc132b3349fd200669f8b06859b917cdf88b76f2706bcb3d41af848", func := "forkledger/forkledgerlaw30.DiskPower", spec := "diskPower", unfollowed := true, recurses := true, apart := false }
def DiskPowerSaid : Prop := diskPowerRow.holds Try.pinned (OpenSpec.ofChange diskPowerSpec)

/-- ITS FALSE NEIGHBOUR: 'it returns false'. Refute it at one input. -/
def diskPowerWrong : ChangeSpec := { name := "diskPower", fn := fun _ => fun
  | [d1, d2] => { results := [.lit (.bool false)], args := [d1, d2] }
  | _ => none }
def DiskPowerWrongFalsely : Prop := diskPowerRow.holds Try.pinned (OpenSpec.ofChange diskPowerWrong)

/-- 'forkledgerlaw30.DiskActs': WHATEVER THE INPUT: true; the input reads as it did. -/
def diskActsSpec : ChangeSpec := { name := "diskActs", fn := fun _ => fun
  | [d] => { results := [.lit (.bool true)], args := [d] }
  | _ => none }
def diskActsRow : OpenClaim := { program := "ytfhoblchgeijkaa", sum := "78bb8f397bc132b3349fd200669f8b06859b917cdf88b76f2706bcb3d41af848", func := "forkledger/forkledgerlaw30.DiskActs", spec := "diskActs", unfollowed := true, recurses := true, apart := false }
def DiskActsSaid : Prop := diskActsRow.holds Try.pinned (OpenSpec.ofChange diskActsSpec)

/-- ITS FALSE NEIGHBOUR: 'it returns false'. Refute it at one input. -/
def diskActsWrong : ChangeSpec := { name := "diskActs", fn := fun _ => fun
  | [d] => { results := [.lit (.bool false)], args := [d] }
  | _ => none }
def DiskActsWrongFalsely : Prop := diskActsRow.holds Try.pinned (OpenSpec.ofChange diskActsWrong)

/-- 'forkledgerlaw31.JournalParse': WHATEVER THE INPUT: true; the input reads as it did. -/
def journalParseSpec : ChangeSpec := { name := "journalParse", fn := fun _ => fun
  | [d] => { results := [.lit (.bool true)], args := [d] }
  | _ => none }
def journalParseRow : OpenClaim := { program := "ytfhoblchgeijkaa", sum := "78bb8f397bc132b3349fd200669f8b06859b917cdf88b76f2706bcb3d41af848", func := "forkledger/forkledgerlaw31.JournalParse", spec := "journalParse", unfollowed := true, recurses := true, apart := false }
def JournalParseSaid : Prop := journalParseRow.holds Try.pinned (OpenSpec.ofChange journalParseSpec)

/-- ITS FALSE NEIGHBOUR: 'it returns false'. Refute it at one input. -/
def journalParseWrong : ChangeSpec := { name := "journalParse", fn := fun _ => fun
  | [d] => { results := [.lit (.bool false)], args := [d] }
  | _ => none }
def JournalParseWrongFalsely : Prop := journalParseRow.holds Try.pinned (OpenSpec.ofChange journalParseWrong)

/-- 'forkledgerlaw31.JournalActs': WHATEVER THE INPUT: true; the input reads as it did. -/
def journalActsSpec : ChangeSpec := { name := "journalActs", fn := fun _ => fun
  | [d] => { results := [.lit (.bool true)], args := [d] }
  | _ => none }
def journalActsRow : OpenClaim := { program := "ytfhoblchgeijkaa", sum := "78bb8f397bc132b3349fd200669f8b06859b917cdf88b76f2706bcb3d41af848", func := "forkledger/forkledgerlaw31.JournalActs", spec := "journalActs", unfollowed := true, recurses := true, apart := false }
def JournalActsSaid : Prop := journalActsRow.holds Try.pinned (OpenSpec.ofChange journalActsSpec)

/-- ITS FALSE NEIGHBOUR: 'it returns false'. Refute it at one input. -/
def journalActsWrong : ChangeSpec := { name := "journalActs", fn := fun _ => fun
  | [d] => { results := [.lit (.bool false)], args := [d] }
  | _ => none }
def JournalActsWrongFalsely : Prop := journalActsRow.holds Try.pinned (OpenSpec.ofChange journalActsWrong)

/-- 'forkledgerlaw31.JournalDurable': WHATEVER THE INPUT: true; the input reads as it did. -/
def journalDurableSpec : ChangeSpec := { name := "journalDurable", fn := fun _ => fun
  | [d1, d2, d3, d4] => { results := [.lit (.bool true)], args := [d1, d2, d3, d4] }
  | _ => none }
def journalDurableRow : OpenClaim := { program := "ytfhoblchgeijkaa", sum := "78bb8f397bc132b3349fd200669f8b06859b917cdf88b76f2706bcb3d41af848", func := "forkledger/forkledgerlaw31.JournalDurable", spec := "journalDurable", unfollowed := true, recurses := true, apart := false }
def JournalDurableSaid : Prop := journalDurableRow.holds Try.pinned (OpenSpec.ofChange journalDurableSpec)

/-- ITS FALSE NEIGHBOUR: 'it returns false'. Refute it at one input. -/
def journalDurableWrong : ChangeSpec := { name := "journalDurable", fn := fun _ => fun
  | [d1, d2, d3, d4] => { results := [.lit (.bool false)], args := [d1, d2, d3, d4] }
  | _ => none }
def JournalDurableWrongFalsely : Prop := journalDurableRow.holds Try.pinned (OpenSpec.ofChange journalDurableWrong)

/- THE SECOND FORM. 'bulk': how many values and letters a reading holds, each counted each time it is reached (what is shared counts as often as it is met; a slice's spare places count too). A statement '..UptoSaid' is the law's where the arguments, and the package variables that the reading takes, are together of bulk at most 1048576: NARROWER than '..Said'. Prove '..Said' where nothing that the law and all that it calls make is longer than what came in: it says more and counts as full. Else prove '..UptoSaid'. A law counts once. -/
mutual
def uptoBulk {H : Type} : DataW H → Nat
  | .lit (.string bytes) => bytes.length + 1
  | .lit _ => 1
  | .nil => 1
  | .ptr d => uptoBulk d + 1
  | .slice elems spare => uptoBulkAll elems + uptoBulkAll spare + 1
  | .agg parts => uptoBulkAll parts + 1
  | .iface _ d => uptoBulk d + 1
  | .map entries => uptoBulkEntries entries + 1
  | .held _ => 1
def uptoBulkAll {H : Type} : List (DataW H) → Nat
  | [] => 0
  | d :: r => uptoBulk d + uptoBulkAll r
def uptoBulkEntries {H : Type} : List (Lit × DataW H) → Nat
  | [] => 0
  | x :: r => uptoBulkEntry x + uptoBulkEntries r
def uptoBulkEntry {H : Type} : Lit × DataW H → Nat
  | (.string bytes, d) => bytes.length + uptoBulk d + 1
  | (_, d) => uptoBulk d + 1
 end
def uptoSmall : (H : Type) → List (DataW H) → Bool := fun _ ds => decide (uptoBulkAll ds ≤ 1048576)
def OpenSpec.upto (s : _root_.Go.ChangeSpec) : _root_.Go.OpenSpec := { _root_.Go.OpenSpec.ofChange s with cond := some uptoSmall }

/-- 'forkledgerlaw30.DiskSynced', WHERE WHAT IT READS IS OF BULK AT MOST 1048576: true; the input reads as it did. -/
def diskSyncedUptoRow : OpenClaim := { program := "ytfhoblchgeijkaa", sum := "78bb8f397bc132b3349fd200669f8b06859b917cdf88b76f2706bcb3d41af848", func := "forkledger/forkledgerlaw30.DiskSynced", spec := "diskSynced", unfollowed := true, recurses := true, apart := false, narrowed := true }
def DiskSyncedUptoSaid : Prop := diskSyncedUptoRow.holds Try.pinned (OpenSpec.upto diskSyncedSpec)

/-- 'forkledgerlaw30.DiskCopies', WHERE WHAT IT READS IS OF BULK AT MOST 1048576: true; the input reads as it did. -/
def diskCopiesUptoRow : OpenClaim := { program := "ytfhoblchgeijkaa", sum := "78bb8f397bc132b3349fd200669f8b06859b917cdf88b76f2706bcb3d41af848", func := "forkledger/forkledgerlaw30.DiskCopies", spec := "diskCopies", unfollowed := true, recurses := true, apart := false, narrowed := true }
def DiskCopiesUptoSaid : Prop := diskCopiesUptoRow.holds Try.pinned (OpenSpec.upto diskCopiesSpec)

/-- 'forkledgerlaw30.DiskPower', WHERE WHAT IT READS IS OF BULK AT MOST 1048576: true; the input reads as it did. -/
def diskPowerUptoRow : OpenClaim := { program := "ytfhoblchgeijkaa", sum := "78bb8f397bc132b3349fd200669f8b06859b917cdf88b76f2706bcb3d41af848", func := "forkledger/forkledgerlaw30.DiskPower", spec := "diskPower", unfollowed := true, recurses := true, apart := false, narrowed := true }
def DiskPowerUptoSaid : Prop := diskPowerUptoRow.holds Try.pinned (OpenSpec.upto diskPowerSpec)

/-- 'forkledgerlaw30.DiskActs', WHERE WHAT IT READS IS OF BULK AT MOST 1048576: true; the input reads as it did. -/
def diskActsUptoRow : OpenClaim := { program := "ytfhoblchgeijkaa", sum := "78bb8f397bc132b3349fd200669f8b06859b917cdf88b76f2706bcb3d41af848", func := "forkledger/forkledgerlaw30.DiskActs", spec := "diskActs", unfollowed := true, recurses := true, apart := false, narrowed := true }
def DiskActsUptoSaid : Prop := diskActsUptoRow.holds Try.pinned (OpenSpec.upto diskActsSpec)

/-- 'forkledgerlaw31.JournalParse', WHERE WHAT IT READS IS OF BULK AT MOST 1048576: true; the input reads as it did. -/
def journalParseUptoRow : OpenClaim := { program := "ytfhoblchgeijkaa", sum := "78bb8f397bc132b3349fd200669f8b06859b917cdf88b76f2706bcb3d41af848", func := "forkledger/forkledgerlaw31.JournalParse", spec := "journalParse", unfollowed := true, recurses := true, apart := false, narrowed := true }
def JournalParseUptoSaid : Prop := journalParseUptoRow.holds Try.pinned (OpenSpec.upto journalParseSpec)

/-- 'forkledgerlaw31.JournalActs', WHERE WHAT IT READS IS OF BULK AT MOST 1048576: true; the input reads as it did. -/
def journalActsUptoRow : OpenClaim := { program := "ytfhoblchgeijkaa", sum := "78bb8f397bc132b3349fd200669f8b06859b917cdf88b76f2706bcb3d41af848", func := "forkledger/forkledgerlaw31.JournalActs", spec := "journalActs", unfollowed := true, recurses := true, apart := false, narrowed := true }
def JournalActsUptoSaid : Prop := journalActsUptoRow.holds Try.pinned (OpenSpec.upto journalActsSpec)

/-- 'forkledgerlaw31.JournalDurable', WHERE WHAT IT READS IS OF BULK AT MOST 1048576: true; the input reads as it did. -/
def journalDurableUptoRow : OpenClaim := { program := "ytfhoblchgeijkaa", sum := "78bb8f397bc132b3349fd200669f8b06859b917cdf88b76f2706bcb3d41af848", func := "forkledger/forkledgerlaw31.JournalDurable", spec := "journalDurable", unfollowed := true, recurses := true, apart := false, narrowed := true }
def JournalDurableUptoSaid : Prop := journalDurableUptoRow.holds Try.pinned (OpenSpec.upto journalDurableSpec)

end Rows
end Go.Proofs.Ytfhoblchgeijkaa
