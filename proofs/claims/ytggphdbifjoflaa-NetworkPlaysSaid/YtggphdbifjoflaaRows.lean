/-
  No cell of these rows narrows 'for every input' (looked for: loops, veiled, ifaces, maps, wideKeys, modest, calm, conditions, laid).
  DERIVED. THE GIVEN ROWS OF THIS SEAT. 3 by the template 'for every input the law returns true; each argument reads behind the call as it read before'; 0 by the template 'total and deterministic' (their statements: YtggphdbifjoflaaTotals.lean).
  GIVEN WITH THE SEED: the statements are not yours to turn. If you find one false, say at which input.
  Laid BY PROGRAM, IN A SANDBOX (cutbox-rows.mjs): the forced cells as the released guide's own fill.sh prints them over the translation 46b034f1f187ef39… (all of the seat's roots in one cut). By AI agents, Wed Nov 11 2026. No macro, syntax, notation, axiom, sorry.
-/
import Derived.Test.YtggphdbifjoflaaChecked
import GoSem.Claim
import GoSem.ClaimJoined
import GoSem.ClaimMapViews
import Derived.JoinedTies
import Derived.KernelRfl
namespace Go.Proofs.Ytggphdbifjoflaa
/- THE CELL 'sum', in the pinned program and in every row, IS THE sha256 OF THE DUMP (.gsa) THAT YtggphdbifjoflaaProg.lean LOADS. Nothing in Lean hashes anything: it is a label: what it is worth is what the hold of that sum in a sandbox is worth. -/
noncomputable def Try.pinned : Pinned := { name := "ytggphdbifjoflaa", sum := "46b034f1f187ef3935ce222267a1ab239c6de50da0f57e90fd25a5350b78a86d", checked := Try.checked }
namespace Rows
def none {H : Type} : Left H := { results := [], args := [] }

/-- 'forkledgerlaw39.NetworkKeeps': WHATEVER THE INPUT: true; the input reads as it did. -/
def networkKeepsSpec : ChangeSpec := { name := "networkKeeps", fn := fun _ => fun
  | [d1, d2] => { results := [.lit (.bool true)], args := [d1, d2] }
  | _ => none }
def networkKeepsRow : OpenClaim := { program := "ytggphdbifjoflaa", sum := "46b034f1f187ef3935ce222267a1ab239c6de50da0f57e90fd25a5350b78a86d", func := "forkledger/forkledgerlaw39.NetworkKeeps", spec := "networkKeeps", unfollowed := true, recurses := true, apart := false }
def NetworkKeepsSaid : Prop := networkKeepsRow.holds Try.pinned (OpenSpec.ofChange networkKeepsSpec)

/-- ITS FALSE NEIGHBOUR: 'it returns false'. Refute it at one input. -/
def networkKeepsWrong : ChangeSpec := { name := "networkKeeps", fn := fun _ => fun
  | [d1, d2] => { results := [.lit (.bool false)], args := [d1, d2] }
  | _ => none }
def NetworkKeepsWrongFalsely : Prop := networkKeepsRow.holds Try.pinned (OpenSpec.ofChange networkKeepsWrong)

/-- 'forkledgerlaw39.NetworkPlays': WHATEVER THE INPUT: true; the input reads as it did. -/
def networkPlaysSpec : ChangeSpec := { name := "networkPlays", fn := fun _ => fun
  | [d1, d2, d3] => { results := [.lit (.bool true)], args := [d1, d2, d3] }
  | _ => none }
def networkPlaysRow : OpenClaim := { program := "ytggphdbifjoflaa", sum := "46b034f1f187ef3935ce222267a1ab239c6de50da0f57e90fd25a5350b78a86d", func := "forkledger/forkledgerlaw39.NetworkPlays", spec := "networkPlays", unfollowed := true, recurses := true, apart := false }
def NetworkPlaysSaid : Prop := networkPlaysRow.holds Try.pinned (OpenSpec.ofChange networkPlaysSpec)

/-- ITS FALSE NEIGHBOUR: 'it returns false'. Refute it at one input. -/
def networkPlaysWrong : ChangeSpec := { name := "networkPlays", fn := fun _ => fun
  | [d1, d2, d3] => { results := [.lit (.bool false)], args := [d1, d2, d3] }
  | _ => none }
def NetworkPlaysWrongFalsely : Prop := networkPlaysRow.holds Try.pinned (OpenSpec.ofChange networkPlaysWrong)

/-- 'forkledgerlaw39.NetworkNil': WHATEVER THE INPUT: true; the input reads as it did. -/
def networkNilSpec : ChangeSpec := { name := "networkNil", fn := fun _ => fun
  | [d] => { results := [.lit (.bool true)], args := [d] }
  | _ => none }
def networkNilRow : OpenClaim := { program := "ytggphdbifjoflaa", sum := "46b034f1f187ef3935ce222267a1ab239c6de50da0f57e90fd25a5350b78a86d", func := "forkledger/forkledgerlaw39.NetworkNil", spec := "networkNil", unfollowed := true, recurses := true, apart := false }
def NetworkNilSaid : Prop := networkNilRow.holds Try.pinned (OpenSpec.ofChange networkNilSpec)

/-- ITS FALSE NEIGHBOUR: 'it returns false'. Refute it at one input. -/
def networkNilWrong : ChangeSpec := { name := "networkNil", fn := fun _ => fun
  | [d] => { results := [.lit (.bool false)], args := [d] }
  | _ => none }
def NetworkNilWrongFalsely : Prop := networkNilRow.holds Try.pinned (OpenSpec.ofChange networkNilWrong)

/- THE SECOND FORM. 'bulk': how many values and letters a reading holds, each counted each time it is reached (what is shared counts as often as it is met; a slice's spare places count too). A statement '..UptoSaid' is the law's where the arguments, and the package variables that the reading takes, are together of bulk at most 1048576: NARROWER than '..Said'. Prove '..Said' where nothing that the law and all that it calls make is longer than what came in: it says more and counts as full. Else prove '..UptoSaid'. A law counts once. -/
mutual
def uptoBulk {H : Type} : DataW H → Nat
  | .lit (.string bytes) => bytes.length + 1
  | .lit _ => 1
  | .nil => 1
  | .ptr d => uptoBulk d + 1
  | .slice elems spare => uptoBulkAll elems + uptoBulkAll spare + 1
  | .agg parts => uptoBulkAll parts + 1
  | .iface _ d => uptoBulk d + 1
  | .map entries => uptoBulkEntries entries + 1
  | .held _ => 1
def uptoBulkAll {H : Type} : List (DataW H) → Nat
  | [] => 0
  | d :: r => uptoBulk d + uptoBulkAll r
def uptoBulkEntries {H : Type} : List (Lit × DataW H) → Nat
  | [] => 0
  | x :: r => uptoBulkEntry x + uptoBulkEntries r
def uptoBulkEntry {H : Type} : Lit × DataW H → Nat
  | (.string bytes, d) => bytes.length + uptoBulk d + 1
  | (_, d) => uptoBulk d + 1
 end
def uptoSmall : (H : Type) → List (DataW H) → Bool := fun _ ds => decide (uptoBulkAll ds ≤ 1048576)
def OpenSpec.upto (s : _root_.Go.ChangeSpec) : _root_.Go.OpenSpec := { _root_.Go.OpenSpec.ofChange s with cond := some uptoSmall }

/-- 'forkledgerlaw39.NetworkKeeps', WHERE WHAT IT READS IS OF BULK AT MOST 1048576: true; the input reads as it did. -/
def networkKeepsUptoRow : OpenClaim := { program := "ytggphdbifjoflaa", sum := "46b034f1f187ef3935ce222267a1ab239c6de50da0f57e90fd25a5350b78a86d", func := "forkledger/forkledgerlaw39.NetworkKeeps", spec := "networkKeeps", unfollowed := true, recurses := true, apart := false, narrowed := true }
def NetworkKeepsUptoSaid : Prop := networkKeepsUptoRow.holds Try.pinned (OpenSpec.upto networkKeepsSpec)

/-- 'forkledgerlaw39.NetworkPlays', WHERE WHAT IT READS IS OF BULK AT MOST 1048576: true; the input reads as it did. -/
def networkPlaysUptoRow : OpenClaim := { program := "ytggphdbifjoflaa", sum := "46b034f1f187ef3935ce222267a1ab239c6de50da0f57e90fd25a5350b78a86d", func := "forkledger/forkledgerlaw39.NetworkPlays", spec := "networkPlays", unfollowed := true, recurses := true, apart := false, narrowed := true }
def NetworkPlaysUptoSaid : Prop := networkPlaysUptoRow.holds Try.pinned (OpenSpec.upto networkPlaysSpec)

/-- 'forkledgerlaw39.NetworkNil', WHERE WHAT IT READS IS OF BULK AT MOST 1048576: true; the input reads as it did. -/
def networkNilUptoRow : OpenClaim := { program := "ytggphdbifjoflaa", sum := "46b034f1f187ef3935ce222267a1ab239c6de50da0f57e90fd25a5350b78a86d", func := "forkledger/forkledgerlaw39.NetworkNil", spec := "networkNil", unfollowed := true, recurses := true, apart := false, narrowed := true }
def NetworkNilUptoSaid : Prop := networkNilUptoRow.holds Try.pinned (OpenSpec.upto networkNilSpec)

end Rows
end Go.Proofs.Ytggphdbifjoflaa
