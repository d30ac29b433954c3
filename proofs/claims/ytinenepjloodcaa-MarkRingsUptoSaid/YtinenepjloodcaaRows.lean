/-
  No cell of these rows narrows 'for every input' (looked for: loops, veiled, ifaces, maps, wideKeys, modest, calm, conditions, laid).
  DERIVED. THE GIVEN ROWS OF THIS SEAT. 4 by the template 'for every input the law returns true; each argument reads behind the call as it read before'; 0 by the template 'total and deterministic' (their statements: YtinenepjloodcaaTotals.lean).
  GIVEN WITH THE SEED: the statements are not yours to turn. If you find one false, say at which input.
  Laid BY PROGRAM, IN A SANDBOX (cutbox-rows.mjs): the forced cells as the released guide's own fill.sh prints them over the translation 79b448429d27aade… (all of the seat's roots in one cut). By AI agents, Wed Nov 11 2026. No macro, syntax, notation, axiom, sorry.
-/
import Derived.Test.YtinenepjloodcaaChecked
import GoSem.Claim
import GoSem.ClaimJoined
import GoSem.ClaimMapViews
import Derived.JoinedTies
import Derived.KernelRfl
namespace Go.Proofs.Ytinenepjloodcaa
/- THE CELL 'sum', in the pinned program and in every row, IS THE sha256 OF THE DUMP (.gsa) THAT YtinenepjloodcaaProg.lean LOADS. Nothing in Lean hashes anything: it is a label: what it is worth is what the hold of that sum in a sandbox is worth. -/
noncomputable def Try.pinned : Pinned := { name := "ytinenepjloodcaa", sum := "79b448429d27aadee2e24ed9ed7b9bebc6e28c24900fab865638ff5586097fef", checked := Try.checked }
namespace Rows
def none {H : Type} : Left H := { results := [], args := [] }

/-- 'cobweblaw16.MarkOf': WHATEVER THE INPUT: true; the input reads as it did. -/
def markOfSpec : ChangeSpec := { name := "markOf", fn := fun _ => fun
  | [d] => { results := [.lit (.bool true)], args := [d] }
  | _ => none }
def markOfRow : OpenClaim := { program := "ytinenepjloodcaa", sum := "79b448429d27aadee2e24ed9ed7b9bebc6e28c24900fab865638ff5586097fef", func := "cobweb/cobweblaw16.MarkOf", spec := "markOf", unfollowed := true, recurses := true, apart := false }
def MarkOfSaid : Prop := markOfRow.holds Try.pinned (OpenSpec.ofChange markOfSpec)

/-- ITS FALSE NEIGHBOUR: 'it returns false'. Refute it at one input. -/
def markOfWrong : ChangeSpec := { name := "markOf", fn := fun _ => fun
  | [d] => { results := [.lit (.bool false)], args := [d] }
  | _ => none }
def MarkOfWrongFalsely : Prop := markOfRow.holds Try.pinned (OpenSpec.ofChange markOfWrong)

/-- 'cobweblaw16.MarkWinds': WHATEVER THE INPUT: true; the input reads as it did. -/
def markWindsSpec : ChangeSpec := { name := "markWinds", fn := fun _ => fun
  | [d1, d2, d3] => { results := [.lit (.bool true)], args := [d1, d2, d3] }
  | _ => none }
def markWindsRow : OpenClaim := { program := "ytinenepjloodcaa", sum := "79b448429d27aadee2e24ed9ed7b9bebc6e28c24900fab865638ff5586097fef", func := "cobweb/cobweblaw16.MarkWinds", spec := "markWinds", unfollowed := true, recurses := true, apart := false }
def MarkWindsSaid : Prop := markWindsRow.holds Try.pinned (OpenSpec.ofChange markWindsSpec)

/-- ITS FALSE NEIGHBOUR: 'it returns false'. Refute it at one input. -/
def markWindsWrong : ChangeSpec := { name := "markWinds", fn := fun _ => fun
  | [d1, d2, d3] => { results := [.lit (.bool false)], args := [d1, d2, d3] }
  | _ => none }
def MarkWindsWrongFalsely : Prop := markWindsRow.holds Try.pinned (OpenSpec.ofChange markWindsWrong)

/-- 'cobweblaw16.MarkRings': WHATEVER THE INPUT: true; the input reads as it did. -/
def markRingsSpec : ChangeSpec := { name := "markRings", fn := fun _ => fun
  | [d1, d2, d3] => { results := [.lit (.bool true)], args := [d1, d2, d3] }
  | _ => none }
def markRingsRow : OpenClaim := { program := "ytinenepjloodcaa", sum := "79b448429d27aadee2e24ed9ed7b9bebc6e28c24900fab865638ff5586097fef", func := "cobweb/cobweblaw16.MarkRings", spec := "markRings", unfollowed := true, recurses := true, apart := false }
def MarkRingsSaid : Prop := markRingsRow.holds Try.pinned (OpenSpec.ofChange markRingsSpec)

/-- ITS FALSE NEIGHBOUR: 'it returns false'. Refute it at one input. -/
def markRingsWrong : ChangeSpec := { name := "markRings", fn := fun _ => fun
  | [d1, d2, d3] => { results := [.lit (.bool false)], args := [d1, d2, d3] }
  | _ => none }
def MarkRingsWrongFalsely : Prop := markRingsRow.holds Try.pinned (OpenSpec.ofChange markRingsWrong)

/-- 'cobweblaw16.MarkTurned': WHATEVER THE INPUT: true; the input reads as it did. -/
def markTurnedSpec : ChangeSpec := { name := "markTurned", fn := fun _ => fun
  | [d1, d2, d3] => { results := [.lit (.bool true)], args := [d1, d2, d3] }
  | _ => none }
def markTurnedRow : OpenClaim := { program := "ytinenepjloodcaa", sum := "79b448429d27aadee2e24ed9ed7b9bebc6e28c24900fab865638ff5586097fef", func := "cobweb/cobweblaw16.MarkTurned", spec := "markTurned", unfollowed := true, recurses := true, apart := false }
def MarkTurnedSaid : Prop := markTurnedRow.holds Try.pinned (OpenSpec.ofChange markTurnedSpec)

/-- ITS FALSE NEIGHBOUR: 'it returns false'. Refute it at one input. -/
def markTurnedWrong : ChangeSpec := { name := "markTurned", fn := fun _ => fun
  | [d1, d2, d3] => { results := [.lit (.bool false)], args := [d1, d2, d3] }
  | _ => none }
def MarkTurnedWrongFalsely : Prop := markTurnedRow.holds Try.pinned (OpenSpec.ofChange markTurnedWrong)

/- THE SECOND FORM. 'bulk': how many values and letters a reading holds, each counted each time it is reached (what is shared counts as often as it is met; a slice's spare places count too). A statement '..UptoSaid' is the law's where the arguments, and the package variables that the reading takes, are together of bulk at most 1048576: NARROWER than '..Said'. Prove '..Said' where nothing that the law and all that it calls make is longer than what came in: it says more and counts as full. Else prove '..UptoSaid'. A law counts once. -/
mutual
def uptoBulk {H : Type} : DataW H → Nat
  | .lit (.string bytes) => bytes.length + 1
  | .lit _ => 1
  | .nil => 1
  | .ptr d => uptoBulk d + 1
  | .slice elems spare => uptoBulkAll elems + uptoBulkAll spare + 1
  | .agg parts => uptoBulkAll parts + 1
  | .iface _ d => uptoBulk d + 1
  | .map entries => uptoBulkEntries entries + 1
  | .held _ => 1
def uptoBulkAll {H : Type} : List (DataW H) → Nat
  | [] => 0
  | d :: r => uptoBulk d + uptoBulkAll r
def uptoBulkEntries {H : Type} : List (Lit × DataW H) → Nat
  | [] => 0
  | x :: r => uptoBulkEntry x + uptoBulkEntries r
def uptoBulkEntry {H : Type} : Lit × DataW H → Nat
  | (.string bytes, d) => bytes.length + uptoBulk d + 1
  | (_, d) => uptoBulk d + 1
 end
def uptoSmall : (H : Type) → List (DataW H) → Bool := fun _ ds => decide (uptoBulkAll ds ≤ 1048576)
def OpenSpec.upto (s : _root_.Go.ChangeSpec) : _root_.Go.OpenSpec := { _root_.Go.OpenSpec.ofChange s with cond := some uptoSmall }

/-- 'cobweblaw16.MarkOf', WHERE WHAT IT READS IS OF BULK AT MOST 1048576: true; the input reads as it did. -/
def markOfUptoRow : OpenClaim := { program := "ytinenepjloodcaa", sum := "79b448429d27aadee2e24ed9ed7b9bebc6e28c24900fab865638ff5586097fef", func := "cobweb/cobweblaw16.MarkOf", spec := "markOf", unfollowed := true, recurses := true, apart := false, narrowed := true }
def MarkOfUptoSaid : Prop := markOfUptoRow.holds Try.pinned (OpenSpec.upto markOfSpec)

/-- 'cobweblaw16.MarkWinds', WHERE WHAT IT READS IS OF BULK AT MOST 1048576: true; the input reads as it did. -/
def markWindsUptoRow : OpenClaim := { program := "ytinenepjloodcaa", sum := "79b448429d27aadee2e24ed9ed7b9bebc6e28c24900fab865638ff5586097fef", func := "cobweb/cobweblaw16.MarkWinds", spec := "markWinds", unfollowed := true, recurses := true, apart := false, narrowed := true }
def MarkWindsUptoSaid : Prop := markWindsUptoRow.holds Try.pinned (OpenSpec.upto markWindsSpec)

/-- 'cobweblaw16.MarkRings', WHERE WHAT IT READS IS OF BULK AT MOST 1048576: true; the input reads as it did. -/
def markRingsUptoRow : OpenClaim := { program := "ytinenepjloodcaa", sum := "79b448429d27aadee2e24ed9ed7b9bebc6e28c24900fab865638ff5586097fef", func := "cobweb/cobweblaw16.MarkRings", spec := "markRings", unfollowed := true, recurses := true, apart := false, narrowed := true }
def MarkRingsUptoSaid : Prop := markRingsUptoRow.holds Try.pinned (OpenSpec.upto markRingsSpec)

/-- 'cobweblaw16.MarkTurned', WHERE WHAT IT READS IS OF BULK AT MOST 1048576: true; the input reads as it did. -/
def markTurnedUptoRow : OpenClaim := { program := "ytinenepjloodcaa", sum := "79b448429d27aadee2e24ed9ed7b9bebc6e28c24900fab865638ff5586097fef", func := "cobweb/cobweblaw16.MarkTurned", spec := "markTurned", unfollowed := true, recurses := true, apart := false, narrowed := true }
def MarkTurnedUptoSaid : Prop := markTurnedUptoRow.holds Try.pinned (OpenSpec.upto markTurnedSpec)

end Rows
end Go.Proofs.Ytinenepjloodcaa
