/-
  No cell of these rows narrows 'for every input' (looked for: loops, veiled, ifaces, maps, wideKeys, modest, calm, conditions, laid).
  DERIVED. THE GIVEN ROWS OF THIS SEAT. 3 by the template 'for every input the law returns true; each argument reads behind the call as it read before'; 0 by the template 'total and deterministic' (their statements: YtakjakmhecfmiaaTotals.lean).
  GIVEN WITH THE SEED: the statements are not yours to turn. If you find one false, say at which input.
  Laid BY PROGRAM, IN A SANDBOX (cutbox-rows.mjs): the forced cells as the released guide's own fill.sh prints them over the translation f031f25fa85e9f72… (all of the seat's roots in one cut). By AI agents, Wed Nov 11 2026. No macro, syntax, notation, axiom, sorry.
-/
import Derived.Test.YtakjakmhecfmiaaChecked
import GoSem.Claim
import GoSem.ClaimJoined
import GoSem.ClaimMapViews
import Derived.JoinedTies
import Derived.KernelRfl
namespace Go.Proofs.Ytakjakmhecfmiaa
/- THE CELL 'sum', in the pinned program and in every row, IS THE sha256 OF THE DUMP (.gsa) THAT YtakjakmhecfmiaaProg.lean LOADS. Nothing in Lean hashes anything: it is a label: what it is worth is what the hold of that sum in a sandbox is worth. -/
noncomputable def Try.pinned : Pinned := { name := "ytakjakmhecfmiaa", sum := "f031f25fa85e9f7233dcb3450104c9cd92b10e91be7a1b0723248be20fd8937c", checked := Try.checked }
namespace Rows
def none {H : Type} : Left H := { results := [], args := [] }

/-- 'cobweblaw17.PickOf': WHATEVER THE INPUT: true; the input reads as it did. -/
def pickOfSpec : ChangeSpec := { name := "pickOf", fn := fun _ => fun
  | [d1, d2, d3] => { results := [.lit (.bool true)], args := [d1, d2, d3] }
  | _ => none }
def pickOfRow : OpenClaim := { program := "ytakjakmhecfmiaa", sum := "f031f25fa85e9f7233dcb3450104c9cd92b10e91be7a1b0723248be20fd8937c", func := "cobweb/cobweblaw17.PickOf", spec := "pickOf", unfollowed := true, recurses := true, plainKeys := false, apart := false }
def PickOfSaid : Prop := pickOfRow.holds Try.pinned (OpenSpec.ofChange pickOfSpec)

/-- ITS FALSE NEIGHBOUR: 'it returns false'. Refute it at one input. -/
def pickOfWrong : ChangeSpec := { name := "pickOf", fn := fun _ => fun
  | [d1, d2, d3] => { results := [.lit (.bool false)], args := [d1, d2, d3] }
  | _ => none }
def PickOfWrongFalsely : Prop := pickOfRow.holds Try.pinned (OpenSpec.ofChange pickOfWrong)

/-- 'cobweblaw17.PickOrders': WHATEVER THE INPUT: true; the input reads as it did. -/
def pickOrdersSpec : ChangeSpec := { name := "pickOrders", fn := fun _ => fun
  | [d1, d2] => { results := [.lit (.bool true)], args := [d1, d2] }
  | _ => none }
def pickOrdersRow : OpenClaim := { program := "ytakjakmhecfmiaa", sum := "f031f25fa85e9f7233dcb3450104c9cd92b10e91be7a1b0723248be20fd8937c", func := "cobweb/cobweblaw17.PickOrders", spec := "pickOrders", unfollowed := true, recurses := true, plainKeys := false, apart := false }
def PickOrdersSaid : Prop := pickOrdersRow.holds Try.pinned (OpenSpec.ofChange pickOrdersSpec)

/-- ITS FALSE NEIGHBOUR: 'it returns false'. Refute it at one input. -/
def pickOrdersWrong : ChangeSpec := { name := "pickOrders", fn := fun _ => fun
  | [d1, d2] => { results := [.lit (.bool false)], args := [d1, d2] }
  | _ => none }
def PickOrdersWrongFalsely : Prop := pickOrdersRow.holds Try.pinned (OpenSpec.ofChange pickOrdersWrong)

/-- 'cobweblaw17.PickSwapped': WHATEVER THE INPUT: true; the input reads as it did. -/
def pickSwappedSpec : ChangeSpec := { name := "pickSwapped", fn := fun _ => fun
  | [d1, d2, d3] => { results := [.lit (.bool true)], args := [d1, d2, d3] }
  | _ => none }
def pickSwappedRow : OpenClaim := { program := "ytakjakmhecfmiaa", sum := "f031f25fa85e9f7233dcb3450104c9cd92b10e91be7a1b0723248be20fd8937c", func := "cobweb/cobweblaw17.PickSwapped", spec := "pickSwapped", unfollowed := true, recurses := true, plainKeys := false, apart := false }
def PickSwappedSaid : Prop := pickSwappedRow.holds Try.pinned (OpenSpec.ofChange pickSwappedSpec)

/-- ITS FALSE NEIGHBOUR: 'it returns false'. Refute it at one input. -/
def pickSwappedWrong : ChangeSpec := { name := "pickSwapped", fn := fun _ => fun
  | [d1, d2, d3] => { results := [.lit (.bool false)], args := [d1, d2, d3] }
  | _ => none }
def PickSwappedWrongFalsely : Prop := pickSwappedRow.holds Try.pinned (OpenSpec.ofChange pickSwappedWrong)

/- THE SECOND FORM. 'bulk': how many values and letters a reading holds, each counted each time it is reached (what is shared counts as often as it is met; a slice's spare places count too). A statement '..UptoSaid' is the law's where the arguments, and the package variables that the reading takes, are together of bulk at most 1048576: NARROWER than '..Said'. Prove '..Said' where nothing that the law and all that it calls make is longer than what came in: it says more and counts as full. Else prove '..UptoSaid'. A law counts once. -/
mutual
def uptoBulk {H : Type} : DataW H → Nat
  | .lit (.string bytes) => bytes.length + 1
  | .lit _ => 1
  | .nil => 1
  | .ptr d => uptoBulk d + 1
  | .slice elems spare => uptoBulkAll elems + uptoBulkAll spare + 1
  | .agg parts => uptoBulkAll parts + 1
  | .iface _ d => uptoBulk d + 1
  | .map entries => uptoBulkEntries entries + 1
  | .held _ => 1
def uptoBulkAll {H : Type} : List (DataW H) → Nat
  | [] => 0
  | d :: r => uptoBulk d + uptoBulkAll r
def uptoBulkEntries {H : Type} : List (Lit × DataW H) → Nat
  | [] => 0
  | x :: r => uptoBulkEntry x + uptoBulkEntries r
def uptoBulkEntry {H : Type} : Lit × DataW H → Nat
  | (.string bytes, d) => bytes.length + uptoBulk d + 1
  | (_, d) => uptoBulk d + 1
 end
def uptoSmall : (H : Type) → List (DataW H) → Bool := fun _ ds => decide (uptoBulkAll ds ≤ 1048576)
def OpenSpec.upto (s : _root_.Go.ChangeSpec) : _root_.Go.OpenSpec := { _root_.Go.OpenSpec.ofChange s with cond := some uptoSmall }

/-- 'cobweblaw17.PickOf', WHERE WHAT IT READS IS OF BULK AT MOST 1048576: true; the input reads as it did. -/
def pickOfUptoRow : OpenClaim := { program := "ytakjakmhecfmiaa", sum := "f031f25fa85e9f7233dcb3450104c9cd92b10e91be7a1b0723248be20fd8937c", func := "cobweb/cobweblaw17.PickOf", spec := "pickOf", unfollowed := true, recurses := true, plainKeys := false, apart := false, narrowed := true }
def PickOfUptoSaid : Prop := pickOfUptoRow.holds Try.pinned (OpenSpec.upto pickOfSpec)

/-- 'cobweblaw17.PickOrders', WHERE WHAT IT READS IS OF BULK AT MOST 1048576: true; the input reads as it did. -/
def pickOrdersUptoRow : OpenClaim := { program := "ytakjakmhecfmiaa", sum := "f031f25fa85e9f7233dcb3450104c9cd92b10e91be7a1b0723248be20fd8937c", func := "cobweb/cobweblaw17.PickOrders", spec := "pickOrders", unfollowed := true, recurses := true, plainKeys := false, apart := false, narrowed := true }
def PickOrdersUptoSaid : Prop := pickOrdersUptoRow.holds Try.pinned (OpenSpec.upto pickOrdersSpec)

/-- 'cobweblaw17.PickSwapped', WHERE WHAT IT READS IS OF BULK AT MOST 1048576: true; the input reads as it did. -/
def pickSwappedUptoRow : OpenClaim := { program := "ytakjakmhecfmiaa", sum := "f031f25fa85e9f7233dcb3450104c9cd92b10e91be7a1b0723248be20fd8937c", func := "cobweb/cobweblaw17.PickSwapped", spec := "pickSwapped", unfollowed := true, recurses := true, plainKeys := false, apart := false, narrowed := true }
def PickSwappedUptoSaid : Prop := pickSwappedUptoRow.holds Try.pinned (OpenSpec.upto pickSwappedSpec)

end Rows
end Go.Proofs.Ytakjakmhecfmiaa
