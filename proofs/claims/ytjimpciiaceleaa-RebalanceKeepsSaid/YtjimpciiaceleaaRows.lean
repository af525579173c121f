/-
  No cell of these rows narrows 'for every input' (looked for: loops, veiled, ifaces, maps, wideKeys, modest, calm, conditions, laid).
  DERIVED. THE GIVEN ROWS OF THIS SEAT. 2 by the template 'for every input the law returns true; each argument reads behind the call as it read before'; 0 by the template 'total and deterministic' (their statements: YtjimpciiaceleaaTotals.lean).
  GIVEN WITH THE SEED: the statements are not yours to turn. If you find one false, say at which input.
  Laid BY PROGRAM, IN A SANDBOX (cutbox-rows.mjs): the forced cells as the released guide's own fill.sh prints them over the translation 695b8f56cee3fc9c… (all of the seat's roots in one cut). By AI agents, Wed Nov 11 2026. No macro, syntax, notation, axiom, sorry.
-/
import Derived.Test.YtjimpciiaceleaaChecked
import GoSem.Claim
import GoSem.ClaimJoined
import GoSem.ClaimMapViews
import Derived.JoinedTies
import Derived.KernelRfl
namespace Go.Proofs.Ytjimpciiaceleaa
/- THE CELL 'sum', in the pinned program and in every row, IS THE sha256 OF THE DUMP (.gsa) THAT YtjimpciiaceleaaProg.lean LOADS. Nothing in Lean hashes anything: it is a label: what it is worth is what the hold of that sum in a sandbox is worth. -/
noncomputable def Try.pinned : Pinned := { name := "ytjimpciiaceleaa", sum := "695b8f56cee3fc9c05d1cfcc7d0e116af0e0c41e37e62a08bf632b16ac3a42dc", checked := Try.checked }
namespace Rows
def none {H : Type} : Left H := { results := [], args := [] }

/-- 'tollhouselaw08.PathSound': WHATEVER THE INPUT: true; the input reads as it did. -/
def pathSoundSpec : ChangeSpec := { name := "pathSound", fn := fun _ => fun
  | [d1, d2, d3, d4] => { results := [.lit (.bool true)], args := [d1, d2, d3, d4] }
  | _ => none }
def pathSoundRow : OpenClaim := { program := "ytjimpciiaceleaa", sum := "695b8f56cee3fc9c05d1cfcc7d0e116af0e0c41e37e62a08bf632b16ac3a42dc", func := "tollhouse/tollhouselaw08.PathSound", spec := "pathSound", inPlace := ["math/bits.Add64"], unfollowed := true, recurses := true, named := ["math/bits.divideError", "math/bits.overflowError"], apart := false }
def PathSoundSaid : Prop := pathSoundRow.holds Try.pinned (OpenSpec.ofChange pathSoundSpec)

/-- ITS FALSE NEIGHBOUR: 'it returns false'. Refute it at one input. -/
def pathSoundWrong : ChangeSpec := { name := "pathSound", fn := fun _ => fun
  | [d1, d2, d3, d4] => { results := [.lit (.bool false)], args := [d1, d2, d3, d4] }
  | _ => none }
def PathSoundWrongFalsely : Prop := pathSoundRow.holds Try.pinned (OpenSpec.ofChange pathSoundWrong)

/-- 'tollhouselaw28.RebalanceKeeps': WHATEVER THE INPUT: true; the input reads as it did. -/
def rebalanceKeepsSpec : ChangeSpec := { name := "rebalanceKeeps", fn := fun _ => fun
  | [d1, d2, d3, d4, d5] => { results := [.lit (.bool true)], args := [d1, d2, d3, d4, d5] }
  | _ => none }
def rebalanceKeepsRow : OpenClaim := { program := "ytjimpciiaceleaa", sum := "695b8f56cee3fc9c05d1cfcc7d0e116af0e0c41e37e62a08bf632b16ac3a42dc", func := "tollhouse/tollhouselaw28.RebalanceKeeps", spec := "rebalanceKeeps", inPlace := ["math/bits.Add64"], unfollowed := true, recurses := true, named := ["math/bits.divideError", "math/bits.overflowError"], apart := false }
def RebalanceKeepsSaid : Prop := rebalanceKeepsRow.holds Try.pinned (OpenSpec.ofChange rebalanceKeepsSpec)

/-- ITS FALSE NEIGHBOUR: 'it returns false'. Refute it at one input. -/
def rebalanceKeepsWrong : ChangeSpec := { name := "rebalanceKeeps", fn := fun _ => fun
  | [d1, d2, d3, d4, d5] => { results := [.lit (.bool false)], args := [d1, d2, d3, d4, d5] }
  | _ => none }
def RebalanceKeepsWrongFalsely : Prop := rebalanceKeepsRow.holds Try.pinned (OpenSpec.ofChange rebalanceKeepsWrong)

/- THE SECOND FORM. 'bulk': how many values and letters a reading holds, each counted each time it is reached (what is shared counts as often as it is met; a slice's spare places count too). A statement '..UptoSaid' is the law's where the arguments, and the package variables that the reading takes, are together of bulk at most 1048576: NARROWER than '..Said'. Prove '..Said' where nothing that the law and all that it calls make is longer than what came in: it says more and counts as full. Else prove '..UptoSaid'. A law counts once. -/
mutual
def uptoBulk {H : Type} : DataW H → Nat
  | .lit (.string bytes) => bytes.length + 1
  | .lit _ => 1
  | .nil => 1
  | .ptr d => uptoBulk d + 1
  | .slice elems spare => uptoBulkAll elems + uptoBulkAll spare + 1
  | .agg parts => uptoBulkAll parts + 1
  | .iface _ d => uptoBulk d + 1
  | .map entries => uptoBulkEntries entries + 1
  | .held _ => 1
def uptoBulkAll {H : Type} : List (DataW H) → Nat
  | [] => 0
  | d :: r => uptoBulk d + uptoBulkAll r
def uptoBulkEntries {H : Type} : List (Lit × DataW H) → Nat
  | [] => 0
  | x :: r => uptoBulkEntry x + uptoBulkEntries r
def uptoBulkEntry {H : Type} : Lit × DataW H → Nat
  | (.string bytes, d) => bytes.length + uptoBulk d + 1
  | (_, d) => uptoBulk d + 1
 end
def uptoSmall : (H : Type) → List (DataW H) → Bool := fun _ ds => decide (uptoBulkAll ds ≤ 1048576)
def OpenSpec.upto (s : _root_.Go.ChangeSpec) : _root_.Go.OpenSpec := { _root_.Go.OpenSpec.ofChange s with cond := some uptoSmall }

/-- 'tollhouselaw08.PathSound', WHERE WHAT IT READS IS OF BULK AT MOST 1048576: true; the input reads as it did. -/
def pathSoundUptoRow : OpenClaim := { program := "ytjimpciiaceleaa", sum := "695b8f56cee3fc9c05d1cfcc7d0e116af0e0c41e37e62a08bf632b16ac3a42dc", func := "tollhouse/tollhouselaw08.PathSound", spec := "pathSound", inPlace := ["math/bits.Add64"], unfollowed := true, recurses := true, named := ["math/bits.divideError", "math/bits.overflowError"], apart := false, narrowed := true }
def PathSoundUptoSaid : Prop := pathSoundUptoRow.holds Try.pinned (OpenSpec.upto pathSoundSpec)

/-- 'tollhouselaw28.RebalanceKeeps', WHERE WHAT IT READS IS OF BULK AT MOST 1048576: true; the input reads as it did. -/
def rebalanceKeepsUptoRow : OpenClaim := { program := "ytjimpciiaceleaa", sum := "695b8f56cee3fc9c05d1cfcc7d0e116af0e0c41e37e62a08bf632b16ac3a42dc", func := "tollhouse/tollhouselaw28.RebalanceKeeps", spec := "rebalanceKeeps", inPlace := ["math/bits.Add64"], unfollowed := true, recurses := true, named := ["math/bits.divideError", "math/bits.overflowError"], apart := false, narrowed := true }
def RebalanceKeepsUptoSaid : Prop := rebalanceKeepsUptoRow.holds Try.pinned (OpenSpec.upto rebalanceKeepsSpec)

end Rows
end Go.Proofs.Ytjimpciiaceleaa
