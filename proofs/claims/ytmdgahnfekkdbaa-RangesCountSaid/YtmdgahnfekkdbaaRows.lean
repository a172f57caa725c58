/-
  No cell of these rows narrows 'for every input' (looked for: loops, veiled, ifaces, maps, wideKeys, modest, calm, conditions, laid).
  DERIVED. THE GIVEN ROWS OF THIS SEAT. 5 by the template 'for every input the law returns true; each argument reads behind the call as it read before'; 0 by the template 'total and deterministic' (their statements: YtmdgahnfekkdbaaTotals.lean).
  GIVEN WITH THE SEED: the statements are not yours to turn. If you find one false, say at which input.
  Laid BY PROGRAM, IN A SANDBOX (cutbox-rows.mjs): the forced cells as the released guide's own fill.sh prints them over the translation 64f32896c6c31a90… (all of the seat's roots in one cut). By AI agents, Wed Nov 11 2026. No macro, syntax, notation, axiom, sorry.
-/
import Derived.Test.YtmdgahnfekkdbaaChecked
import GoSem.Claim
import GoSem.ClaimJoined
import GoSem.ClaimMapViews
import Derived.JoinedTies
import Derived.KernelRfl
namespace Go.Proofs.Ytmdgahnfekkdbaa
/- THE CELL 'sum', in the pinned program and in every row, IS THE sha256 OF THE DUMP (.gsa) THAT YtmdgahnfekkdbaaProg.lean LOADS. Nothing in Lean hashes anything: it is a label: what it is worth is what the hold of that sum in a sandbox is worth. -/
noncomputable def Try.pinned : Pinned := { name := "ytmdgahnfekkdbaa", sum := "64f32896c6c31a90c2798fe51039879324178c86788c34622af89a60af3208cf", checked := Try.checked }
namespace Rows
def none {H : Type} : Left H := { results := [], args := [] }

/-- 'dustmanlaw10.RangesNext': WHATEVER THE INPUT: true; the input reads as it did. -/
def rangesNextSpec : ChangeSpec := { name := "rangesNext", fn := fun _ => fun
  | [d1, d2, d3] => { results := [.lit (.bool true)], args := [d1, d2, d3] }
  | _ => none }
def rangesNextRow : OpenClaim := { program := "ytmdgahnfekkdbaa", sum := "64f32896c6c31a90c2798fe51039879324178c86788c34622af89a60af3208cf", func := "dustman/dustmanlaw10.RangesNext", spec := "rangesNext", unfollowed := true, recurses := true, apart := false }
def RangesNextSaid : Prop := rangesNextRow.holds Try.pinned (OpenSpec.ofChange rangesNextSpec)

/-- ITS FALSE NEIGHBOUR: 'it returns false'. Refute it at one input. -/
def rangesNextWrong : ChangeSpec := { name := "rangesNext", fn := fun _ => fun
  | [d1, d2, d3] => { results := [.lit (.bool false)], args := [d1, d2, d3] }
  | _ => none }
def RangesNextWrongFalsely : Prop := rangesNextRow.holds Try.pinned (OpenSpec.ofChange rangesNextWrong)

/-- 'dustmanlaw10.RangesCount': WHATEVER THE INPUT: true; the input reads as it did. -/
def rangesCountSpec : ChangeSpec := { name := "rangesCount", fn := fun _ => fun
  | [d1, d2, d3] => { results := [.lit (.bool true)], args := [d1, d2, d3] }
  | _ => none }
def rangesCountRow : OpenClaim := { program := "ytmdgahnfekkdbaa", sum := "64f32896c6c31a90c2798fe51039879324178c86788c34622af89a60af3208cf", func := "dustman/dustmanlaw10.RangesCount", spec := "rangesCount", unfollowed := true, recurses := true, apart := false }
def RangesCountSaid : Prop := rangesCountRow.holds Try.pinned (OpenSpec.ofChange rangesCountSpec)

/-- ITS FALSE NEIGHBOUR: 'it returns false'. Refute it at one input. -/
def rangesCountWrong : ChangeSpec := { name := "rangesCount", fn := fun _ => fun
  | [d1, d2, d3] => { results := [.lit (.bool false)], args := [d1, d2, d3] }
  | _ => none }
def RangesCountWrongFalsely : Prop := rangesCountRow.holds Try.pinned (OpenSpec.ofChange rangesCountWrong)

/-- 'dustmanlaw10.RangesAll': WHATEVER THE INPUT: true; the input reads as it did. -/
def rangesAllSpec : ChangeSpec := { name := "rangesAll", fn := fun _ => fun
  | [d1, d2] => { results := [.lit (.bool true)], args := [d1, d2] }
  | _ => none }
def rangesAllRow : OpenClaim := { program := "ytmdgahnfekkdbaa", sum := "64f32896c6c31a90c2798fe51039879324178c86788c34622af89a60af3208cf", func := "dustman/dustmanlaw10.RangesAll", spec := "rangesAll", unfollowed := true, recurses := true, apart := false }
def RangesAllSaid : Prop := rangesAllRow.holds Try.pinned (OpenSpec.ofChange rangesAllSpec)

/-- ITS FALSE NEIGHBOUR: 'it returns false'. Refute it at one input. -/
def rangesAllWrong : ChangeSpec := { name := "rangesAll", fn := fun _ => fun
  | [d1, d2] => { results := [.lit (.bool false)], args := [d1, d2] }
  | _ => none }
def RangesAllWrongFalsely : Prop := rangesAllRow.holds Try.pinned (OpenSpec.ofChange rangesAllWrong)

/-- 'dustmanlaw10.RangesOnce': WHATEVER THE INPUT: true; the input reads as it did. -/
def rangesOnceSpec : ChangeSpec := { name := "rangesOnce", fn := fun _ => fun
  | [d1, d2, d3] => { results := [.lit (.bool true)], args := [d1, d2, d3] }
  | _ => none }
def rangesOnceRow : OpenClaim := { program := "ytmdgahnfekkdbaa", sum := "64f32896c6c31a90c2798fe51039879324178c86788c34622af89a60af3208cf", func := "dustman/dustmanlaw10.RangesOnce", spec := "rangesOnce", unfollowed := true, recurses := true, apart := false }
def RangesOnceSaid : Prop := rangesOnceRow.holds Try.pinned (OpenSpec.ofChange rangesOnceSpec)

/-- ITS FALSE NEIGHBOUR: 'it returns false'. Refute it at one input. -/
def rangesOnceWrong : ChangeSpec := { name := "rangesOnce", fn := fun _ => fun
  | [d1, d2, d3] => { results := [.lit (.bool false)], args := [d1, d2, d3] }
  | _ => none }
def RangesOnceWrongFalsely : Prop := rangesOnceRow.holds Try.pinned (OpenSpec.ofChange rangesOnceWrong)

/-- 'dustmanlaw10.RangesJoin': WHATEVER THE INPUT: true; the input reads as it did. -/
def rangesJoinSpec : ChangeSpec := { name := "rangesJoin", fn := fun _ => fun
  | [d1, d2, d3, d4] => { results := [.lit (.bool true)], args := [d1, d2, d3, d4] }
  | _ => none }
def rangesJoinRow : OpenClaim := { program := "ytmdgahnfekkdbaa", sum := "64f32896c6c31a90c2798fe51039879324178c86788c34622af89a60af3208cf", func := "dustman/dustmanlaw10.RangesJoin", spec := "rangesJoin", unfollowed := true, recurses := true, apart := false }
def RangesJoinSaid : Prop := rangesJoinRow.holds Try.pinned (OpenSpec.ofChange rangesJoinSpec)

/-- ITS FALSE NEIGHBOUR: 'it returns false'. Refute it at one input. -/
def rangesJoinWrong : ChangeSpec := { name := "rangesJoin", fn := fun _ => fun
  | [d1, d2, d3, d4] => { results := [.lit (.bool false)], args := [d1, d2, d3, d4] }
  | _ => none }
def RangesJoinWrongFalsely : Prop := rangesJoinRow.holds Try.pinned (OpenSpec.ofChange rangesJoinWrong)

/- THE SECOND FORM. 'bulk': how many values and letters a reading holds, each counted each time it is reached (what is shared counts as often as it is met; a slice's spare places count too). A statement '..UptoSaid' is the law's where the arguments, and the package variables that the reading takes, are together of bulk at most 1048576: NARROWER than '..Said'. Prove '..Said' where nothing that the law and all that it calls make is longer than what came in: it says more and counts as full. Else prove '..UptoSaid'. A law counts once. -/
mutual
def uptoBulk {H : Type} : DataW H → Nat
  | .lit (.string bytes) => bytes.length + 1
  | .lit _ => 1
  | .nil => 1
  | .ptr d => uptoBulk d + 1
  | .slice elems spare => uptoBulkAll elems + uptoBulkAll spare + 1
  | .agg parts => uptoBulkAll parts + 1
  | .iface _ d => uptoBulk d + 1
  | .map entries => uptoBulkEntries entries + 1
  | .held _ => 1
def uptoBulkAll {H : Type} : List (DataW H) → Nat
  | [] => 0
  | d :: r => uptoBulk d + uptoBulkAll r
def uptoBulkEntries {H : Type} : List (Lit × DataW H) → Nat
  | [] => 0
  | x :: r => uptoBulkEntry x + uptoBulkEntries r
def uptoBulkEntry {H : Type} : Lit × DataW H → Nat
  | (.string bytes, d) => bytes.length + uptoBulk d + 1
  | (_, d) => uptoBulk d + 1
 end
def uptoSmall : (H : Type) → List (DataW H) → Bool := fun _ ds => decide (uptoBulkAll ds ≤ 1048576)
def OpenSpec.upto (s : _root_.Go.ChangeSpec) : _root_.Go.OpenSpec := { _root_.Go.OpenSpec.ofChange s with cond := some uptoSmall }

/-- 'dustmanlaw10.RangesNext', WHERE WHAT IT READS IS OF BULK AT MOST 1048576: true; the input reads as it did. -/
def rangesNextUptoRow : OpenClaim := { program := "ytmdgahnfekkdbaa", sum := "64f32896c6c31a90c2798fe51039879324178c86788c34622af89a60af3208cf", func := "dustman/dustmanlaw10.RangesNext", spec := "rangesNext", unfollowed := true, recurses := true, apart := false, narrowed := true }
def RangesNextUptoSaid : Prop := rangesNextUptoRow.holds Try.pinned (OpenSpec.upto rangesNextSpec)

/-- 'dustmanlaw10.RangesCount', WHERE WHAT IT READS IS OF BULK AT MOST 1048576: true; the input reads as it did. -/
def rangesCountUptoRow : OpenClaim := { program := "ytmdgahnfekkdbaa", sum := "64f32896c6c31a90c2798fe51039879324178c86788c34622af89a60af3208cf", func := "dustman/dustmanlaw10.RangesCount", spec := "rangesCount", unfollowed := true, recurses := true, apart := false, narrowed := true }
def RangesCountUptoSaid : Prop := rangesCountUptoRow.holds Try.pinned (OpenSpec.upto rangesCountSpec)

/-- 'dustmanlaw10.RangesAll', WHERE WHAT IT READS IS OF BULK AT MOST 1048576: true; the input reads as it did. -/
def rangesAllUptoRow : OpenClaim := { program := "ytmdgahnfekkdbaa", sum := "64f32896c6c31a90c2798fe51039879324178c86788c34622af89a60af3208cf", func := "dustman/dustmanlaw10.RangesAll", spec := "rangesAll", unfollowed := true, recurses := true, apart := false, narrowed := true }
def RangesAllUptoSaid : Prop := rangesAllUptoRow.holds Try.pinned (OpenSpec.upto rangesAllSpec)

/-- 'dustmanlaw10.RangesOnce', WHERE WHAT IT READS IS OF BULK AT MOST 1048576: true; the input reads as it did. -/
def rangesOnceUptoRow : OpenClaim := { program := "ytmdgahnfekkdbaa", sum := "64f32896c6c31a90c2798fe51039879324178c86788c34622af89a60af3208cf", func := "dustman/dustmanlaw10.RangesOnce", spec := "rangesOnce", unfollowed := true, recurses := true, apart := false, narrowed := true }
def RangesOnceUptoSaid : Prop := rangesOnceUptoRow.holds Try.pinned (OpenSpec.upto rangesOnceSpec)

/-- 'dustmanlaw10.RangesJoin', WHERE WHAT IT READS IS OF BULK AT MOST 1048576: true; the input reads as it did. -/
def rangesJoinUptoRow : OpenClaim := { program := "ytmdgahnfekkdbaa", sum := "64f32896c6c31a90c2798fe51039879324178c86788c34622af89a60af3208cf", func := "dustman/dustmanlaw10.RangesJoin", spec := "rangesJoin", unfollowed := true, recurses := true, apart := false, narrowed := true }
def RangesJoinUptoSaid : Prop := rangesJoinUptoRow.holds Try.pinned (OpenSpec.upto rangesJoinSpec)

end Rows
end Go.Proofs.Ytmdgahnfekkdbaa
