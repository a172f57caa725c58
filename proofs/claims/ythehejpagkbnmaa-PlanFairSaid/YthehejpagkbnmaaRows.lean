/-
  No cell of these rows narrows 'for every input' (looked for: loops, veiled, ifaces, maps, wideKeys, modest, calm, conditions, laid).
  DERIVED. THE GIVEN ROWS OF THIS SEAT. 6 by the template 'for every input the law returns true; each argument reads behind the call as it read before'; 0 by the template 'total and deterministic' (their statements: YthehejpagkbnmaaTotals.lean).
  GIVEN WITH THE SEED: the statements are not yours to turn. If you find one false, say at which input.
  Laid BY PROGRAM, IN A SANDBOX (cutbox-rows.mjs): the forced cells as the released guide's own fill.sh prints them over the translation 3957de6f075566d9… (all of the seat's roots in one cut). By AI agents, Wed Nov 11 2026. No macro, syntax, notation, axiom, sorry.
-/
import Derived.Test.YthehejpagkbnmaaChecked
import GoSem.Claim
import GoSem.ClaimJoined
import GoSem.ClaimMapViews
import Derived.JoinedTies
import Derived.KernelRfl
namespace Go.Proofs.Ythehejpagkbnmaa
/- THE CELL 'sum', in the pinned program and in every row, IS THE sha256 OF THE DUMP (.gsa) THAT YthehejpagkbnmaaProg.lean LOADS. Nothing in Lean hashes anything: it is a label: what it is worth is what the hold of that sum in a sandbox is worth. -/
noncomputable def Try.pinned : Pinned := { name := "ythehejpagkbnmaa", sum := "3957de6f075566d9c78ab24a7d68462bd8044903d64602c8ec0c193308b2a7f7", checked := Try.checked }
namespace Rows
def none {H : Type} : Left H := { results := [], args := [] }

/-- 'dustmanlaw03.PlanOrder': WHATEVER THE INPUT: true; the input reads as it did. -/
def planOrderSpec : ChangeSpec := { name := "planOrder", fn := fun _ => fun
  | [d1, d2] => { results := [.lit (.bool true)], args := [d1, d2] }
  | _ => none }
def planOrderRow : OpenClaim := { program := "ythehejpagkbnmaa", sum := "3957de6f075566d9c78ab24a7d68462bd8044903d64602c8ec0c193308b2a7f7", func := "dustman/dustmanlaw03.PlanOrder", spec := "planOrder", unfollowed := true, recurses := true, apart := false }
def PlanOrderSaid : Prop := planOrderRow.holds Try.pinned (OpenSpec.ofChange planOrderSpec)

/-- ITS FALSE NEIGHBOUR: 'it returns false'. Refute it at one input. -/
def planOrderWrong : ChangeSpec := { name := "planOrder", fn := fun _ => fun
  | [d1, d2] => { results := [.lit (.bool false)], args := [d1, d2] }
  | _ => none }
def PlanOrderWrongFalsely : Prop := planOrderRow.holds Try.pinned (OpenSpec.ofChange planOrderWrong)

/-- 'dustmanlaw03.PlanWindows': WHATEVER THE INPUT: true; the input reads as it did. -/
def planWindowsSpec : ChangeSpec := { name := "planWindows", fn := fun _ => fun
  | [d1, d2, d3, d4] => { results := [.lit (.bool true)], args := [d1, d2, d3, d4] }
  | _ => none }
def planWindowsRow : OpenClaim := { program := "ythehejpagkbnmaa", sum := "3957de6f075566d9c78ab24a7d68462bd8044903d64602c8ec0c193308b2a7f7", func := "dustman/dustmanlaw03.PlanWindows", spec := "planWindows", unfollowed := true, recurses := true, apart := false }
def PlanWindowsSaid : Prop := planWindowsRow.holds Try.pinned (OpenSpec.ofChange planWindowsSpec)

/-- ITS FALSE NEIGHBOUR: 'it returns false'. Refute it at one input. -/
def planWindowsWrong : ChangeSpec := { name := "planWindows", fn := fun _ => fun
  | [d1, d2, d3, d4] => { results := [.lit (.bool false)], args := [d1, d2, d3, d4] }
  | _ => none }
def PlanWindowsWrongFalsely : Prop := planWindowsRow.holds Try.pinned (OpenSpec.ofChange planWindowsWrong)

/-- 'dustmanlaw03.PlanFair': WHATEVER THE INPUT: true; the input reads as it did. -/
def planFairSpec : ChangeSpec := { name := "planFair", fn := fun _ => fun
  | [d1, d2] => { results := [.lit (.bool true)], args := [d1, d2] }
  | _ => none }
def planFairRow : OpenClaim := { program := "ythehejpagkbnmaa", sum := "3957de6f075566d9c78ab24a7d68462bd8044903d64602c8ec0c193308b2a7f7", func := "dustman/dustmanlaw03.PlanFair", spec := "planFair", unfollowed := true, recurses := true, apart := false }
def PlanFairSaid : Prop := planFairRow.holds Try.pinned (OpenSpec.ofChange planFairSpec)

/-- ITS FALSE NEIGHBOUR: 'it returns false'. Refute it at one input. -/
def planFairWrong : ChangeSpec := { name := "planFair", fn := fun _ => fun
  | [d1, d2] => { results := [.lit (.bool false)], args := [d1, d2] }
  | _ => none }
def PlanFairWrongFalsely : Prop := planFairRow.holds Try.pinned (OpenSpec.ofChange planFairWrong)

/-- 'dustmanlaw03.PlanFront': WHATEVER THE INPUT: true; the input reads as it did. -/
def planFrontSpec : ChangeSpec := { name := "planFront", fn := fun _ => fun
  | [d1, d2, d3] => { results := [.lit (.bool true)], args := [d1, d2, d3] }
  | _ => none }
def planFrontRow : OpenClaim := { program := "ythehejpagkbnmaa", sum := "3957de6f075566d9c78ab24a7d68462bd8044903d64602c8ec0c193308b2a7f7", func := "dustman/dustmanlaw03.PlanFront", spec := "planFront", unfollowed := true, recurses := true, apart := false }
def PlanFrontSaid : Prop := planFrontRow.holds Try.pinned (OpenSpec.ofChange planFrontSpec)

/-- ITS FALSE NEIGHBOUR: 'it returns false'. Refute it at one input. -/
def planFrontWrong : ChangeSpec := { name := "planFront", fn := fun _ => fun
  | [d1, d2, d3] => { results := [.lit (.bool false)], args := [d1, d2, d3] }
  | _ => none }
def PlanFrontWrongFalsely : Prop := planFrontRow.holds Try.pinned (OpenSpec.ofChange planFrontWrong)

/-- 'dustmanlaw03.PlanGap': WHATEVER THE INPUT: true; the input reads as it did. -/
def planGapSpec : ChangeSpec := { name := "planGap", fn := fun _ => fun
  | [d1, d2] => { results := [.lit (.bool true)], args := [d1, d2] }
  | _ => none }
def planGapRow : OpenClaim := { program := "ythehejpagkbnmaa", sum := "3957de6f075566d9c78ab24a7d68462bd8044903d64602c8ec0c193308b2a7f7", func := "dustman/dustmanlaw03.PlanGap", spec := "planGap", unfollowed := true, recurses := true, apart := false }
def PlanGapSaid : Prop := planGapRow.holds Try.pinned (OpenSpec.ofChange planGapSpec)

/-- ITS FALSE NEIGHBOUR: 'it returns false'. Refute it at one input. -/
def planGapWrong : ChangeSpec := { name := "planGap", fn := fun _ => fun
  | [d1, d2] => { results := [.lit (.bool false)], args := [d1, d2] }
  | _ => none }
def PlanGapWrongFalsely : Prop := planGapRow.holds Try.pinned (OpenSpec.ofChange planGapWrong)

/-- 'dustmanlaw03.PlanParts': WHATEVER THE INPUT: true; the input reads as it did. -/
def planPartsSpec : ChangeSpec := { name := "planParts", fn := fun _ => fun
  | [d1, d2, d3, d4, d5] => { results := [.lit (.bool true)], args := [d1, d2, d3, d4, d5] }
  | _ => none }
def planPartsRow : OpenClaim := { program := "ythehejpagkbnmaa", sum := "3957de6f075566d9c78ab24a7d68462bd8044903d64602c8ec0c193308b2a7f7", func := "dustman/dustmanlaw03.PlanParts", spec := "planParts", unfollowed := true, recurses := true, apart := false }
def PlanPartsSaid : Prop := planPartsRow.holds Try.pinned (OpenSpec.ofChange planPartsSpec)

/-- ITS FALSE NEIGHBOUR: 'it returns false'. Refute it at one input. -/
def planPartsWrong : ChangeSpec := { name := "planParts", fn := fun _ => fun
  | [d1, d2, d3, d4, d5] => { results := [.lit (.bool false)], args := [d1, d2, d3, d4, d5] }
  | _ => none }
def PlanPartsWrongFalsely : Prop := planPartsRow.holds Try.pinned (OpenSpec.ofChange planPartsWrong)

/- THE SECOND FORM. 'bulk': how many values and letters a reading holds, each counted each time it is reached (what is shared counts as often as it is met; a slice's spare places count too). A statement '..UptoSaid' is the law's where the arguments, and the package variables that the reading takes, are together of bulk at most 1048576: NARROWER than '..Said'. Prove '..Said' where nothing that the law and all that it calls make is longer than what came in: it says more and counts as full. Else prove '..UptoSaid'. A law counts once. -/
mutual
def uptoBulk {H : Type} : DataW H → Nat
  | .lit (.string bytes) => bytes.length + 1
  | .lit _ => 1
  | .nil => 1
  | .ptr d => uptoBulk d + 1
  | .slice elems spare => uptoBulkAll elems + uptoBulkAll spare + 1
  | .agg parts => uptoBulkAll parts + 1
  | .iface _ d => uptoBulk d + 1
  | .map entries => uptoBulkEntries entries + 1
  | .held _ => 1
def uptoBulkAll {H : Type} : List (DataW H) → Nat
  | [] => 0
  | d :: r => uptoBulk d + uptoBulkAll r
def uptoBulkEntries {H : Type} : List (Lit × DataW H) → Nat
  | [] => 0
  | x :: r => uptoBulkEntry x + uptoBulkEntries r
def uptoBulkEntry {H : Type} : Lit × DataW H → Nat
  | (.string bytes, d) => bytes.length + uptoBulk d + 1
  | (_, d) => uptoBulk d + 1
 end
def uptoSmall : (H : Type) → List (DataW H) → Bool := fun _ ds => decide (uptoBulkAll ds ≤ 1048576)
def OpenSpec.upto (s : _root_.Go.ChangeSpec) : _root_.Go.OpenSpec := { _root_.Go.OpenSpec.ofChange s with cond := some uptoSmall }

/-- 'dustmanlaw03.PlanOrder', WHERE WHAT IT READS IS OF BULK AT MOST 1048576: true; the input reads as it did. -/
def planOrderUptoRow : OpenClaim := { program := "ythehejpagkbnmaa", sum := "3957de6f075566d9c78ab24a7d68462bd8044903d64602c8ec0c193308b2a7f7", func := "dustman/dustmanlaw03.PlanOrder", spec := "planOrder", unfollowed := true, recurses := true, apart := false, narrowed := true }
def PlanOrderUptoSaid : Prop := planOrderUptoRow.holds Try.pinned (OpenSpec.upto planOrderSpec)

/-- 'dustmanlaw03.PlanWindows', WHERE WHAT IT READS IS OF BULK AT MOST 1048576: true; the input reads as it did. -/
def planWindowsUptoRow : OpenClaim := { program := "ythehejpagkbnmaa", sum := "3957de6f075566d9c78ab24a7d68462bd8044903d64602c8ec0c193308b2a7f7", func := "dustman/dustmanlaw03.PlanWindows", spec := "planWindows", unfollowed := true, recurses := true, apart := false, narrowed := true }
def PlanWindowsUptoSaid : Prop := planWindowsUptoRow.holds Try.pinned (OpenSpec.upto planWindowsSpec)

/-- 'dustmanlaw03.PlanFair', WHERE WHAT IT READS IS OF BULK AT MOST 1048576: true; the input reads as it did. -/
def planFairUptoRow : OpenClaim := { program := "ythehejpagkbnmaa", sum := "3957de6f075566d9c78ab24a7d68462bd8044903d64602c8ec0c193308b2a7f7", func := "dustman/dustmanlaw03.PlanFair", spec := "planFair", unfollowed := true, recurses := true, apart := false, narrowed := true }
def PlanFairUptoSaid : Prop := planFairUptoRow.holds Try.pinned (OpenSpec.upto planFairSpec)

/-- 'dustmanlaw03.PlanFront', WHERE WHAT IT READS IS OF BULK AT MOST 1048576: true; the input reads as it did. -/
def planFrontUptoRow : OpenClaim := { program := "ythehejpagkbnmaa", sum := "3957de6f075566d9c78ab24a7d68462bd8044903d64602c8ec0c193308b2a7f7", func := "dustman/dustmanlaw03.PlanFront", spec := "planFront", unfollowed := true, recurses := true, apart := false, narrowed := true }
def PlanFrontUptoSaid : Prop := planFrontUptoRow.holds Try.pinned (OpenSpec.upto planFrontSpec)

/-- 'dustmanlaw03.PlanGap', WHERE WHAT IT READS IS OF BULK AT MOST 1048576: true; the input reads as it did. -/
def planGapUptoRow : OpenClaim := { program := "ythehejpagkbnmaa", sum := "3957de6f075566d9c78ab24a7d68462bd8044903d64602c8ec0c193308b2a7f7", func := "dustman/dustmanlaw03.PlanGap", spec := "planGap", unfollowed := true, recurses := true, apart := false, narrowed := true }
def PlanGapUptoSaid : Prop := planGapUptoRow.holds Try.pinned (OpenSpec.upto planGapSpec)

/-- 'dustmanlaw03.PlanParts', WHERE WHAT IT READS IS OF BULK AT MOST 1048576: true; the input reads as it did. -/
def planPartsUptoRow : OpenClaim := { program := "ythehejpagkbnmaa", sum := "3957de6f075566d9c78ab24a7d68462bd8044903d64602c8ec0c193308b2a7f7", func := "dustman/dustmanlaw03.PlanParts", spec := "planParts", unfollowed := true, recurses := true, apart := false, narrowed := true }
def PlanPartsUptoSaid : Prop := planPartsUptoRow.holds Try.pinned (OpenSpec.upto planPartsSpec)

end Rows
end Go.Proofs.Ythehejpagkbnmaa
