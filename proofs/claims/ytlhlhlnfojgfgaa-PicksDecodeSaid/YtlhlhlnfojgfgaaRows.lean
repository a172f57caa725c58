/-
  No cell of these rows narrows 'for every input' (looked for: loops, veiled, ifaces, maps, wideKeys, modest, calm, conditions, laid).
  DERIVED. THE GIVEN ROWS OF THIS SEAT. 6 by the template 'for every input the law returns true; each argument reads behind the call as it read before'; 0 by the template 'total and deterministic' (their statements: YtlhlhlnfojgfgaaTotals.lean).
  GIVEN WITH THE SEED: the statements are not yours to turn. If you find one false, say at which input.
  Laid BY PROGRAM, IN A SANDBOX (cutbox-rows.mjs): the forced cells as the released guide's own fill.sh prints them over the translation 358fad2b3fee637a… (all of the seat's roots in one cut). By AI agents, Wed Nov 11 2026. No macro, syntax, notation, axiom, sorry.
-/
import Derived.Test.YtlhlhlnfojgfgaaChecked
import GoSem.Claim
import GoSem.ClaimJoined
import GoSem.ClaimMapViews
import Derived.JoinedTies
import Derived.KernelRfl
namespace Go.Proofs.Ytlhlhlnfojgfgaa
/- THE CELL 'sum', in the pinned program and in every row, IS THE sha256 OF THE DUMP (.gsa) THAT YtlhlhlnfojgfgaaProg.lean LOADS. Nothing in Lean hashes anything: it is a label: what it is worth is what the hold of that sum in a sandbox is worth. -/
noncomputable def Try.pinned : Pinned := { name := "ytlhlhlnfojgfgaa", sum := "358fad2b3fee637ac6d73b5e2a3b94a4b3d23bde7d55ddf49237a4680ae86713", checked := Try.checked }
namespace Rows
def none {H : Type} : Left H := { results := [], args := [] }

/-- 'dustmanlaw04.PicksDecode': WHATEVER THE INPUT: true; the input reads as it did. -/
def picksDecodeSpec : ChangeSpec := { name := "picksDecode", fn := fun _ => fun
  | [d1, d2, d3] => { results := [.lit (.bool true)], args := [d1, d2, d3] }
  | _ => none }
def picksDecodeRow : OpenClaim := { program := "ytlhlhlnfojgfgaa", sum := "358fad2b3fee637ac6d73b5e2a3b94a4b3d23bde7d55ddf49237a4680ae86713", func := "dustman/dustmanlaw04.PicksDecode", spec := "picksDecode", unfollowed := true, recurses := true, apart := false }
def PicksDecodeSaid : Prop := picksDecodeRow.holds Try.pinned (OpenSpec.ofChange picksDecodeSpec)

/-- ITS FALSE NEIGHBOUR: 'it returns false'. Refute it at one input. -/
def picksDecodeWrong : ChangeSpec := { name := "picksDecode", fn := fun _ => fun
  | [d1, d2, d3] => { results := [.lit (.bool false)], args := [d1, d2, d3] }
  | _ => none }
def PicksDecodeWrongFalsely : Prop := picksDecodeRow.holds Try.pinned (OpenSpec.ofChange picksDecodeWrong)

/-- 'dustmanlaw04.PicksBack': WHATEVER THE INPUT: true; the input reads as it did. -/
def picksBackSpec : ChangeSpec := { name := "picksBack", fn := fun _ => fun
  | [d1, d2] => { results := [.lit (.bool true)], args := [d1, d2] }
  | _ => none }
def picksBackRow : OpenClaim := { program := "ytlhlhlnfojgfgaa", sum := "358fad2b3fee637ac6d73b5e2a3b94a4b3d23bde7d55ddf49237a4680ae86713", func := "dustman/dustmanlaw04.PicksBack", spec := "picksBack", unfollowed := true, recurses := true, apart := false }
def PicksBackSaid : Prop := picksBackRow.holds Try.pinned (OpenSpec.ofChange picksBackSpec)

/-- ITS FALSE NEIGHBOUR: 'it returns false'. Refute it at one input. -/
def picksBackWrong : ChangeSpec := { name := "picksBack", fn := fun _ => fun
  | [d1, d2] => { results := [.lit (.bool false)], args := [d1, d2] }
  | _ => none }
def PicksBackWrongFalsely : Prop := picksBackRow.holds Try.pinned (OpenSpec.ofChange picksBackWrong)

/-- 'dustmanlaw04.PicksJoin': WHATEVER THE INPUT: true; the input reads as it did. -/
def picksJoinSpec : ChangeSpec := { name := "picksJoin", fn := fun _ => fun
  | [d1, d2, d3] => { results := [.lit (.bool true)], args := [d1, d2, d3] }
  | _ => none }
def picksJoinRow : OpenClaim := { program := "ytlhlhlnfojgfgaa", sum := "358fad2b3fee637ac6d73b5e2a3b94a4b3d23bde7d55ddf49237a4680ae86713", func := "dustman/dustmanlaw04.PicksJoin", spec := "picksJoin", unfollowed := true, recurses := true, apart := false }
def PicksJoinSaid : Prop := picksJoinRow.holds Try.pinned (OpenSpec.ofChange picksJoinSpec)

/-- ITS FALSE NEIGHBOUR: 'it returns false'. Refute it at one input. -/
def picksJoinWrong : ChangeSpec := { name := "picksJoin", fn := fun _ => fun
  | [d1, d2, d3] => { results := [.lit (.bool false)], args := [d1, d2, d3] }
  | _ => none }
def PicksJoinWrongFalsely : Prop := picksJoinRow.holds Try.pinned (OpenSpec.ofChange picksJoinWrong)

/-- 'dustmanlaw04.PicksRound': WHATEVER THE INPUT: true; the input reads as it did. -/
def picksRoundSpec : ChangeSpec := { name := "picksRound", fn := fun _ => fun
  | [d1, d2, d3, d4, d5] => { results := [.lit (.bool true)], args := [d1, d2, d3, d4, d5] }
  | _ => none }
def picksRoundRow : OpenClaim := { program := "ytlhlhlnfojgfgaa", sum := "358fad2b3fee637ac6d73b5e2a3b94a4b3d23bde7d55ddf49237a4680ae86713", func := "dustman/dustmanlaw04.PicksRound", spec := "picksRound", unfollowed := true, recurses := true, apart := false }
def PicksRoundSaid : Prop := picksRoundRow.holds Try.pinned (OpenSpec.ofChange picksRoundSpec)

/-- ITS FALSE NEIGHBOUR: 'it returns false'. Refute it at one input. -/
def picksRoundWrong : ChangeSpec := { name := "picksRound", fn := fun _ => fun
  | [d1, d2, d3, d4, d5] => { results := [.lit (.bool false)], args := [d1, d2, d3, d4, d5] }
  | _ => none }
def PicksRoundWrongFalsely : Prop := picksRoundRow.holds Try.pinned (OpenSpec.ofChange picksRoundWrong)

/-- 'dustmanlaw04.PicksTurns': WHATEVER THE INPUT: true; the input reads as it did. -/
def picksTurnsSpec : ChangeSpec := { name := "picksTurns", fn := fun _ => fun
  | [d1, d2, d3, d4] => { results := [.lit (.bool true)], args := [d1, d2, d3, d4] }
  | _ => none }
def picksTurnsRow : OpenClaim := { program := "ytlhlhlnfojgfgaa", sum := "358fad2b3fee637ac6d73b5e2a3b94a4b3d23bde7d55ddf49237a4680ae86713", func := "dustman/dustmanlaw04.PicksTurns", spec := "picksTurns", unfollowed := true, recurses := true, apart := false }
def PicksTurnsSaid : Prop := picksTurnsRow.holds Try.pinned (OpenSpec.ofChange picksTurnsSpec)

/-- ITS FALSE NEIGHBOUR: 'it returns false'. Refute it at one input. -/
def picksTurnsWrong : ChangeSpec := { name := "picksTurns", fn := fun _ => fun
  | [d1, d2, d3, d4] => { results := [.lit (.bool false)], args := [d1, d2, d3, d4] }
  | _ => none }
def PicksTurnsWrongFalsely : Prop := picksTurnsRow.holds Try.pinned (OpenSpec.ofChange picksTurnsWrong)

/-- 'dustmanlaw04.PicksFair': WHATEVER THE INPUT: true; the input reads as it did. -/
def picksFairSpec : ChangeSpec := { name := "picksFair", fn := fun _ => fun
  | [d1, d2] => { results := [.lit (.bool true)], args := [d1, d2] }
  | _ => none }
def picksFairRow : OpenClaim := { program := "ytlhlhlnfojgfgaa", sum := "358fad2b3fee637ac6d73b5e2a3b94a4b3d23bde7d55ddf49237a4680ae86713", func := "dustman/dustmanlaw04.PicksFair", spec := "picksFair", unfollowed := true, recurses := true, apart := false }
def PicksFairSaid : Prop := picksFairRow.holds Try.pinned (OpenSpec.ofChange picksFairSpec)

/-- ITS FALSE NEIGHBOUR: 'it returns false'. Refute it at one input. -/
def picksFairWrong : ChangeSpec := { name := "picksFair", fn := fun _ => fun
  | [d1, d2] => { results := [.lit (.bool false)], args := [d1, d2] }
  | _ => none }
def PicksFairWrongFalsely : Prop := picksFairRow.holds Try.pinned (OpenSpec.ofChange picksFairWrong)

/- THE SECOND FORM. 'bulk': how many values and letters a reading holds, each counted each time it is reached (what is shared counts as often as it is met; a slice's spare places count too). A statement '..UptoSaid' is the law's where the arguments, and the package variables that the reading takes, are together of bulk at most 1048576: NARROWER than '..Said'. Prove '..Said' where nothing that the law and all that it calls make is longer than what came in: it says more and counts as full. Else prove '..UptoSaid'. A law counts once. -/
mutual
def uptoBulk {H : Type} : DataW H → Nat
  | .lit (.string bytes) => bytes.length + 1
  | .lit _ => 1
  | .nil => 1
  | .ptr d => uptoBulk d + 1
  | .slice elems spare => uptoBulkAll elems + uptoBulkAll spare + 1
  | .agg parts => uptoBulkAll parts + 1
  | .iface _ d => uptoBulk d + 1
  | .map entries => uptoBulkEntries entries + 1
  | .held _ => 1
def uptoBulkAll {H : Type} : List (DataW H) → Nat
  | [] => 0
  | d :: r => uptoBulk d + uptoBulkAll r
def uptoBulkEntries {H : Type} : List (Lit × DataW H) → Nat
  | [] => 0
  | x :: r => uptoBulkEntry x + uptoBulkEntries r
def uptoBulkEntry {H : Type} : Lit × DataW H → Nat
  | (.string bytes, d) => bytes.length + uptoBulk d + 1
  | (_, d) => uptoBulk d + 1
 end
def uptoSmall : (H : Type) → List (DataW H) → Bool := fun _ ds => decide (uptoBulkAll ds ≤ 1048576)
def OpenSpec.upto (s : _root_.Go.ChangeSpec) : _root_.Go.OpenSpec := { _root_.Go.OpenSpec.ofChange s with cond := some uptoSmall }

/-- 'dustmanlaw04.PicksDecode', WHERE WHAT IT READS IS OF BULK AT MOST 1048576: true; the input reads as it did. -/
def picksDecodeUptoRow : OpenClaim := { program := "ytlhlhlnfojgfgaa", sum := "358fad2b3fee637ac6d73b5e2a3b94a4b3d23bde7d55ddf49237a4680ae86713", func := "dustman/dustmanlaw04.PicksDecode", spec := "picksDecode", unfollowed := true, recurses := true, apart := false, narrowed := true }
def PicksDecodeUptoSaid : Prop := picksDecodeUptoRow.holds Try.pinned (OpenSpec.upto picksDecodeSpec)

/-- 'dustmanlaw04.PicksBack', WHERE WHAT IT READS IS OF BULK AT MOST 1048576: true; the input reads as it did. -/
def picksBackUptoRow : OpenClaim := { program := "ytlhlhlnfojgfgaa", sum := "358fad2b3fee637ac6d73b5e2a3b94a4b3d23bde7d55ddf49237a4680ae86713", func := "dustman/dustmanlaw04.PicksBack", spec := "picksBack", unfollowed := true, recurses := true, apart := false, narrowed := true }
def PicksBackUptoSaid : Prop := picksBackUptoRow.holds Try.pinned (OpenSpec.upto picksBackSpec)

/-- 'dustmanlaw04.PicksJoin', WHERE WHAT IT READS IS OF BULK AT MOST 1048576: true; the input reads as it did. -/
def picksJoinUptoRow : OpenClaim := { program := "ytlhlhlnfojgfgaa", sum := "358fad2b3fee637ac6d73b5e2a3b94a4b3d23bde7d55ddf49237a4680ae86713", func := "dustman/dustmanlaw04.PicksJoin", spec := "picksJoin", unfollowed := true, recurses := true, apart := false, narrowed := true }
def PicksJoinUptoSaid : Prop := picksJoinUptoRow.holds Try.pinned (OpenSpec.upto picksJoinSpec)

/-- 'dustmanlaw04.PicksRound', WHERE WHAT IT READS IS OF BULK AT MOST 1048576: true; the input reads as it did. -/
def picksRoundUptoRow : OpenClaim := { program := "ytlhlhlnfojgfgaa", sum := "358fad2b3fee637ac6d73b5e2a3b94a4b3d23bde7d55ddf49237a4680ae86713", func := "dustman/dustmanlaw04.PicksRound", spec := "picksRound", unfollowed := true, recurses := true, apart := false, narrowed := true }
def PicksRoundUptoSaid : Prop := picksRoundUptoRow.holds Try.pinned (OpenSpec.upto picksRoundSpec)

/-- 'dustmanlaw04.PicksTurns', WHERE WHAT IT READS IS OF BULK AT MOST 1048576: true; the input reads as it did. -/
def picksTurnsUptoRow : OpenClaim := { program := "ytlhlhlnfojgfgaa", sum := "358fad2b3fee637ac6d73b5e2a3b94a4b3d23bde7d55ddf49237a4680ae86713", func := "dustman/dustmanlaw04.PicksTurns", spec := "picksTurns", unfollowed := true, recurses := true, apart := false, narrowed := true }
def PicksTurnsUptoSaid : Prop := picksTurnsUptoRow.holds Try.pinned (OpenSpec.upto picksTurnsSpec)

/-- 'dustmanlaw04.PicksFair', WHERE WHAT IT READS IS OF BULK AT MOST 1048576: true; the input reads as it did. -/
def picksFairUptoRow : OpenClaim := { program := "ytlhlhlnfojgfgaa", sum := "358fad2b3fee637ac6d73b5e2a3b94a4b3d23bde7d55ddf49237a4680ae86713", func := "dustman/dustmanlaw04.PicksFair", spec := "picksFair", unfollowed := true, recurses := true, apart := false, narrowed := true }
def PicksFairUptoSaid : Prop := picksFairUptoRow.holds Try.pinned (OpenSpec.upto picksFairSpec)

end Rows
end Go.Proofs.Ytlhlhlnfojgfgaa
