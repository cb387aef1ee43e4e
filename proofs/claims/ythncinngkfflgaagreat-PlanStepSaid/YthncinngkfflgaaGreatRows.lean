/-
  No cell of these rows narrows 'for every input' (looked for: loops, veiled, ifaces, maps, wideKeys, modest, calm, conditions, laid).
  DERIVED. THE GIVEN ROWS OF THIS SEAT. 9 by the template 'for every input the law returns true; each argument reads behind the call as it read before'; 0 by the template 'total and deterministic' (their statements: YthncinngkfflgaaGreatTotals.lean).
  GIVEN WITH THE SEED: the statements are not yours to turn. If you find one false, say at which input.
  Laid BY PROGRAM, IN A SANDBOX (cutbox-rows.mjs): the forced cells as the released guide's own fill.sh prints them over the translation 4c516e2f8e51499b… (all of the seat's roots in one cut). By AI agents, Wed Nov 11 2026. No macro, syntax, notation, axiom, sorry.
-/
import Derived.Test.YthncinngkfflgaaGreatChecked
import GoSem.Claim
import GoSem.ClaimJoined
import GoSem.ClaimMapViews
import Derived.JoinedTies
import Derived.KernelRfl
namespace Go.Proofs.YthncinngkfflgaaGreat
/- THE CELL 'sum', in the pinned program and in every row, IS THE sha256 OF THE DUMP (.gsa) THAT YthncinngkfflgaaGreatProg.lean LOADS. Nothing in Lean hashes anything: it is a label: what it is worth is what the hold of that sum in a sandbox is worth. -/
noncomputable def Tryz.pinned : Pinned := { name := "ythncinngkfflgaagreat", sum := "4c516e2f8e51499b89d5542d7bf408d42310b0046a9f59c1bbc69bdf0b20f8cd", checked := Tryz.checked }
namespace Rows
def none {H : Type} : Left H := { results := [], args := [] }

/-- 'heijunkalaw12.CertMore': WHATEVER THE INPUT: true; the input reads as it did. -/
def certMoreSpec : ChangeSpec := { name := "certMore", fn := fun _ => fun
  | [d1, d2, d3] => { results := [.lit (.bool true)], args := [d1, d2, d3] }
  | _ => none }
def certMoreRow : OpenClaim := { program := "ythncinngkfflgaagreat", sum := "4c516e2f8e51499b89d5542d7bf408d42310b0046a9f59c1bbc69bdf0b20f8cd", func := "heijunka/heijunkalaw12.CertMore", spec := "certMore", unfollowed := true, recurses := true, named := ["math/bits.overflowError"], apart := false }
def CertMoreSaid : Prop := certMoreRow.holds Tryz.pinned (OpenSpec.ofChange certMoreSpec)

/-- ITS FALSE NEIGHBOUR: 'it returns false'. Refute it at one input. -/
def certMoreWrong : ChangeSpec := { name := "certMore", fn := fun _ => fun
  | [d1, d2, d3] => { results := [.lit (.bool false)], args := [d1, d2, d3] }
  | _ => none }
def CertMoreWrongFalsely : Prop := certMoreRow.holds Tryz.pinned (OpenSpec.ofChange certMoreWrong)

/-- 'heijunkalaw17.PlanTells': WHATEVER THE INPUT: true; the input reads as it did. -/
def planTellsSpec : ChangeSpec := { name := "planTells", fn := fun _ => fun
  | [d1, d2, d3] => { results := [.lit (.bool true)], args := [d1, d2, d3] }
  | _ => none }
def planTellsRow : OpenClaim := { program := "ythncinngkfflgaagreat", sum := "4c516e2f8e51499b89d5542d7bf408d42310b0046a9f59c1bbc69bdf0b20f8cd", func := "heijunka/heijunkalaw17.PlanTells", spec := "planTells", unfollowed := true, recurses := true, named := ["math/bits.overflowError"], apart := false }
def PlanTellsSaid : Prop := planTellsRow.holds Tryz.pinned (OpenSpec.ofChange planTellsSpec)

/-- ITS FALSE NEIGHBOUR: 'it returns false'. Refute it at one input. -/
def planTellsWrong : ChangeSpec := { name := "planTells", fn := fun _ => fun
  | [d1, d2, d3] => { results := [.lit (.bool false)], args := [d1, d2, d3] }
  | _ => none }
def PlanTellsWrongFalsely : Prop := planTellsRow.holds Tryz.pinned (OpenSpec.ofChange planTellsWrong)

/-- 'heijunkalaw17.PlanCosts': WHATEVER THE INPUT: true; the input reads as it did. -/
def planCostsSpec : ChangeSpec := { name := "planCosts", fn := fun _ => fun
  | [d1, d2] => { results := [.lit (.bool true)], args := [d1, d2] }
  | _ => none }
def planCostsRow : OpenClaim := { program := "ythncinngkfflgaagreat", sum := "4c516e2f8e51499b89d5542d7bf408d42310b0046a9f59c1bbc69bdf0b20f8cd", func := "heijunka/heijunkalaw17.PlanCosts", spec := "planCosts", unfollowed := true, recurses := true, named := ["math/bits.overflowError"], apart := false }
def PlanCostsSaid : Prop := planCostsRow.holds Tryz.pinned (OpenSpec.ofChange planCostsSpec)

/-- ITS FALSE NEIGHBOUR: 'it returns false'. Refute it at one input. -/
def planCostsWrong : ChangeSpec := { name := "planCosts", fn := fun _ => fun
  | [d1, d2] => { results := [.lit (.bool false)], args := [d1, d2] }
  | _ => none }
def PlanCostsWrongFalsely : Prop := planCostsRow.holds Tryz.pinned (OpenSpec.ofChange planCostsWrong)

/-- 'heijunkalaw17.PlanDoubles': WHATEVER THE INPUT: true; the input reads as it did. -/
def planDoublesSpec : ChangeSpec := { name := "planDoubles", fn := fun _ => fun
  | [d1, d2] => { results := [.lit (.bool true)], args := [d1, d2] }
  | _ => none }
def planDoublesRow : OpenClaim := { program := "ythncinngkfflgaagreat", sum := "4c516e2f8e51499b89d5542d7bf408d42310b0046a9f59c1bbc69bdf0b20f8cd", func := "heijunka/heijunkalaw17.PlanDoubles", spec := "planDoubles", unfollowed := true, recurses := true, named := ["math/bits.overflowError"], apart := false }
def PlanDoublesSaid : Prop := planDoublesRow.holds Tryz.pinned (OpenSpec.ofChange planDoublesSpec)

/-- ITS FALSE NEIGHBOUR: 'it returns false'. Refute it at one input. -/
def planDoublesWrong : ChangeSpec := { name := "planDoubles", fn := fun _ => fun
  | [d1, d2] => { results := [.lit (.bool false)], args := [d1, d2] }
  | _ => none }
def PlanDoublesWrongFalsely : Prop := planDoublesRow.holds Tryz.pinned (OpenSpec.ofChange planDoublesWrong)

/-- 'heijunkalaw17.PlanMoves': WHATEVER THE INPUT: true; the input reads as it did. -/
def planMovesSpec : ChangeSpec := { name := "planMoves", fn := fun _ => fun
  | [d1, d2] => { results := [.lit (.bool true)], args := [d1, d2] }
  | _ => none }
def planMovesRow : OpenClaim := { program := "ythncinngkfflgaagreat", sum := "4c516e2f8e51499b89d5542d7bf408d42310b0046a9f59c1bbc69bdf0b20f8cd", func := "heijunka/heijunkalaw17.PlanMoves", spec := "planMoves", unfollowed := true, recurses := true, named := ["math/bits.overflowError"], apart := false }
def PlanMovesSaid : Prop := planMovesRow.holds Tryz.pinned (OpenSpec.ofChange planMovesSpec)

/-- ITS FALSE NEIGHBOUR: 'it returns false'. Refute it at one input. -/
def planMovesWrong : ChangeSpec := { name := "planMoves", fn := fun _ => fun
  | [d1, d2] => { results := [.lit (.bool false)], args := [d1, d2] }
  | _ => none }
def PlanMovesWrongFalsely : Prop := planMovesRow.holds Tryz.pinned (OpenSpec.ofChange planMovesWrong)

/-- 'heijunkalaw17.PlanTurned': WHATEVER THE INPUT: true; the input reads as it did. -/
def planTurnedSpec : ChangeSpec := { name := "planTurned", fn := fun _ => fun
  | [d1, d2] => { results := [.lit (.bool true)], args := [d1, d2] }
  | _ => none }
def planTurnedRow : OpenClaim := { program := "ythncinngkfflgaagreat", sum := "4c516e2f8e51499b89d5542d7bf408d42310b0046a9f59c1bbc69bdf0b20f8cd", func := "heijunka/heijunkalaw17.PlanTurned", spec := "planTurned", unfollowed := true, recurses := true, named := ["math/bits.overflowError"], apart := false }
def PlanTurnedSaid : Prop := planTurnedRow.holds Tryz.pinned (OpenSpec.ofChange planTurnedSpec)

/-- ITS FALSE NEIGHBOUR: 'it returns false'. Refute it at one input. -/
def planTurnedWrong : ChangeSpec := { name := "planTurned", fn := fun _ => fun
  | [d1, d2] => { results := [.lit (.bool false)], args := [d1, d2] }
  | _ => none }
def PlanTurnedWrongFalsely : Prop := planTurnedRow.holds Tryz.pinned (OpenSpec.ofChange planTurnedWrong)

/-- 'heijunkalaw17.PlanSums': WHATEVER THE INPUT: true; the input reads as it did. -/
def planSumsSpec : ChangeSpec := { name := "planSums", fn := fun _ => fun
  | [d1, d2] => { results := [.lit (.bool true)], args := [d1, d2] }
  | _ => none }
def planSumsRow : OpenClaim := { program := "ythncinngkfflgaagreat", sum := "4c516e2f8e51499b89d5542d7bf408d42310b0046a9f59c1bbc69bdf0b20f8cd", func := "heijunka/heijunkalaw17.PlanSums", spec := "planSums", unfollowed := true, recurses := true, named := ["math/bits.overflowError"], apart := false }
def PlanSumsSaid : Prop := planSumsRow.holds Tryz.pinned (OpenSpec.ofChange planSumsSpec)

/-- ITS FALSE NEIGHBOUR: 'it returns false'. Refute it at one input. -/
def planSumsWrong : ChangeSpec := { name := "planSums", fn := fun _ => fun
  | [d1, d2] => { results := [.lit (.bool false)], args := [d1, d2] }
  | _ => none }
def PlanSumsWrongFalsely : Prop := planSumsRow.holds Tryz.pinned (OpenSpec.ofChange planSumsWrong)

/-- 'heijunkalaw17.PlanFewer': WHATEVER THE INPUT: true; the input reads as it did. -/
def planFewerSpec : ChangeSpec := { name := "planFewer", fn := fun _ => fun
  | [d1, d2, d3] => { results := [.lit (.bool true)], args := [d1, d2, d3] }
  | _ => none }
def planFewerRow : OpenClaim := { program := "ythncinngkfflgaagreat", sum := "4c516e2f8e51499b89d5542d7bf408d42310b0046a9f59c1bbc69bdf0b20f8cd", func := "heijunka/heijunkalaw17.PlanFewer", spec := "planFewer", unfollowed := true, recurses := true, named := ["math/bits.overflowError"], apart := false }
def PlanFewerSaid : Prop := planFewerRow.holds Tryz.pinned (OpenSpec.ofChange planFewerSpec)

/-- ITS FALSE NEIGHBOUR: 'it returns false'. Refute it at one input. -/
def planFewerWrong : ChangeSpec := { name := "planFewer", fn := fun _ => fun
  | [d1, d2, d3] => { results := [.lit (.bool false)], args := [d1, d2, d3] }
  | _ => none }
def PlanFewerWrongFalsely : Prop := planFewerRow.holds Tryz.pinned (OpenSpec.ofChange planFewerWrong)

/-- 'heijunkalaw17.PlanStep': WHATEVER THE INPUT: true; the input reads as it did. -/
def planStepSpec : ChangeSpec := { name := "planStep", fn := fun _ => fun
  | [d1, d2] => { results := [.lit (.bool true)], args := [d1, d2] }
  | _ => none }
def planStepRow : OpenClaim := { program := "ythncinngkfflgaagreat", sum := "4c516e2f8e51499b89d5542d7bf408d42310b0046a9f59c1bbc69bdf0b20f8cd", func := "heijunka/heijunkalaw17.PlanStep", spec := "planStep", unfollowed := true, recurses := true, named := ["math/bits.overflowError"], apart := false }
def PlanStepSaid : Prop := planStepRow.holds Tryz.pinned (OpenSpec.ofChange planStepSpec)

/-- ITS FALSE NEIGHBOUR: 'it returns false'. Refute it at one input. -/
def planStepWrong : ChangeSpec := { name := "planStep", fn := fun _ => fun
  | [d1, d2] => { results := [.lit (.bool false)], args := [d1, d2] }
  | _ => none }
def PlanStepWrongFalsely : Prop := planStepRow.holds Tryz.pinned (OpenSpec.ofChange planStepWrong)

/- THE SECOND FORM. 'bulk': how many values and letters a reading holds, each counted each time it is reached (what is shared counts as often as it is met; a slice's spare places count too). A statement '..UptoSaid' is the law's where the arguments, and the package variables that the reading takes, are together of bulk at most 1048576: NARROWER than '..Said'. Prove '..Said' where nothing that the law and all that it calls make is longer than what came in: it says more and counts as full. Else prove '..UptoSaid'. A law counts once. -/
mutual
def uptoBulk {H : Type} : DataW H → Nat
  | .lit (.string bytes) => bytes.length + 1
  | .lit _ => 1
  | .nil => 1
  | .ptr d => uptoBulk d + 1
  | .slice elems spare => uptoBulkAll elems + uptoBulkAll spare + 1
  | .agg parts => uptoBulkAll parts + 1
  | .iface _ d => uptoBulk d + 1
  | .map entries => uptoBulkEntries entries + 1
  | .held _ => 1
def uptoBulkAll {H : Type} : List (DataW H) → Nat
  | [] => 0
  | d :: r => uptoBulk d + uptoBulkAll r
def uptoBulkEntries {H : Type} : List (Lit × DataW H) → Nat
  | [] => 0
  | x :: r => uptoBulkEntry x + uptoBulkEntries r
def uptoBulkEntry {H : Type} : Lit × DataW H → Nat
  | (.string bytes, d) => bytes.length + uptoBulk d + 1
  | (_, d) => uptoBulk d + 1
 end
def uptoSmall : (H : Type) → List (DataW H) → Bool := fun _ ds => decide (uptoBulkAll ds ≤ 1048576)
def OpenSpec.upto (s : _root_.Go.ChangeSpec) : _root_.Go.OpenSpec := { _root_.Go.OpenSpec.ofChange s with cond := some uptoSmall }

/-- 'heijunkalaw12.CertMore', WHERE WHAT IT READS IS OF BULK AT MOST 1048576: true; the input reads as it did. -/
def certMoreUptoRow : OpenClaim := { program := "ythncinngkfflgaagreat", sum := "4c516e2f8e51499b89d5542d7bf408d42310b0046a9f59c1bbc69bdf0b20f8cd", func := "heijunka/heijunkalaw12.CertMore", spec := "certMore", unfollowed := true, recurses := true, named := ["math/bits.overflowError"], apart := false, narrowed := true }
def CertMoreUptoSaid : Prop := certMoreUptoRow.holds Tryz.pinned (OpenSpec.upto certMoreSpec)

/-- 'heijunkalaw17.PlanTells', WHERE WHAT IT READS IS OF BULK AT MOST 1048576: true; the input reads as it did. -/
def planTellsUptoRow : OpenClaim := { program := "ythncinngkfflgaagreat", sum := "4c516e2f8e51499b89d5542d7bf408d42310b0046a9f59c1bbc69bdf0b20f8cd", func := "heijunka/heijunkalaw17.PlanTells", spec := "planTells", unfollowed := true, recurses := true, named := ["math/bits.overflowError"], apart := false, narrowed := true }
def PlanTellsUptoSaid : Prop := planTellsUptoRow.holds Tryz.pinned (OpenSpec.upto planTellsSpec)

/-- 'heijunkalaw17.PlanCosts', WHERE WHAT IT READS IS OF BULK AT MOST 1048576: true; the input reads as it did. -/
def planCostsUptoRow : OpenClaim := { program := "ythncinngkfflgaagreat", sum := "4c516e2f8e51499b89d5542d7bf408d42310b0046a9f59c1bbc69bdf0b20f8cd", func := "heijunka/heijunkalaw17.PlanCosts", spec := "planCosts", unfollowed := true, recurses := true, named := ["math/bits.overflowError"], apart := false, narrowed := true }
def PlanCostsUptoSaid : Prop := planCostsUptoRow.holds Tryz.pinned (OpenSpec.upto planCostsSpec)

/-- 'heijunkalaw17.PlanDoubles', WHERE WHAT IT READS IS OF BULK AT MOST 1048576: true; the input reads as it did. -/
def planDoublesUptoRow : OpenClaim := { program := "ythncinngkfflgaagreat", sum := "4c516e2f8e51499b89d5542d7bf408d42310b0046a9f59c1bbc69bdf0b20f8cd", func := "heijunka/heijunkalaw17.PlanDoubles", spec := "planDoubles", unfollowed := true, recurses := true, named := ["math/bits.overflowError"], apart := false, narrowed := true }
def PlanDoublesUptoSaid : Prop := planDoublesUptoRow.holds Tryz.pinned (OpenSpec.upto planDoublesSpec)

/-- 'heijunkalaw17.PlanMoves', WHERE WHAT IT READS IS OF BULK AT MOST 1048576: true; the input reads as it did. -/
def planMovesUptoRow : OpenClaim := { program := "ythncinngkfflgaagreat", sum := "4c516e2f8e51499b89d5542d7bf408d42310b0046a9f59c1bbc69bdf0b20f8cd", func := "heijunka/heijunkalaw17.PlanMoves", spec := "planMoves", unfollowed := true, recurses := true, named := ["math/bits.overflowError"], apart := false, narrowed := true }
def PlanMovesUptoSaid : Prop := planMovesUptoRow.holds Tryz.pinned (OpenSpec.upto planMovesSpec)

/-- 'heijunkalaw17.PlanTurned', WHERE WHAT IT READS IS OF BULK AT MOST 1048576: true; the input reads as it did. -/
def planTurnedUptoRow : OpenClaim := { program := "ythncinngkfflgaagreat", sum := "4c516e2f8e51499b89d5542d7bf408d42310b0046a9f59c1bbc69bdf0b20f8cd", func := "heijunka/heijunkalaw17.PlanTurned", spec := "planTurned", unfollowed := true, recurses := true, named := ["math/bits.overflowError"], apart := false, narrowed := true }
def PlanTurnedUptoSaid : Prop := planTurnedUptoRow.holds Tryz.pinned (OpenSpec.upto planTurnedSpec)

/-- 'heijunkalaw17.PlanSums', WHERE WHAT IT READS IS OF BULK AT MOST 1048576: true; the input reads as it did. -/
def planSumsUptoRow : OpenClaim := { program := "ythncinngkfflgaagreat", sum := "4c516e2f8e51499b89d5542d7bf408d42310b0046a9f59c1bbc69bdf0b20f8cd", func := "heijunka/heijunkalaw17.PlanSums", spec := "planSums", unfollowed := true, recurses := true, named := ["math/bits.overflowError"], apart := false, narrowed := true }
def PlanSumsUptoSaid : Prop := planSumsUptoRow.holds Tryz.pinned (OpenSpec.upto planSumsSpec)

/-- 'heijunkalaw17.PlanFewer', WHERE WHAT IT READS IS OF BULK AT MOST 1048576: true; the input reads as it did. -/
def planFewerUptoRow : OpenClaim := { program := "ythncinngkfflgaagreat", sum := "4c516e2f8e51499b89d5542d7bf408d42310b0046a9f59c1bbc69bdf0b20f8cd", func := "heijunka/heijunkalaw17.PlanFewer", spec := "planFewer", unfollowed := true, recurses := true, named := ["math/bits.overflowError"], apart := false, narrowed := true }
def PlanFewerUptoSaid : Prop := planFewerUptoRow.holds Tryz.pinned (OpenSpec.upto planFewerSpec)

/-- 'heijunkalaw17.PlanStep', WHERE WHAT IT READS IS OF BULK AT MOST 1048576: true; the input reads as it did. -/
def planStepUptoRow : OpenClaim := { program := "ythncinngkfflgaagreat", sum := "4c516e2f8e51499b89d5542d7bf408d42310b0046a9f59c1bbc69bdf0b20f8cd", func := "heijunka/heijunkalaw17.PlanStep", spec := "planStep", unfollowed := true, recurses := true, named := ["math/bits.overflowError"], apart := false, narrowed := true }
def PlanStepUptoSaid : Prop := planStepUptoRow.holds Tryz.pinned (OpenSpec.upto planStepSpec)

end Rows
end Go.Proofs.YthncinngkfflgaaGreat
