/-
  No cell of these rows narrows 'for every input' (looked for: loops, veiled, ifaces, maps, wideKeys, modest, calm, conditions, laid).
  DERIVED. THE GIVEN ROWS OF THIS SEAT. 10 by the template 'for every input the law returns true; each argument reads behind the call as it read before'; 0 by the template 'total and deterministic' (their statements: YtkendajmnmchoaaTotals.lean).
  GIVEN WITH THE SEED: the statements are not yours to turn. If you find one false, say at which input.
  Laid BY PROGRAM, IN A SANDBOX (cutbox-rows.mjs): the forced cells as the released guide's own fill.sh prints them over the translation 8f6d304f4e8e5160… (all of the seat's roots in one cut). By AI agents, Wed Nov 11 2026. No macro, syntax, notation, axiom, sorry.
-/
import Derived.Test.YtkendajmnmchoaaChecked
import GoSem.Claim
import GoSem.ClaimJoined
import GoSem.ClaimMapViews
import Derived.JoinedTies
import Derived.KernelRfl
namespace Go.Proofs.Ytkendajmnmchoaa
/- THE CELL 'sum', in the pinned program and in every row, IS THE sha256 OF THE DUMP (.gsa) THAT YtkendajmnmchoaaProg.lean LOADS. Nothing in Lean hashes anything: it is a label: what it is worth is what the hold of that sum in a sandbox is worth. -/
noncomputable def Try.pinned : Pinned := { name := "ytkendajmnmchoaa", sum := "8f6d304f4e8e5160fcb7cb8d79c4c4050d16f70a4baae5fa58fde75c73e5f61f", checked := Try.checked }
namespace Rows
def none {H : Type} : Left H := { results := [], args := [] }

/-- 'heijunkalaw10.LinRows': WHATEVER THE INPUT: true; the input reads as it did. -/
def linRowsSpec : ChangeSpec := { name := "linRows", fn := fun _ => fun
  | [d1, d2, d3] => { results := [.lit (.bool true)], args := [d1, d2, d3] }
  | _ => none }
def linRowsRow : OpenClaim := { program := "ytkendajmnmchoaa", sum := "8f6d304f4e8e5160fcb7cb8d79c4c4050d16f70a4baae5fa58fde75c73e5f61f", func := "heijunka/heijunkalaw10.LinRows", spec := "linRows", unfollowed := true, recurses := true, named := ["math/bits.overflowError"], apart := false }
def LinRowsSaid : Prop := linRowsRow.holds Try.pinned (OpenSpec.ofChange linRowsSpec)

/-- ITS FALSE NEIGHBOUR: 'it returns false'. Refute it at one input. -/
def linRowsWrong : ChangeSpec := { name := "linRows", fn := fun _ => fun
  | [d1, d2, d3] => { results := [.lit (.bool false)], args := [d1, d2, d3] }
  | _ => none }
def LinRowsWrongFalsely : Prop := linRowsRow.holds Try.pinned (OpenSpec.ofChange linRowsWrong)

/-- 'heijunkalaw10.LinUnit': WHATEVER THE INPUT: true; the input reads as it did. -/
def linUnitSpec : ChangeSpec := { name := "linUnit", fn := fun _ => fun
  | [d] => { results := [.lit (.bool true)], args := [d] }
  | _ => none }
def linUnitRow : OpenClaim := { program := "ytkendajmnmchoaa", sum := "8f6d304f4e8e5160fcb7cb8d79c4c4050d16f70a4baae5fa58fde75c73e5f61f", func := "heijunka/heijunkalaw10.LinUnit", spec := "linUnit", unfollowed := true, recurses := true, named := ["math/bits.overflowError"], apart := false }
def LinUnitSaid : Prop := linUnitRow.holds Try.pinned (OpenSpec.ofChange linUnitSpec)

/-- ITS FALSE NEIGHBOUR: 'it returns false'. Refute it at one input. -/
def linUnitWrong : ChangeSpec := { name := "linUnit", fn := fun _ => fun
  | [d] => { results := [.lit (.bool false)], args := [d] }
  | _ => none }
def LinUnitWrongFalsely : Prop := linUnitRow.holds Try.pinned (OpenSpec.ofChange linUnitWrong)

/-- 'heijunkalaw10.LinDots': WHATEVER THE INPUT: true; the input reads as it did. -/
def linDotsSpec : ChangeSpec := { name := "linDots", fn := fun _ => fun
  | [d1, d2, d3] => { results := [.lit (.bool true)], args := [d1, d2, d3] }
  | _ => none }
def linDotsRow : OpenClaim := { program := "ytkendajmnmchoaa", sum := "8f6d304f4e8e5160fcb7cb8d79c4c4050d16f70a4baae5fa58fde75c73e5f61f", func := "heijunka/heijunkalaw10.LinDots", spec := "linDots", unfollowed := true, recurses := true, named := ["math/bits.overflowError"], apart := false }
def LinDotsSaid : Prop := linDotsRow.holds Try.pinned (OpenSpec.ofChange linDotsSpec)

/-- ITS FALSE NEIGHBOUR: 'it returns false'. Refute it at one input. -/
def linDotsWrong : ChangeSpec := { name := "linDots", fn := fun _ => fun
  | [d1, d2, d3] => { results := [.lit (.bool false)], args := [d1, d2, d3] }
  | _ => none }
def LinDotsWrongFalsely : Prop := linDotsRow.holds Try.pinned (OpenSpec.ofChange linDotsWrong)

/-- 'heijunkalaw10.LinTurned': WHATEVER THE INPUT: true; the input reads as it did. -/
def linTurnedSpec : ChangeSpec := { name := "linTurned", fn := fun _ => fun
  | [d1, d2] => { results := [.lit (.bool true)], args := [d1, d2] }
  | _ => none }
def linTurnedRow : OpenClaim := { program := "ytkendajmnmchoaa", sum := "8f6d304f4e8e5160fcb7cb8d79c4c4050d16f70a4baae5fa58fde75c73e5f61f", func := "heijunka/heijunkalaw10.LinTurned", spec := "linTurned", unfollowed := true, recurses := true, named := ["math/bits.overflowError"], apart := false }
def LinTurnedSaid : Prop := linTurnedRow.holds Try.pinned (OpenSpec.ofChange linTurnedSpec)

/-- ITS FALSE NEIGHBOUR: 'it returns false'. Refute it at one input. -/
def linTurnedWrong : ChangeSpec := { name := "linTurned", fn := fun _ => fun
  | [d1, d2] => { results := [.lit (.bool false)], args := [d1, d2] }
  | _ => none }
def LinTurnedWrongFalsely : Prop := linTurnedRow.holds Try.pinned (OpenSpec.ofChange linTurnedWrong)

/-- 'heijunkalaw10.LinScaled': WHATEVER THE INPUT: true; the input reads as it did. -/
def linScaledSpec : ChangeSpec := { name := "linScaled", fn := fun _ => fun
  | [d1, d2, d3] => { results := [.lit (.bool true)], args := [d1, d2, d3] }
  | _ => none }
def linScaledRow : OpenClaim := { program := "ytkendajmnmchoaa", sum := "8f6d304f4e8e5160fcb7cb8d79c4c4050d16f70a4baae5fa58fde75c73e5f61f", func := "heijunka/heijunkalaw10.LinScaled", spec := "linScaled", unfollowed := true, recurses := true, named := ["math/bits.overflowError"], apart := false }
def LinScaledSaid : Prop := linScaledRow.holds Try.pinned (OpenSpec.ofChange linScaledSpec)

/-- ITS FALSE NEIGHBOUR: 'it returns false'. Refute it at one input. -/
def linScaledWrong : ChangeSpec := { name := "linScaled", fn := fun _ => fun
  | [d1, d2, d3] => { results := [.lit (.bool false)], args := [d1, d2, d3] }
  | _ => none }
def LinScaledWrongFalsely : Prop := linScaledRow.holds Try.pinned (OpenSpec.ofChange linScaledWrong)

/-- 'heijunkalaw14.QueuePlays': WHATEVER THE INPUT: true; the input reads as it did. -/
def queuePlaysSpec : ChangeSpec := { name := "queuePlays", fn := fun _ => fun
  | [d] => { results := [.lit (.bool true)], args := [d] }
  | _ => none }
def queuePlaysRow : OpenClaim := { program := "ytkendajmnmchoaa", sum := "8f6d304f4e8e5160fcb7cb8d79c4c4050d16f70a4baae5fa58fde75c73e5f61f", func := "heijunka/heijunkalaw14.QueuePlays", spec := "queuePlays", unfollowed := true, recurses := true, named := ["math/bits.overflowError"], apart := false }
def QueuePlaysSaid : Prop := queuePlaysRow.holds Try.pinned (OpenSpec.ofChange queuePlaysSpec)

/-- ITS FALSE NEIGHBOUR: 'it returns false'. Refute it at one input. -/
def queuePlaysWrong : ChangeSpec := { name := "queuePlays", fn := fun _ => fun
  | [d] => { results := [.lit (.bool false)], args := [d] }
  | _ => none }
def QueuePlaysWrongFalsely : Prop := queuePlaysRow.holds Try.pinned (OpenSpec.ofChange queuePlaysWrong)

/-- 'heijunkalaw14.QueueSorts': WHATEVER THE INPUT: true; the input reads as it did. -/
def queueSortsSpec : ChangeSpec := { name := "queueSorts", fn := fun _ => fun
  | [d] => { results := [.lit (.bool true)], args := [d] }
  | _ => none }
def queueSortsRow : OpenClaim := { program := "ytkendajmnmchoaa", sum := "8f6d304f4e8e5160fcb7cb8d79c4c4050d16f70a4baae5fa58fde75c73e5f61f", func := "heijunka/heijunkalaw14.QueueSorts", spec := "queueSorts", unfollowed := true, recurses := true, named := ["math/bits.overflowError"], apart := false }
def QueueSortsSaid : Prop := queueSortsRow.holds Try.pinned (OpenSpec.ofChange queueSortsSpec)

/-- ITS FALSE NEIGHBOUR: 'it returns false'. Refute it at one input. -/
def queueSortsWrong : ChangeSpec := { name := "queueSorts", fn := fun _ => fun
  | [d] => { results := [.lit (.bool false)], args := [d] }
  | _ => none }
def QueueSortsWrongFalsely : Prop := queueSortsRow.holds Try.pinned (OpenSpec.ofChange queueSortsWrong)

/-- 'heijunkalaw14.QueueDrops': WHATEVER THE INPUT: true; the input reads as it did. -/
def queueDropsSpec : ChangeSpec := { name := "queueDrops", fn := fun _ => fun
  | [d1, d2] => { results := [.lit (.bool true)], args := [d1, d2] }
  | _ => none }
def queueDropsRow : OpenClaim := { program := "ytkendajmnmchoaa", sum := "8f6d304f4e8e5160fcb7cb8d79c4c4050d16f70a4baae5fa58fde75c73e5f61f", func := "heijunka/heijunkalaw14.QueueDrops", spec := "queueDrops", unfollowed := true, recurses := true, named := ["math/bits.overflowError"], apart := false }
def QueueDropsSaid : Prop := queueDropsRow.holds Try.pinned (OpenSpec.ofChange queueDropsSpec)

/-- ITS FALSE NEIGHBOUR: 'it returns false'. Refute it at one input. -/
def queueDropsWrong : ChangeSpec := { name := "queueDrops", fn := fun _ => fun
  | [d1, d2] => { results := [.lit (.bool false)], args := [d1, d2] }
  | _ => none }
def QueueDropsWrongFalsely : Prop := queueDropsRow.holds Try.pinned (OpenSpec.ofChange queueDropsWrong)

/-- 'heijunkalaw14.QueueMixed': WHATEVER THE INPUT: true; the input reads as it did. -/
def queueMixedSpec : ChangeSpec := { name := "queueMixed", fn := fun _ => fun
  | [d1, d2] => { results := [.lit (.bool true)], args := [d1, d2] }
  | _ => none }
def queueMixedRow : OpenClaim := { program := "ytkendajmnmchoaa", sum := "8f6d304f4e8e5160fcb7cb8d79c4c4050d16f70a4baae5fa58fde75c73e5f61f", func := "heijunka/heijunkalaw14.QueueMixed", spec := "queueMixed", unfollowed := true, recurses := true, named := ["math/bits.overflowError"], apart := false }
def QueueMixedSaid : Prop := queueMixedRow.holds Try.pinned (OpenSpec.ofChange queueMixedSpec)

/-- ITS FALSE NEIGHBOUR: 'it returns false'. Refute it at one input. -/
def queueMixedWrong : ChangeSpec := { name := "queueMixed", fn := fun _ => fun
  | [d1, d2] => { results := [.lit (.bool false)], args := [d1, d2] }
  | _ => none }
def QueueMixedWrongFalsely : Prop := queueMixedRow.holds Try.pinned (OpenSpec.ofChange queueMixedWrong)

/-- 'heijunkalaw14.QueueEmpty': WHATEVER THE INPUT: true; the input reads as it did. -/
def queueEmptySpec : ChangeSpec := { name := "queueEmpty", fn := fun _ => fun
  | [d1, d2] => { results := [.lit (.bool true)], args := [d1, d2] }
  | _ => none }
def queueEmptyRow : OpenClaim := { program := "ytkendajmnmchoaa", sum := "8f6d304f4e8e5160fcb7cb8d79c4c4050d16f70a4baae5fa58fde75c73e5f61f", func := "heijunka/heijunkalaw14.QueueEmpty", spec := "queueEmpty", unfollowed := true, recurses := true, named := ["math/bits.overflowError"], apart := false }
def QueueEmptySaid : Prop := queueEmptyRow.holds Try.pinned (OpenSpec.ofChange queueEmptySpec)

/-- ITS FALSE NEIGHBOUR: 'it returns false'. Refute it at one input. -/
def queueEmptyWrong : ChangeSpec := { name := "queueEmpty", fn := fun _ => fun
  | [d1, d2] => { results := [.lit (.bool false)], args := [d1, d2] }
  | _ => none }
def QueueEmptyWrongFalsely : Prop := queueEmptyRow.holds Try.pinned (OpenSpec.ofChange queueEmptyWrong)

/- THE SECOND FORM. 'bulk': how many values and letters a reading holds, each counted each time it is reached (what is shared counts as often as it is met; a slice's spare places count too). A statement '..UptoSaid' is the law's where the arguments, and the package variables that the reading takes, are together of bulk at most 1048576: NARROWER than '..Said'. Prove '..Said' where nothing that the law and all that it calls make is longer than what came in: it says more and counts as full. Else prove '..UptoSaid'. A law counts once. -/
mutual
def uptoBulk {H : Type} : DataW H → Nat
  | .lit (.string bytes) => bytes.length + 1
  | .lit _ => 1
  | .nil => 1
  | .ptr d => uptoBulk d + 1
  | .slice elems spare => uptoBulkAll elems + uptoBulkAll spare + 1
  | .agg parts => uptoBulkAll parts + 1
  | .iface _ d => uptoBulk d + 1
  | .map entries => uptoBulkEntries entries + 1
  | .held _ => 1
def uptoBulkAll {H : Type} : List (DataW H) → Nat
  | [] => 0
  | d :: r => uptoBulk d + uptoBulkAll r
def uptoBulkEntries {H : Type} : List (Lit × DataW H) → Nat
  | [] => 0
  | x :: r => uptoBulkEntry x + uptoBulkEntries r
def uptoBulkEntry {H : Type} : Lit × DataW H → Nat
  | (.string bytes, d) => bytes.length + uptoBulk d + 1
  | (_, d) => uptoBulk d + 1
 end
def uptoSmall : (H : Type) → List (DataW H) → Bool := fun _ ds => decide (uptoBulkAll ds ≤ 1048576)
def OpenSpec.upto (s : _root_.Go.ChangeSpec) : _root_.Go.OpenSpec := { _root_.Go.OpenSpec.ofChange s with cond := some uptoSmall }

/-- 'heijunkalaw10.LinRows', WHERE WHAT IT READS IS OF BULK AT MOST 1048576: true; the input reads as it did. -/
def linRowsUptoRow : OpenClaim := { program := "ytkendajmnmchoaa", sum := "8f6d304f4e8e5160fcb7cb8d79c4c4050d16f70a4baae5fa58fde75c73e5f61f", func := "heijunka/heijunkalaw10.LinRows", spec := "linRows", unfollowed := true, recurses := true, named := ["math/bits.overflowError"], apart := false, narrowed := true }
def LinRowsUptoSaid : Prop := linRowsUptoRow.holds Try.pinned (OpenSpec.upto linRowsSpec)

/-- 'heijunkalaw10.LinUnit', WHERE WHAT IT READS IS OF BULK AT MOST 1048576: true; the input reads as it did. -/
def linUnitUptoRow : OpenClaim := { program := "ytkendajmnmchoaa", sum := "8f6d304f4e8e5160fcb7cb8d79c4c4050d16f70a4baae5fa58fde75c73e5f61f", func := "heijunka/heijunkalaw10.LinUnit", spec := "linUnit", unfollowed := true, recurses := true, named := ["math/bits.overflowError"], apart := false, narrowed := true }
def LinUnitUptoSaid : Prop := linUnitUptoRow.holds Try.pinned (OpenSpec.upto linUnitSpec)

/-- 'heijunkalaw10.LinDots', WHERE WHAT IT READS IS OF BULK AT MOST 1048576: true; the input reads as it did. -/
def linDotsUptoRow : OpenClaim := { program := "ytkendajmnmchoaa", sum := "8f6d304f4e8e5160fcb7cb8d79c4c4050d16f70a4baae5fa58fde75c73e5f61f", func := "heijunka/heijunkalaw10.LinDots", spec := "linDots", unfollowed := true, recurses := true, named := ["math/bits.overflowError"], apart := false, narrowed := true }
def LinDotsUptoSaid : Prop := linDotsUptoRow.holds Try.pinned (OpenSpec.upto linDotsSpec)

/-- 'heijunkalaw10.LinTurned', WHERE WHAT IT READS IS OF BULK AT MOST 1048576: true; the input reads as it did. -/
def linTurnedUptoRow : OpenClaim := { program := "ytkendajmnmchoaa", sum := "8f6d304f4e8e5160fcb7cb8d79c4c4050d16f70a4baae5fa58fde75c73e5f61f", func := "heijunka/heijunkalaw10.LinTurned", spec := "linTurned", unfollowed := true, recurses := true, named := ["math/bits.overflowError"], apart := false, narrowed := true }
def LinTurnedUptoSaid : Prop := linTurnedUptoRow.holds Try.pinned (OpenSpec.upto linTurnedSpec)

/-- 'heijunkalaw10.LinScaled', WHERE WHAT IT READS IS OF BULK AT MOST 1048576: true; the input reads as it did. -/
def linScaledUptoRow : OpenClaim := { program := "ytkendajmnmchoaa", sum := "8f6d304f4e8e5160fcb7cb8d79c4c4050d16f70a4baae5fa58fde75c73e5f61f", func := "heijunka/heijunkalaw10.LinScaled", spec := "linScaled", unfollowed := true, recurses := true, named := ["math/bits.overflowError"], apart := false, narrowed := true }
def LinScaledUptoSaid : Prop := linScaledUptoRow.holds Try.pinned (OpenSpec.upto linScaledSpec)

/-- 'heijunkalaw14.QueuePlays', WHERE WHAT IT READS IS OF BULK AT MOST 1048576: true; the input reads as it did. -/
def queuePlaysUptoRow : OpenClaim := { program := "ytkendajmnmchoaa", sum := "8f6d304f4e8e5160fcb7cb8d79c4c4050d16f70a4baae5fa58fde75c73e5f61f", func := "heijunka/heijunkalaw14.QueuePlays", spec := "queuePlays", unfollowed := true, recurses := true, named := ["math/bits.overflowError"], apart := false, narrowed := true }
def QueuePlaysUptoSaid : Prop := queuePlaysUptoRow.holds Try.pinned (OpenSpec.upto queuePlaysSpec)

/-- 'heijunkalaw14.QueueSorts', WHERE WHAT IT READS IS OF BULK AT MOST 1048576: true; the input reads as it did. -/
def queueSortsUptoRow : OpenClaim := { program := "ytkendajmnmchoaa", sum := "8f6d304f4e8e5160fcb7cb8d79c4c4050d16f70a4baae5fa58fde75c73e5f61f", func := "heijunka/heijunkalaw14.QueueSorts", spec := "queueSorts", unfollowed := true, recurses := true, named := ["math/bits.overflowError"], apart := false, narrowed := true }
def QueueSortsUptoSaid : Prop := queueSortsUptoRow.holds Try.pinned (OpenSpec.upto queueSortsSpec)

/-- 'heijunkalaw14.QueueDrops', WHERE WHAT IT READS IS OF BULK AT MOST 1048576: true; the input reads as it did. -/
def queueDropsUptoRow : OpenClaim := { program := "ytkendajmnmchoaa", sum := "8f6d304f4e8e5160fcb7cb8d79c4c4050d16f70a4baae5fa58fde75c73e5f61f", func := "heijunka/heijunkalaw14.QueueDrops", spec := "queueDrops", unfollowed := true, recurses := true, named := ["math/bits.overflowError"], apart := false, narrowed := true }
def QueueDropsUptoSaid : Prop := queueDropsUptoRow.holds Try.pinned (OpenSpec.upto queueDropsSpec)

/-- 'heijunkalaw14.QueueMixed', WHERE WHAT IT READS IS OF BULK AT MOST 1048576: true; the input reads as it did. -/
def queueMixedUptoRow : OpenClaim := { program := "ytkendajmnmchoaa", sum := "8f6d304f4e8e5160fcb7cb8d79c4c4050d16f70a4baae5fa58fde75c73e5f61f", func := "heijunka/heijunkalaw14.QueueMixed", spec := "queueMixed", unfollowed := true, recurses := true, named := ["math/bits.overflowError"], apart := false, narrowed := true }
def QueueMixedUptoSaid : Prop := queueMixedUptoRow.holds Try.pinned (OpenSpec.upto queueMixedSpec)

/-- 'heijunkalaw14.QueueEmpty', WHERE WHAT IT READS IS OF BULK AT MOST 1048576: true; the input reads as it did. -/
def queueEmptyUptoRow : OpenClaim := { program := "ytkendajmnmchoaa", sum := "8f6d304f4e8e5160fcb7cb8d79c4c4050d16f70a4baae5fa58fde75c73e5f61f", func := "heijunka/heijunkalaw14.QueueEmpty", spec := "queueEmpty", unfollowed := true, recurses := true, named := ["math/bits.overflowError"], apart := false, narrowed := true }
def QueueEmptyUptoSaid : Prop := queueEmptyUptoRow.holds Try.pinned (OpenSpec.upto queueEmptySpec)

end Rows
end Go.Proofs.Ytkendajmnmchoaa
