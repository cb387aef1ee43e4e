/-
  No cell of these rows narrows 'for every input' (looked for: loops, veiled, ifaces, maps, wideKeys, modest, calm, conditions, laid).
  DERIVED. THE GIVEN ROWS OF THIS SEAT. 5 by the template 'for every input the law returns true; each argument reads behind the call as it read before'; 0 by the template 'total and deterministic' (their statements: YtbhohnhkephefaaTotals.lean).
  GIVEN WITH THE SEED: the statements are not yours to turn. If you find one false, say at which input.
  Laid BY PROGRAM, IN A SANDBOX (cutbox-rows.mjs): the forced cells as the released guide's own fill.sh prints them over the translation 772d276164cdd08c… (all of the seat's roots in one cut). By AI agents, Wed Nov 11 2026. No macro, syntax, notation, axiom, sorry.
-/
import Derived.Test.YtbhohnhkephefaaChecked
import GoSem.Claim
import GoSem.ClaimJoined
import GoSem.ClaimMapViews
import Derived.JoinedTies
import Derived.KernelRfl
namespace Go.Proofs.Ytbhohnhkephefaa
/- THE CELL 'sum', in the pinned program and in every row, IS THE sha256 OF THE DUMP (.gsa) THAT YtbhohnhkephefaaProg.lean LOADS. Nothing in Lean hashes anything: it is a label: what it is worth is what the hold of that sum in a sandbox is worth. -/
noncomputable def Try.pinned : Pinned := { name := "ytbhohnhkephefaa", sum := "772d276164cdd08cfbd60ffee0e7765ae2dfb2745ac9e2aeb8bb641302da7e77", checked := Try.checked }
namespace Rows
def none {H : Type} : Left H := { results := [], args := [] }

/-- 'heijunkalaw14.QueuePlays': WHATEVER THE INPUT: true; the input reads as it did. -/
def queuePlaysSpec : ChangeSpec := { name := "queuePlays", fn := fun _ => fun
  | [d] => { results := [.lit (.bool true)], args := [d] }
  | _ => none }
def queuePlaysRow : OpenClaim := { program := "ytbhohnhkephefaa", sum := "772d276164cdd08cfbd60ffee0e7765ae2dfb2745ac9e2aeb8bb641302da7e77", func := "heijunka/heijunkalaw14.QueuePlays", spec := "queuePlays", unfollowed := true, recurses := true, named := ["math/bits.overflowError"], apart := false }
def QueuePlaysSaid : Prop := queuePlaysRow.holds Try.pinned (OpenSpec.ofChange queuePlaysSpec)

/-- ITS FALSE NEIGHBOUR: 'it returns false'. Refute it at one input. -/
def queuePlaysWrong : ChangeSpec := { name := "queuePlays", fn := fun _ => fun
  | [d] => { results := [.lit (.bool false)], args := [d] }
  | _ => none }
def QueuePlaysWrongFalsely : Prop := queuePlaysRow.holds Try.pinned (OpenSpec.ofChange queuePlaysWrong)

/-- 'heijunkalaw14.QueueSorts': WHATEVER THE INPUT: true; the input reads as it did. -/
def queueSortsSpec : ChangeSpec := { name := "queueSorts", fn := fun _ => fun
  | [d] => { results := [.lit (.bool true)], args := [d] }
  | _ => none }
def queueSortsRow : OpenClaim := { program := "ytbhohnhkephefaa", sum := "772d276164cdd08cfbd60ffee0e7765ae2dfb2745ac9e2aeb8bb641302da7e77", func := "heijunka/heijunkalaw14.QueueSorts", spec := "queueSorts", unfollowed := true, recurses := true, named := ["math/bits.overflowError"], apart := false }
def QueueSortsSaid : Prop := queueSortsRow.holds Try.pinned (OpenSpec.ofChange queueSortsSpec)

/-- ITS FALSE NEIGHBOUR: 'it returns false'. Refute it at one input. -/
def queueSortsWrong : ChangeSpec := { name := "queueSorts", fn := fun _ => fun
  | [d] => { results := [.lit (.bool false)], args := [d] }
  | _ => none }
def QueueSortsWrongFalsely : Prop := queueSortsRow.holds Try.pinned (OpenSpec.ofChange queueSortsWrong)

/-- 'heijunkalaw14.QueueDrops': WHATEVER THE INPUT: true; the input reads as it did. -/
def queueDropsSpec : ChangeSpec := { name := "queueDrops", fn := fun _ => fun
  | [d1, d2] => { results := [.lit (.bool true)], args := [d1, d2] }
  | _ => none }
def queueDropsRow : OpenClaim := { program := "ytbhohnhkephefaa", sum := "772d276164cdd08cfbd60ffee0e7765ae2dfb2745ac9e2aeb8bb641302da7e77", func := "heijunka/heijunkalaw14.QueueDrops", spec := "queueDrops", unfollowed := true, recurses := true, named := ["math/bits.overflowError"], apart := false }
def QueueDropsSaid : Prop := queueDropsRow.holds Try.pinned (OpenSpec.ofChange queueDropsSpec)

/-- ITS FALSE NEIGHBOUR: 'it returns false'. Refute it at one input. -/
def queueDropsWrong : ChangeSpec := { name := "queueDrops", fn := fun _ => fun
  | [d1, d2] => { results := [.lit (.bool false)], args := [d1, d2] }
  | _ => none }
def QueueDropsWrongFalsely : Prop := queueDropsRow.holds Try.pinned (OpenSpec.ofChange queueDropsWrong)

/-- 'heijunkalaw14.QueueMixed': WHATEVER THE INPUT: true; the input reads as it did. -/
def queueMixedSpec : ChangeSpec := { name := "queueMixed", fn := fun _ => fun
  | [d1, d2] => { results := [.lit (.bool true)], args := [d1, d2] }
  | _ => none }
def queueMixedRow : OpenClaim := { program := "ytbhohnhkephefaa", sum := "772d276164cdd08cfbd60ffee0e7765ae2dfb2745ac9e2aeb8bb641302da7e77", func := "heijunka/heijunkalaw14.QueueMixed", spec := "queueMixed", unfollowed := true, recurses := true, named := ["math/bits.overflowError"], apart := false }
def QueueMixedSaid : Prop := queueMixedRow.holds Try.pinned (OpenSpec.ofChange queueMixedSpec)

/-- ITS FALSE NEIGHBOUR: 'it returns false'. Refute it at one input. -/
def queueMixedWrong : ChangeSpec := { name := "queueMixed", fn := fun _ => fun
  | [d1, d2] => { results := [.lit (.bool false)], args := [d1, d2] }
  | _ => none }
def QueueMixedWrongFalsely : Prop := queueMixedRow.holds Try.pinned (OpenSpec.ofChange queueMixedWrong)

/-- 'heijunkalaw14.QueueEmpty': WHATEVER THE INPUT: true; the input reads as it did. -/
def queueEmptySpec : ChangeSpec := { name := "queueEmpty", fn := fun _ => fun
  | [d1, d2] => { results := [.lit (.bool true)], args := [d1, d2] }
  | _ => none }
def queueEmptyRow : OpenClaim := { program := "ytbhohnhkephefaa", sum := "772d276164cdd08cfbd60ffee0e7765ae2dfb2745ac9e2aeb8bb641302da7e77", func := "heijunka/heijunkalaw14.QueueEmpty", spec := "queueEmpty", unfollowed := true, recurses := true, named := ["math/bits.overflowError"], apart := false }
def QueueEmptySaid : Prop := queueEmptyRow.holds Try.pinned (OpenSpec.ofChange queueEmptySpec)

/-- ITS FALSE NEIGHBOUR: 'it returns false'. Refute it at one input. -/
def queueEmptyWrong : ChangeSpec := { name := "queueEmpty", fn := fun _ => fun
  | [d1, d2] => { results := [.lit (.bool false)], args := [d1, d2] }
  | _ => none }
def QueueEmptyWrongFalsely : Prop := queueEmptyRow.holds Try.pinned (OpenSpec.ofChange queueEmptyWrong)

/- THE SECOND FORM. 'bulk': how many values and letters a reading holds, each counted each time it is reached (what is shared counts as often as it is met; a slice's spare places count too). A statement '..UptoSaid' is the law's where the arguments, and the package variables that the reading takes, are together of bulk at most 1048576: NARROWER than '..Said'. Prove '..Said' where nothing that the law and all that it calls make is longer than what came in: it says more and counts as full. Else prove '..UptoSaid'. A law counts once. -/
mutual
def uptoBulk {H : Type} : DataW H → Nat
  | .lit (.string bytes) => bytes.length + 1
  | .lit _ => 1
  | .nil => 1
  | .ptr d => uptoBulk d + 1
  | .slice elems spare => uptoBulkAll elems + uptoBulkAll spare + 1
  | .agg parts => uptoBulkAll parts + 1
  | .iface _ d => uptoBulk d + 1
  | .map entries => uptoBulkEntries entries + 1
  | .held _ => 1
def uptoBulkAll {H : Type} : List (DataW H) → Nat
  | [] => 0
  | d :: r => uptoBulk d + uptoBulkAll r
def uptoBulkEntries {H : Type} : List (Lit × DataW H) → Nat
  | [] => 0
  | x :: r => uptoBulkEntry x + uptoBulkEntries r
def uptoBulkEntry {H : Type} : Lit × DataW H → Nat
  | (.string bytes, d) => bytes.length + uptoBulk d + 1
  | (_, d) => uptoBulk d + 1
 end
def uptoSmall : (H : Type) → List (DataW H) → Bool := fun _ ds => decide (uptoBulkAll ds ≤ 1048576)
def OpenSpec.upto (s : _root_.Go.ChangeSpec) : _root_.Go.OpenSpec := { _root_.Go.OpenSpec.ofChange s with cond := some uptoSmall }

/-- 'heijunkalaw14.QueuePlays', WHERE WHAT IT READS IS OF BULK AT MOST 1048576: true; the input reads as it did. -/
def queuePlaysUptoRow : OpenClaim := { program := "ytbhohnhkephefaa", sum := "772d276164cdd08cfbd60ffee0e7765ae2dfb2745ac9e2aeb8bb641302da7e77", func := "heijunka/heijunkalaw14.QueuePlays", spec := "queuePlays", unfollowed := true, recurses := true, named := ["math/bits.overflowError"], apart := false, narrowed := true }
def QueuePlaysUptoSaid : Prop := queuePlaysUptoRow.holds Try.pinned (OpenSpec.upto queuePlaysSpec)

/-- 'heijunkalaw14.QueueSorts', WHERE WHAT IT READS IS OF BULK AT MOST 1048576: true; the input reads as it did. -/
def queueSortsUptoRow : OpenClaim := { program := "ytbhohnhkephefaa", sum := "772d276164cdd08cfbd60ffee0e7765ae2dfb2745ac9e2aeb8bb641302da7e77", func := "heijunka/heijunkalaw14.QueueSorts", spec := "queueSorts", unfollowed := true, recurses := true, named := ["math/bits.overflowError"], apart := false, narrowed := true }
def QueueSortsUptoSaid : Prop := queueSortsUptoRow.holds Try.pinned (OpenSpec.upto queueSortsSpec)

/-- 'heijunkalaw14.QueueDrops', WHERE WHAT IT READS IS OF BULK AT MOST 1048576: true; the input reads as it did. -/
def queueDropsUptoRow : OpenClaim := { program := "ytbhohnhkephefaa", sum := "772d276164cdd08cfbd60ffee0e7765ae2dfb2745ac9e2aeb8bb641302da7e77", func := "heijunka/heijunkalaw14.QueueDrops", spec := "queueDrops", unfollowed := true, recurses := true, named := ["math/bits.overflowError"], apart := false, narrowed := true }
def QueueDropsUptoSaid : Prop := queueDropsUptoRow.holds Try.pinned (OpenSpec.upto queueDropsSpec)

/-- 'heijunkalaw14.QueueMixed', WHERE WHAT IT READS IS OF BULK AT MOST 1048576: true; the input reads as it did. -/
def queueMixedUptoRow : OpenClaim := { program := "ytbhohnhkephefaa", sum := "772d276164cdd08cfbd60ffee0e7765ae2dfb2745ac9e2aeb8bb641302da7e77", func := "heijunka/heijunkalaw14.QueueMixed", spec := "queueMixed", unfollowed := true, recurses := true, named := ["math/bits.overflowError"], apart := false, narrowed := true }
def QueueMixedUptoSaid : Prop := queueMixedUptoRow.holds Try.pinned (OpenSpec.upto queueMixedSpec)

/-- 'heijunkalaw14.QueueEmpty', WHERE WHAT IT READS IS OF BULK AT MOST 1048576: true; the input reads as it did. -/
def queueEmptyUptoRow : OpenClaim := { program := "ytbhohnhkephefaa", sum := "772d276164cdd08cfbd60ffee0e7765ae2dfb2745ac9e2aeb8bb641302da7e77", func := "heijunka/heijunkalaw14.QueueEmpty", spec := "queueEmpty", unfollowed := true, recurses := true, named := ["math/bits.overflowError"], apart := false, narrowed := true }
def QueueEmptyUptoSaid : Prop := queueEmptyUptoRow.holds Try.pinned (OpenSpec.upto queueEmptySpec)

end Rows
end Go.Proofs.Ytbhohnhkephefaa
