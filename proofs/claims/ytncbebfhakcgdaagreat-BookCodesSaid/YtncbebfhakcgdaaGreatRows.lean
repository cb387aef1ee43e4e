/-
  No cell of these rows narrows 'for every input' (looked for: loops, veiled, ifaces, maps, wideKeys, modest, calm, conditions, laid).
  DERIVED. THE GIVEN ROWS OF THIS SEAT. 6 by the template 'for every input the law returns true; each argument reads behind the call as it read before'; 0 by the template 'total and deterministic' (their statements: YtncbebfhakcgdaaGreatTotals.lean).
  GIVEN WITH THE SEED: the statements are not yours to turn. If you find one false, say at which input.
  Laid BY PROGRAM, IN A SANDBOX (cutbox-rows.mjs): the forced cells as the released guide's own fill.sh prints them over the translation 295aff67376481f3… (all of the seat's roots in one cut). By AI agents, Wed Nov 11 2026. No macro, syntax, notation, axiom, sorry.
-/
import Derived.Test.YtncbebfhakcgdaaGreatChecked
import GoSem.Claim
import GoSem.ClaimJoined
import GoSem.ClaimMapViews
import Derived.JoinedTies
import Derived.KernelRfl
namespace Go.Proofs.YtncbebfhakcgdaaGreat
/- THE CELL 'sum', in the pinned program and in every row, IS THE sha256 OF THE DUMP (.gsa) THAT YtncbebfhakcgdaaGreatProg.lean LOADS. Nothing in Lean hashes anything: it is a label: what it is worth is what the hold of that sum in a sandbox is worth. -/
noncomputable def Tryz.pinned : Pinned := { name := "ytncbebfhakcgdaagreat", sum := "295aff67376481f3348795a64338f13f74db7ebb2611a705e8a2d120efe087cd", checked := Tryz.checked }
namespace Rows
def none {H : Type} : Left H := { results := [], args := [] }

/-- 'heijunkalaw20.BookApplies': WHATEVER THE INPUT: true; the input reads as it did. -/
def bookAppliesSpec : ChangeSpec := { name := "bookApplies", fn := fun _ => fun
  | [d1, d2] => { results := [.lit (.bool true)], args := [d1, d2] }
  | _ => none }
def bookAppliesRow : OpenClaim := { program := "ytncbebfhakcgdaagreat", sum := "295aff67376481f3348795a64338f13f74db7ebb2611a705e8a2d120efe087cd", func := "heijunka/heijunkalaw20.BookApplies", spec := "bookApplies", inPlace := ["slices.overlaps[heijunka/api.Order]"], unfollowed := true, recurses := true, named := ["math/bits.overflowError"], apart := false }
def BookAppliesSaid : Prop := bookAppliesRow.holds Tryz.pinned (OpenSpec.ofChange bookAppliesSpec)

/-- ITS FALSE NEIGHBOUR: 'it returns false'. Refute it at one input. -/
def bookAppliesWrong : ChangeSpec := { name := "bookApplies", fn := fun _ => fun
  | [d1, d2] => { results := [.lit (.bool false)], args := [d1, d2] }
  | _ => none }
def BookAppliesWrongFalsely : Prop := bookAppliesRow.holds Tryz.pinned (OpenSpec.ofChange bookAppliesWrong)

/-- 'heijunkalaw20.BookCodes': WHATEVER THE INPUT: true; the input reads as it did. -/
def bookCodesSpec : ChangeSpec := { name := "bookCodes", fn := fun _ => fun
  | [d1, d2] => { results := [.lit (.bool true)], args := [d1, d2] }
  | _ => none }
def bookCodesRow : OpenClaim := { program := "ytncbebfhakcgdaagreat", sum := "295aff67376481f3348795a64338f13f74db7ebb2611a705e8a2d120efe087cd", func := "heijunka/heijunkalaw20.BookCodes", spec := "bookCodes", inPlace := ["slices.overlaps[heijunka/api.Order]"], unfollowed := true, recurses := true, named := ["math/bits.overflowError"], apart := false }
def BookCodesSaid : Prop := bookCodesRow.holds Tryz.pinned (OpenSpec.ofChange bookCodesSpec)

/-- ITS FALSE NEIGHBOUR: 'it returns false'. Refute it at one input. -/
def bookCodesWrong : ChangeSpec := { name := "bookCodes", fn := fun _ => fun
  | [d1, d2] => { results := [.lit (.bool false)], args := [d1, d2] }
  | _ => none }
def BookCodesWrongFalsely : Prop := bookCodesRow.holds Tryz.pinned (OpenSpec.ofChange bookCodesWrong)

/-- 'heijunkalaw20.BookStory': WHATEVER THE INPUT: true; the input reads as it did. -/
def bookStorySpec : ChangeSpec := { name := "bookStory", fn := fun _ => fun
  | [d1, d2] => { results := [.lit (.bool true)], args := [d1, d2] }
  | _ => none }
def bookStoryRow : OpenClaim := { program := "ytncbebfhakcgdaagreat", sum := "295aff67376481f3348795a64338f13f74db7ebb2611a705e8a2d120efe087cd", func := "heijunka/heijunkalaw20.BookStory", spec := "bookStory", inPlace := ["slices.overlaps[heijunka/api.Order]"], unfollowed := true, recurses := true, named := ["math/bits.overflowError"], apart := false }
def BookStorySaid : Prop := bookStoryRow.holds Tryz.pinned (OpenSpec.ofChange bookStorySpec)

/-- ITS FALSE NEIGHBOUR: 'it returns false'. Refute it at one input. -/
def bookStoryWrong : ChangeSpec := { name := "bookStory", fn := fun _ => fun
  | [d1, d2] => { results := [.lit (.bool false)], args := [d1, d2] }
  | _ => none }
def BookStoryWrongFalsely : Prop := bookStoryRow.holds Tryz.pinned (OpenSpec.ofChange bookStoryWrong)

/-- 'heijunkalaw20.BookUndo': WHATEVER THE INPUT: true; the input reads as it did. -/
def bookUndoSpec : ChangeSpec := { name := "bookUndo", fn := fun _ => fun
  | [d1, d2, d3] => { results := [.lit (.bool true)], args := [d1, d2, d3] }
  | _ => none }
def bookUndoRow : OpenClaim := { program := "ytncbebfhakcgdaagreat", sum := "295aff67376481f3348795a64338f13f74db7ebb2611a705e8a2d120efe087cd", func := "heijunka/heijunkalaw20.BookUndo", spec := "bookUndo", inPlace := ["slices.overlaps[heijunka/api.Order]"], unfollowed := true, recurses := true, named := ["math/bits.overflowError"], apart := false }
def BookUndoSaid : Prop := bookUndoRow.holds Tryz.pinned (OpenSpec.ofChange bookUndoSpec)

/-- ITS FALSE NEIGHBOUR: 'it returns false'. Refute it at one input. -/
def bookUndoWrong : ChangeSpec := { name := "bookUndo", fn := fun _ => fun
  | [d1, d2, d3] => { results := [.lit (.bool false)], args := [d1, d2, d3] }
  | _ => none }
def BookUndoWrongFalsely : Prop := bookUndoRow.holds Tryz.pinned (OpenSpec.ofChange bookUndoWrong)

/-- 'heijunkalaw20.BookFrozen': WHATEVER THE INPUT: true; the input reads as it did. -/
def bookFrozenSpec : ChangeSpec := { name := "bookFrozen", fn := fun _ => fun
  | [d1, d2] => { results := [.lit (.bool true)], args := [d1, d2] }
  | _ => none }
def bookFrozenRow : OpenClaim := { program := "ytncbebfhakcgdaagreat", sum := "295aff67376481f3348795a64338f13f74db7ebb2611a705e8a2d120efe087cd", func := "heijunka/heijunkalaw20.BookFrozen", spec := "bookFrozen", inPlace := ["slices.overlaps[heijunka/api.Order]"], unfollowed := true, recurses := true, named := ["math/bits.overflowError"], apart := false }
def BookFrozenSaid : Prop := bookFrozenRow.holds Tryz.pinned (OpenSpec.ofChange bookFrozenSpec)

/-- ITS FALSE NEIGHBOUR: 'it returns false'. Refute it at one input. -/
def bookFrozenWrong : ChangeSpec := { name := "bookFrozen", fn := fun _ => fun
  | [d1, d2] => { results := [.lit (.bool false)], args := [d1, d2] }
  | _ => none }
def BookFrozenWrongFalsely : Prop := bookFrozenRow.holds Tryz.pinned (OpenSpec.ofChange bookFrozenWrong)

/-- 'heijunkalaw20.BookOrders': WHATEVER THE INPUT: true; the input reads as it did. -/
def bookOrdersSpec : ChangeSpec := { name := "bookOrders", fn := fun _ => fun
  | [d] => { results := [.lit (.bool true)], args := [d] }
  | _ => none }
def bookOrdersRow : OpenClaim := { program := "ytncbebfhakcgdaagreat", sum := "295aff67376481f3348795a64338f13f74db7ebb2611a705e8a2d120efe087cd", func := "heijunka/heijunkalaw20.BookOrders", spec := "bookOrders", inPlace := ["slices.overlaps[heijunka/api.Order]"], unfollowed := true, recurses := true, named := ["math/bits.overflowError"], apart := false }
def BookOrdersSaid : Prop := bookOrdersRow.holds Tryz.pinned (OpenSpec.ofChange bookOrdersSpec)

/-- ITS FALSE NEIGHBOUR: 'it returns false'. Refute it at one input. -/
def bookOrdersWrong : ChangeSpec := { name := "bookOrders", fn := fun _ => fun
  | [d] => { results := [.lit (.bool false)], args := [d] }
  | _ => none }
def BookOrdersWrongFalsely : Prop := bookOrdersRow.holds Tryz.pinned (OpenSpec.ofChange bookOrdersWrong)

/- THE SECOND FORM. 'bulk': how many values and letters a reading holds, each counted each time it is reached (what is shared counts as often as it is met; a slice's spare places count too). A statement '..UptoSaid' is the law's where the arguments, and the package variables that the reading takes, are together of bulk at most 1048576: NARROWER than '..Said'. Prove '..Said' where nothing that the law and all that it calls make is longer than what came in: it says more and counts as full. Else prove '..UptoSaid'. A law counts once. -/
mutual
def uptoBulk {H : Type} : DataW H → Nat
  | .lit (.string bytes) => bytes.length + 1
  | .lit _ => 1
  | .nil => 1
  | .ptr d => uptoBulk d + 1
  | .slice elems spare => uptoBulkAll elems + uptoBulkAll spare + 1
  | .agg parts => uptoBulkAll parts + 1
  | .iface _ d => uptoBulk d + 1
  | .map entries => uptoBulkEntries entries + 1
  | .held _ => 1
def uptoBulkAll {H : Type} : List (DataW H) → Nat
  | [] => 0
  | d :: r => uptoBulk d + uptoBulkAll r
def uptoBulkEntries {H : Type} : List (Lit × DataW H) → Nat
  | [] => 0
  | x :: r => uptoBulkEntry x + uptoBulkEntries r
def uptoBulkEntry {H : Type} : Lit × DataW H → Nat
  | (.string bytes, d) => bytes.length + uptoBulk d + 1
  | (_, d) => uptoBulk d + 1
 end
def uptoSmall : (H : Type) → List (DataW H) → Bool := fun _ ds => decide (uptoBulkAll ds ≤ 1048576)
def OpenSpec.upto (s : _root_.Go.ChangeSpec) : _root_.Go.OpenSpec := { _root_.Go.OpenSpec.ofChange s with cond := some uptoSmall }

/-- 'heijunkalaw20.BookApplies', WHERE WHAT IT READS IS OF BULK AT MOST 1048576: true; the input reads as it did. -/
def bookAppliesUptoRow : OpenClaim := { program := "ytncbebfhakcgdaagreat", sum := "295aff67376481f3348795a64338f13f74db7ebb2611a705e8a2d120efe087cd", func := "heijunka/heijunkalaw20.BookApplies", spec := "bookApplies", inPlace := ["slices.overlaps[heijunka/api.Order]"], unfollowed := true, recurses := true, named := ["math/bits.overflowError"], apart := false, narrowed := true }
def BookAppliesUptoSaid : Prop := bookAppliesUptoRow.holds Tryz.pinned (OpenSpec.upto bookAppliesSpec)

/-- 'heijunkalaw20.BookCodes', WHERE WHAT IT READS IS OF BULK AT MOST 1048576: true; the input reads as it did. -/
def bookCodesUptoRow : OpenClaim := { program := "ytncbebfhakcgdaagreat", sum := "295aff67376481f3348795a64338f13f74db7ebb2611a705e8a2d120efe087cd", func := "heijunka/heijunkalaw20.BookCodes", spec := "bookCodes", inPlace := ["slices.overlaps[heijunka/api.Order]"], unfollowed := true, recurses := true, named := ["math/bits.overflowError"], apart := false, narrowed := true }
def BookCodesUptoSaid : Prop := bookCodesUptoRow.holds Tryz.pinned (OpenSpec.upto bookCodesSpec)

/-- 'heijunkalaw20.BookStory', WHERE WHAT IT READS IS OF BULK AT MOST 1048576: true; the input reads as it did. -/
def bookStoryUptoRow : OpenClaim := { program := "ytncbebfhakcgdaagreat", sum := "295aff67376481f3348795a64338f13f74db7ebb2611a705e8a2d120efe087cd", func := "heijunka/heijunkalaw20.BookStory", spec := "bookStory", inPlace := ["slices.overlaps[heijunka/api.Order]"], unfollowed := true, recurses := true, named := ["math/bits.overflowError"], apart := false, narrowed := true }
def BookStoryUptoSaid : Prop := bookStoryUptoRow.holds Tryz.pinned (OpenSpec.upto bookStorySpec)

/-- 'heijunkalaw20.BookUndo', WHERE WHAT IT READS IS OF BULK AT MOST 1048576: true; the input reads as it did. -/
def bookUndoUptoRow : OpenClaim := { program := "ytncbebfhakcgdaagreat", sum := "295aff67376481f3348795a64338f13f74db7ebb2611a705e8a2d120efe087cd", func := "heijunka/heijunkalaw20.BookUndo", spec := "bookUndo", inPlace := ["slices.overlaps[heijunka/api.Order]"], unfollowed := true, recurses := true, named := ["math/bits.overflowError"], apart := false, narrowed := true }
def BookUndoUptoSaid : Prop := bookUndoUptoRow.holds Tryz.pinned (OpenSpec.upto bookUndoSpec)

/-- 'heijunkalaw20.BookFrozen', WHERE WHAT IT READS IS OF BULK AT MOST 1048576: true; the input reads as it did. -/
def bookFrozenUptoRow : OpenClaim := { program := "ytncbebfhakcgdaagreat", sum := "295aff67376481f3348795a64338f13f74db7ebb2611a705e8a2d120efe087cd", func := "heijunka/heijunkalaw20.BookFrozen", spec := "bookFrozen", inPlace := ["slices.overlaps[heijunka/api.Order]"], unfollowed := true, recurses := true, named := ["math/bits.overflowError"], apart := false, narrowed := true }
def BookFrozenUptoSaid : Prop := bookFrozenUptoRow.holds Tryz.pinned (OpenSpec.upto bookFrozenSpec)

/-- 'heijunkalaw20.BookOrders', WHERE WHAT IT READS IS OF BULK AT MOST 1048576: true; the input reads as it did. -/
def bookOrdersUptoRow : OpenClaim := { program := "ytncbebfhakcgdaagreat", sum := "295aff67376481f3348795a64338f13f74db7ebb2611a705e8a2d120efe087cd", func := "heijunka/heijunkalaw20.BookOrders", spec := "bookOrders", inPlace := ["slices.overlaps[heijunka/api.Order]"], unfollowed := true, recurses := true, named := ["math/bits.overflowError"], apart := false, narrowed := true }
def BookOrdersUptoSaid : Prop := bookOrdersUptoRow.holds Tryz.pinned (OpenSpec.upto bookOrdersSpec)

end Rows
end Go.Proofs.YtncbebfhakcgdaaGreat
