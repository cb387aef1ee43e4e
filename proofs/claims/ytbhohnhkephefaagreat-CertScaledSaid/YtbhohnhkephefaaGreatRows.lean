/-
  No cell of these rows narrows 'for every input' (looked for: loops, veiled, ifaces, maps, wideKeys, modest, calm, conditions, laid).
  DERIVED. THE GIVEN ROWS OF THIS SEAT. 5 by the template 'for every input the law returns true; each argument reads behind the call as it read before'; 0 by the template 'total and deterministic' (their statements: YtbhohnhkephefaaGreatTotals.lean).
  GIVEN WITH THE SEED: the statements are not yours to turn. If you find one false, say at which input.
  Laid BY PROGRAM, IN A SANDBOX (cutbox-rows.mjs): the forced cells as the released guide's own fill.sh prints them over the translation 2499bb252a9bb6d6… (all of the seat's roots in one cut). By AI agents, Wed Nov 11 2026. No macro, syntax, notation, axiom, sorry.
-/
import Derived.Test.YtbhohnhkephefaaGreatChecked
import GoSem.Claim
import GoSem.ClaimJoined
import GoSem.ClaimMapViews
import Derived.JoinedTies
import Derived.KernelRfl
namespace Go.Proofs.YtbhohnhkephefaaGreat
/- THE CELL 'sum', in the pinned program and in every row, IS THE sha256 OF THE DUMP (.gsa) THAT YtbhohnhkephefaaGreatProg.lean LOADS. Nothing in Lean hashes anything: it is a label: what it is worth is what the hold of that sum in a sandbox is worth. -/
noncomputable def Tryz.pinned : Pinned := { name := "ytbhohnhkephefaagreat", sum := "2499bb252a9bb6d60b7734c22d1e4815f6c819d428a404e763b7eae26f24d891", checked := Tryz.checked }
namespace Rows
def none {H : Type} : Left H := { results := [], args := [] }

/-- 'heijunkalaw12.CertTells': WHATEVER THE INPUT: true; the input reads as it did. -/
def certTellsSpec : ChangeSpec := { name := "certTells", fn := fun _ => fun
  | [d1, d2, d3] => { results := [.lit (.bool true)], args := [d1, d2, d3] }
  | _ => none }
def certTellsRow : OpenClaim := { program := "ytbhohnhkephefaagreat", sum := "2499bb252a9bb6d60b7734c22d1e4815f6c819d428a404e763b7eae26f24d891", func := "heijunka/heijunkalaw12.CertTells", spec := "certTells", unfollowed := true, recurses := true, named := ["math/bits.overflowError"], apart := false }
def CertTellsSaid : Prop := certTellsRow.holds Tryz.pinned (OpenSpec.ofChange certTellsSpec)

/-- ITS FALSE NEIGHBOUR: 'it returns false'. Refute it at one input. -/
def certTellsWrong : ChangeSpec := { name := "certTells", fn := fun _ => fun
  | [d1, d2, d3] => { results := [.lit (.bool false)], args := [d1, d2, d3] }
  | _ => none }
def CertTellsWrongFalsely : Prop := certTellsRow.holds Tryz.pinned (OpenSpec.ofChange certTellsWrong)

/-- 'heijunkalaw12.CertHolds': WHATEVER THE INPUT: true; the input reads as it did. -/
def certHoldsSpec : ChangeSpec := { name := "certHolds", fn := fun _ => fun
  | [d1, d2, d3] => { results := [.lit (.bool true)], args := [d1, d2, d3] }
  | _ => none }
def certHoldsRow : OpenClaim := { program := "ytbhohnhkephefaagreat", sum := "2499bb252a9bb6d60b7734c22d1e4815f6c819d428a404e763b7eae26f24d891", func := "heijunka/heijunkalaw12.CertHolds", spec := "certHolds", unfollowed := true, recurses := true, named := ["math/bits.overflowError"], apart := false }
def CertHoldsSaid : Prop := certHoldsRow.holds Tryz.pinned (OpenSpec.ofChange certHoldsSpec)

/-- ITS FALSE NEIGHBOUR: 'it returns false'. Refute it at one input. -/
def certHoldsWrong : ChangeSpec := { name := "certHolds", fn := fun _ => fun
  | [d1, d2, d3] => { results := [.lit (.bool false)], args := [d1, d2, d3] }
  | _ => none }
def CertHoldsWrongFalsely : Prop := certHoldsRow.holds Tryz.pinned (OpenSpec.ofChange certHoldsWrong)

/-- 'heijunkalaw12.CertTwice': WHATEVER THE INPUT: true; the input reads as it did. -/
def certTwiceSpec : ChangeSpec := { name := "certTwice", fn := fun _ => fun
  | [d1, d2, d3] => { results := [.lit (.bool true)], args := [d1, d2, d3] }
  | _ => none }
def certTwiceRow : OpenClaim := { program := "ytbhohnhkephefaagreat", sum := "2499bb252a9bb6d60b7734c22d1e4815f6c819d428a404e763b7eae26f24d891", func := "heijunka/heijunkalaw12.CertTwice", spec := "certTwice", unfollowed := true, recurses := true, named := ["math/bits.overflowError"], apart := false }
def CertTwiceSaid : Prop := certTwiceRow.holds Tryz.pinned (OpenSpec.ofChange certTwiceSpec)

/-- ITS FALSE NEIGHBOUR: 'it returns false'. Refute it at one input. -/
def certTwiceWrong : ChangeSpec := { name := "certTwice", fn := fun _ => fun
  | [d1, d2, d3] => { results := [.lit (.bool false)], args := [d1, d2, d3] }
  | _ => none }
def CertTwiceWrongFalsely : Prop := certTwiceRow.holds Tryz.pinned (OpenSpec.ofChange certTwiceWrong)

/-- 'heijunkalaw12.CertScaled': WHATEVER THE INPUT: true; the input reads as it did. -/
def certScaledSpec : ChangeSpec := { name := "certScaled", fn := fun _ => fun
  | [d1, d2, d3] => { results := [.lit (.bool true)], args := [d1, d2, d3] }
  | _ => none }
def certScaledRow : OpenClaim := { program := "ytbhohnhkephefaagreat", sum := "2499bb252a9bb6d60b7734c22d1e4815f6c819d428a404e763b7eae26f24d891", func := "heijunka/heijunkalaw12.CertScaled", spec := "certScaled", unfollowed := true, recurses := true, named := ["math/bits.overflowError"], apart := false }
def CertScaledSaid : Prop := certScaledRow.holds Tryz.pinned (OpenSpec.ofChange certScaledSpec)

/-- ITS FALSE NEIGHBOUR: 'it returns false'. Refute it at one input. -/
def certScaledWrong : ChangeSpec := { name := "certScaled", fn := fun _ => fun
  | [d1, d2, d3] => { results := [.lit (.bool false)], args := [d1, d2, d3] }
  | _ => none }
def CertScaledWrongFalsely : Prop := certScaledRow.holds Tryz.pinned (OpenSpec.ofChange certScaledWrong)

/-- 'heijunkalaw12.CertMore': WHATEVER THE INPUT: true; the input reads as it did. -/
def certMoreSpec : ChangeSpec := { name := "certMore", fn := fun _ => fun
  | [d1, d2, d3] => { results := [.lit (.bool true)], args := [d1, d2, d3] }
  | _ => none }
def certMoreRow : OpenClaim := { program := "ytbhohnhkephefaagreat", sum := "2499bb252a9bb6d60b7734c22d1e4815f6c819d428a404e763b7eae26f24d891", func := "heijunka/heijunkalaw12.CertMore", spec := "certMore", unfollowed := true, recurses := true, named := ["math/bits.overflowError"], apart := false }
def CertMoreSaid : Prop := certMoreRow.holds Tryz.pinned (OpenSpec.ofChange certMoreSpec)

/-- ITS FALSE NEIGHBOUR: 'it returns false'. Refute it at one input. -/
def certMoreWrong : ChangeSpec := { name := "certMore", fn := fun _ => fun
  | [d1, d2, d3] => { results := [.lit (.bool false)], args := [d1, d2, d3] }
  | _ => none }
def CertMoreWrongFalsely : Prop := certMoreRow.holds Tryz.pinned (OpenSpec.ofChange certMoreWrong)

/- THE SECOND FORM. 'bulk': how many values and letters a reading holds, each counted each time it is reached (what is shared counts as often as it is met; a slice's spare places count too). A statement '..UptoSaid' is the law's where the arguments, and the package variables that the reading takes, are together of bulk at most 1048576: NARROWER than '..Said'. Prove '..Said' where nothing that the law and all that it calls make is longer than what came in: it says more and counts as full. Else prove '..UptoSaid'. A law counts once. -/
mutual
def uptoBulk {H : Type} : DataW H → Nat
  | .lit (.string bytes) => bytes.length + 1
  | .lit _ => 1
  | .nil => 1
  | .ptr d => uptoBulk d + 1
  | .slice elems spare => uptoBulkAll elems + uptoBulkAll spare + 1
  | .agg parts => uptoBulkAll parts + 1
  | .iface _ d => uptoBulk d + 1
  | .map entries => uptoBulkEntries entries + 1
  | .held _ => 1
def uptoBulkAll {H : Type} : List (DataW H) → Nat
  | [] => 0
  | d :: r => uptoBulk d + uptoBulkAll r
def uptoBulkEntries {H : Type} : List (Lit × DataW H) → Nat
  | [] => 0
  | x :: r => uptoBulkEntry x + uptoBulkEntries r
def uptoBulkEntry {H : Type} : Lit × DataW H → Nat
  | (.string bytes, d) => bytes.length + uptoBulk d + 1
  | (_, d) => uptoBulk d + 1
 end
def uptoSmall : (H : Type) → List (DataW H) → Bool := fun _ ds => decide (uptoBulkAll ds ≤ 1048576)
def OpenSpec.upto (s : _root_.Go.ChangeSpec) : _root_.Go.OpenSpec := { _root_.Go.OpenSpec.ofChange s with cond := some uptoSmall }

/-- 'heijunkalaw12.CertTells', WHERE WHAT IT READS IS OF BULK AT MOST 1048576: true; the input reads as it did. -/
def certTellsUptoRow : OpenClaim := { program := "ytbhohnhkephefaagreat", sum := "2499bb252a9bb6d60b7734c22d1e4815f6c819d428a404e763b7eae26f24d891", func := "heijunka/heijunkalaw12.CertTells", spec := "certTells", unfollowed := true, recurses := true, named := ["math/bits.overflowError"], apart := false, narrowed := true }
def CertTellsUptoSaid : Prop := certTellsUptoRow.holds Tryz.pinned (OpenSpec.upto certTellsSpec)

/-- 'heijunkalaw12.CertHolds', WHERE WHAT IT READS IS OF BULK AT MOST 1048576: true; the input reads as it did. -/
def certHoldsUptoRow : OpenClaim := { program := "ytbhohnhkephefaagreat", sum := "2499bb252a9bb6d60b7734c22d1e4815f6c819d428a404e763b7eae26f24d891", func := "heijunka/heijunkalaw12.CertHolds", spec := "certHolds", unfollowed := true, recurses := true, named := ["math/bits.overflowError"], apart := false, narrowed := true }
def CertHoldsUptoSaid : Prop := certHoldsUptoRow.holds Tryz.pinned (OpenSpec.upto certHoldsSpec)

/-- 'heijunkalaw12.CertTwice', WHERE WHAT IT READS IS OF BULK AT MOST 1048576: true; the input reads as it did. -/
def certTwiceUptoRow : OpenClaim := { program := "ytbhohnhkephefaagreat", sum := "2499bb252a9bb6d60b7734c22d1e4815f6c819d428a404e763b7eae26f24d891", func := "heijunka/heijunkalaw12.CertTwice", spec := "certTwice", unfollowed := true, recurses := true, named := ["math/bits.overflowError"], apart := false, narrowed := true }
def CertTwiceUptoSaid : Prop := certTwiceUptoRow.holds Tryz.pinned (OpenSpec.upto certTwiceSpec)

/-- 'heijunkalaw12.CertScaled', WHERE WHAT IT READS IS OF BULK AT MOST 1048576: true; the input reads as it did. -/
def certScaledUptoRow : OpenClaim := { program := "ytbhohnhkephefaagreat", sum := "2499bb252a9bb6d60b7734c22d1e4815f6c819d428a404e763b7eae26f24d891", func := "heijunka/heijunkalaw12.CertScaled", spec := "certScaled", unfollowed := true, recurses := true, named := ["math/bits.overflowError"], apart := false, narrowed := true }
def CertScaledUptoSaid : Prop := certScaledUptoRow.holds Tryz.pinned (OpenSpec.upto certScaledSpec)

/-- 'heijunkalaw12.CertMore', WHERE WHAT IT READS IS OF BULK AT MOST 1048576: true; the input reads as it did. -/
def certMoreUptoRow : OpenClaim := { program := "ytbhohnhkephefaagreat", sum := "2499bb252a9bb6d60b7734c22d1e4815f6c819d428a404e763b7eae26f24d891", func := "heijunka/heijunkalaw12.CertMore", spec := "certMore", unfollowed := true, recurses := true, named := ["math/bits.overflowError"], apart := false, narrowed := true }
def CertMoreUptoSaid : Prop := certMoreUptoRow.holds Tryz.pinned (OpenSpec.upto certMoreSpec)

end Rows
end Go.Proofs.YtbhohnhkephefaaGreat
