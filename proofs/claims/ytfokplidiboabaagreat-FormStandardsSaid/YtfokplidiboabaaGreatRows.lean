/-
  No cell of these rows narrows 'for every input' (looked for: loops, veiled, ifaces, maps, wideKeys, modest, calm, conditions, laid).
  DERIVED. THE GIVEN ROWS OF THIS SEAT. 12 by the template 'for every input the law returns true; each argument reads behind the call as it read before'; 0 by the template 'total and deterministic' (their statements: YtfokplidiboabaaGreatTotals.lean).
  GIVEN WITH THE SEED: the statements are not yours to turn. If you find one false, say at which input.
  Laid BY PROGRAM, IN A SANDBOX (cutbox-rows.mjs): the forced cells as the released guide's own fill.sh prints them over the translation b333fed1c6d40fdc… (all of the seat's roots in one cut). By AI agents, Wed Nov 11 2026. No macro, syntax, notation, axiom, sorry.
-/
import Derived.Test.YtfokplidiboabaaGreatChecked
import GoSem.Claim
import GoSem.ClaimJoined
import GoSem.ClaimMapViews
import Derived.JoinedTies
import Derived.KernelRfl
namespace Go.Proofs.YtfokplidiboabaaGreat
/- THE CELL 'sum', in the pinned program and in every row, IS THE sha256 OF THE DUMP (.gsa) THAT YtfokplidiboabaaGreatProg.lean LOADS. Nothing in Lean hashes anything: it is a label: what it is worth is what the hold of that sum in a sandbox is worth. -/
noncomputable def Tryz.pinned : Pinned := { name := "ytfokplidiboabaagreat", sum := "b333fed1c6d40fdc41c20481a089e8bea64444968d9f7deccc994b4444ed54ad", checked := Tryz.checked }
namespace Rows
def none {H : Type} : Left H := { results := [], args := [] }

/-- 'heijunkalaw11.FormStandards': WHATEVER THE INPUT: true; the input reads as it did. -/
def formStandardsSpec : ChangeSpec := { name := "formStandards", fn := fun _ => fun
  | [d] => { results := [.lit (.bool true)], args := [d] }
  | _ => none }
def formStandardsRow : OpenClaim := { program := "ytfokplidiboabaagreat", sum := "b333fed1c6d40fdc41c20481a089e8bea64444968d9f7deccc994b4444ed54ad", func := "heijunka/heijunkalaw11.FormStandards", spec := "formStandards", unfollowed := true, recurses := true, named := ["math/bits.overflowError"], apart := false }
def FormStandardsSaid : Prop := formStandardsRow.holds Tryz.pinned (OpenSpec.ofChange formStandardsSpec)

/-- ITS FALSE NEIGHBOUR: 'it returns false'. Refute it at one input. -/
def formStandardsWrong : ChangeSpec := { name := "formStandards", fn := fun _ => fun
  | [d] => { results := [.lit (.bool false)], args := [d] }
  | _ => none }
def FormStandardsWrongFalsely : Prop := formStandardsRow.holds Tryz.pinned (OpenSpec.ofChange formStandardsWrong)

/-- 'heijunkalaw11.FormBack': WHATEVER THE INPUT: true; the input reads as it did. -/
def formBackSpec : ChangeSpec := { name := "formBack", fn := fun _ => fun
  | [d1, d2, d3] => { results := [.lit (.bool true)], args := [d1, d2, d3] }
  | _ => none }
def formBackRow : OpenClaim := { program := "ytfokplidiboabaagreat", sum := "b333fed1c6d40fdc41c20481a089e8bea64444968d9f7deccc994b4444ed54ad", func := "heijunka/heijunkalaw11.FormBack", spec := "formBack", unfollowed := true, recurses := true, named := ["math/bits.overflowError"], apart := false }
def FormBackSaid : Prop := formBackRow.holds Tryz.pinned (OpenSpec.ofChange formBackSpec)

/-- ITS FALSE NEIGHBOUR: 'it returns false'. Refute it at one input. -/
def formBackWrong : ChangeSpec := { name := "formBack", fn := fun _ => fun
  | [d1, d2, d3] => { results := [.lit (.bool false)], args := [d1, d2, d3] }
  | _ => none }
def FormBackWrongFalsely : Prop := formBackRow.holds Tryz.pinned (OpenSpec.ofChange formBackWrong)

/-- 'heijunkalaw11.FormKeeps': WHATEVER THE INPUT: true; the input reads as it did. -/
def formKeepsSpec : ChangeSpec := { name := "formKeeps", fn := fun _ => fun
  | [d1, d2] => { results := [.lit (.bool true)], args := [d1, d2] }
  | _ => none }
def formKeepsRow : OpenClaim := { program := "ytfokplidiboabaagreat", sum := "b333fed1c6d40fdc41c20481a089e8bea64444968d9f7deccc994b4444ed54ad", func := "heijunka/heijunkalaw11.FormKeeps", spec := "formKeeps", unfollowed := true, recurses := true, named := ["math/bits.overflowError"], apart := false }
def FormKeepsSaid : Prop := formKeepsRow.holds Tryz.pinned (OpenSpec.ofChange formKeepsSpec)

/-- ITS FALSE NEIGHBOUR: 'it returns false'. Refute it at one input. -/
def formKeepsWrong : ChangeSpec := { name := "formKeeps", fn := fun _ => fun
  | [d1, d2] => { results := [.lit (.bool false)], args := [d1, d2] }
  | _ => none }
def FormKeepsWrongFalsely : Prop := formKeepsRow.holds Tryz.pinned (OpenSpec.ofChange formKeepsWrong)

/-- 'heijunkalaw11.FormCosts': WHATEVER THE INPUT: true; the input reads as it did. -/
def formCostsSpec : ChangeSpec := { name := "formCosts", fn := fun _ => fun
  | [d1, d2] => { results := [.lit (.bool true)], args := [d1, d2] }
  | _ => none }
def formCostsRow : OpenClaim := { program := "ytfokplidiboabaagreat", sum := "b333fed1c6d40fdc41c20481a089e8bea64444968d9f7deccc994b4444ed54ad", func := "heijunka/heijunkalaw11.FormCosts", spec := "formCosts", unfollowed := true, recurses := true, named := ["math/bits.overflowError"], apart := false }
def FormCostsSaid : Prop := formCostsRow.holds Tryz.pinned (OpenSpec.ofChange formCostsSpec)

/-- ITS FALSE NEIGHBOUR: 'it returns false'. Refute it at one input. -/
def formCostsWrong : ChangeSpec := { name := "formCosts", fn := fun _ => fun
  | [d1, d2] => { results := [.lit (.bool false)], args := [d1, d2] }
  | _ => none }
def FormCostsWrongFalsely : Prop := formCostsRow.holds Tryz.pinned (OpenSpec.ofChange formCostsWrong)

/-- 'heijunkalaw11.FormSizes': WHATEVER THE INPUT: true; the input reads as it did. -/
def formSizesSpec : ChangeSpec := { name := "formSizes", fn := fun _ => fun
  | [d] => { results := [.lit (.bool true)], args := [d] }
  | _ => none }
def formSizesRow : OpenClaim := { program := "ytfokplidiboabaagreat", sum := "b333fed1c6d40fdc41c20481a089e8bea64444968d9f7deccc994b4444ed54ad", func := "heijunka/heijunkalaw11.FormSizes", spec := "formSizes", unfollowed := true, recurses := true, named := ["math/bits.overflowError"], apart := false }
def FormSizesSaid : Prop := formSizesRow.holds Tryz.pinned (OpenSpec.ofChange formSizesSpec)

/-- ITS FALSE NEIGHBOUR: 'it returns false'. Refute it at one input. -/
def formSizesWrong : ChangeSpec := { name := "formSizes", fn := fun _ => fun
  | [d] => { results := [.lit (.bool false)], args := [d] }
  | _ => none }
def FormSizesWrongFalsely : Prop := formSizesRow.holds Tryz.pinned (OpenSpec.ofChange formSizesWrong)

/-- 'heijunkalaw11.FormShifts': WHATEVER THE INPUT: true; the input reads as it did. -/
def formShiftsSpec : ChangeSpec := { name := "formShifts", fn := fun _ => fun
  | [d1, d2] => { results := [.lit (.bool true)], args := [d1, d2] }
  | _ => none }
def formShiftsRow : OpenClaim := { program := "ytfokplidiboabaagreat", sum := "b333fed1c6d40fdc41c20481a089e8bea64444968d9f7deccc994b4444ed54ad", func := "heijunka/heijunkalaw11.FormShifts", spec := "formShifts", unfollowed := true, recurses := true, named := ["math/bits.overflowError"], apart := false }
def FormShiftsSaid : Prop := formShiftsRow.holds Tryz.pinned (OpenSpec.ofChange formShiftsSpec)

/-- ITS FALSE NEIGHBOUR: 'it returns false'. Refute it at one input. -/
def formShiftsWrong : ChangeSpec := { name := "formShifts", fn := fun _ => fun
  | [d1, d2] => { results := [.lit (.bool false)], args := [d1, d2] }
  | _ => none }
def FormShiftsWrongFalsely : Prop := formShiftsRow.holds Tryz.pinned (OpenSpec.ofChange formShiftsWrong)

/-- 'heijunkalaw15.PresolveKeeps': WHATEVER THE INPUT: true; the input reads as it did. -/
def presolveKeepsSpec : ChangeSpec := { name := "presolveKeeps", fn := fun _ => fun
  | [d1, d2] => { results := [.lit (.bool true)], args := [d1, d2] }
  | _ => none }
def presolveKeepsRow : OpenClaim := { program := "ytfokplidiboabaagreat", sum := "b333fed1c6d40fdc41c20481a089e8bea64444968d9f7deccc994b4444ed54ad", func := "heijunka/heijunkalaw15.PresolveKeeps", spec := "presolveKeeps", unfollowed := true, recurses := true, named := ["math/bits.overflowError"], apart := false }
def PresolveKeepsSaid : Prop := presolveKeepsRow.holds Tryz.pinned (OpenSpec.ofChange presolveKeepsSpec)

/-- ITS FALSE NEIGHBOUR: 'it returns false'. Refute it at one input. -/
def presolveKeepsWrong : ChangeSpec := { name := "presolveKeeps", fn := fun _ => fun
  | [d1, d2] => { results := [.lit (.bool false)], args := [d1, d2] }
  | _ => none }
def PresolveKeepsWrongFalsely : Prop := presolveKeepsRow.holds Tryz.pinned (OpenSpec.ofChange presolveKeepsWrong)

/-- 'heijunkalaw15.PresolveAgain': WHATEVER THE INPUT: true; the input reads as it did. -/
def presolveAgainSpec : ChangeSpec := { name := "presolveAgain", fn := fun _ => fun
  | [d] => { results := [.lit (.bool true)], args := [d] }
  | _ => none }
def presolveAgainRow : OpenClaim := { program := "ytfokplidiboabaagreat", sum := "b333fed1c6d40fdc41c20481a089e8bea64444968d9f7deccc994b4444ed54ad", func := "heijunka/heijunkalaw15.PresolveAgain", spec := "presolveAgain", unfollowed := true, recurses := true, named := ["math/bits.overflowError"], apart := false }
def PresolveAgainSaid : Prop := presolveAgainRow.holds Tryz.pinned (OpenSpec.ofChange presolveAgainSpec)

/-- ITS FALSE NEIGHBOUR: 'it returns false'. Refute it at one input. -/
def presolveAgainWrong : ChangeSpec := { name := "presolveAgain", fn := fun _ => fun
  | [d] => { results := [.lit (.bool false)], args := [d] }
  | _ => none }
def PresolveAgainWrongFalsely : Prop := presolveAgainRow.holds Tryz.pinned (OpenSpec.ofChange presolveAgainWrong)

/-- 'heijunkalaw15.PresolvePoints': WHATEVER THE INPUT: true; the input reads as it did. -/
def presolvePointsSpec : ChangeSpec := { name := "presolvePoints", fn := fun _ => fun
  | [d] => { results := [.lit (.bool true)], args := [d] }
  | _ => none }
def presolvePointsRow : OpenClaim := { program := "ytfokplidiboabaagreat", sum := "b333fed1c6d40fdc41c20481a089e8bea64444968d9f7deccc994b4444ed54ad", func := "heijunka/heijunkalaw15.PresolvePoints", spec := "presolvePoints", unfollowed := true, recurses := true, named := ["math/bits.overflowError"], apart := false }
def PresolvePointsSaid : Prop := presolvePointsRow.holds Tryz.pinned (OpenSpec.ofChange presolvePointsSpec)

/-- ITS FALSE NEIGHBOUR: 'it returns false'. Refute it at one input. -/
def presolvePointsWrong : ChangeSpec := { name := "presolvePoints", fn := fun _ => fun
  | [d] => { results := [.lit (.bool false)], args := [d] }
  | _ => none }
def PresolvePointsWrongFalsely : Prop := presolvePointsRow.holds Tryz.pinned (OpenSpec.ofChange presolvePointsWrong)

/-- 'heijunkalaw18.LotKeeps': WHATEVER THE INPUT: true; the input reads as it did. -/
def lotKeepsSpec : ChangeSpec := { name := "lotKeeps", fn := fun _ => fun
  | [d1, d2] => { results := [.lit (.bool true)], args := [d1, d2] }
  | _ => none }
def lotKeepsRow : OpenClaim := { program := "ytfokplidiboabaagreat", sum := "b333fed1c6d40fdc41c20481a089e8bea64444968d9f7deccc994b4444ed54ad", func := "heijunka/heijunkalaw18.LotKeeps", spec := "lotKeeps", unfollowed := true, recurses := true, named := ["math/bits.overflowError"], apart := false }
def LotKeepsSaid : Prop := lotKeepsRow.holds Tryz.pinned (OpenSpec.ofChange lotKeepsSpec)

/-- ITS FALSE NEIGHBOUR: 'it returns false'. Refute it at one input. -/
def lotKeepsWrong : ChangeSpec := { name := "lotKeeps", fn := fun _ => fun
  | [d1, d2] => { results := [.lit (.bool false)], args := [d1, d2] }
  | _ => none }
def LotKeepsWrongFalsely : Prop := lotKeepsRow.holds Tryz.pinned (OpenSpec.ofChange lotKeepsWrong)

/-- 'heijunkalaw18.LotBack': WHATEVER THE INPUT: true; the input reads as it did. -/
def lotBackSpec : ChangeSpec := { name := "lotBack", fn := fun _ => fun
  | [d1, d2] => { results := [.lit (.bool true)], args := [d1, d2] }
  | _ => none }
def lotBackRow : OpenClaim := { program := "ytfokplidiboabaagreat", sum := "b333fed1c6d40fdc41c20481a089e8bea64444968d9f7deccc994b4444ed54ad", func := "heijunka/heijunkalaw18.LotBack", spec := "lotBack", unfollowed := true, recurses := true, named := ["math/bits.overflowError"], apart := false }
def LotBackSaid : Prop := lotBackRow.holds Tryz.pinned (OpenSpec.ofChange lotBackSpec)

/-- ITS FALSE NEIGHBOUR: 'it returns false'. Refute it at one input. -/
def lotBackWrong : ChangeSpec := { name := "lotBack", fn := fun _ => fun
  | [d1, d2] => { results := [.lit (.bool false)], args := [d1, d2] }
  | _ => none }
def LotBackWrongFalsely : Prop := lotBackRow.holds Tryz.pinned (OpenSpec.ofChange lotBackWrong)

/-- 'heijunkalaw18.LotSizes': WHATEVER THE INPUT: true; the input reads as it did. -/
def lotSizesSpec : ChangeSpec := { name := "lotSizes", fn := fun _ => fun
  | [d] => { results := [.lit (.bool true)], args := [d] }
  | _ => none }
def lotSizesRow : OpenClaim := { program := "ytfokplidiboabaagreat", sum := "b333fed1c6d40fdc41c20481a089e8bea64444968d9f7deccc994b4444ed54ad", func := "heijunka/heijunkalaw18.LotSizes", spec := "lotSizes", unfollowed := true, recurses := true, named := ["math/bits.overflowError"], apart := false }
def LotSizesSaid : Prop := lotSizesRow.holds Tryz.pinned (OpenSpec.ofChange lotSizesSpec)

/-- ITS FALSE NEIGHBOUR: 'it returns false'. Refute it at one input. -/
def lotSizesWrong : ChangeSpec := { name := "lotSizes", fn := fun _ => fun
  | [d] => { results := [.lit (.bool false)], args := [d] }
  | _ => none }
def LotSizesWrongFalsely : Prop := lotSizesRow.holds Tryz.pinned (OpenSpec.ofChange lotSizesWrong)

/- THE SECOND FORM. 'bulk': how many values and letters a reading holds, each counted each time it is reached (what is shared counts as often as it is met; a slice's spare places count too). A statement '..UptoSaid' is the law's where the arguments, and the package variables that the reading takes, are together of bulk at most 1048576: NARROWER than '..Said'. Prove '..Said' where nothing that the law and all that it calls make is longer than what came in: it says more and counts as full. Else prove '..UptoSaid'. A law counts once. -/
mutual
def uptoBulk {H : Type} : DataW H → Nat
  | .lit (.string bytes) => bytes.length + 1
  | .lit _ => 1
  | .nil => 1
  | .ptr d => uptoBulk d + 1
  | .slice elems spare => uptoBulkAll elems + uptoBulkAll spare + 1
  | .agg parts => uptoBulkAll parts + 1
  | .iface _ d => uptoBulk d + 1
  | .map entries => uptoBulkEntries entries + 1
  | .held _ => 1
def uptoBulkAll {H : Type} : List (DataW H) → Nat
  | [] => 0
  | d :: r => uptoBulk d + uptoBulkAll r
def uptoBulkEntries {H : Type} : List (Lit × DataW H) → Nat
  | [] => 0
  | x :: r => uptoBulkEntry x + uptoBulkEntries r
def uptoBulkEntry {H : Type} : Lit × DataW H → Nat
  | (.string bytes, d) => bytes.length + uptoBulk d + 1
  | (_, d) => uptoBulk d + 1
 end
def uptoSmall : (H : Type) → List (DataW H) → Bool := fun _ ds => decide (uptoBulkAll ds ≤ 1048576)
def OpenSpec.upto (s : _root_.Go.ChangeSpec) : _root_.Go.OpenSpec := { _root_.Go.OpenSpec.ofChange s with cond := some uptoSmall }

/-- 'heijunkalaw11.FormStandards', WHERE WHAT IT READS IS OF BULK AT MOST 1048576: true; the input reads as it did. -/
def formStandardsUptoRow : OpenClaim := { program := "ytfokplidiboabaagreat", sum := "b333fed1c6d40fdc41c20481a089e8bea64444968d9f7deccc994b4444ed54ad", func := "heijunka/heijunkalaw11.FormStandards", spec := "formStandards", unfollowed := true, recurses := true, named := ["math/bits.overflowError"], apart := false, narrowed := true }
def FormStandardsUptoSaid : Prop := formStandardsUptoRow.holds Tryz.pinned (OpenSpec.upto formStandardsSpec)

/-- 'heijunkalaw11.FormBack', WHERE WHAT IT READS IS OF BULK AT MOST 1048576: true; the input reads as it did. -/
def formBackUptoRow : OpenClaim := { program := "ytfokplidiboabaagreat", sum := "b333fed1c6d40fdc41c20481a089e8bea64444968d9f7deccc994b4444ed54ad", func := "heijunka/heijunkalaw11.FormBack", spec := "formBack", unfollowed := true, recurses := true, named := ["math/bits.overflowError"], apart := false, narrowed := true }
def FormBackUptoSaid : Prop := formBackUptoRow.holds Tryz.pinned (OpenSpec.upto formBackSpec)

/-- 'heijunkalaw11.FormKeeps', WHERE WHAT IT READS IS OF BULK AT MOST 1048576: true; the input reads as it did. -/
def formKeepsUptoRow : OpenClaim := { program := "ytfokplidiboabaagreat", sum := "b333fed1c6d40fdc41c20481a089e8bea64444968d9f7deccc994b4444ed54ad", func := "heijunka/heijunkalaw11.FormKeeps", spec := "formKeeps", unfollowed := true, recurses := true, named := ["math/bits.overflowError"], apart := false, narrowed := true }
def FormKeepsUptoSaid : Prop := formKeepsUptoRow.holds Tryz.pinned (OpenSpec.upto formKeepsSpec)

/-- 'heijunkalaw11.FormCosts', WHERE WHAT IT READS IS OF BULK AT MOST 1048576: true; the input reads as it did. -/
def formCostsUptoRow : OpenClaim := { program := "ytfokplidiboabaagreat", sum := "b333fed1c6d40fdc41c20481a089e8bea64444968d9f7deccc994b4444ed54ad", func := "heijunka/heijunkalaw11.FormCosts", spec := "formCosts", unfollowed := true, recurses := true, named := ["math/bits.overflowError"], apart := false, narrowed := true }
def FormCostsUptoSaid : Prop := formCostsUptoRow.holds Tryz.pinned (OpenSpec.upto formCostsSpec)

/-- 'heijunkalaw11.FormSizes', WHERE WHAT IT READS IS OF BULK AT MOST 1048576: true; the input reads as it did. -/
def formSizesUptoRow : OpenClaim := { program := "ytfokplidiboabaagreat", sum := "b333fed1c6d40fdc41c20481a089e8bea64444968d9f7deccc994b4444ed54ad", func := "heijunka/heijunkalaw11.FormSizes", spec := "formSizes", unfollowed := true, recurses := true, named := ["math/bits.overflowError"], apart := false, narrowed := true }
def FormSizesUptoSaid : Prop := formSizesUptoRow.holds Tryz.pinned (OpenSpec.upto formSizesSpec)

/-- 'heijunkalaw11.FormShifts', WHERE WHAT IT READS IS OF BULK AT MOST 1048576: true; the input reads as it did. -/
def formShiftsUptoRow : OpenClaim := { program := "ytfokplidiboabaagreat", sum := "b333fed1c6d40fdc41c20481a089e8bea64444968d9f7deccc994b4444ed54ad", func := "heijunka/heijunkalaw11.FormShifts", spec := "formShifts", unfollowed := true, recurses := true, named := ["math/bits.overflowError"], apart := false, narrowed := true }
def FormShiftsUptoSaid : Prop := formShiftsUptoRow.holds Tryz.pinned (OpenSpec.upto formShiftsSpec)

/-- 'heijunkalaw15.PresolveKeeps', WHERE WHAT IT READS IS OF BULK AT MOST 1048576: true; the input reads as it did. -/
def presolveKeepsUptoRow : OpenClaim := { program := "ytfokplidiboabaagreat", sum := "b333fed1c6d40fdc41c20481a089e8bea64444968d9f7deccc994b4444ed54ad", func := "heijunka/heijunkalaw15.PresolveKeeps", spec := "presolveKeeps", unfollowed := true, recurses := true, named := ["math/bits.overflowError"], apart := false, narrowed := true }
def PresolveKeepsUptoSaid : Prop := presolveKeepsUptoRow.holds Tryz.pinned (OpenSpec.upto presolveKeepsSpec)

/-- 'heijunkalaw15.PresolveAgain', WHERE WHAT IT READS IS OF BULK AT MOST 1048576: true; the input reads as it did. -/
def presolveAgainUptoRow : OpenClaim := { program := "ytfokplidiboabaagreat", sum := "b333fed1c6d40fdc41c20481a089e8bea64444968d9f7deccc994b4444ed54ad", func := "heijunka/heijunkalaw15.PresolveAgain", spec := "presolveAgain", unfollowed := true, recurses := true, named := ["math/bits.overflowError"], apart := false, narrowed := true }
def PresolveAgainUptoSaid : Prop := presolveAgainUptoRow.holds Tryz.pinned (OpenSpec.upto presolveAgainSpec)

/-- 'heijunkalaw15.PresolvePoints', WHERE WHAT IT READS IS OF BULK AT MOST 1048576: true; the input reads as it did. -/
def presolvePointsUptoRow : OpenClaim := { program := "ytfokplidiboabaagreat", sum := "b333fed1c6d40fdc41c20481a089e8bea64444968d9f7deccc994b4444ed54ad", func := "heijunka/heijunkalaw15.PresolvePoints", spec := "presolvePoints", unfollowed := true, recurses := true, named := ["math/bits.overflowError"], apart := false, narrowed := true }
def PresolvePointsUptoSaid : Prop := presolvePointsUptoRow.holds Tryz.pinned (OpenSpec.upto presolvePointsSpec)

/-- 'heijunkalaw18.LotKeeps', WHERE WHAT IT READS IS OF BULK AT MOST 1048576: true; the input reads as it did. -/
def lotKeepsUptoRow : OpenClaim := { program := "ytfokplidiboabaagreat", sum := "b333fed1c6d40fdc41c20481a089e8bea64444968d9f7deccc994b4444ed54ad", func := "heijunka/heijunkalaw18.LotKeeps", spec := "lotKeeps", unfollowed := true, recurses := true, named := ["math/bits.overflowError"], apart := false, narrowed := true }
def LotKeepsUptoSaid : Prop := lotKeepsUptoRow.holds Tryz.pinned (OpenSpec.upto lotKeepsSpec)

/-- 'heijunkalaw18.LotBack', WHERE WHAT IT READS IS OF BULK AT MOST 1048576: true; the input reads as it did. -/
def lotBackUptoRow : OpenClaim := { program := "ytfokplidiboabaagreat", sum := "b333fed1c6d40fdc41c20481a089e8bea64444968d9f7deccc994b4444ed54ad", func := "heijunka/heijunkalaw18.LotBack", spec := "lotBack", unfollowed := true, recurses := true, named := ["math/bits.overflowError"], apart := false, narrowed := true }
def LotBackUptoSaid : Prop := lotBackUptoRow.holds Tryz.pinned (OpenSpec.upto lotBackSpec)

/-- 'heijunkalaw18.LotSizes', WHERE WHAT IT READS IS OF BULK AT MOST 1048576: true; the input reads as it did. -/
def lotSizesUptoRow : OpenClaim := { program := "ytfokplidiboabaagreat", sum := "b333fed1c6d40fdc41c20481a089e8bea64444968d9f7deccc994b4444ed54ad", func := "heijunka/heijunkalaw18.LotSizes", spec := "lotSizes", unfollowed := true, recurses := true, named := ["math/bits.overflowError"], apart := false, narrowed := true }
def LotSizesUptoSaid : Prop := lotSizesUptoRow.holds Tryz.pinned (OpenSpec.upto lotSizesSpec)

end Rows
end Go.Proofs.YtfokplidiboabaaGreat
