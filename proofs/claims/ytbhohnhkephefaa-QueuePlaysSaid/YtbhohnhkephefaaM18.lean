import Derived.Test.YtbhohnhkephefaaM17
import Derived.Test.YtbhohnhkephefaaM11

/- Tables: Pivot where there is none. -/
set_option linter.unusedVariables false
set_option linter.unusedSimpArgs false
set_option maxRecDepth 100000
namespace Go.Proofs.Ytbhohnhkephefaa
open Go.RowKit Go.Shelf
attribute [local go_sem ↓] Go.wp_at_zero Go.wp_at_succ

/-- a place where a pivot may be -/
def GoodAt (t : List (List Rat)) (r c : Int) : Prop := ∃ i j : Nat, r = (i : Int) ∧ c = (j : Int) ∧ i < t.length ∧ j < (t.getD i []).length ∧ rectB t (t.getD i []).length = true ∧ (t.getD i []).getD j 0 ≠ 0

end Go.Proofs.Ytbhohnhkephefaa


/- The reference's Pivot where there is none. -/
set_option linter.unusedVariables false
set_option linter.unusedSimpArgs false
set_option maxRecDepth 100000
namespace Go.Proofs.Ytbhohnhkephefaa
open Go.RowKit Go.Shelf
attribute [local go_sem ↓] Go.wp_at_zero Go.wp_at_succ

end Go.Proofs.Ytbhohnhkephefaa


/- The reference's Pivot: where there is one. -/
set_option linter.unusedVariables false
set_option linter.unusedSimpArgs false
set_option maxRecDepth 100000
namespace Go.Proofs.Ytbhohnhkephefaa
open Go.RowKit Go.Shelf
attribute [local go_sem ↓] Go.wp_at_zero Go.wp_at_succ

end Go.Proofs.Ytbhohnhkephefaa
