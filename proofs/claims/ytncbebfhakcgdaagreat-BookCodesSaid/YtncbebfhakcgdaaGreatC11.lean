/- Proofs of standard forms: the law's numbers; awake. -/
import Derived.Test.YtncbebfhakcgdaaGreatC10
import Derived.Test.YtncbebfhakcgdaaGreatC9
set_option linter.unusedVariables false
set_option linter.unusedSimpArgs false
set_option maxRecDepth 100000
namespace Go.Proofs.YtncbebfhakcgdaaGreat
open Go.RowKit Go.Shelf
attribute [local go_sem ↓] Go.wp_at_zero Go.wp_at_succ
end Go.Proofs.YtncbebfhakcgdaaGreat
