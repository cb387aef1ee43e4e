/- Tables: awake. -/
import Derived.Test.YtncbebfhakcgdaaGreatC8
set_option linter.unusedVariables false
set_option linter.unusedSimpArgs false
set_option maxRecDepth 100000
namespace Go.Proofs.YtncbebfhakcgdaaGreat
open Go.RowKit Go.Shelf
attribute [local go_sem ↓] Go.wp_at_zero Go.wp_at_succ
theorem wpAnyN_takeD {P : Program} {md : Region.Mode} {ops : Array Oper} {Q : Exit -> Act -> World -> Prop} {S : World -> Prop} {nf : List Nat} {i : Nat} {oi : Oper} {v : Value} {fuel : Nat} {listed : Array Bool} {a : Act} {w : World} (d : Option Nat) (hd : oi.dst = d) (hi : ops[i]? = some oi)
 (hs : Region.noSelect ops = true) (hf : Region.free md ops listed i = true) (hb : behind md ops nf i = true) (hr : (Region.ready md ops listed).contains i = true)
 (hQ : ∀ c a w, Q (.panic c) (a.put oi.dst v) w -> Q (.panic c) a w) (hy : YieldsIf P ops S oi v a) (hS : S w)
 (h : wpAnyN P md ops Q S nf fuel (listed.setIfInBounds i true) (a.put d v) w) : wpAnyN P md ops Q S nf (fuel + 1) listed a w :=
 wpAnyN_take hi hs hf hb hr hQ hy hS (by rw [hd]; exact h)
end Go.Proofs.YtncbebfhakcgdaaGreat
