/- Plans: capacities, what is committed, due, and there (the reference). -/
import Derived.Test.YtncbebfhakcgdaaGreatC15
import Derived.Test.YtncbebfhakcgdaaGreatC5
set_option linter.unusedVariables false
set_option linter.unusedSimpArgs false
set_option maxRecDepth 100000
namespace Go.Proofs.YtncbebfhakcgdaaGreat
open Go.RowKit Go.Shelf
attribute [local go_sem ↓] Go.wp_at_zero Go.wp_at_succ
end Go.Proofs.YtncbebfhakcgdaaGreat
namespace Go.Proofs.YtncbebfhakcgdaaGreat
open Go.RowKit Go.Shelf
attribute [local go_sem ↓] Go.wp_at_zero Go.wp_at_succ
structure GridIn (w : World) (v : Value) (t : List (List Int)) : Prop where
 grid : Grid w v t
 len : t.length <= 1000
 lens : ∀ r ∈ t, r.length <= 1000
 fit : ∀ r ∈ t, ∀ z ∈ r, -9223372036854775808 <= z /\ z < 9223372036854775808
theorem GridIn.later {w w' : World} {v : Value} {t : List (List Int)} (h : GridIn w v t) (hb : Later w w') : GridIn w' v t := { h with grid := h.grid.later hb }
end Go.Proofs.YtncbebfhakcgdaaGreat
namespace Go.Proofs.YtncbebfhakcgdaaGreat
open Go.RowKit Go.Shelf
attribute [local go_sem ↓] Go.wp_at_zero Go.wp_at_succ
end Go.Proofs.YtncbebfhakcgdaaGreat
namespace Go.Proofs.YtncbebfhakcgdaaGreat
open Go.RowKit Go.Shelf
attribute [local go_sem ↓] Go.wp_at_zero Go.wp_at_succ
end Go.Proofs.YtncbebfhakcgdaaGreat
namespace Go.Proofs.YtncbebfhakcgdaaGreat
open Go.RowKit Go.Shelf
attribute [local go_sem ↓] Go.wp_at_zero Go.wp_at_succ
end Go.Proofs.YtncbebfhakcgdaaGreat
namespace Go.Proofs.YtncbebfhakcgdaaGreat
open Go.RowKit Go.Shelf
attribute [local go_sem ↓] Go.wp_at_zero Go.wp_at_succ
def Stp (G : Nat) (w w' : World) : Prop := ∃ w6, Later w w6 /\ Only G w6 w'
theorem Stp.later {G : Nat} {a w w' : World} (h : Later a w) (s : Stp G w w') (hg : a.heap.size <= G) : Later a w' := by
 obtain ⟨w6, h1, h2⟩ := s; exact (h.trans h1).only h2 hg
theorem Stp.row {G g : Nat} {w w' : World} {t : TypeId} {cs : List Value} (s : Stp G w w') (r : Row w g t cs) (hg : g ≠ G) : Row w' g t cs := by
 obtain ⟨w6, h1, h2⟩ := s; exact (r.later h1).only h2 hg
def SumAt (w : World) (lo G : Nat) (s : Rat) (k : Nat) : Prop := ∃ ss As ns cs As' ns' cs', Row w G 67 [.bool ss, .slice As ns cs, .bool false, .slice As' ns' cs'] /\ On w (fun b => lo <= b /\ b ≠ G) (fun W => OwnR W 0 (.agg #[.bool ss, .slice As ns cs, .bool false, .slice As' ns' cs']) s) /\ Sized s k
theorem SumAt.later {w w' : World} {lo G : Nat} {s : Rat} {k : Nat} (h : SumAt w lo G s k) (hb : Later w w') : SumAt w' lo G s k := by
 obtain ⟨ss, As, ns, cs, As', ns', cs', h1, h2, h3⟩ := h
 exact ⟨ss, As, ns, cs, As', ns', cs', h1.later hb, h2.later hb, h3⟩
theorem SumAt.mono {w : World} {lo G : Nat} {s : Rat} {k m : Nat} (h : SumAt w lo G s k) (hm : k <= m) : SumAt w lo G s m := by
 obtain ⟨ss, As, ns, cs, As', ns', cs', h1, h2, h3⟩ := h
 exact ⟨ss, As, ns, cs, As', ns', cs', h1, h2, h3.mono hm⟩
theorem SumAt.lt {w : World} {lo G : Nat} {s : Rat} {k : Nat} (h : SumAt w lo G s k) : G < w.heap.size := by
 obtain ⟨ss, As, ns, cs, As', ns', cs', h1, -⟩ := h; exact h1.lt
end Go.Proofs.YtncbebfhakcgdaaGreat
namespace Go.Proofs.YtncbebfhakcgdaaGreat
open Go.RowKit Go.Shelf
attribute [local go_sem ↓] Go.wp_at_zero Go.wp_at_succ
theorem ENum.raw {k : Nat} {w : World} {v : Value} {q : Rat} {f : Bool} (h : ENum k w v q f) : RawR w v q k := h.1
def item0 : PItem := ⟨0, 0, 0, true, true, true⟩
end Go.Proofs.YtncbebfhakcgdaaGreat
