/- Plans: what comes and goes of an item; what is there (the program). -/
import Derived.RangeFuncBox
import Derived.RangeFuncNested
import Derived.RangeFuncBound
import Derived.RangeFuncCalls
import Derived.RangeFuncLeaves
import Derived.Shelf.Abstract
import Derived.Shelf.RegionOpen
import Derived.OwnWalkIn
import Derived.TacticsInMore
import Derived.LoopNIn
import Derived.LoopIn
import Derived.Test.YtncbebfhakcgdaaGreatC13
import Derived.Test.YtncbebfhakcgdaaGreatC3
set_option linter.unusedVariables false
set_option linter.unusedSimpArgs false
set_option maxRecDepth 100000
namespace Go.Proofs.YtncbebfhakcgdaaGreat
open Go.RowKit Go.Shelf
attribute [local go_sem] Oper.semAt_some
def KeepBut (B gs : Nat) (W W' : World) : Prop := W.heap.size <= W'.heap.size /\ ∀ b, b < B -> b ≠ gs -> W'.heap[b]? = W.heap[b]?
theorem KeepBut.refl (B gs : Nat) (W : World) : KeepBut B gs W W := ⟨Nat.le_refl _, fun _ _ _ => rfl⟩
theorem KeepBut.trans {B gs : Nat} {A C D : World} (h : KeepBut B gs A C) (k : KeepBut B gs C D) : KeepBut B gs A D := ⟨Nat.le_trans h.1 k.1, fun b hb hne => (k.2 b hb hne).trans (h.2 b hb hne)⟩
theorem KeepBut.alloc {B gs : Nat} {A C : World} (h : KeepBut B gs A C) (hB : B <= C.heap.size) (o : Obj) : KeepBut B gs A (C.alloc o) :=
 ⟨by rw [World.size_alloc]; have := h.1; omega, fun b hb hne => (Below.heap_alloc C o b (by omega)).trans (h.2 b hb hne)⟩
theorem KeepBut.putObj {B gs S : Nat} (h1 : B <= S) : ∀ (W : World) (l : Nat) (o o' : Obj), S <= l -> W.heap[l]? = some o -> o.isCells = false -> o.isWalk = false -> KeepBut B gs W (W.putObj l o') := by
 intro W l o o' hl ho _ _
 exact ⟨by simp, fun k hk _ => World.putObj_heap_other (by omega)⟩
theorem KeepBut.row {B gs g : Nat} {W W' : World} {t : TypeId} {cs : List Value} (h : KeepBut B gs W W') (r : Row W g t cs) (hg : g < B) (hne : g ≠ gs) : Row W' g t cs := (h.2 g hg hne).trans r
end Go.Proofs.YtncbebfhakcgdaaGreat
namespace Go.Proofs.YtncbebfhakcgdaaGreat
open Go.RowKit Go.Shelf
attribute [local go_sem] Oper.semAt_some
end Go.Proofs.YtncbebfhakcgdaaGreat
namespace Go.Proofs.YtncbebfhakcgdaaGreat
open Go.RowKit Go.Shelf
attribute [local go_sem ↓] Go.wp_at_zero Go.wp_at_succ
end Go.Proofs.YtncbebfhakcgdaaGreat
namespace Go.Proofs.YtncbebfhakcgdaaGreat
open Go.RowKit Go.Shelf
attribute [local go_sem ↓] Go.wp_at_zero Go.wp_at_succ
end Go.Proofs.YtncbebfhakcgdaaGreat
