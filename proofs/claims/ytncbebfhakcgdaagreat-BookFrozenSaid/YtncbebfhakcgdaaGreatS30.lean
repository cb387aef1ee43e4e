/- Operations, bytes, orders that came in read as such. -/
import Derived.Test.YtncbebfhakcgdaaGreatS18
import Derived.Test.YtncbebfhakcgdaaGreatS28
set_option linter.unusedVariables false
set_option linter.unusedSimpArgs false
set_option maxRecDepth 100000
namespace Go.Proofs.YtncbebfhakcgdaaGreat
open Go.RowKit Go.Shelf Go.ChangeShapes Go.WideShapes Go.Deep
section
variable {H : Type} {enc : TypeId × Value -> H} {w : World} {base : Nat} {spare : Nat -> Bool} {held : Bool}
theorem cellsOp : Tryz.prog.cellsOf 31 = 9 := by kernel_rfl
theorem is_nil {fuel : Nat} {n c : Nat} {y : DataW H × List MemPlace} (h : DataW.trod enc Tryz.prog w base spare held fuel 23 [.slice none n c] = some y) : c = 0 := by
 rcases open_ints Tryz.underlying23 Tryz.underlying3 cellsII h with ⟨e, -⟩ | ⟨a, n', c', zs, e, -⟩
 ·simp at e; exact e.2
 ·simp at e
def OpOk (w : World) (p : QS × POp) : Prop := Sq 1 iCells w (.slice p.1.A p.1.n p.1.c) p.2.qtys /\ p.2.ord.fit /\ (p.1.A = none -> p.1.c = 0) /\ IFit p.2.kind /\ IFit p.2.id /\ IFit p.2.period /\ IFit p.2.qty /\ ∀ z ∈ p.2.qtys, IFit z
instance : Inhabited (QS × POp) := ⟨⟨⟨none, 0, 0⟩, ⟨0, ⟨0, 0, 0, 0⟩, 0, 0, 0, []⟩⟩⟩
theorem op_open {fuel : Nat} {cs : List Value} {y : DataW H × List MemPlace} (h : DataW.trod enc Tryz.prog w base spare held fuel 31 cs = some y) : ∃ p : QS × POp, cs = opCells p /\ OpOk w p := by
 obtain ⟨xs, m, -, -, hlen, hxl, hx⟩ := DataW.trod_struct Tryz.underlying31 h
 have h0 := hx 0 _ rfl; have h1 := hx 1 _ rfl; have h2 := hx 2 _ rfl; have h3 := hx 3 _ rfl; have h4 := hx 4 _ rfl; have h5 := hx 5 _ rfl
 rw [cellsOp] at hlen
 match cs, hlen, xs, hxl with
 | [c0, c1, c2, c3, c4, c5, c6, c7, c8], _, [y0, y1, y2, y3, y4, y5], _ =>
   simp only [List.getElem_toArray, List.getElem_cons_zero, List.getElem_cons_succ, List.getElem?_cons_zero, List.getElem?_cons_succ, cellsII, cellsOrder, cellsIIs, List.drop_zero, List.drop_succ_cons, List.take_succ_cons, List.take_zero] at h0 h1 h2 h3 h4 h5
   obtain ⟨k0, e0, -, f0⟩ := DataW.trod_int Tryz.underlying3 h0
   obtain ⟨o, e1, f1⟩ := ord_open h1
   obtain ⟨k2, e2, -, f2⟩ := DataW.trod_int Tryz.underlying3 h2
   obtain ⟨k3, e3, -, f3⟩ := DataW.trod_int Tryz.underlying3 h3
   obtain ⟨k4, e4, -, f4⟩ := DataW.trod_int Tryz.underlying3 h4
   obtain ⟨A5, n5, d5, qs, e5, g5, f5⟩ := is_open h5
   simp [oCells] at e0 e1 e2 e3 e4 e5
   obtain ⟨rfl, rfl, rfl, rfl⟩ := e1
   subst e0 e2 e3 e4 e5
   exact ⟨⟨⟨A5, n5, d5⟩, ⟨k0, o, k2, k3, k4, qs⟩⟩, rfl, g5, f1, (fun e => by
    have e' : A5 = none := e
    subst e'; exact is_nil h5), wf_fit f0, wf_fit f2, wf_fit f3, wf_fit f4, f5⟩
theorem ops_of {A : Option Addr} {n c : Nat} {l : List (QS × POp)} (h : Sq 9 opCells w (.slice A n c) l) (hk : ∀ p ∈ l, OpOk w p) : OpsIn w (.slice A n c) (l.map (·.2)) /\ ∀ o ∈ l.map (·.2), o.ord.fit := by
 have hz : (l.map (·.1)).zip (l.map (·.2)) = l := by
  clear h hk
  induction l with
  | nil => rfl
  | cons p l ih => rw [List.map_cons, List.map_cons, List.zip_cons_cons, ih]
 refine ⟨⟨l.map (·.1), by simp, fun i e o h1 h2 => ?_, by rw [hz]; exact h⟩, fun o ho => ?_⟩
 ·rw [List.getElem?_map] at h1 h2
  cases hp : l[i]? with
  | none => rw [hp] at h1; cases h1
  | some p =>
    rw [hp] at h1 h2
    injection h1 with h1; injection h2 with h2
    subst h1 h2
    exact (hk p (List.mem_of_getElem? hp)).1
 ·obtain ⟨p, hp, rfl⟩ := List.mem_map.1 ho
  exact (hk p hp).2.1
theorem arg_ops {r : Reach} {b0 : Nat} {v : Value} {d : DataW H} {p : List MemPlace} (hv : Value.okWide Tryz.prog w r b0 52 v) (h : DataW.Trod enc Tryz.prog w base spare held 52 v d p) : ArgOps w v := by
 obtain ⟨A, n, c, rfl⟩ := okWide_slice Tryz.underlying52 hv
 obtain ⟨fuel, hf⟩ := h
 obtain ⟨A', n', c', l, e, hl, hk⟩ := recs_open (en := opCells) (ok := OpOk w) Tryz.underlying52 cellsOp (by omega) (fun _ => rfl) (fun h => op_open h) hf
 simp [Value.cells] at e
 obtain ⟨rfl, rfl, rfl⟩ := e
 obtain ⟨h1, h2⟩ := ops_of hl hk
 exact ⟨_, _, _, _, rfl, h1, h2⟩
end
end Go.Proofs.YtncbebfhakcgdaaGreat
