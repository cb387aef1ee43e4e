/- An order, a pair of numbers that came in read as such. -/
import Derived.Test.YtncbebfhakcgdaaGreatU29
import Derived.Test.YtncbebfhakcgdaaGreatU30
import Derived.OpenShut
set_option linter.unusedVariables false
set_option linter.unusedSimpArgs false
set_option maxRecDepth 100000
namespace Go.Proofs.YtncbebfhakcgdaaGreat
open Go.RowKit Go.Shelf Go.ChangeShapes Go.WideShapes Go.Deep
section
variable {H : Type} {enc : TypeId × Value -> H} {w : World} {base : Nat} {spare : Nat -> Bool} {held : Bool}
theorem cellsPair : Tryz.prog.cellsOf 58 = 2 := by kernel_rfl
theorem arg_ord {r : Reach} {b0 : Nat} {v : Value} {d : DataW H} {p : List MemPlace} (hv : Value.okWide Tryz.prog w r b0 29 v) (h : DataW.Trod enc Tryz.prog w base spare held 29 v d p) : ArgOrd v := by
 obtain ⟨cs, rfl, hsz⟩ := okWide_struct Tryz.underlying29 hv
 obtain ⟨fuel, hf⟩ := h
 obtain ⟨o, e, ho⟩ := ord_open hf
 obtain ⟨l⟩ := cs
 simp [Value.cells, oCells] at e
 subst e
 exact ⟨o, rfl, ho⟩
theorem okWide_pair {r : Reach} {b0 : Nat} {v : Value} (hv : Value.okWide Tryz.prog w r b0 58 v) : ∃ cs, v = .agg cs := by
 simp only [Value.okWide, Tryz.underlying58] at hv
 obtain ⟨cs, h1, -⟩ := hv
 exact ⟨cs, h1⟩
theorem arg_pair {r : Reach} {b0 : Nat} {v : Value} {d : DataW H} {p : List MemPlace} (hv : Value.okWide Tryz.prog w r b0 58 v) (h : DataW.Trod enc Tryz.prog w base spare held 58 v d p) : ArgPair v := by
 obtain ⟨cs, rfl⟩ := okWide_pair hv
 obtain ⟨fuel, hf⟩ := h
 obtain ⟨xs, m, -, -, hlen, hxl, hx⟩ := DataW.trod_array Tryz.underlying58 hf
 have h0 := hx 0 (by omega); have h1 := hx 1 (by omega)
 rw [cellsPair] at hlen
 obtain ⟨l⟩ := cs
 match l, hlen, xs, hxl with
 | [c0, c1], _, [y0, y1], _ =>
   simp only [List.getElem?_cons_zero, List.getElem?_cons_succ, Value.cells, cellsII, Nat.zero_mul, Nat.one_mul, List.drop_zero, List.drop_succ_cons, List.take_succ_cons, List.take_zero] at h0 h1
   obtain ⟨k0, e0, -, f0⟩ := DataW.trod_int Tryz.underlying3 h0
   obtain ⟨k1, e1, -, f1⟩ := DataW.trod_int Tryz.underlying3 h1
   simp at e0 e1
   subst e0 e1
   exact ⟨k0, k1, rfl, wf_fit f0, wf_fit f1⟩
end
end Go.Proofs.YtncbebfhakcgdaaGreat
