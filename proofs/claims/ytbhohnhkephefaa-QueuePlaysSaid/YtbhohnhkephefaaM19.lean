import Derived.Test.YtbhohnhkephefaaM18
import Derived.Test.YtbhohnhkephefaaM17
import Derived.Test.YtbhohnhkephefaaM15

/- The reference's Solve. -/
set_option linter.unusedVariables false
set_option linter.unusedSimpArgs false
set_option maxRecDepth 100000
namespace Go.Proofs.Ytbhohnhkephefaa
open Go.RowKit Go.Shelf
attribute [local go_sem ↓] Go.wp_at_zero Go.wp_at_succ

theorem own_at (w : World) (e : TypeId) (size : Nat) {g : Nat} (hg : g = w.heap.size) : (w.alloc (Obj.cells #[] e)).ownsRow w.heap.size e size (.slice (some ⟨g, 0, none⟩) 0 0) 0 [] := by
  rw [hg]; exact own_empty w e size
section
variable {w : World} {o : Oper} {a : Act} {K : Act → World → Prop} {Q : Exit → Act → World → Prop}
theorem wp_append_rats (s x : Operand) (ho : o.op = .call { callee := .builtin .append, args := #[s, x], argTypes := #[27, 27] })
    {E : Elem} {lo B : Nat} {v vt : Value} {l : List Rat} (hs : a.eval s = v) (hown : w.ownsRow lo 35 4 v 0 []) (hx : a.eval x = vt) (hB : lo ≤ w.heap.size)
    (hsrc : Rats (EOn (fun b => b < B) E) w vt l) (hpos : 0 < l.length) (hlen : l.length ≤ 1000000000) (hBl : B ≤ lo)
    (h : ∀ v' w', OutRats E w' (fun b => b < B) lo v' l → w.grownBy w' v.ownBlock → K (a.put o.dst v') w') : o.wp Try.prog a w K Q := by
  obtain ⟨A, n, c, rfl, hn, -, -, h'⟩ := hsrc.form
  obtain ⟨b, off, rfl⟩ : ∃ b off, A = some ⟨b, off, none⟩ := by
    obtain ⟨b, off, _, _, _, _, _, _, _, _, e, -⟩ := h'.at_ (List.getElem?_eq_getElem hpos)
    exact ⟨b, off, e⟩
  obtain ⟨es, h1, h3, ⟨h4a, h4b, h4c⟩, h6⟩ := h'.list hn
  obtain ⟨ad, c2, e5, h4d⟩ : ∃ ad c2, Value.slice (some ⟨b, off, none⟩) n c = .slice (some ad) n c2 ∧ ∀ j u, (es.flatMap fun (e : Bool × Value × Bool × Value) => [Value.bool e.1, e.2.1, Value.bool e.2.2.1, e.2.2.2])[j]? = some u → w.cell? (ad.add j) = some u := by
    rcases h4c with ⟨e5, h0⟩ | h
    · omega
    · exact h
  injection e5 with e5 e6 e7
  injection e5 with e5
  subst e5 e7
  refine wp_append_own_ s x _ ho lo 35 (.agg #[.bool false, .slice none 0 0, .bool false, .slice none 0 0]) 4 64 Try.underlying27 info_rat rfl (by omega) (by omega) v 0 [] hs hown ⟨b, off, none⟩ n c _ hx h4a h4d h4b (by omega) hB ?_
  intro v' w' k1 k2 k3
  rw [Nat.zero_add, List.nil_append] at k1
  have hlt := World.ownsRow.lt k1
  have hvl := World.ownsRow.lt hown
  refine h v' w' ⟨es, h1, by rw [← hn]; exact k1, h3, ?_⟩ k2
  have h5 : On w (fun b => b < B) (fun W => ∀ i e, i < es.length → es[i]? = some e → ∀ q, l[i]? = some q → E W (.agg #[.bool e.1, e.2.1, .bool e.2.2.1, e.2.2.2]) q) := On.list_ (T := fun i e W => ∀ q, l[i]? = some q → E W (.agg #[.bool e.1, e.2.1, .bool e.2.2.1, e.2.2.2]) q) es.length (fun i => es[i]?) (fun i e hi he => by
    obtain ⟨q, hq⟩ : ∃ q, l[i]? = some q := ⟨l[i]'(by omega), List.getElem?_eq_getElem _⟩
    refine (show On w (fun b => b < B) _ from h6 i e q he hq).map fun W hW q' hq' => ?_
    rw [hq] at hq'; injection hq' with hq'; rw [← hq']; exact hW)
  refine (h5.beside (P' := fun b => b < B ∧ some b ≠ v'.ownBlock) k2 fun b hb hlt2 => ⟨fun e => by have := (hvl b e.symm).1; omega, hb, fun e => by have := (hlt b e.symm).1; omega⟩).map fun W hW i e q hi hq => hW i e (List.getElem?_eq_some_iff.1 hi).1 hi q hq
end
theorem info_bool : (Try.prog.info? 4).map (fun i => (i.zero, i.size, i.bytes)) = some (some (.bool false), 1, 1) := by kernel_rfl
def usedV (u : List Nat) : List Value := u.map fun (x : Nat) => Value.int .i64 (x : Int)
def tkV (tk : List Bool) : List Value := tk.map Value.bool
theorem usedV_start (n : Nat) : List.replicate n (Value.int .i64 0) = usedV (List.replicate n 0) := by simp [usedV]
theorem tkV_start (n : Nat) : List.replicate n (Value.bool false) = tkV (List.replicate n false) := by simp [tkV]
theorem usedV_set (u : List Nat) (c r : Nat) : (usedV u).set c (.int .i64 (r : Int)) = usedV (u.set c r) := by simp [usedV, List.map_set]
theorem tkV_set (tk : List Bool) (r : Nat) : (tkV tk).set r (.bool true) = tkV (tk.set r true) := by simp [tkV, List.map_set]
theorem usedV_at {u : List Nat} {c : Nat} (hc : c < u.length) : (usedV u)[c]? = some (.int .i64 ((u.getD c 0 : Nat) : Int)) := by
  unfold usedV; rw [List.getElem?_map, List.getD_eq_getElem?_getD, List.getElem?_eq_getElem hc]; rfl
theorem tkV_at {tk : List Bool} {i : Nat} (hi : i < tk.length) : (tkV tk)[i]? = some (.bool (tk.getD i false)) := by
  unfold tkV; rw [List.getElem?_map, List.getD_eq_getElem?_getD, List.getElem?_eq_getElem hi]; rfl
theorem Only.grownBy {g : Nat} {w w' : World} (o : Only g w w') : w.grownBy w' (some g) := ⟨o.os, o.tape, o.output, by rw [o.size]; exact Nat.le_refl _, fun b hb hne => o.block b (fun e => hne (by rw [e]))⟩
theorem Rats.form2 {E : Elem} {w : World} {A : Option Addr} {n c : Nat} {l : List Rat} (h : Rats E w (.slice A n c) l) : n = l.length := by
  obtain ⟨_, _, _, e0, e1, -⟩ := h.form
  injection e0 with _ e0 _
  rw [e0, e1]

end Go.Proofs.Ytbhohnhkephefaa
