/- The reference's whole numbers: Plain, Mul, Sub, Cmp, Add, Same. -/
import Derived.Test.YtncbebfhakcgdaaGreatC6
import Derived.Test.YtncbebfhakcgdaaGreatC5
import Derived.OrdersHeld
import Derived.Deep.RegionHeld3
import Derived.Test.YtncbebfhakcgdaaGreatC1
import Derived.Test.YtncbebfhakcgdaaGreatC4
set_option linter.unusedVariables false
set_option linter.unusedSimpArgs false
set_option maxRecDepth 100000
namespace Go.Proofs.YtncbebfhakcgdaaGreat
open Go.RowKit
attribute [local go_sem ↓] Go.wp_at_zero Go.wp_at_succ
theorem nlen_pos {n x : Nat} (h : n = (limbs x).length) : decide (0 < n) = decide (0 < x) := by
 rw [h]; by_cases h0 : x = 0
 ·subst h0; rw [limbs_zero]; rfl
 ·have := length_limbs_pos.2 h0; simp; omega
theorem Own32.open_ {T : TypeId} {w : World} {B : Nat} {v : Value} {l : List Nat} (h : Own32 T w B v l) : ∃ A n c, v = .slice A n c /\ Own32 T w B (.slice A n c) l /\ n = l.length := by
 obtain ⟨A, c, e, -⟩ := h.2.reads.form
 subst e
 exact ⟨A, _, c, rfl, h, rfl⟩
set_option maxHeartbeats 1000000 in
theorem zplain_calls (w : World) (v : Value) (z : Int) (k : Nat) (h : RawI w v z k) (hk : k <= 200000000) :
 Calls Tryz.prog 144 #[v] w (Ret w fun w' v => OwnI w' w.heap.size v z) := by
 obtain ⟨neg, A, n, c, l, rfl, hu, hz, hl⟩ := h
 have HZ := hide hz; have HU := hide hu; clear hz hu
 obtain ⟨s, hs⟩ : ∃ s, s = decide (z < 0) := ⟨_, rfl⟩
 have hs2 : s = (neg && decide (0 < val l)) := by rw [hs, HZ.out, neg_sgn]
 have HS := hide hs; have HS2 := hide hs2
 clear hs hs2
 go_enter Tryz.func144, Tryz.ntmps144
 go_wp2_with fail
 obtain ⟨W0, hW0⟩ : ∃ W0, W0 = ((w.alloc (Obj.cells #[Value.bool neg, Value.slice A n c] 65)).alloc (Obj.cells #[Value.bool false, Value.slice none 0 0] 65)) := ⟨_, rfl⟩
 obtain ⟨hb0, r1, r2, hsz⟩ := boxes2 w [.bool neg, .slice A n c] [.bool false, .slice none 0 0] 65 65 hW0
 rw [<- hW0]
 have R1 := hide r1; have R2 := hide r2; have B0 := hide hb0
 clear hW0 r1 r2 hb0
 refine (rtrim_calls _ _ l (HU.out.later B0.out) (by omega)).mono ?_
 rintro e w1 ⟨v1, rfl, o1, b1⟩
 obtain ⟨A1, n1, c1, rfl, o1, hn1⟩ := o1.open_
 have O1 := hide o1; have HP := hide (nlen_pos hn1)
 obtain ⟨d1, d2, d3, d4⟩ := row_cells2 (R1.out.later b1)
 obtain ⟨d5, d6, d7, d8⟩ := row_cells2 (R2.out.later b1)
 clear o1 hn1
 have hL := B0.out.trans b1
 have HR := hide (R2.out.later b1)
 cases neg
 case false =>
  go_wp2_with fail
  refine bodyPost_ret (results_int rfl rfl (HR.out.two _ _)) rfl ?_
  have oo := Only.two (w.heap.size + 1) w1 (.bool false) (.slice A1 n1 c1)
  refine ⟨_, rfl, OwnI.weaken (OwnI.mk_ (by rw [<- HS.out, HS2.out]; rfl) ?_) (by omega : w.heap.size <= W0.heap.size), hL.only oo (by omega)⟩
  rw [HZ.out, natAbs_sgn]; exact O1.out.only oo (by omega)
 case true =>
  have hb : decide (0 < n1) = s := by rw [HP.out, HS2.out]; rfl
  have HB := hide hb
  clear hb
  go_wp2_with fail
  refine bodyPost_ret (results_int rfl rfl (HR.out.two _ _)) rfl ?_
  have oo := Only.two (w.heap.size + 1) w1 (.bool (decide (0 < n1))) (.slice A1 n1 c1)
  refine ⟨_, rfl, OwnI.weaken (OwnI.mk_ (by rw [<- HS.out, HB.out]) ?_) (by omega : w.heap.size <= W0.heap.size), hL.only oo (by omega)⟩
  rw [HZ.out, natAbs_sgn]; exact O1.out.only oo (by omega)
theorem rawI_mk {w : World} {T : TypeId} {B : Nat} {s : Bool} {A : Option Addr} {n c x k : Nat} (h : Own32 T w B (.slice A n c) (limbs x)) (hk : (limbs x).length <= k) : RawI w (.agg #[.bool s, .slice A n c]) (sgn s x) k :=
 ⟨s, A, n, c, limbs x, rfl, h.reads, by rw [val_limbs], hk⟩
end Go.Proofs.YtncbebfhakcgdaaGreat
namespace Go.Proofs.YtncbebfhakcgdaaGreat
open Go.RowKit
attribute [local go_sem ↓] Go.wp_at_zero Go.wp_at_succ
end Go.Proofs.YtncbebfhakcgdaaGreat
namespace Go.Proofs.YtncbebfhakcgdaaGreat
open Go.RowKit Go.Shelf
attribute [local go_sem ↓] Go.wp_at_zero Go.wp_at_succ
end Go.Proofs.YtncbebfhakcgdaaGreat
namespace Go.Proofs.YtncbebfhakcgdaaGreat
open Go.RowKit
section
variable {P : Program} {ops : Array Oper} {Q : Exit -> Act -> World -> Prop} {md : Region.Mode} {S : World -> Prop} {nf : List Nat}
def wpAnyN (P : Program) (md : Region.Mode) (ops : Array Oper) (Q : Exit -> Act -> World -> Prop) (S : World -> Prop) (nf : List Nat) : Nat -> Array Bool -> Act -> World -> Prop
 | 0, listed, a, w => Region.ready md ops listed = [] /\ Q .normal a w
 | fuel + 1, listed, a, w =>
   (Region.ready md ops listed = [] -> Q .normal a w) /\
   ∀ i ∈ Region.ready md ops listed, wpOp P ops Q i (fun a' w' => (nf.contains i = false -> S w') /\ wpAnyN P md ops Q S nf fuel (listed.setIfInBounds i true) a' w') a w
theorem wpAny_of_N : ∀ (fuel : Nat) (listed : Array Bool) (a : Act) (w : World), wpAnyN P md ops Q S nf fuel listed a w -> wpAny P md ops Q fuel listed a w
 | 0, _, _, _, h => h
 | fuel + 1, _, _, _, h => ⟨h.1, fun i hi => wpOp_mono (fun a' w' h' => wpAny_of_N fuel _ a' w' h'.2) (h.2 i hi)⟩
def behind (md : Region.Mode) (ops : Array Oper) (nf : List Nat) (i : Nat) : Bool :=
 nf.all fun j => match ops[j]? with | none => true | some o => o.after.any fun e => Region.binds md e && e.on == i
theorem wpAnyN_first {i : Nat} {oi : Oper} {v : Value} (hi : ops[i]? = some oi) (hsel : ∀ (j : Nat) (o : Oper) cs b, ops[j]? = some o -> o.op ≠ .select cs b)
 (hQ : ∀ c a w, Q (.panic c) (a.put oi.dst v) w -> Q (.panic c) a w) (hbe : behind md ops nf i = true) :
 ∀ (fuel : Nat) (listed : Array Bool) (a : Act) (w : World),
   (∀ j oj, ops[j]? = some oj -> j ≠ i -> listed.getD j true = false -> (∀ e ∈ oj.after, Region.binds md e = true -> e.on ≠ i) -> oi.apart ops oj = true) ->
   i ∈ Region.ready md ops listed -> YieldsIf P ops S oi v a -> S w ->
   wpAnyN P md ops Q S nf fuel (listed.setIfInBounds i true) (a.put oi.dst v) w -> wpAnyN P md ops Q S nf (fuel + 1) listed a w := by
 intro fuel
 induction fuel with
 | zero =>
   intro listed a w _ hr hy hS H
   refine ⟨fun h => (by rw [h] at hr; cases hr), fun j hj => ?_⟩
   by_cases hji : j = i
   ·subst hji; exact hy.wpOp hi hS ⟨fun _ => hS, H⟩
   ·have := ready_mono hj hji
    rw [H.1] at this
    cases this
 | succ fuel ih =>
   intro listed a w hfree hr hy hS H
   refine ⟨fun h => (by rw [h] at hr; cases hr), fun j hj => ?_⟩
   by_cases hji : j = i
   ·subst hji; exact hy.wpOp hi hS ⟨fun _ => hS, H⟩
   ·have h1 := H.2 j (ready_mono hj hji)
    obtain ⟨hjun, oj, hoj, hall⟩ := mem_ready.1 hj
    have hnot : ∀ e ∈ oj.after, Region.binds md e = true -> e.on ≠ i := fun e he hb heq => by
     have h1 := hall e he hb
     have h0 := (mem_ready.1 hr).1
     rw [heq] at h1
     rcases Nat.lt_or_ge i listed.size with h' | h'
     ·simp [h'] at h0 h1; rw [h0] at h1; cases h1
     ·simp [Array.getElem?_eq_none h'] at h1
    have hnf : nf.contains j = false := by
     cases hc : nf.contains j with
     | false => rfl
     | true =>
       have hm : j ∈ nf := by simpa using hc
       have hb := List.all_eq_true.1 hbe j hm
       rw [hoj] at hb
       simp only [Array.any_eq_true] at hb
       obtain ⟨k, hk, hb⟩ := hb
       rw [Bool.and_eq_true] at hb
       exact absurd (by simpa using hb.2) (hnot _ (Array.getElem_mem hk) hb.1)
    have h2 := wpOp_putIf hoj (hfree j oj hoj hji hjun hnot) (fun cs b => hsel i oi cs b hi) (fun cs b => hsel j oj cs b hoj) hQ hy h1
    have hfree' : ∀ k ok, ops[k]? = some ok -> k ≠ i -> (listed.setIfInBounds j true).getD k true = false ->
     (∀ e ∈ ok.after, Region.binds md e = true -> e.on ≠ i) -> oi.apart ops ok = true := fun k ok hk hki hun hno => by
     refine hfree k ok hk hki ?_ hno
     by_cases hjk : j = k
     ·subst hjk; exact hjun
     ·rw [getD_set_ne true hjk] at hun; exact hun
    refine wpOp_mono (fun a' w' h3 => ⟨h3.2.1, ih (listed.setIfInBounds j true) a' w' hfree' (ready_mono hr (Ne.symm hji)) h3.1 (h3.2.1 hnf) ?_⟩) h2
    rw [Array.setIfInBounds_comm _ _ hji]
    exact h3.2.2
theorem wpAnyN_take {i : Nat} {oi : Oper} {v : Value} {fuel : Nat} {listed : Array Bool} {a : Act} {w : World} (hi : ops[i]? = some oi)
 (hs : Region.noSelect ops = true) (hf : Region.free md ops listed i = true) (hb : behind md ops nf i = true) (hr : (Region.ready md ops listed).contains i = true)
 (hQ : ∀ c a w, Q (.panic c) (a.put oi.dst v) w -> Q (.panic c) a w) (hy : YieldsIf P ops S oi v a) (hS : S w)
 (h : wpAnyN P md ops Q S nf fuel (listed.setIfInBounds i true) (a.put oi.dst v) w) : wpAnyN P md ops Q S nf (fuel + 1) listed a w :=
 wpAnyN_first hi (Region.noSelect_spec hs) hQ hb fuel listed a w (Region.free_spec hi hf) (by simpa using hr) hy hS h
def AllReadyN (P : Program) (md : Region.Mode) (ops : Array Oper) (Q : Exit -> Act -> World -> Prop) (S : World -> Prop) (nf : List Nat) (fuel : Nat) (listed : Array Bool) (a : Act) (w : World) (rs : List Nat) : Prop :=
 ∀ i ∈ rs, wpOp P ops Q i (fun a' w' => (nf.contains i = false -> S w') /\ wpAnyN P md ops Q S nf fuel (listed.setIfInBounds i true) a' w') a w
theorem AllReadyN.nil {fuel : Nat} {listed : Array Bool} {a : Act} {w : World} : AllReadyN P md ops Q S nf fuel listed a w [] := fun _ h => by cases h
theorem AllReadyN.held {fuel : Nat} {listed : Array Bool} {a : Act} {w : World} {i : Nat} {o : Oper} {rs : List Nat} (ho : ops[i]? = some o) (hw : Region.wanted o (yielded ops a.tmps) = true)
 (h : ∀ K : Act -> World -> Prop, Hid (∀ a' w', S w' -> (S w' -> wpAnyN P md ops Q S nf fuel (listed.setIfInBounds i true) a' w') -> K a' w') -> o.wp P a w K Q)
 (hs : AllReadyN P md ops Q S nf fuel listed a w rs) : AllReadyN P md ops Q S nf fuel listed a w (i :: rs) := fun j hj => by
 rcases List.mem_cons.1 hj with rfl | hj
 ·unfold wpOp
  simp only [ho, hw, if_true]
  exact .inl (h _ (fun a' w' hS hk => ⟨fun _ => hS, hk hS⟩))
 ·exact hs j hj
theorem AllReadyN.free {fuel : Nat} {listed : Array Bool} {a : Act} {w : World} {i : Nat} {o : Oper} {rs : List Nat} (ho : ops[i]? = some o) (hw : Region.wanted o (yielded ops a.tmps) = true) (hnf : nf.contains i = true)
 (h : ∀ K : Act -> World -> Prop, Hid (∀ a' w', wpAnyN P md ops Q S nf fuel (listed.setIfInBounds i true) a' w' -> K a' w') -> o.wp P a w K Q)
 (hs : AllReadyN P md ops Q S nf fuel listed a w rs) : AllReadyN P md ops Q S nf fuel listed a w (i :: rs) := fun j hj => by
 rcases List.mem_cons.1 hj with rfl | hj
 ·unfold wpOp
  simp only [ho, hw, if_true]
  exact .inl (h _ (fun a' w' hk => ⟨fun hc => (by rw [hnf] at hc; cases hc), hk⟩))
 ·exact hs j hj
theorem wpAnyN_ready {rs : List Nat} {fuel : Nat} {listed : Array Bool} {a : Act} {w : World} (hr : Region.ready md ops listed = rs) (hne : rs ≠ [])
 (h : AllReadyN P md ops Q S nf fuel listed a w rs) : wpAnyN P md ops Q S nf (fuel + 1) listed a w :=
 ⟨fun h0 => absurd (hr ▸ h0) hne, hr ▸ h⟩
theorem wpAnyN_done {listed : Array Bool} {a : Act} {w : World} (hr : Region.ready md ops listed = []) (h : Q .normal a w) :
 ∀ fuel, wpAnyN P md ops Q S nf fuel listed a w
 | 0 => ⟨hr, h⟩
 | _ + 1 => ⟨fun _ => h, by rw [hr]; simp⟩
theorem wp_region_N {id : Nat} {a : Act} {w : World} (S : World -> Prop) (nf : List Nat) (hm : P.follows .mixedOrders = true) (hS : S w.drew)
 (h : S w.drew -> wpAnyN P .any ops Q S nf ops.size (Array.replicate ops.size false) a w.drew) : (Code.region id ops true).wp P Q a w :=
 wp_region_any hm (wpAny_of_N _ _ _ _ (h hS))
end
end Go.Proofs.YtncbebfhakcgdaaGreat
namespace Go.Proofs.YtncbebfhakcgdaaGreat
open Go.RowKit
theorem lt_ {a b : World} (h : Later a b := by first | assumption | (repeat (first | assumption | exact Later.refl _ | apply Later.drew | refine Later.alloc ?_ _))) : Later a b := h
theorem tkN {P : Program} {md : Region.Mode} {ops : Array Oper} {Q : Exit -> Act -> World -> Prop} {S : World -> Prop} {nf : List Nat} {fuel : Nat} {listed : Array Bool} {a : Act} {w : World} (d : Nat) (i : Nat) {oi : Oper} {v : Value} (hy : ∀ w, S w -> (execOp a.eval oi).run P w = .ok (.value v) w)
 (h : wpAnyN P md ops Q S nf fuel (listed.setIfInBounds i true) (a.put (some d) v) w) (hi : ops[i]? = some oi := by rfl) (hw : Region.wanted oi (yielded ops a.tmps) = true := by rfl) (hd : oi.dst = some d := by rfl)
 (hs : Region.noSelect ops = true := by kernel_rfl) (hf : Region.free md ops listed i = true := by kernel_rfl) (hb : behind md ops nf i = true := by kernel_rfl) (hr : (Region.ready md ops listed).contains i = true := by kernel_rfl)
 (hQ : ∀ c a w, Q (.panic c) (a.put oi.dst v) w -> Q (.panic c) a w := by exact fun _ _ _ h => h) (hS : S w := by assumption) : wpAnyN P md ops Q S nf (fuel + 1) listed a w :=
 wpAnyN_take hi hs hf hb hr hQ (Or.inl ⟨hw, hy⟩) hS (by rw [hd]; exact h)
theorem tkU {P : Program} {md : Region.Mode} {ops : Array Oper} {Q : Exit -> Act -> World -> Prop} {S : World -> Prop} {nf : List Nat} {fuel : Nat} {listed : Array Bool} {a : Act} {w : World} (d : Nat) (i : Nat) {oi : Oper} 
 (h : wpAnyN P md ops Q S nf fuel (listed.setIfInBounds i true) (a.put (some d) undef) w) (hi : ops[i]? = some oi := by rfl) (hw : Region.wanted oi (yielded ops a.tmps) = false := by rfl) (hd : oi.dst = some d := by rfl)
 (hs : Region.noSelect ops = true := by kernel_rfl) (hf : Region.free md ops listed i = true := by kernel_rfl) (hb : behind md ops nf i = true := by kernel_rfl) (hr : (Region.ready md ops listed).contains i = true := by kernel_rfl)
 (hQ : ∀ c a w, Q (.panic c) (a.put oi.dst undef) w -> Q (.panic c) a w := by exact fun _ _ _ h => h) (hS : S w := by assumption) : wpAnyN P md ops Q S nf (fuel + 1) listed a w :=
 wpAnyN_take hi hs hf hb hr hQ (Or.inr ⟨hw, rfl⟩) hS (by rw [hd]; exact h)
theorem tkA {P : Program} {md : Region.Mode} {ops : Array Oper} {Q : Exit -> Act -> World -> Prop} {S : World -> Prop} {nf : List Nat} {fuel : Nat} {listed : Array Bool} {a : Act} {w : World} (d : Nat) (i : Nat) {oi : Oper} {v : Value}
 (h : wpAnyN P md ops Q S nf fuel (listed.setIfInBounds i true) (a.put (some d) v) w) (hi : ops[i]? = some oi := by rfl) (hy : ∀ w, S w -> (execOp a.eval oi).run P w = .ok (.value v) w := by (intro w hSw; (try dsimp only at hSw); go_simp; first | done | with_reducible rfl)) (hw : Region.wanted oi (yielded ops a.tmps) = true := by rfl) (hd : oi.dst = some d := by rfl)
 (hs : Region.noSelect ops = true := by kernel_rfl) (hf : Region.free md ops listed i = true := by kernel_rfl) (hb : behind md ops nf i = true := by kernel_rfl) (hr : (Region.ready md ops listed).contains i = true := by kernel_rfl)
 (hQ : ∀ c a w, Q (.panic c) (a.put oi.dst v) w -> Q (.panic c) a w := by exact fun _ _ _ h => h) (hS : S w := by assumption) : wpAnyN P md ops Q S nf (fuel + 1) listed a w :=
 wpAnyN_take hi hs hf hb hr hQ (Or.inl ⟨hw, hy⟩) hS (by rw [hd]; exact h)
theorem tkB {P : Program} {md : Region.Mode} {ops : Array Oper} {Q : Exit -> Act -> World -> Prop} {S : World -> Prop} {nf : List Nat} {fuel : Nat} {listed l' : Array Bool} {a a' : Act} {w : World} (d : Nat) (i : Nat) {oi : Oper} {v : Value}
 (h : wpAnyN P md ops Q S nf fuel l' a' w) (hi : ops[i]? = some oi := by rfl) (hy : ∀ w, S w -> (execOp a.eval oi).run P w = .ok (.value v) w := by (intro w hSw; (try dsimp only at hSw); go_simp; first | done | with_reducible rfl)) (hw : Region.wanted oi (yielded ops a.tmps) = true := by rfl) (hd : oi.dst = some d := by rfl)
 (hp : a.put (some d) v = a' := by (first | (simp only [Act.put, List.setIfInBounds_toArray, List.set_cons_zero, List.set_cons_succ] <;> rfl) | rfl)) (hl : listed.setIfInBounds i true = l' := by (first | (simp only [List.setIfInBounds_toArray, List.set_cons_zero, List.set_cons_succ] <;> rfl) | rfl))
 (hs : Region.noSelect ops = true := by kernel_rfl) (hf : Region.free md ops listed i = true := by kernel_rfl) (hb : behind md ops nf i = true := by kernel_rfl) (hr : (Region.ready md ops listed).contains i = true := by kernel_rfl)
 (hQ : ∀ c a w, Q (.panic c) (a.put oi.dst v) w -> Q (.panic c) a w := by exact fun _ _ _ h => h) (hS : S w := by assumption) : wpAnyN P md ops Q S nf (fuel + 1) listed a w :=
 wpAnyN_take hi hs hf hb hr hQ (Or.inl ⟨hw, hy⟩) hS (by rw [hd, hp, hl]; exact h)
theorem s1_ {α : Type _} (l : List α) (i : Nat) (a : α) : l.toArray.setIfInBounds i a = (l.set i a).toArray := by simp
theorem s2_ {α : Type _} (a b : α) (l : List α) : (a :: l).set 0 b = b :: l := rfl
theorem s3_ {α : Type _} (a b : α) (l : List α) (n : Nat) : (a :: l).set (n + 1) b = a :: l.set n b := rfl
end Go.Proofs.YtncbebfhakcgdaaGreat
namespace Go.Proofs.YtncbebfhakcgdaaGreat
open Go.RowKit
section
variable {P : Program} {ops : Array Oper} {Q : Exit -> Act -> World -> Prop} {md : Region.Mode} {S : World -> Prop} {nf : List Nat}
def wpAnyM (P : Program) (md : Region.Mode) (ops : Array Oper) (Q : Exit -> Act -> World -> Prop) (S : World -> Prop) (nf : List Nat) : Nat -> Array Bool -> Act -> World -> Prop
 | 0, listed, a, w => Region.ready md ops listed = [] /\ Q .normal a w
 | fuel + 1, listed, a, w =>
   (Region.ready md ops listed = [] -> Q .normal a w) /\
   ∀ i ∈ Region.ready md ops listed, wpOp P ops Q i (fun a' w' => (S w -> nf.contains i = false -> S w') /\ wpAnyM P md ops Q S nf fuel (listed.setIfInBounds i true) a' w') a w
theorem wpAny_of_M : ∀ (fuel : Nat) (listed : Array Bool) (a : Act) (w : World), wpAnyM P md ops Q S nf fuel listed a w -> wpAny P md ops Q fuel listed a w
 | 0, _, _, _, h => h
 | fuel + 1, _, _, _, h => ⟨h.1, fun i hi => wpOp_mono (fun a' w' h' => wpAny_of_M fuel _ a' w' h'.2) (h.2 i hi)⟩
theorem wpAnyM_first {i : Nat} {oi : Oper} {v : Value} (hi : ops[i]? = some oi) (hsel : ∀ (j : Nat) (o : Oper) cs b, ops[j]? = some o -> o.op ≠ .select cs b)
 (hQ : ∀ c a w, Q (.panic c) (a.put oi.dst v) w -> Q (.panic c) a w) (hbe : behind md ops nf i = true) :
 ∀ (fuel : Nat) (listed : Array Bool) (a : Act) (w : World),
   (∀ j oj, ops[j]? = some oj -> j ≠ i -> listed.getD j true = false -> (∀ e ∈ oj.after, Region.binds md e = true -> e.on ≠ i) -> oi.apart ops oj = true) ->
   i ∈ Region.ready md ops listed -> YieldsIf P ops S oi v a -> S w ->
   wpAnyM P md ops Q S nf fuel (listed.setIfInBounds i true) (a.put oi.dst v) w -> wpAnyM P md ops Q S nf (fuel + 1) listed a w := by
 intro fuel
 induction fuel with
 | zero =>
   intro listed a w _ hr hy hS H
   refine ⟨fun h => (by rw [h] at hr; cases hr), fun j hj => ?_⟩
   by_cases hji : j = i
   ·subst hji; exact hy.wpOp hi hS ⟨fun _ _ => hS, H⟩
   ·have := ready_mono hj hji
    rw [H.1] at this
    cases this
 | succ fuel ih =>
   intro listed a w hfree hr hy hS H
   refine ⟨fun h => (by rw [h] at hr; cases hr), fun j hj => ?_⟩
   by_cases hji : j = i
   ·subst hji; exact hy.wpOp hi hS ⟨fun _ _ => hS, H⟩
   ·have h1 := H.2 j (ready_mono hj hji)
    obtain ⟨hjun, oj, hoj, hall⟩ := mem_ready.1 hj
    have hnot : ∀ e ∈ oj.after, Region.binds md e = true -> e.on ≠ i := fun e he hb heq => by
     have h1 := hall e he hb
     have h0 := (mem_ready.1 hr).1
     rw [heq] at h1
     rcases Nat.lt_or_ge i listed.size with h' | h'
     ·simp [h'] at h0 h1; rw [h0] at h1; cases h1
     ·simp [Array.getElem?_eq_none h'] at h1
    have hnf : nf.contains j = false := by
     cases hc : nf.contains j with
     | false => rfl
     | true =>
       have hm : j ∈ nf := by simpa using hc
       have hb := List.all_eq_true.1 hbe j hm
       rw [hoj] at hb
       simp only [Array.any_eq_true] at hb
       obtain ⟨k, hk, hb⟩ := hb
       rw [Bool.and_eq_true] at hb
       exact absurd (by simpa using hb.2) (hnot _ (Array.getElem_mem hk) hb.1)
    have h2 := wpOp_putIf hoj (hfree j oj hoj hji hjun hnot) (fun cs b => hsel i oi cs b hi) (fun cs b => hsel j oj cs b hoj) hQ hy h1
    have hfree' : ∀ k ok, ops[k]? = some ok -> k ≠ i -> (listed.setIfInBounds j true).getD k true = false ->
     (∀ e ∈ ok.after, Region.binds md e = true -> e.on ≠ i) -> oi.apart ops ok = true := fun k ok hk hki hun hno => by
     refine hfree k ok hk hki ?_ hno
     by_cases hjk : j = k
     ·subst hjk; exact hjun
     ·rw [getD_set_ne true hjk] at hun; exact hun
    refine wpOp_mono (fun a' w' h3 => ⟨h3.2.1, ih (listed.setIfInBounds j true) a' w' hfree' (ready_mono hr (Ne.symm hji)) h3.1 (h3.2.1 hS hnf) ?_⟩) h2
    rw [Array.setIfInBounds_comm _ _ hji]
    exact h3.2.2
theorem wpAnyM_take {i : Nat} {oi : Oper} {v : Value} {fuel : Nat} {listed : Array Bool} {a : Act} {w : World} (hi : ops[i]? = some oi)
 (hs : Region.noSelect ops = true) (hf : Region.free md ops listed i = true) (hb : behind md ops nf i = true) (hr : (Region.ready md ops listed).contains i = true)
 (hQ : ∀ c a w, Q (.panic c) (a.put oi.dst v) w -> Q (.panic c) a w) (hy : YieldsIf P ops S oi v a) (hS : S w)
 (h : wpAnyM P md ops Q S nf fuel (listed.setIfInBounds i true) (a.put oi.dst v) w) : wpAnyM P md ops Q S nf (fuel + 1) listed a w :=
 wpAnyM_first hi (Region.noSelect_spec hs) hQ hb fuel listed a w (Region.free_spec hi hf) (by simpa using hr) hy hS h
theorem wpAnyM_firstP {i : Nat} {oi : Oper} {v : Value} (hi : ops[i]? = some oi) (hsel : ∀ (j : Nat) (o : Oper) cs b, ops[j]? = some o -> o.op ≠ .select cs b)
 (hQ : ∀ c a w, Q (.panic c) (a.put oi.dst v) w -> Q (.panic c) a w) :
 ∀ (fuel : Nat) (listed : Array Bool) (a : Act) (w : World),
   (∀ j oj, ops[j]? = some oj -> j ≠ i -> listed.getD j true = false -> (∀ e ∈ oj.after, Region.binds md e = true -> e.on ≠ i) -> oi.apart ops oj = true) ->
   i ∈ Region.ready md ops listed -> YieldsIf P ops (fun _ => True) oi v a ->
   wpAnyM P md ops Q S nf fuel (listed.setIfInBounds i true) (a.put oi.dst v) w -> wpAnyM P md ops Q S nf (fuel + 1) listed a w := by
 intro fuel
 induction fuel with
 | zero =>
   intro listed a w _ hr hy H
   refine ⟨fun h => (by rw [h] at hr; cases hr), fun j hj => ?_⟩
   by_cases hji : j = i
   ·subst hji; exact hy.wpOp hi trivial ⟨fun h _ => h, H⟩
   ·have := ready_mono hj hji
    rw [H.1] at this
    cases this
 | succ fuel ih =>
   intro listed a w hfree hr hy H
   refine ⟨fun h => (by rw [h] at hr; cases hr), fun j hj => ?_⟩
   by_cases hji : j = i
   ·subst hji; exact hy.wpOp hi trivial ⟨fun h _ => h, H⟩
   ·have h1 := H.2 j (ready_mono hj hji)
    obtain ⟨hjun, oj, hoj, hall⟩ := mem_ready.1 hj
    have hnot : ∀ e ∈ oj.after, Region.binds md e = true -> e.on ≠ i := fun e he hb heq => by
     have h1 := hall e he hb
     have h0 := (mem_ready.1 hr).1
     rw [heq] at h1
     rcases Nat.lt_or_ge i listed.size with h' | h'
     ·simp [h'] at h0 h1; rw [h0] at h1; cases h1
     ·simp [Array.getElem?_eq_none h'] at h1
    have h2 := wpOp_putIf hoj (hfree j oj hoj hji hjun hnot) (fun cs b => hsel i oi cs b hi) (fun cs b => hsel j oj cs b hoj) hQ hy h1
    have hfree' : ∀ k ok, ops[k]? = some ok -> k ≠ i -> (listed.setIfInBounds j true).getD k true = false ->
     (∀ e ∈ ok.after, Region.binds md e = true -> e.on ≠ i) -> oi.apart ops ok = true := fun k ok hk hki hun hno => by
     refine hfree k ok hk hki ?_ hno
     by_cases hjk : j = k
     ·subst hjk; exact hjun
     ·rw [getD_set_ne true hjk] at hun; exact hun
    refine wpOp_mono (fun a' w' h3 => ⟨h3.2.1, ih (listed.setIfInBounds j true) a' w' hfree' (ready_mono hr (Ne.symm hji)) h3.1 ?_⟩) h2
    rw [Array.setIfInBounds_comm _ _ hji]
    exact h3.2.2
theorem wpAnyM_takeD {i : Nat} {oi : Oper} {v : Value} {fuel : Nat} {listed : Array Bool} {a : Act} {w : World} (d : Option Nat) (hd : oi.dst = d) (hi : ops[i]? = some oi)
 (hs : Region.noSelect ops = true) (hf : Region.free md ops listed i = true) (hb : behind md ops nf i = true) (hr : (Region.ready md ops listed).contains i = true)
 (hQ : ∀ c a w, Q (.panic c) (a.put oi.dst v) w -> Q (.panic c) a w) (hy : YieldsIf P ops S oi v a) (hS : S w)
 (h : wpAnyM P md ops Q S nf fuel (listed.setIfInBounds i true) (a.put d v) w) : wpAnyM P md ops Q S nf (fuel + 1) listed a w :=
 wpAnyM_take hi hs hf hb hr hQ hy hS (by rw [hd]; exact h)
theorem wpAnyM_takeP {i : Nat} {oi : Oper} {v : Value} {fuel : Nat} {listed : Array Bool} {a : Act} {w : World} (d : Option Nat) (hd : oi.dst = d) (hi : ops[i]? = some oi)
 (hs : Region.noSelect ops = true) (hf : Region.free md ops listed i = true) (hr : (Region.ready md ops listed).contains i = true)
 (hQ : ∀ c a w, Q (.panic c) (a.put oi.dst v) w -> Q (.panic c) a w) (hy : YieldsIf P ops (fun _ => True) oi v a)
 (h : wpAnyM P md ops Q S nf fuel (listed.setIfInBounds i true) (a.put d v) w) : wpAnyM P md ops Q S nf (fuel + 1) listed a w :=
 wpAnyM_firstP hi (Region.noSelect_spec hs) hQ fuel listed a w (Region.free_spec hi hf) (by simpa using hr) hy (by rw [hd]; exact h)
def AllReadyM (P : Program) (md : Region.Mode) (ops : Array Oper) (Q : Exit -> Act -> World -> Prop) (S : World -> Prop) (nf : List Nat) (fuel : Nat) (listed : Array Bool) (a : Act) (w : World) (rs : List Nat) : Prop :=
 ∀ i ∈ rs, wpOp P ops Q i (fun a' w' => (S w -> nf.contains i = false -> S w') /\ wpAnyM P md ops Q S nf fuel (listed.setIfInBounds i true) a' w') a w
theorem AllReadyM.nil {fuel : Nat} {listed : Array Bool} {a : Act} {w : World} : AllReadyM P md ops Q S nf fuel listed a w [] := fun _ h => by cases h
theorem AllReadyM.held {fuel : Nat} {listed : Array Bool} {a : Act} {w : World} {i : Nat} {o : Oper} {rs : List Nat} (ho : ops[i]? = some o) (hw : Region.wanted o (yielded ops a.tmps) = true)
 (h : ∀ K : Act -> World -> Prop, Hid (∀ a' w', S w' -> (S w' -> wpAnyM P md ops Q S nf fuel (listed.setIfInBounds i true) a' w') -> K a' w') -> o.wp P a w K Q)
 (hs : AllReadyM P md ops Q S nf fuel listed a w rs) : AllReadyM P md ops Q S nf fuel listed a w (i :: rs) := fun j hj => by
 rcases List.mem_cons.1 hj with rfl | hj
 ·unfold wpOp
  simp only [ho, hw, if_true]
  exact .inl (h _ (fun a' w' hS hk => ⟨fun _ _ => hS, hk hS⟩))
 ·exact hs j hj
theorem AllReadyM.free {fuel : Nat} {listed : Array Bool} {a : Act} {w : World} {i : Nat} {o : Oper} {rs : List Nat} (ho : ops[i]? = some o) (hw : Region.wanted o (yielded ops a.tmps) = true) (hnf : nf.contains i = true)
 (h : ∀ K : Act -> World -> Prop, Hid (∀ a' w', wpAnyM P md ops Q S nf fuel (listed.setIfInBounds i true) a' w' -> K a' w') -> o.wp P a w K Q)
 (hs : AllReadyM P md ops Q S nf fuel listed a w rs) : AllReadyM P md ops Q S nf fuel listed a w (i :: rs) := fun j hj => by
 rcases List.mem_cons.1 hj with rfl | hj
 ·unfold wpOp
  simp only [ho, hw, if_true]
  exact .inl (h _ (fun a' w' hk => ⟨fun _ hc => (by rw [hnf] at hc; cases hc), hk⟩))
 ·exact hs j hj
theorem wpAnyM_ready {rs : List Nat} {fuel : Nat} {listed : Array Bool} {a : Act} {w : World} (hr : Region.ready md ops listed = rs) (hne : rs ≠ [])
 (h : AllReadyM P md ops Q S nf fuel listed a w rs) : wpAnyM P md ops Q S nf (fuel + 1) listed a w :=
 ⟨fun h0 => absurd (hr ▸ h0) hne, hr ▸ h⟩
theorem wpAnyM_done {listed : Array Bool} {a : Act} {w : World} (hr : Region.ready md ops listed = []) (h : Q .normal a w) :
 ∀ fuel, wpAnyM P md ops Q S nf fuel listed a w
 | 0 => ⟨hr, h⟩
 | _ + 1 => ⟨fun _ => h, by rw [hr]; simp⟩
theorem wp_region_M {id : Nat} {a : Act} {w : World} (S : World -> Prop) (nf : List Nat) (hm : P.follows .mixedOrders = true) (hS : S w.drew)
 (h : S w.drew -> wpAnyM P .any ops Q S nf ops.size (Array.replicate ops.size false) a w.drew) : (Code.region id ops true).wp P Q a w :=
 wp_region_any hm (wpAny_of_M _ _ _ _ (h hS))
end
end Go.Proofs.YtncbebfhakcgdaaGreat
namespace Go.Proofs.YtncbebfhakcgdaaGreat
open Go.RowKit
attribute [local go_sem ↓] Go.wp_at_zero Go.wp_at_succ
def decL : List Nat -> Nat
 | [] => 0
 | x :: l => x + 10 * decL l
theorem decL_snoc (l : List Nat) (x : Nat) : decL (l ++ [x]) = decL l + 10 ^ l.length * x := by
 induction l with
 | nil => simp [decL]
 | cons y l ih => simp only [List.cons_append, decL, ih, List.length_cons, Nat.pow_succ, Nat.mul_add]; rw [Nat.mul_comm (10 ^ l.length) 10, Nat.mul_assoc]; omega
theorem decL_drop (l : List Nat) (k x : Nat) (hx : l[k]? = some x) : decL (l.drop k) = x + 10 * decL (l.drop (k+1)) := by
 rw [List.getElem?_eq_some_iff] at hx
 obtain ⟨h1, h2⟩ := hx
 rw [List.drop_eq_getElem_cons h1, h2]; rfl
theorem decL_drop_le (l : List Nat) (k : Nat) : decL (l.drop k) <= decL l := by
 induction l generalizing k with
 | nil => simp
 | cons x l ih =>
   cases k with
   | zero => exact Nat.le_refl _
   | succ k => simp only [List.drop_succ_cons, decL]; have := ih k; omega
def OfA (w : World) (n m : Int) (l : Value) (wr : World) : Prop :=
 ∃ L : List Nat, n.natAbs = decL L + 10 ^ L.length * m.natAbs /\ (m < 0 -> n < 0) /\ (0 < m -> 0 < n) /\ (∀ x ∈ L, x < 10) /\ L.length <= 20 /\ OwnNums .u32 160 wr (w.heap.size + 2) l L /\ Later w wr /\
   Row wr w.heap.size 65 [.bool false, .slice none 0 0] /\ Row wr (w.heap.size + 1) 65 [.bool (decide (n < 0)), .slice none 0 0] /\ w.heap.size + 2 <= wr.heap.size
def OfB (w : World) (n : Int) (L : List Nat) (l : Value) (z : Int) (wr : World) : Prop :=
 ∃ A q c, OwnNums .u32 160 wr (w.heap.size + 2) l L /\ Later w wr /\ Row wr w.heap.size 65 [.bool false, .slice none 0 0] /\ Row wr (w.heap.size + 1) 65 [.bool (decide (n < 0)), .slice A q c] /\
   Own32 160 wr (w.heap.size + 2) (.slice A q c) (limbs (decL (L.drop (z+1).toNat))) /\ w.heap.size + 2 <= wr.heap.size
theorem u32_new (W : World) (d : Nat) (hd : d < 4294967296) : U32s (W.alloc (Obj.cells #[Value.int IntKind.u32 (d : Int)] 160)) (.slice (some ⟨W.heap.size, 0, none⟩) 1 1) [d] :=
 ⟨AllLt.cons hd AllLt.nil, (OwnNums.of_row (B := 0) (Row.new W 160 (nums .u32 [d])) (Nat.zero_le _) rfl (by simp [maxLen])).reads⟩
theorem u32_new1 (W : World) (o : Obj) (d : Nat) (hd : d < 4294967296) : U32s ((W.alloc o).alloc (Obj.cells #[Value.int IntKind.u32 (d : Int)] 160)) (.slice (some ⟨W.heap.size + 1, 0, none⟩) 1 1) [d] := by
 have := u32_new (W.alloc o) d hd
 rw [World.size_alloc] at this; exact this
theorem u32_ten (W : World) : U32s (W.alloc (Obj.cells #[Value.int IntKind.u32 10] 160)) (.slice (some ⟨W.heap.size, 0, none⟩) 1 1) [10] := u32_new W 10 (by omega)
theorem u32_ten1 (W : World) (o : Obj) : U32s ((W.alloc o).alloc (Obj.cells #[Value.int IntKind.u32 10] 160)) (.slice (some ⟨W.heap.size + 1, 0, none⟩) 1 1) [10] := u32_new1 W o 10 (by omega)
theorem ownNums_only {q : IntKind} {T : TypeId} {w w' : World} {B g : Nat} {v : Value} {l : List Nat} (h : OwnNums q T w B v l) (o : Only g w w') (hg : g < B) : OwnNums q T w' B v l := ownsRow_only h o hg
theorem Later.size_le {a b : World} (h : Later a b) : a.heap.size <= b.heap.size := Below.size h
theorem small_limbs {x : Nat} (h : x < 9223372036854775809 * 10) : (limbs x).length <= 3 := length_limbs_le (by omega)
set_option maxHeartbeats 4000000 in
theorem zof_calls (w : World) (n : Int) (h1 : -9223372036854775808 <= n) (h2 : n < 9223372036854775808) :
 Calls Tryz.prog 118 #[.int .i64 n] w (Ret w fun w' v => OwnI w' w.heap.size v n) := by
 obtain ⟨neg, hneg⟩ : ∃ neg, neg = decide (n < 0) := ⟨_, rfl⟩
 have hN : n.natAbs < 9223372036854775809 := by omega
 obtain ⟨n0, hn0⟩ : ∃ n0, n0 = n := ⟨_, rfl⟩
 have HN0 := hide hn0
 have hneg0 : neg = decide (n0 < 0) := by rw [hn0]; exact hneg
 have HNEG := hide hneg0
 have hN0 : n0.natAbs < 9223372036854775809 := by rw [hn0]; exact hN
 have hst : ∀ W, W = ((w.alloc (Obj.cells #[Value.bool false, Value.slice none 0 0] 65)).alloc (Obj.cells #[Value.bool neg, Value.slice none 0 0] 65)) -> OfA w n0 n (.slice none 0 0) W := by
  intro W hW
  obtain ⟨hb0, r1, r2, hsz⟩ := boxes2 w [.bool false, .slice none 0 0] [.bool neg, .slice none 0 0] 65 65 hW
  exact ⟨[], by simp [decL, hn0], by rw [hn0]; exact id, by rw [hn0]; exact id, by simp, by simp, OwnNums.nil _ _ _ _, hb0, r1, by rw [<- hneg0]; exact r2, by omega⟩
 have HST := hide hst
 have hneg1 : decide (n < 0) = neg := hneg.symm
 clear hneg hn0 hneg0 hst hN
 suffices HS : Calls Tryz.prog 118 #[.int .i64 n] w (Ret w fun w' v => OwnI w' w.heap.size v n0) by
  rw [HN0.out] at HS; exact HS
 clear HN0
 go_enter Tryz.func118, Tryz.ntmps118
 go_wp2
 go_loopw [0, 4] (fun m l wr => ∃ z : Int, -9223372036854775808 <= z /\ z < 9223372036854775808 /\ m = .int .i64 z /\ Hid (OfA w n0 z l wr)) (fun m _ _ => (intOf m).natAbs)
 case atStart => exact ⟨n, h1, h2, rfl, hide (HST.out _ rfl)⟩
 case round =>
  obtain ⟨m, hm1, hm2, rfl, hA⟩ := hrel
  obtain ⟨L, hsum, hlt, hgt, hL, hL20, hout, hb, r1, r2, hsz⟩ := hA.out
  by_cases hm0 : m = 0
  ·subst hm0
   have hsum2 : n0.natAbs = decL L := by simpa using hsum
   obtain ⟨A0, nl, c0, rfl, hnl⟩ : ∃ A n c, u4 = .slice A n c /\ n = L.length := by
    obtain ⟨A, c, e⟩ := own_len hout; exact ⟨A, _, c, e, rfl⟩
   have HB : Hid (OfB w n0 L (.slice A0 nl c0) ((nl : Int) - 1) wr) := hide ⟨none, 0, 0, hout, hb, r1, r2, by rw [List.drop_eq_nil_of_le (by omega)]; show Own32 _ _ _ _ (limbs 0); rw [limbs_zero]; exact own_nil _ _ _, hsz⟩
   have HSUM := hide hsum2; have HNL := hide hnl
   clear hA hsum hsum2 hout r1 r2 hlt hgt
   rw [<- hnl] at hL20
   clear hnl
   go_wp2_with fail
   go_loopw [6] (fun i wr => ∃ z : Int, -1 <= z /\ z < nl /\ i = .int .i64 z /\ Hid (OfB w n0 L (.slice A0 nl c0) z wr)) (fun i _ => (intOf i + 1).toNat)
   case atStart => exact ⟨_, by omega, by omega, rfl, HB⟩
   case round =>
    obtain ⟨z, hz1, hz2, rfl, hrel⟩ := hrel
    obtain ⟨A, q, c, ol, hbb, r1, r2, ox, hsz2⟩ := hrel.out
    obtain ⟨d1, d2, d3, d4⟩ := row_cells2 r1
    obtain ⟨d5, d6, d7, d8⟩ := row_cells2 r2
    by_cases hz0 : 0 <= z
    ·obtain ⟨k, rfl⟩ := Int.eq_ofNat_of_zero_le hz0
     obtain ⟨-, ca, f1, -, -, hcA⟩ := ol.reads.form
     obtain ⟨A2, c2, f1, hcl, hcm, hcA⟩ := ol.reads.form
     injection f1 with f1 f2 f3
     subst f1 f3
     clear f2
     obtain ⟨b', off, d, rfl, hd, hcell⟩ := num_at hcA (k := k) (by rw [<- HNL.out]; omega)
     have hd10 : d < 10 := hL d (List.mem_of_getElem? hd.out)
     obtain ⟨X, hX⟩ : ∃ X, X = decL (L.drop (k+1)) := ⟨_, rfl⟩
     have hX1 : X < 9223372036854775809 := by rw [hX]; have := decL_drop_le L (k+1); have := HSUM.out; omega
     have hX2 : X * 10 + d = decL (L.drop k) := by rw [decL_drop L k d hd.out, <- hX]; omega
     have hX3 : X * 10 + d < 9223372036854775809 := by rw [hX2]; have := decL_drop_le L k; have := HSUM.out; omega
     have ox2 : Own32 160 wr (w.heap.size + 2) (.slice A q c) (limbs X) := by rw [hX]; exact ox
     have HCC : Hid (∀ w', Later wr w' -> w'.cell? ⟨w.heap.size + 1, 1, none⟩ = some (.slice A q c) /\ w'.cell? ⟨b', off + k, none⟩ = some (.int .u32 (d : Int))) :=
      hide fun w' hb => ⟨(r2.later hb).cell rfl, by exact Later.cell hb hcell⟩
     have OX := hide ox2; have OL := hide ol; have R1 := hide r1; have R2 := hide r2; have HX2 := hide hX2
     have hk0 : (0 : Int) <= (k : Int) := by omega
     have hk1 : (k : Int) < nl := hz2
     have HD := hide hd10
     have D0 : Hid (Later wr wr.drew) := hide (Later.refl wr).drew
     clear hrel ol ox ox2 hX hX2 hcA hcell r1 r2 d1 d2 d3 d4 d5 d6 d7 d8
     go_upto_region 12 with fail
     refine wp_region_N (fun w' => w'.cell? ⟨w.heap.size + 1, 1, none⟩ = some (.slice A q c) /\ w'.cell? ⟨b', off + k, none⟩ = some (.int .u32 (d : Int))) [11] (by kernel_rfl) (HCC.out _ (Later.refl _).drew) (fun hHeld => ?_)
     refine wpAnyN_take (i := 0) (oi := _) (v := ?_) rfl (by kernel_rfl) (by kernel_rfl) (by kernel_rfl) (by kernel_rfl) (fun _ _ _ h => h) (Or.inl ⟨by rfl, ?_⟩) (by assumption) ?_
     rotate_left
     ·intro w hSw; (try dsimp only at hSw); go_simp
      first | done | with_reducible rfl
     try simp only [Act.put, s1_, s2_, s3_]
     refine wpAnyN_take (i := 1) (oi := _) (v := ?_) rfl (by kernel_rfl) (by kernel_rfl) (by kernel_rfl) (by kernel_rfl) (fun _ _ _ h => h) (Or.inl ⟨by rfl, ?_⟩) (by assumption) ?_
     rotate_left
     ·intro w hSw; (try dsimp only at hSw); go_simp
      first | done | with_reducible rfl
     try simp only [Act.put, s1_, s2_, s3_]
     refine wpAnyN_take (i := 4) (oi := _) (v := ?_) rfl (by kernel_rfl) (by kernel_rfl) (by kernel_rfl) (by kernel_rfl) (fun _ _ _ h => h) (Or.inl ⟨by rfl, ?_⟩) (by assumption) ?_
     rotate_left
     ·intro w hSw; (try dsimp only at hSw); go_simp
      first | done | with_reducible rfl
     try simp only [Act.put, s1_, s2_, s3_]
     refine wpAnyN_take (i := 5) (oi := _) (v := ?_) rfl (by kernel_rfl) (by kernel_rfl) (by kernel_rfl) (by kernel_rfl) (fun _ _ _ h => h) (Or.inl ⟨by rfl, ?_⟩) (by assumption) ?_
     rotate_left
     ·intro w hSw; (try dsimp only at hSw); go_simp
      first | done | with_reducible rfl
     try simp only [Act.put, s1_, s2_, s3_]
     refine wpAnyN_take (i := 6) (oi := _) (v := ?_) rfl (by kernel_rfl) (by kernel_rfl) (by kernel_rfl) (by kernel_rfl) (fun _ _ _ h => h) (Or.inl ⟨by rfl, ?_⟩) (by assumption) ?_
     rotate_left
     ·intro w hSw; (try dsimp only at hSw); go_simp
      first | done | with_reducible rfl
     try simp only [Act.put, s1_, s2_, s3_]
     refine wpAnyN_take (i := 7) (oi := _) (v := ?_) rfl (by kernel_rfl) (by kernel_rfl) (by kernel_rfl) (by kernel_rfl) (fun _ _ _ h => h) (Or.inl ⟨by rfl, ?_⟩) (by assumption) ?_
     rotate_left
     ·intro w hSw; (try dsimp only at hSw); go_simp
      first | done | with_reducible rfl
     try simp only [Act.put, s1_, s2_, s3_]
     refine wpAnyN_ready (rs := [2, 8]) (by kernel_rfl) (by simp) ?_
     refine AllReadyN.held rfl (by rfl) (fun K hK => ?_) ?_
     ·go_simp
      refine hK.out _ _ ?_ (fun hHeld => ?_)
      ·exact HCC.out _ (((Later.refl wr).alloc _).drew)
      clear hK K
      try simp only [Act.put, s1_, s2_, s3_]
      refine wpAnyN_ready (rs := [3, 8]) (by kernel_rfl) (by simp) ?_
      refine AllReadyN.held rfl (by rfl) (fun K hK => ?_) ?_
      ·go_simp
       (with_reducible refine (rnmul_calls _ _ _ (limbs X) [10] (OX.out.reads.later ((Later.refl wr).alloc _).drew) ((u32_ten _).later (Later.refl _).drew) (by have := small_limbs (x := X) (by omega); omega) (by simp)).mono ?_)
       rintro e w1 ⟨v1, rfl, o1, b1⟩
       have k1 : Later wr w1 := Later.trans (((Later.refl wr).alloc _).drew) b1
       rw [val_limbs, show val [10] = 10 from rfl] at o1
       obtain ⟨P1, q1, e1, rfl, o1, -⟩ := o1.open_
       have O1 := hide o1
       clear o1
       refine hK.out _ _ ?_ (fun hHeld => ?_)
       ·exact HCC.out _ (k1)
       clear hK K
       try simp only [Act.put, s1_, s2_, s3_]
       refine wpAnyN_ready (rs := [8]) (by kernel_rfl) (by simp) ?_
       refine AllReadyN.held rfl (by rfl) (fun K hK => ?_) AllReadyN.nil
       go_simp
       refine hK.out _ _ ?_ (fun hHeld => ?_)
       ·exact HCC.out _ ((k1.alloc _))
       clear hK K
       try simp only [Act.put, s1_, s2_, s3_]
       refine wpAnyN_ready (rs := [9]) (by kernel_rfl) (by simp) ?_
       refine AllReadyN.held rfl (by rfl) (fun K hK => ?_) AllReadyN.nil
       go_simp
       (with_reducible refine (rnadd_calls _ _ _ (limbs (X * 10)) [d] (O1.out.reads.later ((Later.refl _).alloc _)) (u32_new _ d (by have := HD.out; omega)) (by have := small_limbs (x := X * 10) (by omega); omega) (by simp)).mono ?_)
       rintro e w2 ⟨v2, rfl, o2, b2⟩
       have k2 : Later wr w2 := Later.trans ((k1.alloc _)) b2
       rw [val_limbs, show val [d] = d by simp] at o2
       obtain ⟨P2, q2, e2, rfl, o2, -⟩ := o2.open_
       have O2 := hide o2
       clear o2
       have hsz1 : w.heap.size + 2 <= (w1.alloc (Obj.cells #[Value.int IntKind.u32 (d : Int)] 160)).heap.size := Nat.le_trans hsz2 (Later.size_le ((k1.alloc _)))
       obtain ⟨f1, f2, f3, f4⟩ := row_cells2 (R2.out.later k2)
       refine hK.out _ _ ?_ (fun hHeld => ?_)
       ·exact HCC.out _ (k2)
       clear hK K
       try simp only [Act.put, s1_, s2_, s3_]
       refine wpAnyN_take (i := 10) (oi := _) (v := ?_) rfl (by kernel_rfl) (by kernel_rfl) (by kernel_rfl) (by kernel_rfl) (fun _ _ _ h => h) (Or.inl ⟨by rfl, ?_⟩) (by assumption) ?_
       rotate_left
       ·intro w hSw; (try dsimp only at hSw); go_simp
        first | done | with_reducible rfl
       try simp only [Act.put, s1_, s2_, s3_]
       refine wpAnyN_ready (rs := [11]) (by kernel_rfl) (by simp) ?_
       refine AllReadyN.free rfl (by rfl) (by kernel_rfl) (fun K hK => ?_) AllReadyN.nil
       go_simp
       refine hK.out _ _ ?_
       clear hK K
       try simp only [Act.put, s1_, s2_, s3_]
       refine wpAnyN_done (by kernel_rfl) ?_ _
       have hszk : w.heap.size + 2 <= w2.heap.size := Nat.le_trans hsz2 k2.size
       have HRR := hide (R2.out.later k2)
       clear f1 f2 f3 f4 hHeld
       go_wp2_with fail
       refine ⟨⟨(k : Int) - 1, by omega, by omega, rfl, hide ?_⟩, by simp [intOf]⟩
       have oo := Only.one (w.heap.size + 1) w2 1 (.slice P2 q2 e2)
       refine ⟨P2, q2, e2, ownNums_only (OL.out.later k2) oo (by omega), (hbb.trans k2).only oo (by omega), (R1.out.later k2).only oo (by omega), HRR.out.set_ 1 _, ?_, by rw [oo.size]; exact hszk⟩
       rw [show ((k : Int) - 1 + 1).toNat = k by omega, <- HX2.out]
       exact (O2.out.only oo (by omega)).weaken hsz1
      refine AllReadyN.held rfl (by rfl) (fun K hK => ?_) AllReadyN.nil
      go_simp
      refine hK.out _ _ ?_ (fun hHeld => ?_)
      ·exact HCC.out _ ((((Later.refl wr).alloc _).alloc _).drew)
      clear hK K
      try simp only [Act.put, s1_, s2_, s3_]
      refine wpAnyN_ready (rs := [3]) (by kernel_rfl) (by simp) ?_
      refine AllReadyN.held rfl (by rfl) (fun K hK => ?_) AllReadyN.nil
      go_simp
      (with_reducible refine (rnmul_calls _ _ _ (limbs X) [10] (OX.out.reads.later (((Later.refl wr).alloc _).alloc _).drew) ((u32_ten _).later ((Later.refl _).alloc _).drew) (by have := small_limbs (x := X) (by omega); omega) (by simp)).mono ?_)
      rintro e w1 ⟨v1, rfl, o1, b1⟩
      have k1 : Later wr w1 := Later.trans ((((Later.refl wr).alloc _).alloc _).drew) b1
      rw [val_limbs, show val [10] = 10 from rfl] at o1
      obtain ⟨P1, q1, e1, rfl, o1, -⟩ := o1.open_
      have O1 := hide o1
      clear o1
      refine hK.out _ _ ?_ (fun hHeld => ?_)
      ·exact HCC.out _ (k1)
      clear hK K
      try simp only [Act.put, s1_, s2_, s3_]
      refine wpAnyN_ready (rs := [9]) (by kernel_rfl) (by simp) ?_
      refine AllReadyN.held rfl (by rfl) (fun K hK => ?_) AllReadyN.nil
      go_simp
      (with_reducible refine (rnadd_calls _ _ _ (limbs (X * 10)) [d] (O1.out.reads) (((u32_new1 wr _ d (by have := HD.out; omega)).later (Later.refl _).drew).later b1) (by have := small_limbs (x := X * 10) (by omega); omega) (by simp)).mono ?_)
      rintro e w2 ⟨v2, rfl, o2, b2⟩
      have k2 : Later wr w2 := Later.trans (k1) b2
      rw [val_limbs, show val [d] = d by simp] at o2
      obtain ⟨P2, q2, e2, rfl, o2, -⟩ := o2.open_
      have O2 := hide o2
      clear o2
      have hsz1 : w.heap.size + 2 <= w1.heap.size := Nat.le_trans hsz2 (Later.size_le (k1))
      obtain ⟨f1, f2, f3, f4⟩ := row_cells2 (R2.out.later k2)
      refine hK.out _ _ ?_ (fun hHeld => ?_)
      ·exact HCC.out _ (k2)
      clear hK K
      try simp only [Act.put, s1_, s2_, s3_]
      refine wpAnyN_take (i := 10) (oi := _) (v := ?_) rfl (by kernel_rfl) (by kernel_rfl) (by kernel_rfl) (by kernel_rfl) (fun _ _ _ h => h) (Or.inl ⟨by rfl, ?_⟩) (by assumption) ?_
      rotate_left
      ·intro w hSw; (try dsimp only at hSw); go_simp
       first | done | with_reducible rfl
      try simp only [Act.put, s1_, s2_, s3_]
      refine wpAnyN_ready (rs := [11]) (by kernel_rfl) (by simp) ?_
      refine AllReadyN.free rfl (by rfl) (by kernel_rfl) (fun K hK => ?_) AllReadyN.nil
      go_simp
      refine hK.out _ _ ?_
      clear hK K
      try simp only [Act.put, s1_, s2_, s3_]
      refine wpAnyN_done (by kernel_rfl) ?_ _
      have hszk : w.heap.size + 2 <= w2.heap.size := Nat.le_trans hsz2 k2.size
      have HRR := hide (R2.out.later k2)
      clear f1 f2 f3 f4 hHeld
      go_wp2_with fail
      refine ⟨⟨(k : Int) - 1, by omega, by omega, rfl, hide ?_⟩, by simp [intOf]⟩
      have oo := Only.one (w.heap.size + 1) w2 1 (.slice P2 q2 e2)
      refine ⟨P2, q2, e2, ownNums_only (OL.out.later k2) oo (by omega), (hbb.trans k2).only oo (by omega), (R1.out.later k2).only oo (by omega), HRR.out.set_ 1 _, ?_, by rw [oo.size]; exact hszk⟩
      rw [show ((k : Int) - 1 + 1).toNat = k by omega, <- HX2.out]
      exact (O2.out.only oo (by omega)).weaken hsz1
     refine AllReadyN.held rfl (by rfl) (fun K hK => ?_) AllReadyN.nil
     go_simp
     refine hK.out _ _ ?_ (fun hHeld => ?_)
     ·exact HCC.out _ (((Later.refl wr).alloc _).drew)
     clear hK K
     try simp only [Act.put, s1_, s2_, s3_]
     refine wpAnyN_ready (rs := [2]) (by kernel_rfl) (by simp) ?_
     refine AllReadyN.held rfl (by rfl) (fun K hK => ?_) AllReadyN.nil
     go_simp
     refine hK.out _ _ ?_ (fun hHeld => ?_)
     ·exact HCC.out _ ((((Later.refl wr).alloc _).alloc _).drew)
     clear hK K
     try simp only [Act.put, s1_, s2_, s3_]
     refine wpAnyN_ready (rs := [3]) (by kernel_rfl) (by simp) ?_
     refine AllReadyN.held rfl (by rfl) (fun K hK => ?_) AllReadyN.nil
     go_simp
     (with_reducible refine (rnmul_calls _ _ _ (limbs X) [10] (OX.out.reads.later (((Later.refl wr).alloc _).alloc _).drew) ((u32_ten1 _ _).later (Later.refl _).drew) (by have := small_limbs (x := X) (by omega); omega) (by simp)).mono ?_)
     rintro e w1 ⟨v1, rfl, o1, b1⟩
     have k1 : Later wr w1 := Later.trans ((((Later.refl wr).alloc _).alloc _).drew) b1
     rw [val_limbs, show val [10] = 10 from rfl] at o1
     obtain ⟨P1, q1, e1, rfl, o1, -⟩ := o1.open_
     have O1 := hide o1
     clear o1
     refine hK.out _ _ ?_ (fun hHeld => ?_)
     ·exact HCC.out _ (k1)
     clear hK K
     try simp only [Act.put, s1_, s2_, s3_]
     refine wpAnyN_ready (rs := [9]) (by kernel_rfl) (by simp) ?_
     refine AllReadyN.held rfl (by rfl) (fun K hK => ?_) AllReadyN.nil
     go_simp
     (with_reducible refine (rnadd_calls _ _ _ (limbs (X * 10)) [d] (O1.out.reads) (((u32_new wr d (by have := HD.out; omega)).later (((Later.refl _).alloc _).drew)).later b1) (by have := small_limbs (x := X * 10) (by omega); omega) (by simp)).mono ?_)
     rintro e w2 ⟨v2, rfl, o2, b2⟩
     have k2 : Later wr w2 := Later.trans (k1) b2
     rw [val_limbs, show val [d] = d by simp] at o2
     obtain ⟨P2, q2, e2, rfl, o2, -⟩ := o2.open_
     have O2 := hide o2
     clear o2
     have hsz1 : w.heap.size + 2 <= w1.heap.size := Nat.le_trans hsz2 (Later.size_le (k1))
     obtain ⟨f1, f2, f3, f4⟩ := row_cells2 (R2.out.later k2)
     refine hK.out _ _ ?_ (fun hHeld => ?_)
     ·exact HCC.out _ (k2)
     clear hK K
     try simp only [Act.put, s1_, s2_, s3_]
     refine wpAnyN_take (i := 10) (oi := _) (v := ?_) rfl (by kernel_rfl) (by kernel_rfl) (by kernel_rfl) (by kernel_rfl) (fun _ _ _ h => h) (Or.inl ⟨by rfl, ?_⟩) (by assumption) ?_
     rotate_left
     ·intro w hSw; (try dsimp only at hSw); go_simp
      first | done | with_reducible rfl
     try simp only [Act.put, s1_, s2_, s3_]
     refine wpAnyN_ready (rs := [11]) (by kernel_rfl) (by simp) ?_
     refine AllReadyN.free rfl (by rfl) (by kernel_rfl) (fun K hK => ?_) AllReadyN.nil
     go_simp
     refine hK.out _ _ ?_
     clear hK K
     try simp only [Act.put, s1_, s2_, s3_]
     refine wpAnyN_done (by kernel_rfl) ?_ _
     have hszk : w.heap.size + 2 <= w2.heap.size := Nat.le_trans hsz2 k2.size
     have HRR := hide (R2.out.later k2)
     clear f1 f2 f3 f4 hHeld
     go_wp2_with fail
     refine ⟨⟨(k : Int) - 1, by omega, by omega, rfl, hide ?_⟩, by simp [intOf]⟩
     have oo := Only.one (w.heap.size + 1) w2 1 (.slice P2 q2 e2)
     refine ⟨P2, q2, e2, ownNums_only (OL.out.later k2) oo (by omega), (hbb.trans k2).only oo (by omega), (R1.out.later k2).only oo (by omega), HRR.out.set_ 1 _, ?_, by rw [oo.size]; exact hszk⟩
     rw [show ((k : Int) - 1 + 1).toNat = k by omega, <- HX2.out]
     exact (O2.out.only oo (by omega)).weaken hsz1
    ·have hz3 : z = -1 := by omega
     subst hz3
     have ox2 : Own32 160 wr (w.heap.size + 2) (.slice A q c) (limbs n0.natAbs) := by rw [HSUM.out]; exact ox
     have OX := hide ox2
     have HR := hide r1
     have HNN := hide HNEG.out
     rw [<- HNEG.out] at d5
     clear ox ox2 ol r1 r2 hrel
     go_wp2_with fail
     refine bodyPost_ret (results_int rfl rfl (HR.out.two _ _)) rfl ?_
     have oo := Only.two w.heap.size wr (.bool neg) (.slice A q c)
     exact ⟨_, rfl, OwnI.weaken (OwnI.mk_ HNN.out (OX.out.only oo (by omega))) (by omega), hbb.only oo (by omega)⟩
  ·have hbig : 10 ^ L.length * m.natAbs <= n0.natAbs := by omega
   have hlen18 : L.length <= 18 := by
    refine Classical.byContradiction fun hc => ?_
    have h3 : 10 ^ 19 <= 10 ^ L.length := Nat.pow_le_pow_right (by omega) (by omega)
    have h4 : 10 ^ L.length * 1 <= 10 ^ L.length * m.natAbs := Nat.mul_le_mul_left _ (by omega)
    omega
   have HOUT := hide hout; have HL := hide hL
   have hlen9 : L.length + 1 <= 4000000000 := by omega
   have t0 : (m != 0) = true := by simpa using hm0
   obtain ⟨d, hd⟩ : ∃ d, d = m.natAbs % 10 := ⟨_, rfl⟩
   obtain ⟨p, hp⟩ : ∃ p, p = m.natAbs / 10 := ⟨_, rfl⟩
   have hd10 : d < 10 := by omega
   have hp9 : p < 9223372036854775808 := by omega
   have hrow : n0.natAbs = decL (L ++ [d]) + 10 ^ (L ++ [d]).length * p := by
    have hmm : m.natAbs = d + 10 * p := by omega
    rw [decL_snoc, List.length_append, hsum, hmm, Nat.mul_add, List.length_singleton, Nat.pow_succ, Nat.mul_assoc]; omega
   have hpm : p < m.natAbs := by omega
   have hpp : 0 < m -> m % 10 = (d : Int) /\ m / 10 = (p : Int) := fun h => by omega
   have hnn : m < 0 -> m.tmod 10 = -(d : Int) /\ m.tdiv 10 = -(p : Int) := fun h => by
    have hm : m = -((m.natAbs : Nat) : Int) := by omega
    constructor
    ·conv => lhs; rw [hm, Int.neg_tmod]
     rw [hd]; rfl
    ·conv => lhs; rw [hm, Int.neg_tdiv]
     rw [hp]; rfl
   have HPP := hide hpp; have HNN := hide hnn
   have hg1 := World.ownsRow.lt hout
   have key : ∀ (m' : Int) (v' : Value) (w1 : World), m'.natAbs = p -> (m' < 0 -> m < 0) -> (0 < m' -> 0 < m) -> w1.ownsRow (w.heap.size + 2) 160 1 v' (L.length + 1) (nums .u32 L ++ nums .u32 [d]) -> (wr.alloc (Obj.cells #[Value.int IntKind.u32 (d : Int)] 160)).grownBy w1 u4.ownBlock -> OfA w n0 m' v' w1 := by
    intro m' v' w1 h1 h2 h3 hown hg
    have hblk : ∀ j, u4.ownBlock = some j -> w.heap.size + 2 <= j := fun j hj => (hg1 j hj).1
    have hw : Later w w1 := (hb.alloc _).grown hg (fun j hj => by have := hblk j hj; omega)
    have hrow' : ∀ g t cs, g < w.heap.size + 2 -> Row wr g t cs -> Row w1 g t cs := fun g t cs hg2 hr => (hr.alloc _).grown hg (fun e => by have := hblk g e.symm; omega)
    refine ⟨L ++ [d], by rw [h1]; exact hrow, fun h => hlt (h2 h), fun h => hgt (h3 h), ?_, by simp; omega, ?_, hw, hrow' _ _ _ (by omega) r1, hrow' _ _ _ (by omega) r2, ?_⟩
    ·intro x hx
     rcases List.mem_append.1 hx with hx | hx
     ·exact hL x hx
     ·simp at hx; omega
    ·unfold OwnNums; rw [nums_append, List.length_append]; exact hown
    ·have := hg.size; simp at this; omega
   have KEY := hide key
   clear key hpp hnn hA hsum hout r1 r2 hL hd hp hrow hbig hlt hgt hg1 hb
   rcases (by omega : 0 < m ∨ m < 0) with hpos | hnegm
   ·have e1 : m % 10 = (d : Int) := (HPP.out hpos).1
    have e2 : m / 10 = (p : Int) := (HPP.out hpos).2
    have e3 : m.tmod 10 = (d : Int) := by rw [Int.tmod_eq_emod_of_nonneg (by omega)]; exact e1
    have e4 : m.tdiv 10 = (p : Int) := by rw [Int.tdiv_eq_ediv_of_nonneg (by omega)]; exact e2
    go_wp2_with (at_builtin; refine wpList_append_src rfl _ _ 63 rfl (w.heap.size + 2) 160 (.int .u32 0) 1 4 Tryz.underlying63 info_u32 rfl (by omega) (by omega) _ _ _ rfl (HOUT.out.later ((Later.refl _).alloc _)) _ 1 (nums .u32 [d]) rfl (Src.row (Row.new _ _ (nums .u32 [d])) rfl (nums_one _)) hlen9 (Nat.le_trans hsz (by simp)) ?_; intro v' w1 hown hg hblk)
    have HA2 := hide (KEY.out (p : Int) v' w1 (by simp) (by omega) (by omega) hown hg)
    clear hown hg hblk
    go_wp2
    go_roundw
    case rel => exact ⟨(p : Int), by omega, by omega, rfl, HA2⟩
    case measure => simp [intOf]; omega
   ·have e1 : m.tmod 10 = -(d : Int) := (HNN.out hnegm).1
    have e2 : m.tdiv 10 = -(p : Int) := (HNN.out hnegm).2
    by_cases hd0 : d = 0
    ·subst hd0
     go_wp2_with (at_builtin; refine wpList_append_src rfl _ _ 63 rfl (w.heap.size + 2) 160 (.int .u32 0) 1 4 Tryz.underlying63 info_u32 rfl (by omega) (by omega) _ _ _ rfl (HOUT.out.later ((Later.refl _).alloc _)) _ 1 (nums .u32 [0]) rfl (Src.row (Row.new _ _ (nums .u32 [0])) rfl (nums_one _)) hlen9 (Nat.le_trans hsz (by simp)) ?_; intro v' w1 hown hg hblk)
     have HA2 := hide (KEY.out (-(p : Int)) v' w1 (by simp) (by omega) (by omega) hown hg)
     clear hown hg hblk
     go_wp2
     go_roundw
     case rel => exact ⟨-(p : Int), by omega, by omega, rfl, HA2⟩
     case measure => simp [intOf]; omega
    ·have t1 : decide (-(d : Int) < 0) = true := by simp; omega
     go_wp2_with (at_builtin; refine wpList_append_src rfl _ _ 63 rfl (w.heap.size + 2) 160 (.int .u32 0) 1 4 Tryz.underlying63 info_u32 rfl (by omega) (by omega) _ _ _ rfl (HOUT.out.later ((Later.refl _).alloc _)) _ 1 (nums .u32 [d]) rfl (Src.row (Row.new _ _ (nums .u32 [d])) rfl (nums_one _)) hlen9 (Nat.le_trans hsz (by simp)) ?_; intro v' w1 hown hg hblk)
     have HA2 := hide (KEY.out (-(p : Int)) v' w1 (by simp) (by omega) (by omega) hown hg)
     clear hown hg hblk
     go_wp2
     go_roundw
     case rel => exact ⟨-(p : Int), by omega, by omega, rfl, HA2⟩
     case measure => simp [intOf]; omega
end Go.Proofs.YtncbebfhakcgdaaGreat
namespace Go.Proofs.YtncbebfhakcgdaaGreat
open Go.RowKit
attribute [local go_sem ↓] Go.wp_at_zero Go.wp_at_succ
set_option maxHeartbeats 1000000 in
theorem qzero_calls (w : World) : Calls Tryz.prog 117 #[] w (Ret w fun w' v => OwnR w' w.heap.size v 0) := by
 go_enter Tryz.func117, Tryz.ntmps117
 go_wp2_with fail
 refine (zof_calls _ 1 (by omega) (by omega)).mono ?_
 rintro e w1 ⟨v1, rfl, o1, b1⟩
 obtain ⟨s1, A1, n1, c1', rfl, o1⟩ := o1.open_
 have hs1 : s1 = false := by rw [o1.sign]; rfl
 subst hs1
 have HO := hide o1; clear o1
 have hL := ((Later.refl w).alloc (Obj.cells #[.bool false, .slice none 0 0, .bool false, .slice none 0 0] 67)).trans b1
 have hrow := ((Row.new w 67 [.bool false, .slice none 0 0, .bool false, .slice none 0 0]).later b1)
 obtain ⟨c0, c1, c2, c3, f0, f1, f2, f3⟩ := row_cells4 hrow
 have HR := hide hrow
 clear hrow
 go_wp2_with fail
 refine bodyPost_ret (results_rat rfl rfl (HR.out.four _ _ _ _)) rfl ?_
 have oo := Only.four w.heap.size w1 (.bool false) (.slice none 0 0) (.bool false) (.slice A1 n1 c1')
 refine ⟨_, rfl, ⟨none, 0, 0, A1, n1, c1', rfl, ?_, ?_⟩, hL.only oo (Nat.le_refl _)⟩
 ·rw [show (0 : Rat).num.natAbs = 0 from rfl, limbs_zero]; exact own_nil _ _ _
 ·exact ((HO.out.only oo (by simp)).own).weaken (by simp)
set_option maxHeartbeats 1000000 in
theorem qmay_calls (w : World) (a : Bool) (s : Value) (A : Option Addr) (n c : Nat) (b : Bool) (y : Int) (k : Nat) (h : RawI w (.agg #[.bool b, .slice A n c]) y k) (hs : ∃ A' n' c', s = .slice A' n' c') (hk : k <= 200000000) (t : Bool) (ht : decide (0 < y) = t) :
 Calls Tryz.prog 115 #[.agg #[.bool a, s, .bool b, .slice A n c]] w (RetV w (.bool t)) := by
 obtain ⟨A', n', c', rfl⟩ := hs
 obtain ⟨neg, A0, n0, c0, l, e, hu, hz, hl⟩ := h
 injection e with e; injection e with e; injection e with e1 e; injection e with e2 e
 injection e1 with e1; injection e2 with e2 e3 e4
 subst e1 e2 e3 e4
 have HU := hide hu; have HZ := hide hz; have HT := hide ht
 clear hu hz ht e
 go_enter Tryz.func115, Tryz.ntmps115
 go_wp2_with fail
 have hb0 : Later w (w.alloc (Obj.cells #[Value.bool a, Value.slice A' n' c', Value.bool b, Value.slice A n c] 67)) := (Later.refl w).alloc _
 have hrow := (Row.new w 67 [.bool a, .slice A' n' c', .bool b, .slice A n c])
 have R1 := hide hrow; have B0 := hide hb0
 clear hrow hb0
 refine (rtrim_calls _ _ l (HU.out.later B0.out) (by omega)).mono ?_
 rintro e w1 ⟨v1, rfl, o1, b1⟩
 obtain ⟨A1, n1, c1, rfl, o1, hn1⟩ := o1.open_
 have HP := hide (nlen_pos hn1)
 obtain ⟨d1, d2, d3, d4, d5, d6, d7, d8⟩ := row_cells4 (R1.out.later b1)
 clear o1 hn1
 by_cases h0 : 0 < n1
 ·have hv : 0 < val l := by have := HP.out; rw [show decide (0 < n1) = true by simpa using h0] at this; simpa using this.symm
  have hb : t = !b := by
   rw [<- HT.out, HZ.out]; unfold sgn; cases b <;> simp <;> omega
  have HB := hide hb
  clear hb
  go_wp2_with fail
  go_ret
  exact ⟨by rw [HB.out]; rfl, B0.out.trans b1⟩
 ·have hv : val l = 0 := by
   have := HP.out; rw [show decide (0 < n1) = false by simpa using h0] at this
   have : ¬ 0 < val l := by simpa using this.symm
   omega
  have hb : t = false := by
   rw [<- HT.out, HZ.out, hv]; unfold sgn; cases b <;> simp
  have HB := hide hb
  clear hb
  go_wp2_with fail
  go_ret
  exact ⟨by rw [HB.out]; rfl, B0.out.trans b1⟩
end Go.Proofs.YtncbebfhakcgdaaGreat
namespace Go.Proofs.YtncbebfhakcgdaaGreat
open Go.RowKit
structure Onlys (L : List Nat) (w w' : World) : Prop where
 os : w'.os = w.os
 tape : w'.tape = w.tape
 output : w'.output = w.output
 size : w'.heap.size = w.heap.size
 block : ∀ b, b ∉ L -> w'.heap[b]? = w.heap[b]?
theorem Onlys.refl (L : List Nat) (w : World) : Onlys L w w := ⟨rfl, rfl, rfl, rfl, fun _ _ => rfl⟩
theorem Onlys.of {L : List Nat} {g : Nat} {w w' : World} (h : Only g w w') (hg : g ∈ L) : Onlys L w w' :=
 ⟨h.os, h.tape, h.output, h.size, fun b hb => h.block b (fun e => hb (e ▸ hg))⟩
theorem Onlys.trans {L : List Nat} {a b c : World} (h : Onlys L a b) (k : Onlys L b c) : Onlys L a c :=
 ⟨k.os.trans h.os, k.tape.trans h.tape, k.output.trans h.output, k.size.trans h.size, fun b hb => (k.block b hb).trans (h.block b hb)⟩
theorem Onlys.then_ {L : List Nat} {g : Nat} {a b c : World} (h : Onlys L a b) (k : Only g b c) (hg : g ∈ L) : Onlys L a c := h.trans (Onlys.of k hg)
theorem Later.onlys {a w w' : World} {L : List Nat} (h : Later a w) (o : Onlys L w w') (hg : ∀ g ∈ L, a.heap.size <= g) : Later a w' :=
 ⟨o.os.trans h.os, o.tape.trans h.tape, o.output.trans h.output, by rw [o.size]; exact h.size, fun b hb => (o.block b (fun hm => by have := hg b hm; omega)).trans (h.block b hb)⟩
theorem Row.onlys {w w' : World} {L : List Nat} {h : Nat} {t : TypeId} {cs : List Value} (r : Row w h t cs) (o : Onlys L w w') (hg : h ∉ L) : Row w' h t cs := (o.block h hg).trans r
theorem ownsRow_onlys {w w' : World} {B : Nat} {L : List Nat} {e : TypeId} {size n : Nat} {v : Value} {xs : List Value} (h : w.ownsRow B e size v n xs) (o : Onlys L w w') (hg : ∀ g ∈ L, g < B) : w'.ownsRow B e size v n xs := by
 obtain ⟨h2, h3⟩ := h
 refine ⟨h2, ?_⟩
 rcases h3 with h3 | ⟨k, cap, cur, rfl, hb, hk, r⟩
 ·exact .inl h3
 ·exact .inr ⟨k, cap, cur, rfl, hb, (o.block k (fun hm => by have := hg k hm; omega)).trans hk, r⟩
theorem Own32.onlys {T : TypeId} {w w' : World} {B : Nat} {L : List Nat} {v : Value} {l : List Nat} (h : Own32 T w B v l) (o : Onlys L w w') (hg : ∀ g ∈ L, g < B) : Own32 T w' B v l := ⟨h.1, ownsRow_onlys h.2 o hg⟩
theorem OwnI.onlys {w w' : World} {B : Nat} {L : List Nat} {v : Value} {z : Int} (h : OwnI w B v z) (o : Onlys L w w') (hg : ∀ g ∈ L, g < B) : OwnI w' B v z := by
 obtain ⟨A, n, c, e, h⟩ := h; exact ⟨A, n, c, e, h.onlys o hg⟩
theorem OwnR.onlys {w w' : World} {B : Nat} {L : List Nat} {v : Value} {q : Rat} (h : OwnR w B v q) (o : Onlys L w w') (hg : ∀ g ∈ L, g < B) : OwnR w' B v q := by
 obtain ⟨A, n, c, A', n', c', e, h1, h2⟩ := h; exact ⟨A, n, c, A', n', c', e, h1.onlys o hg, h2.onlys o hg⟩
end Go.Proofs.YtncbebfhakcgdaaGreat
