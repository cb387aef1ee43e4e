import Derived.Test.YtbhohnhkephefaaM22
import Derived.Test.YtbhohnhkephefaaM11
import Derived.Lib.SliceRun
import Derived.Test.YtbhohnhkephefaaM13

/- Queues: the whole queue in memory; its heap's Push and Pop. -/
set_option linter.unusedVariables false
set_option linter.unusedSimpArgs false
set_option maxRecDepth 100000
namespace Go.Proofs.Ytbhohnhkephefaa
open Go.RowKit Go.Shelf
attribute [local go_sem ↓] Go.wp_at_zero Go.wp_at_succ

theorem info_entry : (Try.prog.info? 64).map (fun i => (i.zero, i.size, i.bytes)) = some (some (.agg #[.bool false, .slice none 0 0, .bool false, .slice none 0 0, .int .i64 0, .int .i64 0]), 6, 80) := by kernel_rfl
/-- entries in a row of one's own, or none -/
def ArrV (w : World) (v : Value) (L : List Ent) : Prop := (v = .slice none 0 0 ∧ L = []) ∨ ∃ g cap, v = .slice (some ⟨g, 0, none⟩) L.length cap ∧ cap ≤ maxLen ∧ Arr w g cap L
theorem ArrV.own {w : World} {v : Value} {L : List Ent} (h : ArrV w v L) : w.ownsRow 0 64 6 v L.length (L.flatMap Ent.cells) := by
  rcases h with ⟨rfl, rfl⟩ | ⟨g, cap, rfl, hm, h⟩
  · exact World.ownsRow_nil w 0 _ 6
  · exact h.own (Nat.zero_le _) hm
theorem ArrV.of_own {w : World} {v : Value} {L : List Ent} (h : w.ownsRow 0 64 6 v L.length (L.flatMap Ent.cells)) : ArrV w v L := by
  rcases Arr.of_own h with h | ⟨g, cap, h1, -, h3, h4⟩
  · exact .inl h
  · exact .inr ⟨g, cap, h1, h3, h4⟩
theorem ArrV.tch {S : Nat → Prop} {a b : World} {v : Value} {L : List Ent} (h : ArrV a v L) (k : Tch S a b) (hS : ∀ g, v.ownBlock = some g → ¬ S g) : ArrV b v L := by
  rcases h with h | ⟨g, cap, rfl, hm, h⟩
  · exact .inl h
  · exact .inr ⟨g, cap, rfl, hm, h.tch k (hS g rfl)⟩
theorem ArrV.later {a b : World} {v : Value} {L : List Ent} (h : ArrV a v L) (k : Later a b) : ArrV b v L := by
  rcases h with h | ⟨g, cap, rfl, hm, h⟩
  · exact .inl h
  · exact .inr ⟨g, cap, rfl, hm, h.later k⟩
theorem ArrV.lt {w : World} {v : Value} {L : List Ent} (h : ArrV w v L) : ∀ g, v.ownBlock = some g → g < w.heap.size := by
  rcases h with ⟨rfl, -⟩ | ⟨g, cap, rfl, hm, h⟩
  · intro g e; cases e
  · intro g' e
    have e : some g = some g' := e
    injection e with e; rw [← e]; exact h.lt
theorem ArrV.form {w : World} {v : Value} {L : List Ent} (h : ArrV w v L) : ∃ A n c, v = .slice A n c ∧ n = L.length := by
  rcases h with ⟨rfl, rfl⟩ | ⟨g, cap, rfl, -, -⟩
  · exact ⟨_, _, _, rfl, rfl⟩
  · exact ⟨_, _, _, rfl, rfl⟩
theorem ArrV.some_ {w : World} {v : Value} {L : List Ent} (h : ArrV w v L) (hl : 0 < L.length) : ∃ g cap n, v = .slice (some ⟨g, 0, none⟩) n cap ∧ n = L.length ∧ cap ≤ maxLen ∧ Arr w g cap L := by
  rcases h with ⟨rfl, rfl⟩ | ⟨g, cap, rfl, h1, h2⟩
  · simp at hl
  · exact ⟨g, cap, _, rfl, rfl, h1, h2⟩
theorem Ent.one (e : Ent) : ∀ u ∈ e.cells, u.oneCell' = true := by
  intro u hu
  simp [Ent.cells] at hu
  rcases hu with rfl | rfl | rfl | rfl | rfl | rfl <;> rfl
section
variable {w : World} {o : Oper} {a : Act} {K : Act → World → Prop} {Q : Exit → Act → World → Prop}
theorem wp_append_ent (s x : Operand) (ho : o.op = .call { callee := .builtin .append, args := #[s, x], argTypes := #[58, 58] })
    {v : Value} {L : List Ent} {g : Nat} {e : Ent} (hs : a.eval s = v) (hown : ArrV w v L)
    (hx : a.eval x = .slice (some ⟨g, 0, none⟩) 1 1) (hrow : Row w g 64 [.bool e.s, .slice e.A e.n e.c, .bool false, .slice e.A' e.n' e.c', .int .i64 e.id, .int .i64 (e.at_ : Int)]) (hlen : L.length ≤ 1000000)
    (h : ∀ v' w', ArrV w' v' (L ++ [e]) → w.grownBy w' v.ownBlock → (v'.ownBlock = v.ownBlock ∨ v'.ownBlock = some w.heap.size) → K (a.put o.dst v') w') : o.wp Try.prog a w K Q := by
  refine wp_append_own_ s x _ ho 0 64 _ 6 80 Try.underlying58 info_entry rfl (by omega) (by omega) v L.length _ hs hown.own ⟨g, 0, none⟩ 1 1 e.cells hx rfl (fun j u hj => by rw [Go.WideShapes.add_plain, Nat.zero_add]; exact hrow.cell hj) e.one (by omega) (Nat.zero_le _) ?_
  intro v' w' k1 k2 k3
  refine h v' w' (ArrV.of_own ?_) k2 k3
  rw [List.flatMap_append, List.length_append]
  simpa using k1
end
/-- the queue at gq, all that it is made of where S stands -/
structure Que (w : World) (S : Nat → Prop) (gq : Nat) (v : Value) (L : List Ent) (put : Nat) : Prop where
  sq : S gq
  row : Row w gq 60 [v, .int .i64 (put : Int)]
  arr : ArrV w v L
  own : ∀ k, v.ownBlock = some k → S k ∧ k ≠ gq
  keys : Keys w (fun b => S b ∧ b ≠ gq ∧ some b ≠ v.ownBlock) L
/-- the same queue with other entries: what it is made of is what it was made of, or new -/
def Mu (gq : Nat) (v : Value) (b : Nat) : Prop := b = gq ∨ some b = v.ownBlock
theorem Que.mu {w : World} {S : Nat → Prop} {gq put : Nat} {v : Value} {L : List Ent} (h : Que w S gq v L put) : ∀ b, Mu gq v b → S b := fun b hb => hb.elim (fun e => e ▸ h.sq) (fun e => (h.own b e.symm).1)
theorem Que.mult {w : World} {S : Nat → Prop} {gq put : Nat} {v : Value} {L : List Ent} (h : Que w S gq v L put) : ∀ b, Mu gq v b → b < w.heap.size := fun b hb => hb.elim (fun e => e ▸ h.row.lt) (fun e => h.arr.lt b e.symm)
def QTurn (w : World) (S : Nat → Prop) (gq : Nat) (v : Value) (put : Nat) (X : List Ent → Prop) (w' : World) : Prop :=
  ∃ S' v' L', (∀ b, S' b → S b ∨ w.heap.size ≤ b) ∧ (∀ b, Mu gq v' b → Mu gq v b ∨ w.heap.size ≤ b) ∧ Que w' S' gq v' L' put ∧ Tch (Mu gq v) w w' ∧ X L'
theorem grown_tch {w w' : World} {S : Nat → Prop} {r : Option Nat} (h : w.grownBy w' r) (hS : ∀ k, r = some k → S k) : Tch S w w' :=
  ⟨h.os, h.tape, h.output, h.size, fun b hb hn => h.block b hb (fun e => hn (hS b e.symm))⟩
theorem pushed {w wa w1 : World} {S : Nat → Prop} {gq put : Nat} {v v' : Value} {L : List Ent} {e : Ent} (hQ : Que w S gq v L put) (he : On w (fun b => S b ∧ b ≠ gq ∧ some b ≠ v.ownBlock) (fun W => e.ok W)) (hes : Sized e.key 100)
    (hb' : Later w wa) (ha : ArrV w1 v' (L ++ [e])) (hg : wa.grownBy w1 v.ownBlock) (ho : v'.ownBlock = v.ownBlock ∨ v'.ownBlock = some wa.heap.size) (hq : Row w1 gq 60 [v, .int .i64 (put : Int)]) :
    QTurn w S gq v put (fun L' => L' = L ++ [e]) (w1.setCell ⟨gq, 0, none⟩ v') := by
  have hT : Tch (Mu gq v) w w1 := hb'.tch.trans (grown_tch hg fun k hk => .inr hk.symm)
  have hgl : gq < w.heap.size := hQ.row.lt
  have hvl := hQ.arr.lt
  refine ⟨fun b => S b ∨ w.heap.size ≤ b, v', _, fun b hb => hb, fun b hb => ?_, ⟨.inl hQ.sq, ?_, ?_, ?_, ?_⟩, hT.setCell (.inl rfl) _, rfl⟩
  · rcases hb with e | e
    · exact .inl (.inl e)
    · rcases ho with h | h
      · rw [h] at e; exact .inl (.inr e)
      · rw [h] at e; injection e with e; have := hb'.size; exact .inr (by omega)
  · exact hq.set_ 0 v'
  · refine ha.tch ((Only.one gq w1 0 v').tch (S := fun b => b = gq) rfl) fun g hg' e => ?_
    subst e
    rcases ho with h | h
    · rw [h] at hg'; exact (hQ.own _ hg').2 rfl
    · rw [h] at hg'; injection hg' with hg'; have := hb'.size; omega
  · intro k hk
    rcases ho with h | h
    · rw [h] at hk; exact ⟨.inl (hQ.own _ hk).1, (hQ.own _ hk).2⟩
    · rw [h] at hk; injection hk with hk; have := hb'.size; exact ⟨.inr (by omega), by omega⟩
  · have h1 : On w (fun b => S b ∧ b ≠ gq ∧ some b ≠ v.ownBlock) (fun W => ∀ x ∈ L ++ [e], x.ok W) := (hQ.keys.ok.and he).map fun W hW x hx => by
      rcases List.mem_append.1 hx with hx | hx
      · exact hW.1 x hx
      · simp at hx; subst hx; exact hW.2
    have h2 := (h1.lt.tch (hb'.tch (S := fun b => b = gq ∨ some b = v.ownBlock)) (by rintro b ⟨⟨h1, h2, h3⟩, -⟩ (h | h); exact h2 h; exact h3 h))
    have h3 := h2.tch (grown_tch (S := fun b => b = gq ∨ some b = v.ownBlock) hg fun k hk => .inr hk.symm) (by rintro b ⟨⟨h1, h2, h3⟩, -⟩ (h | h); exact h2 h; exact h3 h)
    have h4 := h3.tch ((Only.one gq w1 0 v').tch (S := fun b => b = gq ∨ some b = v.ownBlock) (.inl rfl)) (by rintro b ⟨⟨h1, h2, h3⟩, -⟩ (h | h); exact h2 h; exact h3 h)
    refine ⟨h4.mono ?_, ?_⟩
    · rintro b ⟨⟨k1, k2, k3⟩, k4⟩ -
      refine ⟨.inl k1, k2, fun e => ?_⟩
      rcases ho with h | h
      · rw [h] at e; exact k3 e
      · rw [h] at e; injection e with e; have := hb'.size; omega
    · intro x hx
      rcases List.mem_append.1 hx with hx | hx
      · exact hQ.keys.sized x hx
      · simp at hx; subst hx; exact hes

set_option maxHeartbeats 8000000 in
theorem hpushm_calls (w : World) (S : Nat → Prop) (gq put : Nat) (v : Value) (L : List Ent) (e : Ent) (hQ : Que w S gq v L put) (he : On w (fun b => S b ∧ b ≠ gq ∧ some b ≠ v.ownBlock) (fun W => e.ok W)) (hes : Sized e.key 100) (hlen : L.length ≤ 1000000) :
    Calls Try.prog 119 #[.pointer (some ⟨gq, 0, none⟩), .iface 64 (.agg #[.bool e.s, .slice e.A e.n e.c, .bool false, .slice e.A' e.n' e.c', .int .i64 e.id, .int .i64 (e.at_ : Int)])] w (fun e' w' => e' = .returned (.tuple #[]) ∧ QTurn w S gq v put (fun L' => L' = L ++ [e]) w') := by
  have HQ := hide hQ; have HE := hide he; have HES := hide hes; have HARR := hide hQ.arr; have HQR := hide hQ.row
  have hrow : some gq ≠ v.ownBlock := fun e => (hQ.own gq e.symm).2 rfl
  have hq0 := (hQ.row.drew).cell (i := 0) rfl
  have hmx : Try.prog.follows .mixedOrders = true := by kernel_rfl
  obtain ⟨A, n, cc, rfl, -⟩ := hQ.arr.form
  clear hQ he hes
  go_enter Try.func119, Try.ntmps119
  refine wp_region_N (fun _ => True) [] hmx trivial (fun hHeld => ?_)
  refine wpAnyN_take (i := 0) (oi := _) (v := ?_) rfl (by kernel_rfl) (by kernel_rfl) (by kernel_rfl) (by kernel_rfl) (fun _ _ _ h => h) (Or.inl ⟨by rfl, ?_⟩) (by assumption) ?_
  rotate_left
  · intro w hSw; (try dsimp only at hSw); go_simp
    first | done | with_reducible rfl
  try simp only [Act.put, List.setIfInBounds_toArray, List.set_cons_zero, List.set_cons_succ]
  refine wpAnyN_take (i := 1) (oi := _) (v := ?_) rfl (by kernel_rfl) (by kernel_rfl) (by kernel_rfl) (by kernel_rfl) (fun _ _ _ h => h) (Or.inl ⟨by rfl, ?_⟩) (by assumption) ?_
  rotate_left
  · intro w hSw; (try dsimp only at hSw); go_simp
    first | done | with_reducible rfl
  try simp only [Act.put, List.setIfInBounds_toArray, List.set_cons_zero, List.set_cons_succ]
  refine wpAnyN_take (i := 2) (oi := _) (v := ?_) rfl (by kernel_rfl) (by kernel_rfl) (by kernel_rfl) (by kernel_rfl) (fun _ _ _ h => h) (Or.inl ⟨by rfl, ?_⟩) (by assumption) ?_
  rotate_left
  · intro w hSw; (try dsimp only at hSw); go_simp
    first | done | with_reducible rfl
  try simp only [Act.put, List.setIfInBounds_toArray, List.set_cons_zero, List.set_cons_succ]
  refine wpAnyN_take (i := 4) (oi := _) (v := ?_) rfl (by kernel_rfl) (by kernel_rfl) (by kernel_rfl) (by kernel_rfl) (fun _ _ _ h => h) (Or.inl ⟨by rfl, ?_⟩) (by assumption) ?_
  rotate_left
  · intro w hSw; (try dsimp only at hSw); go_simp
    first | done | with_reducible rfl
  try simp only [Act.put, List.setIfInBounds_toArray, List.set_cons_zero, List.set_cons_succ]
  refine wpAnyN_ready (rs := [3, 5]) (by kernel_rfl) (by simp) ?_
  refine AllReadyN.held rfl (by rfl) (fun K hK => ?_) ?_
  · go_simp
    refine hK.out _ _ ?_ (fun hHeld => ?_)
    · trivial
    clear hK K
    try simp only [Act.put, List.setIfInBounds_toArray, List.set_cons_zero, List.set_cons_succ]
    refine wpAnyN_ready (rs := [5]) (by kernel_rfl) (by simp) ?_
    refine AllReadyN.held rfl (by rfl) (fun K hK => ?_) AllReadyN.nil
    go_simp
    refine hK.out _ _ ?_ (fun hHeld => ?_)
    · trivial
    clear hK K
    try simp only [Act.put, List.setIfInBounds_toArray, List.set_cons_zero, List.set_cons_succ]
    refine wpAnyN_ready (rs := [6]) (by kernel_rfl) (by simp) ?_
    refine AllReadyN.held rfl (by rfl) (fun K hK => ?_) AllReadyN.nil
    go_simp
    refine hK.out _ _ ?_ (fun hHeld => ?_)
    · trivial
    clear hK K
    try simp only [Act.put, List.setIfInBounds_toArray, List.set_cons_zero, List.set_cons_succ]
    refine wpAnyN_ready (rs := [7]) (by kernel_rfl) (by simp) ?_
    refine AllReadyN.held rfl (by rfl) (fun K hK => ?_) AllReadyN.nil
    refine wp_append_ent _ _ rfl (by rfl) (HARR.out.later ((Later.refl w).drew.alloc _)) (by rfl) (Row.new w.drew _ _) hlen ?_
    intro v' w1 a1 g1 o1
    obtain ⟨A', n', cc', rfl, -⟩ := a1.form
    have h0 := (((HQR.out.drew).alloc (Obj.cells #[Value.bool e.s, Value.slice e.A e.n e.c, Value.bool false, Value.slice e.A' e.n' e.c', Value.int .i64 e.id, Value.int .i64 (e.at_ : Int)] 64)).grown g1 hrow)
    have c0 := h0.cell (i := 0) rfl
    have f0 := h0.frozen 0
    have HA1 := hide a1; have HG1 := hide g1; have HO1 := hide o1; have HQ1 := hide h0
    clear a1 g1 o1 h0
    refine hK.out _ _ ?_ (fun hHeld => ?_)
    · trivial
    clear hK K
    try simp only [Act.put, List.setIfInBounds_toArray, List.set_cons_zero, List.set_cons_succ]
    refine wpAnyN_take (i := 8) (oi := _) (v := ?_) rfl (by kernel_rfl) (by kernel_rfl) (by kernel_rfl) (by kernel_rfl) (fun _ _ _ h => h) (Or.inl ⟨by rfl, ?_⟩) (by assumption) ?_
    rotate_left
    · intro w hSw; (try dsimp only at hSw); go_simp
      first | done | with_reducible rfl
    try simp only [Act.put, List.setIfInBounds_toArray, List.set_cons_zero, List.set_cons_succ]
    refine wpAnyN_ready (rs := [9]) (by kernel_rfl) (by simp) ?_
    refine AllReadyN.held rfl (by rfl) (fun K hK => ?_) AllReadyN.nil
    go_simp
    refine hK.out _ _ ?_ (fun hHeld => ?_)
    · trivial
    clear hK K
    try simp only [Act.put, List.setIfInBounds_toArray, List.set_cons_zero, List.set_cons_succ]
    refine wpAnyN_done (by kernel_rfl) ?_ _
    go_wp2_with fail
    go_end0
    exact ⟨rfl, pushed HQ.out HE.out HES.out ((Later.refl w).drew.alloc _) HA1.out HG1.out HO1.out HQ1.out⟩
  refine AllReadyN.held rfl (by rfl) (fun K hK => ?_) AllReadyN.nil
  go_simp
  refine hK.out _ _ ?_ (fun hHeld => ?_)
  · trivial
  clear hK K
  try simp only [Act.put, List.setIfInBounds_toArray, List.set_cons_zero, List.set_cons_succ]
  refine wpAnyN_ready (rs := [3, 6]) (by kernel_rfl) (by simp) ?_
  refine AllReadyN.held rfl (by rfl) (fun K hK => ?_) ?_
  · go_simp
    refine hK.out _ _ ?_ (fun hHeld => ?_)
    · trivial
    clear hK K
    try simp only [Act.put, List.setIfInBounds_toArray, List.set_cons_zero, List.set_cons_succ]
    refine wpAnyN_ready (rs := [6]) (by kernel_rfl) (by simp) ?_
    refine AllReadyN.held rfl (by rfl) (fun K hK => ?_) AllReadyN.nil
    go_simp
    refine hK.out _ _ ?_ (fun hHeld => ?_)
    · trivial
    clear hK K
    try simp only [Act.put, List.setIfInBounds_toArray, List.set_cons_zero, List.set_cons_succ]
    refine wpAnyN_ready (rs := [7]) (by kernel_rfl) (by simp) ?_
    refine AllReadyN.held rfl (by rfl) (fun K hK => ?_) AllReadyN.nil
    refine wp_append_ent _ _ rfl (by rfl) (HARR.out.later ((Later.refl w).drew.alloc _)) (by rfl) (Row.new w.drew _ _) hlen ?_
    intro v' w1 a1 g1 o1
    obtain ⟨A', n', cc', rfl, -⟩ := a1.form
    have h0 := (((HQR.out.drew).alloc (Obj.cells #[Value.bool e.s, Value.slice e.A e.n e.c, Value.bool false, Value.slice e.A' e.n' e.c', Value.int .i64 e.id, Value.int .i64 (e.at_ : Int)] 64)).grown g1 hrow)
    have c0 := h0.cell (i := 0) rfl
    have f0 := h0.frozen 0
    have HA1 := hide a1; have HG1 := hide g1; have HO1 := hide o1; have HQ1 := hide h0
    clear a1 g1 o1 h0
    refine hK.out _ _ ?_ (fun hHeld => ?_)
    · trivial
    clear hK K
    try simp only [Act.put, List.setIfInBounds_toArray, List.set_cons_zero, List.set_cons_succ]
    refine wpAnyN_take (i := 8) (oi := _) (v := ?_) rfl (by kernel_rfl) (by kernel_rfl) (by kernel_rfl) (by kernel_rfl) (fun _ _ _ h => h) (Or.inl ⟨by rfl, ?_⟩) (by assumption) ?_
    rotate_left
    · intro w hSw; (try dsimp only at hSw); go_simp
      first | done | with_reducible rfl
    try simp only [Act.put, List.setIfInBounds_toArray, List.set_cons_zero, List.set_cons_succ]
    refine wpAnyN_ready (rs := [9]) (by kernel_rfl) (by simp) ?_
    refine AllReadyN.held rfl (by rfl) (fun K hK => ?_) AllReadyN.nil
    go_simp
    refine hK.out _ _ ?_ (fun hHeld => ?_)
    · trivial
    clear hK K
    try simp only [Act.put, List.setIfInBounds_toArray, List.set_cons_zero, List.set_cons_succ]
    refine wpAnyN_done (by kernel_rfl) ?_ _
    go_wp2_with fail
    go_end0
    exact ⟨rfl, pushed HQ.out HE.out HES.out ((Later.refl w).drew.alloc _) HA1.out HG1.out HO1.out HQ1.out⟩
  refine AllReadyN.held rfl (by rfl) (fun K hK => ?_) AllReadyN.nil
  go_simp
  refine hK.out _ _ ?_ (fun hHeld => ?_)
  · trivial
  clear hK K
  try simp only [Act.put, List.setIfInBounds_toArray, List.set_cons_zero, List.set_cons_succ]
  refine wpAnyN_ready (rs := [3]) (by kernel_rfl) (by simp) ?_
  refine AllReadyN.held rfl (by rfl) (fun K hK => ?_) AllReadyN.nil
  have hq1 := (HQR.out.alloc (Obj.cells #[Value.bool e.s, Value.slice e.A e.n e.c, Value.bool false, Value.slice e.A' e.n' e.c', Value.int .i64 e.id, Value.int .i64 (e.at_ : Int)] 64)).cell (i := 0) rfl
  go_simp
  refine hK.out _ _ ?_ (fun hHeld => ?_)
  · trivial
  clear hK K
  try simp only [Act.put, List.setIfInBounds_toArray, List.set_cons_zero, List.set_cons_succ]
  refine wpAnyN_ready (rs := [7]) (by kernel_rfl) (by simp) ?_
  refine AllReadyN.held rfl (by rfl) (fun K hK => ?_) AllReadyN.nil
  refine wp_append_ent _ _ rfl (by rfl) (HARR.out.later ((Later.refl w).drew.alloc _)) (by rfl) (Row.new w.drew _ _) hlen ?_
  intro v' w1 a1 g1 o1
  obtain ⟨A', n', cc', rfl, -⟩ := a1.form
  have h0 := (((HQR.out.drew).alloc (Obj.cells #[Value.bool e.s, Value.slice e.A e.n e.c, Value.bool false, Value.slice e.A' e.n' e.c', Value.int .i64 e.id, Value.int .i64 (e.at_ : Int)] 64)).grown g1 hrow)
  have c0 := h0.cell (i := 0) rfl
  have f0 := h0.frozen 0
  have HA1 := hide a1; have HG1 := hide g1; have HO1 := hide o1; have HQ1 := hide h0
  clear a1 g1 o1 h0
  refine hK.out _ _ ?_ (fun hHeld => ?_)
  · trivial
  clear hK K
  try simp only [Act.put, List.setIfInBounds_toArray, List.set_cons_zero, List.set_cons_succ]
  refine wpAnyN_take (i := 8) (oi := _) (v := ?_) rfl (by kernel_rfl) (by kernel_rfl) (by kernel_rfl) (by kernel_rfl) (fun _ _ _ h => h) (Or.inl ⟨by rfl, ?_⟩) (by assumption) ?_
  rotate_left
  · intro w hSw; (try dsimp only at hSw); go_simp
    first | done | with_reducible rfl
  try simp only [Act.put, List.setIfInBounds_toArray, List.set_cons_zero, List.set_cons_succ]
  refine wpAnyN_ready (rs := [9]) (by kernel_rfl) (by simp) ?_
  refine AllReadyN.held rfl (by rfl) (fun K hK => ?_) AllReadyN.nil
  go_simp
  refine hK.out _ _ ?_ (fun hHeld => ?_)
  · trivial
  clear hK K
  try simp only [Act.put, List.setIfInBounds_toArray, List.set_cons_zero, List.set_cons_succ]
  refine wpAnyN_done (by kernel_rfl) ?_ _
  go_wp2_with fail
  go_end0
  exact ⟨rfl, pushed HQ.out HE.out HES.out ((Later.refl w).drew.alloc _) HA1.out HG1.out HO1.out HQ1.out⟩

end Go.Proofs.Ytbhohnhkephefaa


/- Queues: the heap's Push and Pop. -/
set_option linter.unusedVariables false
set_option linter.unusedSimpArgs false
set_option maxRecDepth 100000
namespace Go.Proofs.Ytbhohnhkephefaa
open Go.RowKit Go.Shelf
attribute [local go_sem ↓] Go.wp_at_zero Go.wp_at_succ

theorem QTurn.step {w w1 w2 : World} {S S1 : Nat → Prop} {gq put : Nat} {v v1 : Value} {Y : List Ent → Prop} (h1 : ∀ b, S1 b → S b ∨ w.heap.size ≤ b) (hv : ∀ b, Mu gq v1 b → Mu gq v b ∨ w.heap.size ≤ b) (ht : Tch (Mu gq v) w w1) (h : QTurn w1 S1 gq v1 put Y w2) : QTurn w S gq v put Y w2 := by
  obtain ⟨S', v', L', k1, kM, k2, k3, k4⟩ := h
  have hs := ht.size
  refine ⟨S', v', L', fun b hb => ?_, fun b hb => ?_, k2, ?_, k4⟩
  · rcases k1 b hb with h | h
    · exact h1 b h
    · exact .inr (by omega)
  · rcases kM b hb with h | h
    · exact hv b h
    · exact .inr (by omega)
  · exact ht.step k3 hv
theorem Que.later {a b : World} {S : Nat → Prop} {gq put : Nat} {v : Value} {L : List Ent} (h : Que a S gq v L put) (k : Later a b) : Que b S gq v L put := ⟨h.sq, h.row.later k, h.arr.later k, h.own, h.keys.later k⟩
theorem Que.tch {a b : World} {S T : Nat → Prop} {gq put : Nat} {v : Value} {L : List Ent} (h : Que a S gq v L put) (k : Tch T a b) (hS : ∀ x, x < a.heap.size → S x → ¬ T x) : Que b (fun x => S x ∧ x < a.heap.size) gq v L put :=
  ⟨⟨h.sq, h.row.lt⟩, h.row.tch k (hS gq h.row.lt h.sq), h.arr.tch k (fun g hg => hS g (h.arr.lt g hg) (h.own g hg).1), fun g hg => ⟨⟨(h.own g hg).1, h.arr.lt g hg⟩, (h.own g hg).2⟩, ⟨(h.keys.ok.lt.tch k (fun x hx => hS x hx.2 hx.1.1)).mono (fun x hx _ => ⟨⟨hx.1.1, hx.2⟩, hx.1.2⟩), h.keys.sized⟩⟩
theorem Que.mono {a : World} {S T : Nat → Prop} {gq put : Nat} {v : Value} {L : List Ent} (h : Que a S gq v L put) (k : ∀ x, S x → T x) : Que a T gq v L put :=
  ⟨k _ h.sq, h.row, h.arr, fun g hg => ⟨k _ (h.own g hg).1, (h.own g hg).2⟩, h.keys.mono (fun b hb _ => ⟨k _ hb.1, hb.2⟩)⟩
theorem Que.moved {w w' : World} {S : Nat → Prop} {gq put g n cap : Nat} {L L' : List Ent} (hQ : Que w S gq (.slice (some ⟨g, 0, none⟩) n cap) L put) (h2 : Arr w' g cap L') (h3 : Tch (fun b => b = g) w w') (h1 : L'.Perm L) (hn : n = L.length) (hm : cap ≤ maxLen) :
    Que w' S gq (.slice (some ⟨g, 0, none⟩) n cap) L' put ∧ Tch (Mu gq (.slice (some ⟨g, 0, none⟩) n cap)) w w' := by
  have hgq := hQ.own g rfl
  have hl := h1.length_eq
  refine ⟨⟨hQ.sq, hQ.row.tch h3 (fun e => hgq.2 e.symm), .inr ⟨g, cap, by rw [hl, ← hn], hm, h2⟩, hQ.own, ?_⟩, h3.mono (fun x _ e => .inr (by rw [e]; rfl))⟩
  exact (hQ.keys.perm h1).tch h3 (fun x hx e => hx.2.2 (by rw [e]; rfl))
/-- its entries changed about -/
theorem Que.perm {w w' : World} {S : Nat → Prop} {gq put g n cap m s : Nat} {L : List Ent} (hQ : Que w S gq (.slice (some ⟨g, 0, none⟩) n cap) L put) (h : UpPost w g cap m s L w') (hn : n = L.length) (hm : cap ≤ maxLen) :
    ∃ L', Que w' S gq (.slice (some ⟨g, 0, none⟩) n cap) L' put ∧ Tch (Mu gq (.slice (some ⟨g, 0, none⟩) n cap)) w w' ∧ L'.Perm L ∧ Hp.Hf Ent.first (fn L') m s ∧ ∀ k, m ≤ k → L'[k]? = L[k]? := by
  obtain ⟨L', h1, h2, h3, h4, h5⟩ := h
  have hgq := hQ.own g rfl
  have hl := h1.length_eq
  refine ⟨L', ⟨hQ.sq, hQ.row.tch h3 (fun e => hgq.2 e.symm), .inr ⟨g, cap, by rw [hl, ← hn], hm, h2⟩, hQ.own, ?_⟩, h3.mono (fun x _ e => .inr (by rw [e]; rfl)), h1, h4, h5⟩
  exact (hQ.keys.perm h1).tch h3 (fun x hx e => hx.2.2 (by rw [e]; rfl))
theorem Arr.init {w : World} {g cap : Nat} {L : List Ent} {e : Ent} (h : Arr w g cap (L ++ [e])) : Arr w g cap L := by
  obtain ⟨cs, h1, h2, h3, h4⟩ := h
  rw [List.length_append] at h3 h4
  refine ⟨cs, h1, h2, by omega, ?_⟩
  have h5 : (cs.take ((L.length + [e].length) * 6)).take (L.length * 6) = cs.take (L.length * 6) := by rw [List.take_take]; congr 1; simp
  rw [← h5, h4, List.flatMap_append, List.take_left' (flat6_len L)]
theorem fn_append (L : List Ent) (e : Ent) {k : Nat} (h : k < L.length) : fn (L ++ [e]) k = fn L k := by
  unfold fn; rw [List.getElem?_append_left h]

set_option maxHeartbeats 1000000 in
theorem hlen_calls (w : World) (A : Option Addr) (n c : Nat) : Calls Try.prog 114 #[.slice A n c] w (RetV w (.int .i64 (n : Int))) := by
  go_enter Try.func114, Try.ntmps114
  go_wp2_with fail
  go_ret
  exact ⟨rfl, Later.refl _⟩

set_option maxHeartbeats 8000000 in
theorem hpush_calls (w : World) (S : Nat → Prop) (gq put : Nat) (v : Value) (L : List Ent) (e : Ent) (hQ : Que w S gq v L put) (he : On w (fun b => S b ∧ b ≠ gq ∧ some b ≠ v.ownBlock) (fun W => e.ok W)) (hes : Sized e.key 100) (hlen : L.length ≤ 1000000) (hH : Hp.Hf Ent.first (fn L) L.length 0) :
    Calls Try.prog 25 #[.iface 62 (.pointer (some ⟨gq, 0, none⟩)), .iface 64 (.agg #[.bool e.s, .slice e.A e.n e.c, .bool false, .slice e.A' e.n' e.c', .int .i64 e.id, .int .i64 (e.at_ : Int)])] w (fun e' w' => e' = .returned (.tuple #[]) ∧ QTurn w S gq v put (fun L' => L'.Perm (L ++ [e]) ∧ Hp.Hf Ent.first (fn L') L'.length 0) w') := by
  have HQ := hide hQ; have HE := hide he; have HES := hide hes; have HH := hide hH
  have mp := fun k => m_push (g := gq) (w := w) (fuel := k)
  clear hQ he hes hH
  go_enter Try.func25, Try.ntmps25
  go_wp2_with fail
  ((with_reducible refine (hpushm_calls w S gq put v L e HQ.out HE.out HES.out hlen).mono ?_); rintro e' w1 ⟨rfl, S1, v1, L1, k1, kM, k2, k3, rfl⟩)
  obtain ⟨g, cap, n, rfl, hn, hcm, ha⟩ := k2.arr.some_ (by simp)
  have HK1 := hide k1; have HKM := hide kM; have HK2 := hide k2; have HK3 := hide k3; have HN := hide hn; have HA := hide ha
  have hq0 := k2.row.cell (i := 0) rfl
  have ml := fun k => m_len (fuel := k) hq0
  have hn1 : n = L.length + 1 := by rw [hn]; simp
  have t1 : (n : Int) - 1 = ((L.length : Nat) : Int) := by omega
  have hn2 : n ≤ 1000001 := by omega
  clear k1 kM k2 k3 hn ha mp hn1
  go_wp2_with fail
  ((with_reducible refine (hlen_calls w1 _ n cap).mono ?_); rintro e' w2 ⟨rfl, b2⟩)
  have HB2 := hide b2
  have HU : Hid (Hp.Up Ent.first (fn (L ++ [e])) n L.length) := hide (by
    have : n = L.length + 1 := by rw [HN.out]; simp
    rw [this]
    exact Hp.Up.start (Hp.Hf.same HH.out (fun k hk => fn_append L e hk)))
  have hgg : gq ≠ g := fun e => (HK2.out.own g rfl).2 e.symm
  have hpg : ¬ (S1 g ∧ g ≠ gq ∧ some g ≠ (Value.slice (some ⟨g, 0, none⟩) n cap).ownBlock) := fun h => h.2.2 rfl
  clear b2 ml hq0
  go_wp2_with fail
  ((with_reducible refine (hup_calls w2 gq g cap n L.length put _ (L ++ [e]) (HK2.out.row.later HB2.out) hgg (HA.out.later HB2.out) HN.out (HK2.out.keys.later HB2.out) hpg HU.out (by omega)).mono ?_); rintro e' w3 ⟨rfl, h3⟩)
  obtain ⟨L', q1, q2, q3, q4, -⟩ := (HK2.out.later HB2.out).perm h3 HN.out hcm
  go_wp2_with fail
  go_end0
  refine ⟨rfl, QTurn.step HK1.out HKM.out (HK3.out.trans HB2.out.tch) ⟨S1, _, L', fun b hb => .inl hb, fun b hb => .inl hb, q1, q2, q3, ?_⟩⟩
  rw [q3.length_eq, ← HN.out]; exact q4

set_option maxHeartbeats 8000000 in
theorem hpopm_calls (w : World) (S : Nat → Prop) (gq put : Nat) (v : Value) (L : List Ent) (e : Ent) (hQ : Que w S gq v (L ++ [e]) put) (hlen : L.length ≤ 1000000) :
    Calls Try.prog 118 #[.pointer (some ⟨gq, 0, none⟩)] w (fun e' w' => e' = .returned (.iface 64 (.agg #[.bool e.s, .slice e.A e.n e.c, .bool false, .slice e.A' e.n' e.c', .int .i64 e.id, .int .i64 (e.at_ : Int)])) ∧ QTurn w S gq v put (fun L' => L' = L) w' ∧ On w' (fun b => S b ∧ ¬ Mu gq v b) (fun W => e.ok W)) := by
  obtain ⟨g, cap, n, rfl, hn, hcm, ha⟩ := hQ.arr.some_ (by simp)
  have hq0 := hQ.row.cell (i := 0) rfl
  have hf0 := hQ.row.frozen 0
  have hn1 : n = L.length + 1 := by rw [hn]; simp
  obtain ⟨m, hm⟩ : ∃ m, m = L.length := ⟨_, rfl⟩
  have t1 : (n : Int) - 1 = (m : Int) := by omega
  have hmn : m < n := by omega
  have hi : (L ++ [e])[m]? = some e := by rw [hm]; simp
  have hnc : n ≤ cap := by have := ha.le; omega
  have hn2 : n ≤ 1000001 := by omega
  have d0 : w.cell? ⟨g, m * 6, none⟩ = some (.bool e.s) := ha.cell hi (r := 0) rfl
  have d1 : w.cell? ⟨g, m * 6 + 1, none⟩ = some (.slice e.A e.n e.c) := ha.cell hi (r := 1) rfl
  have d2 : w.cell? ⟨g, m * 6 + 2, none⟩ = some (.bool false) := ha.cell hi (r := 2) rfl
  have d3 : w.cell? ⟨g, m * 6 + 3, none⟩ = some (.slice e.A' e.n' e.c') := ha.cell hi (r := 3) rfl
  have d4 : w.cell? ⟨g, m * 6 + 4, none⟩ = some (.int .i64 e.id) := ha.cell hi (r := 4) rfl
  have d5 : w.cell? ⟨g, m * 6 + 5, none⟩ = some (.int .i64 (e.at_ : Int)) := ha.cell hi (r := 5) rfl
  have HQ := hide hQ; have HM := hide hm; have HN := hide hn; have HA := hide ha
  have hlg : gq < w.heap.size := hQ.row.lt
  have hgl : g < w.heap.size := ha.lt
  clear hQ hm hn ha hn1 hi
  go_enter Try.func118, Try.ntmps118
  go_wp2_with fail
  go_ret
  have hgg := HQ.out.own g rfl
  have hTq := ((Tch.refl (Mu gq (.slice (some ⟨g, 0, none⟩) n cap)) w).setCell (g := gq) (i := 0) (.inl rfl) (.slice (some ⟨g, 0, none⟩) m cap)).alloc (Obj.cells #[Value.bool e.s, Value.slice e.A e.n e.c, Value.bool false, Value.slice e.A' e.n' e.c', Value.int .i64 e.id, Value.int .i64 (e.at_ : Int)] 64)
  have hO := (((Tch.refl (fun b => b = gq) w).setCell (g := gq) (i := 0) rfl (.slice (some ⟨g, 0, none⟩) m cap)).alloc (Obj.cells #[Value.bool e.s, Value.slice e.A e.n e.c, Value.bool false, Value.slice e.A' e.n' e.c', Value.int .i64 e.id, Value.int .i64 (e.at_ : Int)] 64))
  refine ⟨rfl, ⟨S, .slice (some ⟨g, 0, none⟩) m cap, L, fun b hb => .inl hb, fun b hb => .inl hb, ⟨HQ.out.sq, ?_, .inr ⟨g, cap, by rw [HM.out], hcm, ?_⟩, ?_, ?_⟩, hTq, rfl⟩, ?_⟩
  · exact (HQ.out.row.set_ 0 _).alloc _
  · exact HA.out.init.tch hO (fun e => hgg.2 e)
  · intro k hk
    have hk : some g = some k := hk
    injection hk with hk; rw [← hk]; exact hgg
  · refine (HQ.out.keys.sub (fun x hx => List.mem_append_left _ hx)).tch hO (fun x hx e => hx.2.1 e)
  · exact ((HQ.out.keys.ok.map fun W k => k e (List.mem_append_right _ (List.mem_singleton.2 rfl))).tch hO (fun x hx e => hx.2.1 e)).mono (fun b hb _ => ⟨hb.1, fun h => h.elim hb.2.1 hb.2.2⟩)

set_option maxHeartbeats 8000000 in
theorem hpop_calls (w : World) (S : Nat → Prop) (gq put : Nat) (v : Value) (L : List Ent) (hQ : Que w S gq v L put) (hl : 0 < L.length) (hlen : L.length ≤ 1000000) (hH : Hp.Hf Ent.first (fn L) L.length 0) (e : Ent) (he : e = fn L 0) :
    Calls Try.prog 27 #[.iface 62 (.pointer (some ⟨gq, 0, none⟩))] w (fun e' w' => e' = .returned (.iface 64 (.agg #[.bool e.s, .slice e.A e.n e.c, .bool false, .slice e.A' e.n' e.c', .int .i64 e.id, .int .i64 (e.at_ : Int)])) ∧ QTurn w S gq v put (fun L' => (e :: L').Perm L ∧ Hp.Hf Ent.first (fn L') L'.length 0) w' ∧ On w' (fun b => S b ∧ ¬ Mu gq v b) (fun W => e.ok W)) := by
  obtain ⟨g, cap, n, rfl, hn, hcm, ha⟩ := hQ.arr.some_ hl
  have hq0 := hQ.row.cell (i := 0) rfl
  obtain ⟨m, hm⟩ : ∃ m, m = L.length - 1 := ⟨_, rfl⟩
  have t1 : (n : Int) - 1 = (m : Int) := by omega
  have hmn : m < n := by omega
  have hml : m < L.length := by omega
  have hn2 : n ≤ 1000000 := by omega
  have ml := fun k => m_len (fuel := k) hq0
  have ms := fun k => m_swap (fuel := k) hq0
  have hgg := hQ.own g rfl
  have hgg' : gq ≠ g := fun e => hgg.2 e.symm
  have hpg : ¬ (S g ∧ g ≠ gq ∧ some g ≠ (Value.slice (some ⟨g, 0, none⟩) n cap).ownBlock) := fun h => h.2.2 rfl
  have HQ := hide hQ; have HM := hide hm; have HN := hide hn; have HA := hide ha; have HH := hide hH; have HE := hide he
  have HF0 := hide (fn_at hl); have HF1 := hide (fn_at hml)
  clear hQ hm hn ha hH he
  go_enter Try.func27, Try.ntmps27
  go_wp2_with fail
  ((with_reducible refine (hlen_calls w _ n cap).mono ?_); rintro e' w1 ⟨rfl, b1⟩)
  have HB1 := hide b1
  have hq1 := (HQ.out.row.later b1).cell (i := 0) rfl
  have ms := fun k => m_swap (fuel := k) hq1
  clear b1
  go_wp2_with fail
  have hsw : Calls Try.prog 116 #[.slice (some ⟨g, 0, none⟩) n cap, .int .i64 0, .int .i64 (m : Int)] w1 (fun e' w' => e' = .returned (.tuple #[]) ∧ Arr w' g cap (swapE L 0 m) ∧ Only g w1 w') :=
    hswap_calls w1 g cap n 0 m L _ _ (HA.out.later HB1.out) HN.out HF0.out HF1.out (by omega)
  ((with_reducible refine hsw.mono ?_); rintro e' w2 ⟨rfl, a2, o2⟩)
  have HA2 := hide a2; have HO2 := hide o2
  have hsl : (swapE L 0 m).length = L.length := swapE_length L 0 m
  have hq2' := (HQ.out.later HB1.out).moved a2 (o2.tch (S := fun b => b = g) rfl) (swapE_perm L 0 m hl hml) HN.out hcm
  have HQ2 := hide hq2'.1; have HT2 := hide hq2'.2
  have HN2 : Hid (n = (swapE L 0 m).length) := hide (by rw [hsl]; exact HN.out)
  have HD2 : Hid (Hp.Hf Ent.first (fn (swapE L 0 m)) m (0 + 1)) := hide (by
    rw [fn_swap L 0 m hl hml]
    intro c c1 c2 c3
    rw [Hp.sw_o _ _ _ c (by omega) (by omega), Hp.sw_o _ _ _ _ (by omega) (by omega)]
    exact HH.out c c1 (by omega) (by omega))
  have HS2 : Hid ((swapE L 0 m)[m]? = some e) := hide (by rw [swapE_at L 0 m m hl hml, if_pos rfl, HE.out]; exact HF0.out)
  clear a2 o2 ms ml hq1 hq0 hsl hq2'
  go_wp2_with fail
  have hdn : Calls Try.prog 46 #[.iface 62 (.pointer (some ⟨gq, 0, none⟩)), .int .i64 0, .int .i64 (m : Int)] w2 (fun e' w' => RetB e' ∧ UpPost w2 g cap m 0 (swapE L 0 m) w') :=
    hdown_calls w2 gq g cap m n 0 put _ (swapE L 0 m) HQ2.out.row hgg' HA2.out HN2.out HQ2.out.keys hpg (by omega) (by omega) HD2.out (by omega)
  clear hsw
  ((with_reducible refine hdn.mono ?_); rintro e' w3 ⟨⟨b, rfl⟩, h3⟩)
  obtain ⟨L3, q1, q2, q3, q4, q5⟩ := HQ2.out.perm h3 HN2.out hcm
  have h3l : L3.length = m + 1 := by rw [q3.length_eq, swapE_length]; have := HM.out; omega
  have h3m : L3 = L3.take m ++ [e] := by
    apply List.ext_getElem?
    intro k
    by_cases hk : k < m
    · rw [List.getElem?_append_left (by rw [List.length_take]; omega), List.getElem?_take, if_pos hk]
    · by_cases hk2 : k = m
      · subst hk2
        rw [q5 k (Nat.le_refl _), HS2.out, List.getElem?_append_right (by rw [List.length_take]; omega)]
        rw [List.length_take, Nat.min_eq_left (by omega)]; simp
      · rw [List.getElem?_eq_none (by omega), List.getElem?_eq_none (by rw [List.length_append, List.length_take]; simp; omega)]
  have HQ3 : Hid (Que w3 S gq (.slice (some ⟨g, 0, none⟩) n cap) (L3.take m ++ [e]) put) := hide (by rw [← h3m]; exact q1)
  have HT3 := hide q2
  have HP3 : Hid ((e :: L3.take m).Perm L) := hide (by
    refine List.Perm.trans ?_ (q3.trans (swapE_perm L 0 m hl hml))
    have h : (L3.take m ++ [e]).Perm (e :: L3.take m) := List.perm_append_singleton e (L3.take m)
    rw [← h3m] at h; exact h.symm)
  have hlt : (L3.take m).length = m := by rw [List.length_take]; omega
  have HH3 : Hid (Hp.Hf Ent.first (fn (L3.take m)) (L3.take m).length 0) := hide (by
    rw [hlt]
    refine Hp.Hf.same q4 (fun k hk => ?_)
    have : fn (L3.take m ++ [e]) k = fn (L3.take m) k := fn_append _ e (by omega)
    rw [← h3m] at this; exact this.symm)
  clear h3 q1 q2 q3 q4 q5 h3l h3m hlt hdn
  have mp := fun k => m_pop (g := gq) (w := w3) (fuel := k)
  go_wp2_with fail
  ((with_reducible refine (hpopm_calls w3 S gq put _ (L3.take m) e HQ3.out (by rw [List.length_take]; omega)).mono ?_); rintro e' w4 ⟨rfl, ⟨S4, v4, L4, k1, kM, k2, k3, rfl⟩, k6⟩)
  have HK1 := hide k1; have HK2 := hide k2; have HK3 := hide k3; have HK6 := hide k6; have HKM := hide kM
  clear k1 kM k2 k3 k6 mp
  go_wp2_with fail
  go_ret
  exact ⟨rfl, QTurn.step (fun b hb => .inl hb) (fun b hb => .inl hb) (HB1.out.tch.trans (HT2.out.trans HT3.out)) ⟨S4, v4, _, HK1.out, HKM.out, HK2.out, HK3.out, HP3.out, HH3.out⟩, HK6.out⟩
end Go.Proofs.Ytbhohnhkephefaa


/- Queues: the heap's Init; DeleteFunc of entries. -/
set_option linter.unusedVariables false
set_option linter.unusedSimpArgs false
set_option maxRecDepth 100000
namespace Go.Proofs.Ytbhohnhkephefaa
open Go.RowKit Go.Shelf
attribute [local go_sem ↓] Go.wp_at_zero Go.wp_at_succ

set_option maxHeartbeats 8000000 in
theorem hinit_calls (w : World) (S : Nat → Prop) (gq put : Nat) (v : Value) (L : List Ent) (hQ : Que w S gq v L put) (hlen : L.length ≤ 1000000) :
    Calls Try.prog 33 #[.iface 62 (.pointer (some ⟨gq, 0, none⟩))] w (fun e' w' => e' = .returned (.tuple #[]) ∧ QTurn w S gq v put (fun L' => L'.Perm L ∧ Hp.Hf Ent.first (fn L') L'.length 0) w') := by
  obtain ⟨A, n, c, rfl, hn⟩ := hQ.arr.form
  have hq0 := hQ.row.cell (i := 0) rfl
  have ml := fun k => m_len (fuel := k) hq0
  have hn2 : n ≤ 1000000 := by omega
  have HQ := hide hQ; have HN := hide hn
  clear hQ hn
  go_enter Try.func33, Try.ntmps33
  go_wp2_with fail
  ((with_reducible refine (hlen_calls w _ n c).mono ?_); rintro e' w1 ⟨rfl, b1⟩)
  have HB1 := hide b1
  clear b1 ml hq0
  go_wp2_with fail
  go_loopw [3] (fun iv wr => ∃ (k : Nat) (L' : List Ent), k ≤ n / 2 ∧ iv = .int .i64 ((k : Int) - 1) ∧ Hid (Que wr S gq (.slice A n c) L' put) ∧ Hid (Tch (Mu gq (.slice A n c)) w wr) ∧ Hid (L'.Perm L) ∧ Hid (Hp.Hf Ent.first (fn L') n k)) (fun iv _ => (intOf iv + 1).toNat)
  case atStart => exact ⟨n / 2, L, Nat.le_refl _, by go_num, hide (HQ.out.later HB1.out), hide HB1.out.tch, hide (.refl _), hide (Hp.Hf.tail (by omega))⟩
  case round =>
    obtain ⟨k, L', hk, rfl, HQ', HT', HP', HH'⟩ := hrel
    by_cases h0 : k = 0
    · subst h0
      go_wp2_with fail
      go_end0
      exact ⟨rfl, S, _, L', fun b hb => .inl hb, fun b hb => .inl hb, HQ'.out, HT'.out, HP'.out, by rw [HP'.out.length_eq, ← HN.out]; exact HH'.out⟩
    · obtain ⟨i, hi⟩ : ∃ i, i = k - 1 := ⟨_, rfl⟩
      have t1 : (k : Int) - 1 = (i : Int) := by omega
      have t2 : (0 : Int) ≤ (i : Int) := by omega
      have hnl : n = L'.length := by rw [HP'.out.length_eq]; exact HN.out
      obtain ⟨g, cap, n', hf, hn', hcm, ha⟩ := HQ'.out.arr.some_ (by omega)
      injection hf with f1 f2 f3
      subst f1 f2 f3
      have hgg := HQ'.out.own g rfl
      have hgg' : gq ≠ g := fun e => hgg.2 e.symm
      have hpg : ¬ (S g ∧ g ≠ gq ∧ some g ≠ (Value.slice (some ⟨g, 0, none⟩) n c).ownBlock) := fun h => h.2.2 rfl
      have HA := hide ha; have HNL := hide hnl
      have HH2 : Hid (Hp.Hf Ent.first (fn L') n (i + 1)) := hide (by rw [hi, Nat.sub_add_cancel (by omega)]; exact HH'.out)
      clear ha hnl hn' hi
      go_wp2_with fail
      ((with_reducible refine (hdown_calls wr gq g c n n i put _ L' HQ'.out.row hgg' HA.out HNL.out HQ'.out.keys hpg (by omega) (by omega) HH2.out (by omega)).mono ?_); rintro e' w3 ⟨⟨b, rfl⟩, h3⟩)
      obtain ⟨L3, q1, q2, q3, q4, -⟩ := HQ'.out.perm h3 HNL.out hcm
      have HQ3 := hide q1; have HT3 := hide (HT'.out.trans q2); have HP3 := hide (q3.trans HP'.out); have HH3 := hide q4
      clear q1 q2 q3 q4 h3
      go_wp2_with fail
      go_roundw
      case rel => exact ⟨i, L3, by omega, by go_num, HQ3, HT3, HP3, HH3⟩
      case measure => simp [intOf]; omega

/-- cells set one by one, in one block, behind a place -/
theorem only_setCells (g : Nat) : ∀ (vs : List Value) (o : Nat) (w : World), Only g w (w.setCells g o vs)
  | [], _, w => Only.refl g w
  | v :: r, o, w => ((Only.one g w o v).trans (only_setCells g r (o + 1) _))
theorem row_setCells {g : Nat} {t : TypeId} : ∀ (vs : List Value) (o : Nat) (w : World) (cs : List Value), Row w g t cs → ∃ cs', Row (w.setCells g o vs) g t cs' ∧ cs'.length = cs.length ∧ cs'.take o = cs.take o
  | [], _, w, cs, h => ⟨cs, h, rfl, rfl⟩
  | v :: r, o, w, cs, h => by
    obtain ⟨cs', h1, h2, h3⟩ := row_setCells r (o + 1) _ _ (h.set_ o v)
    refine ⟨cs', h1, by rw [h2, List.length_set], ?_⟩
    have h4 : (cs'.take (o + 1)).take o = cs'.take o := by rw [List.take_take]; congr 1; omega
    rw [← h4, h3, List.take_take, Nat.min_eq_left (by omega), List.take_set_of_le (Nat.le_refl _)]
theorem run_clear_ent (w : World) (ty : TypeId) (g cap n o c : Nat) (L : List Ent) (h : Arr w g cap L) (hn : 0 < n) (ho : o + n ≤ L.length) :
    (Builtin.clear_ #[58] ty #[.slice (some ⟨g, o * 6, none⟩) n c]).run Try.prog w = .ok (.tuple #[]) (w.setCells g (o * 6) (Builtin.zeroCells #[.bool false, .slice none 0 0, .bool false, .slice none 0 0, .int .i64 0, .int .i64 0] n).toList) := by
  obtain ⟨i, hi, hz, hs, hb⟩ := info_parts info_entry
  have hzv : ∀ w, (zeroValue 64).run Try.prog w = .ok (.agg #[.bool false, .slice none 0 0, .bool false, .slice none 0 0, .int .i64 0, .int .i64 0]) w := fun w => by
    simp [zeroValue, typeInfo, hi, hz, go_sem]
  obtain ⟨cs, h1, h2, h3, h4⟩ := h
  have hl : (Builtin.zeroCells #[.bool false, .slice none 0 0, .bool false, .slice none 0 0, .int .i64 0, .int .i64 0] n).toList.length = n * 6 := by simp [Builtin.zeroCells]
  have hst := run_storeCells_cells (P := Try.prog) g (o * 6) (Builtin.zeroCells #[.bool false, .slice none 0 0, .bool false, .slice none 0 0, .int .i64 0, .int .i64 0] n).toList 0 w
    (fun j hj => by
      rw [hl] at hj
      rw [h1.cell (i := o * 6 + 0 + j) (u := cs[o * 6 + 0 + j]'(by omega)) (List.getElem?_eq_getElem _)]; rfl)
    (fun j hj => h1.frozen _)
    (by
      intro v hv
      simp only [Builtin.zeroCells, Array.toList_map, Array.toList_range, List.mem_map] at hv
      obtain ⟨k, -, rfl⟩ := hv
      have : k % 6 < 6 := Nat.mod_lt _ (by omega)
      show Value.oneCell' ((#[.bool false, .slice none 0 0, .bool false, .slice none 0 0, .int .i64 0, .int .i64 0] : Array Value)[k % 6]!) = true
      generalize k % 6 = r at this
      match r, this with
      | 0, _ => rfl
      | 1, _ => rfl
      | 2, _ => rfl
      | 3, _ => rfl
      | 4, _ => rfl
      | 5, _ => rfl)
  simp only [Nat.add_zero] at hst
  obtain ⟨m, rfl⟩ : ∃ m, n = m + 1 := ⟨n - 1, by omega⟩
  simp [Builtin.clear_, run_underlying (Try.underlying58), hzv, hst, Value.cells]
/-- behind a place all is made nothing -/
theorem Arr.cleared {w : World} {g cap i : Nat} {L : List Ent} (h : Arr w g cap L) (hi : i ≤ L.length) (vs : List Value) : Arr (w.setCells g (i * 6) vs) g cap (L.take i) ∧ Only g w (w.setCells g (i * 6) vs) := by
  refine ⟨?_, only_setCells g vs _ w⟩
  obtain ⟨cs, h1, h2, h3, h4⟩ := h
  obtain ⟨cs', k1, k2, k3⟩ := row_setCells vs (i * 6) w cs h1
  refine ⟨cs', k1, by rw [k2, h2], by rw [List.length_take]; omega, ?_⟩
  rw [List.length_take, Nat.min_eq_left hi, k3]
  have h5 : (cs.take (L.length * 6)).take (i * 6) = cs.take (i * 6) := by rw [List.take_take]; congr 1; omega
  have h6 : L = L.take i ++ L.drop i := (List.take_append_drop i L).symm
  rw [← h5, h4]
  conv => lhs; rw [h6, List.flatMap_append]
  have h7 := flat6_len (L.take i)
  rw [List.length_take, Nat.min_eq_left hi] at h7
  rw [List.take_left' h7]
end Go.Proofs.Ytbhohnhkephefaa


/- Queues: entries of which something is so go. -/
set_option linter.unusedVariables false
set_option linter.unusedSimpArgs false
set_option maxRecDepth 100000
namespace Go.Proofs.Ytbhohnhkephefaa
open Go.RowKit Go.Shelf
attribute [local go_sem ↓] Go.wp_at_zero Go.wp_at_succ

set_option maxHeartbeats 4000000 in
theorem drop1_calls (w : World) (e : Ent) (he : e.ok w) (hes : Sized e.key 100) (G : Nat) (sa sa' : Bool) (A1 A2 : Option Addr) (n1 c1 n2 c2 : Nat) (hr : Row w G 35 [.bool sa, .slice A1 n1 c1, .bool sa', .slice A2 n2 c2]) (q : Rat) (hq : RawR w (.agg #[.bool sa, .slice A1 n1 c1, .bool sa', .slice A2 n2 c2]) q 100) (u : Bool) (hu : decide (q < e.key) = u) :
    Calls Try.prog 31 #[.agg #[.bool e.s, .slice e.A e.n e.c, .bool false, .slice e.A' e.n' e.c', .int .i64 e.id, .int .i64 (e.at_ : Int)], .pointer (some ⟨G, 0, none⟩)] w (RetV w (.bool u)) := by
  have HE := hide he; have HES := hide hes; have HR := hide hr; have HQ := hide hq; have HU := hide hu
  clear he hes hr hq hu
  go_enter Try.func31, Try.ntmps31
  obtain ⟨W0, hW0⟩ : ∃ W0, W0 = w.alloc (Obj.cells #[Value.bool e.s, Value.slice e.A e.n e.c, Value.bool false, Value.slice e.A' e.n' e.c', Value.int .i64 e.id, Value.int .i64 (e.at_ : Int)] 64) := ⟨_, rfl⟩
  obtain ⟨hb0, r1, hsz⟩ := boxes1 w [.bool e.s, .slice e.A e.n e.c, .bool false, .slice e.A' e.n' e.c', .int .i64 e.id, .int .i64 (e.at_ : Int)] 64 hW0
  have HR1 := hide r1; have B0 := hide hb0; have HRW := hide (HR.out.later hb0)
  obtain ⟨d0, d1, d2, d3, d4, d5⟩ := row_cells6 r1
  obtain ⟨f0, f1, f2, f3, -⟩ := row_cells4 HR.out
  have hGl : G < w.heap.size := HR.out.lt
  have HW0 := hide hW0
  clear hW0 r1 hb0
  go_wp2_with fail
  rw [← HW0.out]
  have hraw : RawR W0 (.agg #[.bool e.s, .slice e.A e.n e.c, .bool false, .slice e.A' e.n' e.c']) e.key 100 := OwnR.raw (HE.out.later B0.out) HES.out
  ((with_reducible refine (rcmp_calls W0 _ _ e.key q 100 100 hraw (HQ.out.later B0.out) (by omega)).mono ?_); rintro e' w1 ⟨rfl, b1⟩)
  have hc : decide (0 < cmpQ e.key q) = u := by
    rw [← HU.out]
    unfold cmpQ
    by_cases h1 : e.key < q
    · rw [if_pos h1]; have : ¬ q < e.key := by grind
      simp [this]
    · rw [if_neg h1]
      by_cases h2 : q < e.key
      · simp [h2]
      · simp [h2]
  clear hraw
  have hL := B0.out.trans b1
  generalize cmpQ e.key q = cz at hc
  go_wp2_with fail
  go_ret
  exact ⟨by simp [hc], hL⟩

/-- the first entry of which something is so; -1: there is none -/
def FirstE (p : Ent → Bool) (L : List Ent) (z : Int) : Prop := (z = -1 ∧ ∀ e ∈ L, p e = false) ∨ ∃ (i : Nat) (e : Ent), z = i ∧ L[i]? = some e ∧ p e = true ∧ ∀ j r, j < i → L[j]? = some r → p r = false

set_option maxHeartbeats 4000000 in
theorem idxe_calls (w : World) (v : Value) (L : List Ent) (P : Nat → Prop) (h : ArrV w v L) (hk : Keys w P L) (hl : L.length ≤ 1000000000) (f : FuncId) (hf : Enters f) (G : Nat) (p : Ent → Bool)
    (hp : ∀ W e, Later w W → e ∈ L → e.ok W → Calls Try.prog f #[.agg #[.bool e.s, .slice e.A e.n e.c, .bool false, .slice e.A' e.n' e.c', .int .i64 e.id, .int .i64 (e.at_ : Int)], .pointer (some ⟨G, 0, none⟩)] W (RetV W (.bool (p e)))) :
    Calls Try.prog 48 #[v, .func (.func f) #[] #[.pointer (some ⟨G, 0, none⟩)]] w (RetZ w (FirstE p L)) := by
  have H := hide h; have HP := hide hp; have HK := hide hk
  have hen := hf.out
  obtain ⟨A0, nt, ct, rfl, hnt⟩ := h.form
  have HNT := hide hnt
  have hn9 : nt ≤ 1000000000 := by omega
  clear h hp hnt hl hk
  go_enter Try.func48, Try.ntmps48
  go_wp2_with fail
  go_loopw [8] (fun i wr => ∃ j : Nat, j ≤ nt ∧ i = .int .i64 (j : Int) ∧ Hid (∀ i r, i < j → L[i]? = some r → p r = false) ∧ Later w wr) (fun i _ => (nt - intOf i).toNat)
  case atStart => exact ⟨0, by omega, rfl, hide fun i r hi => by omega, Later.refl w⟩
  case round =>
    obtain ⟨j, hj, rfl, hpre, hL⟩ := hrel
    by_cases hjn : j < nt
    · have hjl : j < L.length := by have := HNT.out; omega
      obtain ⟨g, cap, n', hv, hn', hcm, ha⟩ := (H.out.later hL).some_ (by omega)
      injection hv with v1 v2 v3
      subst v1 v2 v3
      obtain ⟨e, he⟩ : ∃ e, e = fn L j := ⟨_, rfl⟩
      have hi : L[j]? = some e := by rw [he]; exact fn_at hjl
      have d0 : wr.cell? ⟨g, j * 6, none⟩ = some (.bool e.s) := ha.cell hi (r := 0) rfl
      have d1 : wr.cell? ⟨g, j * 6 + 1, none⟩ = some (.slice e.A e.n e.c) := ha.cell hi (r := 1) rfl
      have d2 : wr.cell? ⟨g, j * 6 + 2, none⟩ = some (.bool false) := ha.cell hi (r := 2) rfl
      have d3 : wr.cell? ⟨g, j * 6 + 3, none⟩ = some (.slice e.A' e.n' e.c') := ha.cell hi (r := 3) rfl
      have d4 : wr.cell? ⟨g, j * 6 + 4, none⟩ = some (.int .i64 e.id) := ha.cell hi (r := 4) rfl
      have d5 : wr.cell? ⟨g, j * 6 + 5, none⟩ = some (.int .i64 (e.at_ : Int)) := ha.cell hi (r := 5) rfl
      have HROW := hide hi
      have HR : Hid (e.ok wr) := hide ((HK.out.later hL).ok.now e (List.mem_of_getElem? hi))
      obtain ⟨u, hu⟩ : ∃ u, p e = u := ⟨_, rfl⟩
      have HU := hide hu
      have hj0 : (0 : Int) ≤ (j : Int) := by omega
      have hj1 : (j : Int) < nt := by omega
      clear hi hu ha he hn' hcm
      go_wp2_with fail
      refine (HP.out _ e hL (List.mem_of_getElem? HROW.out) HR.out).mono ?_
      rintro e' w8 ⟨rfl, b8⟩
      rw [HU.out]
      have hL8 := hL.trans b8
      cases u
      case false =>
        have HN : Hid (∀ i r, i < j + 1 → L[i]? = some r → p r = false) := hide fun i r hi hr => by
          by_cases hij : i < j
          · exact hpre.out i r hij hr
          · obtain rfl : i = j := by omega
            rw [HROW.out] at hr; injection hr with hr; rw [← hr, HU.out]
        go_wp2_with fail
        exact ⟨⟨j+1, by omega, by go_num, HN, hL8⟩, by simp [intOf]; omega⟩
      case true =>
        have HF : Hid (FirstE p L j) := hide (.inr ⟨j, e, rfl, HROW.out, HU.out, hpre.out⟩)
        go_wp2_with fail
        go_ret
        exact ⟨_, rfl, HF.out, hL8⟩
    · obtain rfl : j = nt := by omega
      have HF : Hid (FirstE p L (-1)) := hide (.inl ⟨rfl, fun row hr => by
        obtain ⟨i, hi⟩ := List.getElem?_of_mem hr
        exact hpre.out i row (by rw [HNT.out]; exact (List.getElem?_eq_some_iff.1 hi).1) hi⟩)
      go_wp2_with fail
      go_ret
      exact ⟨_, rfl, HF.out, hL⟩
end Go.Proofs.Ytbhohnhkephefaa


/- Queues: DeleteFunc. -/
set_option linter.unusedVariables false
set_option linter.unusedSimpArgs false
set_option maxRecDepth 100000
namespace Go.Proofs.Ytbhohnhkephefaa
open Go.RowKit Go.Shelf
attribute [local go_sem ↓] Go.wp_at_zero Go.wp_at_succ

theorem filter_snoc (p : Ent → Bool) (L : List Ent) (j : Nat) (e : Ent) (h : L[j]? = some e) : (L.take (j + 1)).filter p = (L.take j).filter p ++ if p e then [e] else [] := by
  rw [List.take_add_one, h, List.filter_append]
  by_cases hp : p e <;> simp [hp]
/-- what is left: in the same block -/
def Left (w : World) (v : Value) (L' : List Ent) : Ending → World → Prop := fun e' w' => ∃ v', e' = .returned v' ∧ ArrV w' v' L' ∧ v'.ownBlock = v.ownBlock ∧ Tch (fun b => some b = v.ownBlock) w w'
set_option maxHeartbeats 8000000 in
theorem delf_calls (w : World) (v : Value) (L : List Ent) (P : Nat → Prop) (h : ArrV w v L) (hk : Keys w P L) (hP : ∀ b, P b → some b ≠ v.ownBlock) (hl : L.length ≤ 1000000) (f : FuncId) (hf : Enters f) (G : Nat) (p : Ent → Bool)
    (hp : ∀ W e, Tch (fun b => some b = v.ownBlock) w W → e ∈ L → e.ok W → Calls Try.prog f #[.agg #[.bool e.s, .slice e.A e.n e.c, .bool false, .slice e.A' e.n' e.c', .int .i64 e.id, .int .i64 (e.at_ : Int)], .pointer (some ⟨G, 0, none⟩)] W (RetV W (.bool (p e)))) :
    Calls Try.prog 30 #[v, .func (.func f) #[] #[.pointer (some ⟨G, 0, none⟩)]] w (Left w v (L.filter (fun e => !p e))) := by
  have H := hide h; have HP := hide hp; have HK := hide hk
  have hen := hf.out
  obtain ⟨A0, n, ct, rfl, hnt⟩ := h.form
  have HNT := hide hnt
  have hn9 : n ≤ 1000000 := by omega
  clear h hp hnt hl hk
  go_enter Try.func30, Try.ntmps30
  go_wp2_with fail
  refine (idxe_calls w _ L P H.out HK.out (by rw [← HNT.out]; omega) f hf G p (fun W e hW he ho => HP.out W e hW.tch he ho)).mono ?_
  rintro e' w1 ⟨z, rfl, hz, b1⟩
  have HB1 := hide b1
  clear b1
  rcases hz with ⟨rfl, hz⟩ | ⟨i0, e0, rfl, hi0, hp0, hz⟩
  · have HZ := hide hz
    clear hz
    go_wp2_with fail
    go_ret
    refine ⟨_, rfl, ?_, rfl, HB1.out.tch⟩
    have : L.filter (fun e => !p e) = L := List.filter_eq_self.2 (fun e he => by rw [HZ.out e he]; rfl)
    rw [this]; exact H.out.later HB1.out
  · have hil := (List.getElem?_eq_some_iff.1 hi0).1
    obtain ⟨g, cap, n', hv, hn', hcm, ha⟩ := (H.out.later HB1.out).some_ (by omega)
    injection hv with v1 v2 v3
    subst v1 v2 v3
    have hnc : n ≤ ct := by have := ha.le; omega
    have hin : i0 < n := by omega
    have HF0 : Hid (L.take i0 = (L.take (i0 + 1)).filter (fun e => !p e)) := hide (by
      rw [filter_snoc _ L i0 e0 hi0, hp0]
      simp only [Bool.not_true, Bool.false_eq_true, if_false, List.append_nil]
      refine (List.filter_eq_self.2 fun e he => ?_).symm
      obtain ⟨k, hk⟩ := List.getElem?_of_mem he
      rw [List.getElem?_take] at hk
      split at hk
      · rename_i hki; rw [hz k e hki hk]; rfl
      · cases hk)
    have HA := hide ha
    have hem : ((i0 : Int) == -1) = false := by simp
    clear hz hi0 hp0 hil ha hn'
    go_wp2_with fail
    go_loopw [5, 6] (fun iv jv wr => ∃ (i j : Nat) (La : List Ent), iv = .int .i64 (i : Int) ∧ jv = .int .i64 (j : Int) ∧ i < j ∧ j ≤ n ∧ Hid (Arr wr g ct La) ∧ Hid (La.length = n) ∧ Hid (La.take i = (L.take j).filter (fun e => !p e)) ∧ Hid (∀ k, j ≤ k → La[k]? = L[k]?) ∧ Hid (∀ x ∈ La, x ∈ L) ∧ Hid (Tch (fun b => b = g) w wr)) (fun _ jv _ => (n - intOf jv).toNat)
    case atStart => exact ⟨i0, i0 + 1, L, rfl, by go_num, by omega, by omega, HA, hide HNT.out.symm, HF0, hide (fun _ _ => rfl), hide (fun _ h => h), hide HB1.out.tch⟩
    case round =>
      obtain ⟨i, j, La, rfl, rfl, hij, hjn, HA', HN', HF', HS', HM', HT'⟩ := hrel
      by_cases hjl : j < n
      · have hj0 : (0 : Int) ≤ (j : Int) := by omega
        have hj1 : (j : Int) < (n : Int) := by omega
        have hi0' : (0 : Int) ≤ (i : Int) := by omega
        have hi1' : (i : Int) < (n : Int) := by omega
        obtain ⟨e, he⟩ : ∃ e, e = fn La j := ⟨_, rfl⟩
        obtain ⟨x, hx⟩ : ∃ x, x = fn La i := ⟨_, rfl⟩
        have hje : La[j]? = some e := by rw [he]; exact fn_at (by rw [HN'.out]; exact hjl)
        have hix : La[i]? = some x := by rw [hx]; exact fn_at (by rw [HN'.out]; omega)
        have HJE := hide hje; have HIX := hide hix
        have HLE : Hid (L[j]? = some e) := hide (by rw [← HS'.out j (Nat.le_refl _)]; exact hje)
        have d0 : wr.cell? ⟨g, j * 6, none⟩ = some (.bool e.s) := HA'.out.cell hje (r := 0) rfl
        have d1 : wr.cell? ⟨g, j * 6 + 1, none⟩ = some (.slice e.A e.n e.c) := HA'.out.cell hje (r := 1) rfl
        have d2 : wr.cell? ⟨g, j * 6 + 2, none⟩ = some (.bool false) := HA'.out.cell hje (r := 2) rfl
        have d3 : wr.cell? ⟨g, j * 6 + 3, none⟩ = some (.slice e.A' e.n' e.c') := HA'.out.cell hje (r := 3) rfl
        have d4 : wr.cell? ⟨g, j * 6 + 4, none⟩ = some (.int .i64 e.id) := HA'.out.cell hje (r := 4) rfl
        have d5 : wr.cell? ⟨g, j * 6 + 5, none⟩ = some (.int .i64 (e.at_ : Int)) := HA'.out.cell hje (r := 5) rfl
        obtain ⟨u, hu⟩ : ∃ u, p e = u := ⟨_, rfl⟩
        have HU := hide hu
        clear he hx hje hix hu
        go_wp2_with fail
        obtain ⟨w7, hw7⟩ : ∃ w7, w7 = wr.alloc (Obj.cells #[Value.bool e.s, Value.slice e.A e.n e.c, Value.bool false, Value.slice e.A' e.n' e.c', Value.int .i64 e.id, Value.int .i64 (e.at_ : Int)] 64) := ⟨_, rfl⟩
        rw [← hw7]
        have hb7 : Later wr w7 := by rw [hw7]; exact (Later.refl _).alloc _
        have hr7 : Row w7 wr.heap.size 64 [.bool e.s, .slice e.A e.n e.c, .bool false, .slice e.A' e.n' e.c', .int .i64 e.id, .int .i64 (e.at_ : Int)] := by rw [hw7]; exact Row.new wr _ _
        have HB7 := hide hb7; have HR7 := hide hr7
        have HT7 : Hid (Tch (fun b => some b = (Value.slice (some ⟨g, 0, none⟩) n ct).ownBlock) w w7) := hide ((HT'.out.trans hb7.tch).mono (fun x _ h => by rw [h]; rfl))
        have HE7 : Hid (e.ok w7) := hide (((HK.out.tch HT'.out (fun x hx e => hP x hx (by rw [e]; rfl))).later hb7).ok.now e (List.mem_of_getElem? HLE.out))
        clear hw7 hb7 hr7
        refine (HP.out w7 e HT7.out (List.mem_of_getElem? HLE.out) HE7.out).mono ?_
        rintro e' w8 ⟨rfl, b8⟩
        rw [HU.out]
        have HB8 := hide b8
        obtain ⟨f0, f1, f2, f3, f4, f5⟩ := row_cells6 (HR7.out.later b8)
        have HA8 := hide (HA'.out.later (HB7.out.trans b8))
        have HT8 := hide (HT'.out.trans (HB7.out.trans b8).tch)
        have HG8 : Hid (g < wr.heap.size) := hide HA'.out.lt
        clear b8 d0 d1 d2 d3 d4 d5
        cases u with
        | true =>
          have HF8 : Hid (La.take i = (L.take (j + 1)).filter (fun e => !p e)) := hide (by rw [filter_snoc _ L j e HLE.out, HU.out, HF'.out]; simp)
          go_wp2_with fail
          go_roundw
          case rel => exact ⟨i, j + 1, La, rfl, by go_num, by omega, by omega, HA8, HN', HF8, hide (fun k hk => HS'.out k (by omega)), HM', HT8⟩
          case measure => simp [intOf]; omega
        | false =>
          obtain ⟨z0, y0, z1, y1, z2, y2, z3, y3, z4, y4, z5, y5⟩ := HA8.out.room HIX.out e (a := i * 6) rfl
          go_wp2_with fail
          obtain ⟨w9, hw9⟩ : ∃ w9, w9 = ((((((w8.setCell ⟨g, i * 6, none⟩ (.bool e.s)).setCell ⟨g, i * 6 + 1, none⟩ (.slice e.A e.n e.c)).setCell ⟨g, i * 6 + 2, none⟩ (.bool false)).setCell ⟨g, i * 6 + 3, none⟩ (.slice e.A' e.n' e.c')).setCell ⟨g, i * 6 + 4, none⟩ (.int .i64 e.id)).setCell ⟨g, i * 6 + 5, none⟩ (.int .i64 (e.at_ : Int))) := ⟨_, rfl⟩
          rw [← hw9]
          have hilt : i < La.length := by rw [HN'.out]; omega
          have HA9 : Hid (Arr w9 g ct (La.set i e)) := hide (HA8.out.put hilt rfl hw9)
          have HT9 : Hid (Tch (fun b => b = g) w w9) := hide (HT8.out.trans (by rw [hw9]; exact (Arr.only (e := e)).tch rfl))
          have HN9 : Hid ((La.set i e).length = n) := hide (by rw [List.length_set]; exact HN'.out)
          have HF9 : Hid ((La.set i e).take (i + 1) = (L.take (j + 1)).filter (fun e => !p e)) := hide (by
            rw [filter_snoc _ L j e HLE.out, HU.out, ← HF'.out]
            simp only [Bool.not_false, if_true]
            rw [List.take_add_one, List.getElem?_set, if_pos rfl, if_pos hilt, List.take_set_of_le (Nat.le_refl _)]; rfl)
          have HS9 : Hid (∀ k, j + 1 ≤ k → (La.set i e)[k]? = L[k]?) := hide (fun k hk => by rw [List.getElem?_set_ne (by omega)]; exact HS'.out k (by omega))
          have HM9 : Hid (∀ x ∈ La.set i e, x ∈ L) := hide (fun x hx => by
            rcases List.mem_or_eq_of_mem_set hx with h | h
            · exact HM'.out x h
            · rw [h]; exact List.mem_of_getElem? HLE.out)
          clear hw9
          exact ⟨⟨i + 1, j + 1, La.set i e, by go_num, by go_num, by omega, by omega, HA9, HN9, HF9, HS9, HM9, HT9⟩, by simp [intOf]; omega⟩
      · obtain rfl : j = n := by omega
        have c0 : (0 : Int) ≤ (i : Int) := by omega
        have c1 : (i : Int) ≤ (j : Int) := by omega
        have c2 : (i : Int) ≤ (ct : Int) := by omega
        have c3 : i ≠ ct := by omega
        have c4 : i ≤ j := by omega
        have c5 : i ≤ ct := by omega
        have c6 : (j : Int) ≤ (ct : Int) := by omega
        have hclr := fun ty => run_clear_ent wr ty g ct (j - i) i (ct - i) La HA'.out (by omega) (by rw [HN'.out]; omega)
        go_wp2_with fail
        go_ret
        have hcl := HA'.out.cleared (i := i) (by rw [HN'.out]; omega) (Builtin.zeroCells #[Value.bool false, Value.slice none 0 0, Value.bool false, Value.slice none 0 0, Value.int IntKind.i64 0, Value.int IntKind.i64 0] (j - i)).toList
        have hfl : La.take i = L.filter (fun e => !p e) := by rw [HF'.out, List.take_of_length_le (by rw [← HNT.out]; omega)]
        have hfn : (L.filter (fun e => !p e)).length = i := by rw [← hfl, List.length_take, HN'.out, Nat.min_eq_left (by omega)]
        refine ⟨_, rfl, .inr ⟨g, ct, ?_, hcm, ?_⟩, rfl, ?_⟩
        · rw [hfn]; rfl
        · rw [← hfl]; exact hcl.1
        · exact (HT'.out.trans (hcl.2.tch rfl)).mono (fun x _ e => by rw [e]; rfl)
end Go.Proofs.Ytbhohnhkephefaa
