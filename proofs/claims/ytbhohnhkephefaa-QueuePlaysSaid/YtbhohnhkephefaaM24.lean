import Derived.Test.YtbhohnhkephefaaM23
import Derived.Test.YtbhohnhkephefaaM20

/- Queues: what a queue does. -/
set_option linter.unusedVariables false
set_option linter.unusedSimpArgs false
set_option maxRecDepth 100000
namespace Go.Proofs.Ytbhohnhkephefaa
open Go.RowKit Go.Shelf
attribute [local go_sem ↓] Go.wp_at_zero Go.wp_at_succ

/-- the queue: its entries in the order in which they were put -/
def Qs (w : World) (S M : Nat → Prop) (gq : Nat) (l : List Ent) (put : Nat) : Prop :=
  ∃ v L, Que w S gq v L put ∧ (∀ b, M b ↔ Mu gq v b) ∧ L.Perm l ∧ Hp.Hf Ent.first (fn L) L.length 0 ∧ l.Pairwise (fun a b => a.at_ < b.at_) ∧ (∀ e ∈ l, e.at_ < put) ∧ l.length ≤ put ∧ put ≤ 1000
/-- what it is made of (S), and what of it turns (M), is what it was, or new; nothing else has turned -/
def QStep (w : World) (S M : Nat → Prop) (w' : World) (S' M' : Nat → Prop) : Prop := (∀ b, S' b → S b ∨ w.heap.size ≤ b) ∧ (∀ b, M' b → M b ∨ w.heap.size ≤ b) ∧ Tch M w w'
theorem Qs.later {a b : World} {S M : Nat → Prop} {gq put : Nat} {l : List Ent} (h : Qs a S M gq l put) (k : Later a b) : Qs b S M gq l put := by
  obtain ⟨v, L, h1, h2⟩ := h; exact ⟨v, L, h1.later k, h2⟩
theorem Qs.tch {a b : World} {S T M : Nat → Prop} {gq put : Nat} {l : List Ent} (h : Qs a S M gq l put) (k : Tch T a b) (hS : ∀ x, x < a.heap.size → S x → ¬ T x) : Qs b (fun x => S x ∧ x < a.heap.size) M gq l put := by
  obtain ⟨v, L, h1, h2⟩ := h; exact ⟨v, L, h1.tch k hS, h2⟩
/-- the entry that is first -/
def FirstAt (l : List Ent) (i : Nat) (e : Ent) : Prop := l[i]? = some e ∧ ∀ j o, l[j]? = some o → e.key ≤ o.key ∧ (j < i → e.key < o.key)
theorem perm_erase {α : Type} {l : List α} {i : Nat} {e : α} (h : l[i]? = some e) : (e :: l.eraseIdx i).Perm l := by
  obtain ⟨hil, he⟩ := List.getElem?_eq_some_iff.1 h
  have h1 : l = l.take i ++ (e :: l.drop (i + 1)) := by rw [← he, ← List.drop_eq_getElem_cons hil, List.take_append_drop]
  rw [List.eraseIdx_eq_take_drop_succ]
  conv => rhs; rw [h1]
  exact List.perm_middle.symm
theorem firstAt {L l : List Ent} {e : Ent} (hp : L.Perm l) (hH : Hp.Hf Ent.first (fn L) L.length 0) (hw : l.Pairwise (fun a b => a.at_ < b.at_)) (he : e = fn L 0) (hl : 0 < L.length) : ∃ i, FirstAt l i e ∧ ∀ L', (e :: L').Perm L → L'.Perm (l.eraseIdx i) := by
  have hm : e ∈ L := by rw [he]; exact fn_mem hl
  obtain ⟨i, hi⟩ := List.getElem?_of_mem (hp.mem_iff.1 hm)
  have hil := (List.getElem?_eq_some_iff.1 hi).1
  refine ⟨i, ⟨hi, fun j o hj => ?_⟩, fun L' h => ?_⟩
  · have ho : o ∈ L := hp.mem_iff.2 (List.mem_of_getElem? hj)
    obtain ⟨k, hk⟩ := List.getElem?_of_mem ho
    have hkl := (List.getElem?_eq_some_iff.1 hk).1
    have h1 := Hp.top ent_ord hH k hkl
    rw [fn_of hk, ← he] at h1
    unfold Ent.first at h1
    have h2 : e.key ≤ o.key := by grind
    refine ⟨h2, fun hji => ?_⟩
    have hjl := (List.getElem?_eq_some_iff.1 hj).1
    have h3 := List.pairwise_iff_getElem.1 hw j i hjl hil hji
    have e1 : l[j] = o := (List.getElem?_eq_some_iff.1 hj).2
    have e2 : l[i] = e := (List.getElem?_eq_some_iff.1 hi).2
    rw [e1, e2] at h3
    grind
  · have h1 := perm_erase hi
    exact ((h.trans hp).trans h1.symm).cons_inv
theorem Ent.ok.on {w : World} {B : Nat} {e : Ent} (h : OwnR w B (.agg #[.bool e.s, .slice e.A e.n e.c, .bool false, .slice e.A' e.n' e.c']) e.key) : On w (fun b => B ≤ b) (fun W => e.ok W) := On.ownR h

set_option maxHeartbeats 1000000 in
theorem qnew_calls (w : World) : Calls Try.prog 9 #[] w (fun e' w' => e' = .returned (.pointer (some ⟨w.heap.size, 0, none⟩)) ∧ Later w w' ∧ Qs w' (fun b => w.heap.size ≤ b) (fun b => b = w.heap.size) w.heap.size [] 0) := by
  go_enter Try.func9, Try.ntmps9
  go_wp2_with fail
  go_ret
  refine ⟨rfl, (Later.refl w).alloc _, .slice none 0 0, [], ⟨Nat.le_refl _, Row.new w _ _, .inl ⟨rfl, rfl⟩, (by intro k hk; cases hk), Keys.nil _ _⟩, fun b => ⟨fun h => .inl h, fun h => h.elim (fun h => h) (fun h => by cases h)⟩, .refl _, Hp.Hf.tail (by simp), List.Pairwise.nil, by simp, by simp, by omega⟩

set_option maxHeartbeats 1000000 in
theorem qlen_calls (w : World) (S M : Nat → Prop) (gq put : Nat) (l : List Ent) (hQ : Qs w S M gq l put) : Calls Try.prog 20 #[.pointer (some ⟨gq, 0, none⟩)] w (RetV w (.int .i64 (l.length : Int))) := by
  obtain ⟨v, L, h1, -, h2, -⟩ := hQ
  obtain ⟨A, n, c, rfl, hn⟩ := h1.arr.form
  have hq0 := h1.row.cell (i := 0) rfl
  have hnl : n = l.length := by rw [hn]; exact h2.length_eq
  rw [← hnl]
  clear h1 h2 hn hnl
  go_enter Try.func20, Try.ntmps20
  go_wp2_with fail
  go_ret
  exact ⟨rfl, Later.refl w⟩
theorem Que.bump {w : World} {S : Nat → Prop} {gq put : Nat} {v : Value} {L : List Ent} (h : Que w S gq v L put) : Que (w.setCell ⟨gq, 1, none⟩ (.int .i64 ((put : Int) + 1))) S gq v L (put + 1) := by
  have hT := (Only.one gq w 1 (.int .i64 ((put : Int) + 1))).tch (S := fun b => b = gq) rfl
  refine ⟨h.sq, ?_, h.arr.tch hT (fun g hg e => (h.own g hg).2 e), h.own, h.keys.tch hT (fun x hx e => hx.2.1 e)⟩
  have := h.row.set_ 1 (.int .i64 ((put : Int) + 1))
  simpa using this
/-- an entry with a key of its own may be pushed -/
theorem Que.pushw {W w5 : World} {S : Nat → Prop} {gq put : Nat} {v : Value} {L : List Ent} {s : Bool} {A A' : Option Addr} {n c n' c' : Nat} {id : Int} {q : Rat} {ent : Ent} (hQ : Que W S gq v L put) (hent : ent = ⟨s, A, n, c, A', n', c', id, put, q⟩)
    {B : Nat} (ho : OwnR w5 B (.agg #[.bool s, .slice A n c, .bool false, .slice A' n' c']) q) (hL : Later W w5) (hB : W.heap.size ≤ B) :
    Que w5 (fun b => S b ∨ B ≤ b) gq v L put ∧ On w5 (fun b => (S b ∨ B ≤ b) ∧ b ≠ gq ∧ some b ≠ v.ownBlock) (fun W => ent.ok W) := by
  refine ⟨(hQ.later hL).mono (fun _ h => .inl h), ?_⟩
  subst hent
  refine (On.ownR ho).mono fun b hb _ => ⟨.inr hb, ?_, fun e => ?_⟩
  · have := hQ.row.lt; omega
  · have := hQ.arr.lt b e.symm; omega

def PutPost (w : World) (S M : Nat → Prop) (gq : Nat) (l : List Ent) (put : Nat) (q : Rat) (id : Int) (e' : Ending) (w' : World) : Prop := e' = .returned (.tuple #[]) ∧ ∃ S' M' ent, QStep w S M w' S' M' ∧ ent.key = q ∧ ent.id = id ∧ Qs w' S' M' gq (l ++ [ent]) (put + 1)
set_option maxHeartbeats 8000000 in
theorem qput_calls (w : World) (S M : Nat → Prop) (gq put : Nat) (l : List Ent) (vk : Value) (q : Rat) (id : Int) (hQ : Qs w S M gq l put) (hput : put < 1000) (hk : RawR w vk q 50) :
    Calls Try.prog 11 #[.pointer (some ⟨gq, 0, none⟩), vk, .int .i64 id] w (PutPost w S M gq l put q id) := by
  obtain ⟨v, L, h1, hM, h2, h3, h4, h5, h6, h7⟩ := hQ
  have HMU := hide hM
  obtain ⟨sk, Ak, nk, ck, sk', Bk, mk, dk, rfl⟩ := hk.open_
  have hLl : L.length = l.length := h2.length_eq
  have hLl2 : L.length ≤ 1000 := by omega
  have HQS : Hid (Sized q 100) := hide (hk.sized.mono (by omega))
  obtain ⟨W0, hW0⟩ : ∃ W0, W0 = w.alloc (Obj.cells #[Value.bool sk, Value.slice Ak nk ck, Value.bool sk', Value.slice Bk mk dk] 35) := ⟨_, rfl⟩
  obtain ⟨hb0, r1, hsz⟩ := boxes1 w [.bool sk, .slice Ak nk ck, .bool sk', .slice Bk mk dk] 35 hW0
  obtain ⟨d0, d1, d2, d3, -⟩ := row_cells4 r1
  have HQ : Hid (Que W0 (fun b => S b ∧ b < w.heap.size) gq v L put) := hide (h1.tch (T := fun _ => False) hb0.tch (fun _ _ _ h => h))
  have HROW := hide HQ.out.row
  have HQS0 := hide h1.sq
  have p0 := HQ.out.row.cell (i := 1) rfl
  have HRAW := hide (hk.later hb0)
  have HB0 := hide hb0; have HW0 := hide hW0; have HH := hide h3; have HP2 := hide h2; have HP4 := hide h4; have HP5 := hide h5; have HP6 := hide h6
  have hmx : Try.prog.follows .mixedOrders = true := by kernel_rfl
  have hp1000 : put ≤ 1000 := h7
  clear h1 hM h2 h3 h4 h5 h6 h7 hk hW0 r1 hb0 hLl
  go_enter Try.func11, Try.ntmps11
  go_upto_region 1 with fail
  rw [← HW0.out]
  refine wp_region_N (fun _ => True) [] hmx trivial (fun hHeld => ?_)
  refine wpAnyN_take (i := 0) (oi := _) (v := ?_) rfl (by kernel_rfl) (by kernel_rfl) (by kernel_rfl) (by kernel_rfl) (fun _ _ _ h => h) (Or.inl ⟨by rfl, ?_⟩) (by assumption) ?_
  rotate_left
  · intro w hSw; (try dsimp only at hSw); go_simp
    first | done | with_reducible rfl
  try simp only [Act.put, List.setIfInBounds_toArray, List.set_cons_zero, List.set_cons_succ]
  refine wpAnyN_take (i := 1) (oi := _) (v := ?_) rfl (by kernel_rfl) (by kernel_rfl) (by kernel_rfl) (by kernel_rfl) (fun _ _ _ h => h) (Or.inl ⟨by rfl, ?_⟩) (by assumption) ?_
  rotate_left
  · intro w hSw; (try dsimp only at hSw); go_simp
    first | done | with_reducible rfl
  try simp only [Act.put, List.setIfInBounds_toArray, List.set_cons_zero, List.set_cons_succ]
  refine wpAnyN_take (i := 2) (oi := _) (v := ?_) rfl (by kernel_rfl) (by kernel_rfl) (by kernel_rfl) (by kernel_rfl) (fun _ _ _ h => h) (Or.inl ⟨by rfl, ?_⟩) (by assumption) ?_
  rotate_left
  · intro w hSw; (try dsimp only at hSw); go_simp
    first | done | with_reducible rfl
  try simp only [Act.put, List.setIfInBounds_toArray, List.set_cons_zero, List.set_cons_succ]
  refine wpAnyN_take (i := 3) (oi := _) (v := ?_) rfl (by kernel_rfl) (by kernel_rfl) (by kernel_rfl) (by kernel_rfl) (fun _ _ _ h => h) (Or.inl ⟨by rfl, ?_⟩) (by assumption) ?_
  rotate_left
  · intro w hSw; (try dsimp only at hSw); go_simp
    first | done | with_reducible rfl
  try simp only [Act.put, List.setIfInBounds_toArray, List.set_cons_zero, List.set_cons_succ]
  refine wpAnyN_take (i := 6) (oi := _) (v := ?_) rfl (by kernel_rfl) (by kernel_rfl) (by kernel_rfl) (by kernel_rfl) (fun _ _ _ h => h) (Or.inl ⟨by rfl, ?_⟩) (by assumption) ?_
  rotate_left
  · intro w hSw; (try dsimp only at hSw); go_simp
    first | done | with_reducible rfl
  try simp only [Act.put, List.setIfInBounds_toArray, List.set_cons_zero, List.set_cons_succ]
  refine wpAnyN_take (i := 7) (oi := _) (v := ?_) rfl (by kernel_rfl) (by kernel_rfl) (by kernel_rfl) (by kernel_rfl) (fun _ _ _ h => h) (Or.inl ⟨by rfl, ?_⟩) (by assumption) ?_
  rotate_left
  · intro w hSw; (try dsimp only at hSw); go_simp
    first | done | with_reducible rfl
  try simp only [Act.put, List.setIfInBounds_toArray, List.set_cons_zero, List.set_cons_succ]
  refine wpAnyN_take (i := 8) (oi := _) (v := ?_) rfl (by kernel_rfl) (by kernel_rfl) (by kernel_rfl) (by kernel_rfl) (fun _ _ _ h => h) (Or.inl ⟨by rfl, ?_⟩) (by assumption) ?_
  rotate_left
  · intro w hSw; (try dsimp only at hSw); go_simp
    first | done | with_reducible rfl
  try simp only [Act.put, List.setIfInBounds_toArray, List.set_cons_zero, List.set_cons_succ]
  refine wpAnyN_take (i := 9) (oi := _) (v := ?_) rfl (by kernel_rfl) (by kernel_rfl) (by kernel_rfl) (by kernel_rfl) (fun _ _ _ h => h) (Or.inl ⟨by rfl, ?_⟩) (by assumption) ?_
  rotate_left
  · intro w hSw; (try dsimp only at hSw); go_simp
    first | done | with_reducible rfl
  try simp only [Act.put, List.setIfInBounds_toArray, List.set_cons_zero, List.set_cons_succ]
  refine wpAnyN_ready (rs := [4, 10]) (by kernel_rfl) (by simp) ?_
  refine AllReadyN.held rfl (by rfl) (fun K hK => ?_) ?_
  · go_simp
    refine hK.out _ _ ?_ (fun hHeld => ?_)
    · trivial
    clear hK K
    try simp only [Act.put, List.setIfInBounds_toArray, List.set_cons_zero, List.set_cons_succ]
    refine wpAnyN_ready (rs := [5, 10]) (by kernel_rfl) (by simp) ?_
    refine AllReadyN.held rfl (by rfl) (fun K hK => ?_) ?_
    · go_simp
      ((with_reducible refine (rplain_calls _ _ q 50 (HRAW.out.later (Later.refl W0).drew) (by omega)).mono ?_); rintro e' w5 ⟨v5, rfl, o5, b5⟩)
      obtain ⟨s5, A5, n5, c5, A5', n5', c5', rfl, -⟩ := o5.open_
      have hL5 : Later W0 w5 := Later.trans (Later.refl W0).drew b5
      have HO5 := hide o5; have HL5 := hide hL5
      have p5 := (HROW.out.later hL5).cell (i := 1) rfl
      clear o5 b5 hL5
      refine hK.out _ _ ?_ (fun hHeld => ?_)
      · trivial
      clear hK K
      try simp only [Act.put, List.setIfInBounds_toArray, List.set_cons_zero, List.set_cons_succ]
      refine wpAnyN_ready (rs := [10]) (by kernel_rfl) (by simp) ?_
      refine AllReadyN.held rfl (by rfl) (fun K hK => ?_) AllReadyN.nil
      go_simp
      refine hK.out _ _ ?_ (fun hHeld => ?_)
      · trivial
      clear hK K
      try simp only [Act.put, List.setIfInBounds_toArray, List.set_cons_zero, List.set_cons_succ]
      refine wpAnyN_take (i := 11) (oi := _) (v := ?_) rfl (by kernel_rfl) (by kernel_rfl) (by kernel_rfl) (by kernel_rfl) (fun _ _ _ h => h) (Or.inl ⟨by rfl, ?_⟩) (by assumption) ?_
      rotate_left
      · intro w hSw; (try dsimp only at hSw); go_simp
        first | done | with_reducible rfl
      try simp only [Act.put, List.setIfInBounds_toArray, List.set_cons_zero, List.set_cons_succ]
      refine wpAnyN_take (i := 12) (oi := _) (v := ?_) rfl (by kernel_rfl) (by kernel_rfl) (by kernel_rfl) (by kernel_rfl) (fun _ _ _ h => h) (Or.inl ⟨by rfl, ?_⟩) (by assumption) ?_
      rotate_left
      · intro w hSw; (try dsimp only at hSw); go_simp
        first | done | with_reducible rfl
      try simp only [Act.put, List.setIfInBounds_toArray, List.set_cons_zero, List.set_cons_succ]
      refine wpAnyN_ready (rs := [13]) (by kernel_rfl) (by simp) ?_
      refine AllReadyN.held rfl (by rfl) (fun K hK => ?_) AllReadyN.nil
      go_simp
      obtain ⟨ent, hent⟩ : ∃ ent : Ent, ent = ⟨s5, A5, n5, c5, A5', n5', c5', id, put, q⟩ := ⟨_, rfl⟩
      have hpw := HQ.out.pushw hent HO5.out HL5.out (Nat.le_refl _)
      have hpc := hpush_calls _ _ gq put v L ent hpw.1 hpw.2 (by rw [hent]; exact HQS.out) (by omega) HH.out
      have HENT := hide hent
      subst hent
      ((with_reducible refine hpc.mono ?_); rintro e' w6 ⟨rfl, ht6⟩)
      have HT6 := hide ht6
      clear hpw hpc ht6
      refine hK.out _ _ ?_ (fun hHeld => ?_)
      · trivial
      clear hK K
      try simp only [Act.put, List.setIfInBounds_toArray, List.set_cons_zero, List.set_cons_succ]
      refine wpAnyN_done (by kernel_rfl) ?_ _
      obtain ⟨S6, v6, L6, k1, kM, k2, k3, k4, k5⟩ := HT6.out
      have hx1 := k2.row.cell (i := 1) rfl
      have hy1 := k2.row.frozen 1
      have HK2 := hide k2; have HK4 := hide k4; have HK5 := hide k5
      have hS : Tch M w w6 := (HB0.out.trans HL5.out).tch.step k3 (fun b hb => .inl ((HMU.out b).2 hb))
      have hKM : ∀ b, Mu gq v6 b → M b ∨ w.heap.size ≤ b := fun b hb => (kM b hb).imp (fun h => (HMU.out b).2 h) (fun h => Nat.le_trans (HB0.out.trans HL5.out).size h)
      have HKM := hide hKM
      have hK1 : ∀ b, S6 b → S b ∨ w.heap.size ≤ b := fun b hb => by
        rcases k1 b hb with (h | h) | h
        · exact .inl h.1
        · exact .inr (Nat.le_trans HB0.out.size h)
        · exact .inr (Nat.le_trans (HB0.out.trans HL5.out).size h)
      have HS := hide hS; have HK1 := hide hK1
      clear k1 kM k2 k3 k4 k5 hS hK1 hKM HT6
      have t1 : (0 : Int) ≤ (put : Int) := by omega
      have t2 : (put : Int) < 1000000 := by omega
      go_wp2_with fail
      go_end0
      have hb := HK2.out.bump
      refine ⟨rfl, S6, Mu gq v6, ⟨s5, A5, n5, c5, A5', n5', c5', id, put, q⟩, ⟨HK1.out, HKM.out, HS.out.setCell ((HMU.out gq).2 (.inl rfl)) _⟩, rfl, rfl, v6, L6, hb, fun _ => Iff.rfl, HK4.out.trans (List.Perm.append_right _ HP2.out), HK5.out, ?_, ?_, ?_, by omega⟩
      · rw [List.pairwise_append]
        exact ⟨HP4.out, List.pairwise_singleton _ _, fun a ha b hb => by simp at hb; subst hb; exact HP5.out a ha⟩
      · intro x hx
        rcases List.mem_append.1 hx with h | h
        · have := HP5.out x h; omega
        · simp at h; subst h; exact Nat.lt_succ_self _
      · rw [List.length_append]; have := HP6.out; simp; omega
    refine AllReadyN.held rfl (by rfl) (fun K hK => ?_) AllReadyN.nil
    go_simp
    refine hK.out _ _ ?_ (fun hHeld => ?_)
    · trivial
    clear hK K
    try simp only [Act.put, List.setIfInBounds_toArray, List.set_cons_zero, List.set_cons_succ]
    refine wpAnyN_ready (rs := [5]) (by kernel_rfl) (by simp) ?_
    refine AllReadyN.held rfl (by rfl) (fun K hK => ?_) AllReadyN.nil
    go_simp
    ((with_reducible refine (rplain_calls _ _ q 50 (HRAW.out.later (Later.refl W0).drew) (by omega)).mono ?_); rintro e' w5 ⟨v5, rfl, o5, b5⟩)
    obtain ⟨s5, A5, n5, c5, A5', n5', c5', rfl, -⟩ := o5.open_
    have hL5 : Later W0 w5 := Later.trans (Later.refl W0).drew b5
    have HO5 := hide o5; have HL5 := hide hL5
    have p5 := (HROW.out.later hL5).cell (i := 1) rfl
    clear o5 b5 hL5
    refine hK.out _ _ ?_ (fun hHeld => ?_)
    · trivial
    clear hK K
    try simp only [Act.put, List.setIfInBounds_toArray, List.set_cons_zero, List.set_cons_succ]
    refine wpAnyN_take (i := 11) (oi := _) (v := ?_) rfl (by kernel_rfl) (by kernel_rfl) (by kernel_rfl) (by kernel_rfl) (fun _ _ _ h => h) (Or.inl ⟨by rfl, ?_⟩) (by assumption) ?_
    rotate_left
    · intro w hSw; (try dsimp only at hSw); go_simp
      first | done | with_reducible rfl
    try simp only [Act.put, List.setIfInBounds_toArray, List.set_cons_zero, List.set_cons_succ]
    refine wpAnyN_take (i := 12) (oi := _) (v := ?_) rfl (by kernel_rfl) (by kernel_rfl) (by kernel_rfl) (by kernel_rfl) (fun _ _ _ h => h) (Or.inl ⟨by rfl, ?_⟩) (by assumption) ?_
    rotate_left
    · intro w hSw; (try dsimp only at hSw); go_simp
      first | done | with_reducible rfl
    try simp only [Act.put, List.setIfInBounds_toArray, List.set_cons_zero, List.set_cons_succ]
    refine wpAnyN_ready (rs := [13]) (by kernel_rfl) (by simp) ?_
    refine AllReadyN.held rfl (by rfl) (fun K hK => ?_) AllReadyN.nil
    go_simp
    obtain ⟨ent, hent⟩ : ∃ ent : Ent, ent = ⟨s5, A5, n5, c5, A5', n5', c5', id, put, q⟩ := ⟨_, rfl⟩
    have hpw := HQ.out.pushw hent HO5.out HL5.out (Nat.le_refl _)
    have hpc := hpush_calls _ _ gq put v L ent hpw.1 hpw.2 (by rw [hent]; exact HQS.out) (by omega) HH.out
    have HENT := hide hent
    subst hent
    ((with_reducible refine hpc.mono ?_); rintro e' w6 ⟨rfl, ht6⟩)
    have HT6 := hide ht6
    clear hpw hpc ht6
    refine hK.out _ _ ?_ (fun hHeld => ?_)
    · trivial
    clear hK K
    try simp only [Act.put, List.setIfInBounds_toArray, List.set_cons_zero, List.set_cons_succ]
    refine wpAnyN_done (by kernel_rfl) ?_ _
    obtain ⟨S6, v6, L6, k1, kM, k2, k3, k4, k5⟩ := HT6.out
    have hx1 := k2.row.cell (i := 1) rfl
    have hy1 := k2.row.frozen 1
    have HK2 := hide k2; have HK4 := hide k4; have HK5 := hide k5
    have hS : Tch M w w6 := (HB0.out.trans HL5.out).tch.step k3 (fun b hb => .inl ((HMU.out b).2 hb))
    have hKM : ∀ b, Mu gq v6 b → M b ∨ w.heap.size ≤ b := fun b hb => (kM b hb).imp (fun h => (HMU.out b).2 h) (fun h => Nat.le_trans (HB0.out.trans HL5.out).size h)
    have HKM := hide hKM
    have hK1 : ∀ b, S6 b → S b ∨ w.heap.size ≤ b := fun b hb => by
      rcases k1 b hb with (h | h) | h
      · exact .inl h.1
      · exact .inr (Nat.le_trans HB0.out.size h)
      · exact .inr (Nat.le_trans (HB0.out.trans HL5.out).size h)
    have HS := hide hS; have HK1 := hide hK1
    clear k1 kM k2 k3 k4 k5 hS hK1 hKM HT6
    have t1 : (0 : Int) ≤ (put : Int) := by omega
    have t2 : (put : Int) < 1000000 := by omega
    go_wp2_with fail
    go_end0
    have hb := HK2.out.bump
    refine ⟨rfl, S6, Mu gq v6, ⟨s5, A5, n5, c5, A5', n5', c5', id, put, q⟩, ⟨HK1.out, HKM.out, HS.out.setCell ((HMU.out gq).2 (.inl rfl)) _⟩, rfl, rfl, v6, L6, hb, fun _ => Iff.rfl, HK4.out.trans (List.Perm.append_right _ HP2.out), HK5.out, ?_, ?_, ?_, by omega⟩
    · rw [List.pairwise_append]
      exact ⟨HP4.out, List.pairwise_singleton _ _, fun a ha b hb => by simp at hb; subst hb; exact HP5.out a ha⟩
    · intro x hx
      rcases List.mem_append.1 hx with h | h
      · have := HP5.out x h; omega
      · simp at h; subst h; exact Nat.lt_succ_self _
    · rw [List.length_append]; have := HP6.out; simp; omega
  refine AllReadyN.held rfl (by rfl) (fun K hK => ?_) AllReadyN.nil
  go_simp
  refine hK.out _ _ ?_ (fun hHeld => ?_)
  · trivial
  clear hK K
  try simp only [Act.put, List.setIfInBounds_toArray, List.set_cons_zero, List.set_cons_succ]
  refine wpAnyN_ready (rs := [4]) (by kernel_rfl) (by simp) ?_
  refine AllReadyN.held rfl (by rfl) (fun K hK => ?_) AllReadyN.nil
  go_simp
  refine hK.out _ _ ?_ (fun hHeld => ?_)
  · trivial
  clear hK K
  try simp only [Act.put, List.setIfInBounds_toArray, List.set_cons_zero, List.set_cons_succ]
  refine wpAnyN_ready (rs := [5]) (by kernel_rfl) (by simp) ?_
  refine AllReadyN.held rfl (by rfl) (fun K hK => ?_) AllReadyN.nil
  go_simp
  ((with_reducible refine (rplain_calls _ _ q 50 (HRAW.out.later (Later.refl W0).drew) (by omega)).mono ?_); rintro e' w5 ⟨v5, rfl, o5, b5⟩)
  obtain ⟨s5, A5, n5, c5, A5', n5', c5', rfl, -⟩ := o5.open_
  have hL5 : Later W0 w5 := Later.trans (Later.refl W0).drew b5
  have HO5 := hide o5; have HL5 := hide hL5
  have p5 := (HROW.out.later hL5).cell (i := 1) rfl
  clear o5 b5 hL5
  refine hK.out _ _ ?_ (fun hHeld => ?_)
  · trivial
  clear hK K
  try simp only [Act.put, List.setIfInBounds_toArray, List.set_cons_zero, List.set_cons_succ]
  refine wpAnyN_take (i := 11) (oi := _) (v := ?_) rfl (by kernel_rfl) (by kernel_rfl) (by kernel_rfl) (by kernel_rfl) (fun _ _ _ h => h) (Or.inl ⟨by rfl, ?_⟩) (by assumption) ?_
  rotate_left
  · intro w hSw; (try dsimp only at hSw); go_simp
    first | done | with_reducible rfl
  try simp only [Act.put, List.setIfInBounds_toArray, List.set_cons_zero, List.set_cons_succ]
  refine wpAnyN_take (i := 12) (oi := _) (v := ?_) rfl (by kernel_rfl) (by kernel_rfl) (by kernel_rfl) (by kernel_rfl) (fun _ _ _ h => h) (Or.inl ⟨by rfl, ?_⟩) (by assumption) ?_
  rotate_left
  · intro w hSw; (try dsimp only at hSw); go_simp
    first | done | with_reducible rfl
  try simp only [Act.put, List.setIfInBounds_toArray, List.set_cons_zero, List.set_cons_succ]
  refine wpAnyN_ready (rs := [13]) (by kernel_rfl) (by simp) ?_
  refine AllReadyN.held rfl (by rfl) (fun K hK => ?_) AllReadyN.nil
  go_simp
  obtain ⟨ent, hent⟩ : ∃ ent : Ent, ent = ⟨s5, A5, n5, c5, A5', n5', c5', id, put, q⟩ := ⟨_, rfl⟩
  have hpw := HQ.out.pushw hent HO5.out HL5.out (Nat.le_refl _)
  have hpc := hpush_calls _ _ gq put v L ent hpw.1 hpw.2 (by rw [hent]; exact HQS.out) (by omega) HH.out
  have HENT := hide hent
  subst hent
  ((with_reducible refine hpc.mono ?_); rintro e' w6 ⟨rfl, ht6⟩)
  have HT6 := hide ht6
  clear hpw hpc ht6
  refine hK.out _ _ ?_ (fun hHeld => ?_)
  · trivial
  clear hK K
  try simp only [Act.put, List.setIfInBounds_toArray, List.set_cons_zero, List.set_cons_succ]
  refine wpAnyN_done (by kernel_rfl) ?_ _
  obtain ⟨S6, v6, L6, k1, kM, k2, k3, k4, k5⟩ := HT6.out
  have hx1 := k2.row.cell (i := 1) rfl
  have hy1 := k2.row.frozen 1
  have HK2 := hide k2; have HK4 := hide k4; have HK5 := hide k5
  have hS : Tch M w w6 := (HB0.out.trans HL5.out).tch.step k3 (fun b hb => .inl ((HMU.out b).2 hb))
  have hKM : ∀ b, Mu gq v6 b → M b ∨ w.heap.size ≤ b := fun b hb => (kM b hb).imp (fun h => (HMU.out b).2 h) (fun h => Nat.le_trans (HB0.out.trans HL5.out).size h)
  have HKM := hide hKM
  have hK1 : ∀ b, S6 b → S b ∨ w.heap.size ≤ b := fun b hb => by
    rcases k1 b hb with (h | h) | h
    · exact .inl h.1
    · exact .inr (Nat.le_trans HB0.out.size h)
    · exact .inr (Nat.le_trans (HB0.out.trans HL5.out).size h)
  have HS := hide hS; have HK1 := hide hK1
  clear k1 kM k2 k3 k4 k5 hS hK1 hKM HT6
  have t1 : (0 : Int) ≤ (put : Int) := by omega
  have t2 : (put : Int) < 1000000 := by omega
  go_wp2_with fail
  go_end0
  have hb := HK2.out.bump
  refine ⟨rfl, S6, Mu gq v6, ⟨s5, A5, n5, c5, A5', n5', c5', id, put, q⟩, ⟨HK1.out, HKM.out, HS.out.setCell ((HMU.out gq).2 (.inl rfl)) _⟩, rfl, rfl, v6, L6, hb, fun _ => Iff.rfl, HK4.out.trans (List.Perm.append_right _ HP2.out), HK5.out, ?_, ?_, ?_, by omega⟩
  · rw [List.pairwise_append]
    exact ⟨HP4.out, List.pairwise_singleton _ _, fun a ha b hb => by simp at hb; subst hb; exact HP5.out a ha⟩
  · intro x hx
    rcases List.mem_append.1 hx with h | h
    · have := HP5.out x h; omega
    · simp at h; subst h; exact Nat.lt_succ_self _
  · rw [List.length_append]; have := HP6.out; simp; omega

end Go.Proofs.Ytbhohnhkephefaa


/- Queues: the first one. -/
set_option linter.unusedVariables false
set_option linter.unusedSimpArgs false
set_option maxRecDepth 100000
namespace Go.Proofs.Ytbhohnhkephefaa
open Go.RowKit Go.Shelf
attribute [local go_sem ↓] Go.wp_at_zero Go.wp_at_succ

theorem Qs.key {w : World} {S M : Nat → Prop} {gq put : Nat} {l : List Ent} {e : Ent} (h : Qs w S M gq l put) (he : e ∈ l) : On w (fun b => S b ∧ ¬ M b) (fun W => e.ok W) ∧ Sized e.key 100 := by
  obtain ⟨v, L, h1, hM, h2, -⟩ := h
  exact ⟨(h1.keys.ok.map fun W k => k e (h2.mem_iff.2 he)).mono (fun b hb _ => ⟨hb.1, fun h => ((hM b).1 h).elim hb.2.1 hb.2.2⟩), h1.keys.sized e (h2.mem_iff.2 he)⟩
/-- the number 0 of one's own, or the first one's key -/
def LeastPost (w : World) (l : List Ent) (e' : Ending) (w' : World) : Prop :=
  Later w w' ∧ ((l = [] ∧ ∃ v, e' = .returned (.tuple #[v, .bool false]) ∧ OwnR w' w.heap.size v 0) ∨ ∃ i e, FirstAt l i e ∧ e' = .returned (.tuple #[.agg #[.bool e.s, .slice e.A e.n e.c, .bool false, .slice e.A' e.n' e.c'], .bool true]))
set_option maxHeartbeats 4000000 in
theorem qleast_calls (w : World) (S M : Nat → Prop) (gq put : Nat) (l : List Ent) (hQ : Qs w S M gq l put) : Calls Try.prog 18 #[.pointer (some ⟨gq, 0, none⟩)] w (LeastPost w l) := by
  obtain ⟨v, L, h1, -, h2, h3, h4, -⟩ := hQ
  have hgl : gq < w.heap.size := h1.row.lt
  by_cases hl : L.length = 0
  · have hL : L = [] := List.eq_nil_of_length_eq_zero hl
    subst hL
    have hl0 : l = [] := h2.symm.eq_nil
    obtain ⟨A, n, c, rfl, hn⟩ := h1.arr.form
    have hn' : n = 0 := hn
    have hnz : ((n : Int) == 0) = true := by rw [hn']; rfl
    have hq0 := h1.row.cell (i := 0) rfl
    have HL0 := hide hl0
    clear h1 h2 h3 h4 hl0 hl hn hn'
    obtain ⟨W0, hW0⟩ : ∃ W0, W0 = w.alloc (Obj.cells #[Value.bool false, Value.slice none 0 0, Value.bool false, Value.slice none 0 0] 35) := ⟨_, rfl⟩
    obtain ⟨hb0, r1, hsz⟩ := boxes1 w [.bool false, .slice none 0 0, .bool false, .slice none 0 0] 35 hW0
    have HR1 := hide r1; have B0 := hide hb0; have HW0 := hide hW0
    clear r1 hb0 hW0
    go_enter Try.func18, Try.ntmps18
    go_wp2_with fail
    rw [← HW0.out]
    ((with_reducible refine (rplain_calls _ _ 0 1 (rawR_zero _ 1) (by omega)).mono ?_); rintro e' w5 ⟨v5, rfl, o5, b5⟩)
    obtain ⟨s5, A5, n5, c5, A5', n5', c5', rfl, -⟩ := o5.open_
    have HO5 := hide o5; have HB5 := hide b5
    obtain ⟨d1, d2, d3, d4, d5, d6, d7, d8⟩ := row_cells4 (HR1.out.later HB5.out)
    have hr5 := HR1.out.later HB5.out
    have HR5 := hide hr5
    clear o5 b5 hr5
    go_wp2_with fail
    refine bodyPost_ret (results_rat_bool rfl rfl rfl (HR5.out.four _ _ _ _)) rfl ?_
    have oo := Only.four w.heap.size w5 (.bool s5) (.slice A5 n5 c5) (.bool false) (.slice A5' n5' c5')
    have hB5 : w.heap.size < W0.heap.size := by rw [hsz]; omega
    exact ⟨(B0.out.trans HB5.out).only oo (Nat.le_refl _), .inl ⟨HL0.out, _, rfl, (HO5.out.only oo hB5).weaken B0.out.size⟩⟩
  · have hl0 : 0 < L.length := by omega
    obtain ⟨e, he⟩ : ∃ e, e = fn L 0 := ⟨_, rfl⟩
    obtain ⟨i, hi, -⟩ := firstAt h2 h3 h4 he hl0
    obtain ⟨g, cap, n, rfl, hn, hcm, ha⟩ := h1.arr.some_ hl0
    have hie : L[0]? = some e := by rw [he]; exact fn_at hl0
    have hq0 := h1.row.cell (i := 0) rfl
    have hnz : ((n : Int) == 0) = false := by simp; omega
    have hn1 : (0 : Int) < (n : Int) := by omega
    have hgl2 : g < w.heap.size := ha.lt
    have d0 : w.cell? ⟨g, 0, none⟩ = some (.bool e.s) := by have := ha.cell hie (r := 0) rfl; simpa using this
    have d1 : w.cell? ⟨g, 1, none⟩ = some (.slice e.A e.n e.c) := by have := ha.cell hie (r := 1) rfl; simpa using this
    have d2 : w.cell? ⟨g, 2, none⟩ = some (.bool false) := by have := ha.cell hie (r := 2) rfl; simpa using this
    have d3 : w.cell? ⟨g, 3, none⟩ = some (.slice e.A' e.n' e.c') := by have := ha.cell hie (r := 3) rfl; simpa using this
    have HI := hide hi
    clear h1 h2 h3 h4 he hi hie hn ha
    go_enter Try.func18, Try.ntmps18
    go_wp2_with fail
    refine bodyPost_ret (results_rat_bool rfl rfl rfl (Row.new w 35 [.bool e.s, .slice e.A e.n e.c, .bool false, .slice e.A' e.n' e.c'])) rfl ?_
    exact ⟨(Later.refl w).alloc _, .inr ⟨i, e, HI.out, rfl⟩⟩

theorem results_int_rat_bool {fn : Func} {t u r : Tmp} {tmps : Array Value} {W : World} {b : Nat} {x y z v : Value} {ok : Bool} {n : Int} (h : fn.results = #[.tmp r, .cell t 35, .tmp u]) (hn : tmps[r]?.getD undef = .int .i64 n) (hp : tmps[t]?.getD undef = .pointer (some ⟨b, 0, none⟩)) (hu : tmps[u]?.getD undef = .bool ok) (hr : Row W b 35 [x, y, z, v]) :
    (results fn tmps).run Try.prog W = .ok (.tuple #[.int .i64 n, .agg #[x, y, z, v], .bool ok]) W := by
  obtain ⟨c0, c1, c2, c3, -⟩ := row_cells4 hr
  simp [results, h, hp, hu, hn, go_sem, c0, c1, c2, c3]
theorem as_entry (v : Value) (w : World) : (Instr.typeAssert (.iface 64 v) 20 64 true).run Try.prog w = .ok (.tuple #[v, .bool true]) w := by kernel_rfl
/-- there is none; or the first one is taken -/
def TakePost (w : World) (S M : Nat → Prop) (gq : Nat) (l : List Ent) (put : Nat) (e' : Ending) (w' : World) : Prop :=
  (l = [] ∧ ∃ v, e' = .returned (.tuple #[.int .i64 0, v, .bool false]) ∧ OwnR w' w.heap.size v 0 ∧ Later w w') ∨
  ∃ i e S' M', FirstAt l i e ∧ e' = .returned (.tuple #[.int .i64 e.id, .agg #[.bool e.s, .slice e.A e.n e.c, .bool false, .slice e.A' e.n' e.c'], .bool true]) ∧ QStep w S M w' S' M' ∧ Qs w' S' M' gq (l.eraseIdx i) put ∧ On w' (fun b => S b ∧ ¬ M b ∧ b < w.heap.size) (fun W => e.ok W) ∧ Sized e.key 100
theorem taken {w W0 w1 W5 : World} {S S1 M : Nat → Prop} {gq put i : Nat} {v : Value} {l L L1 : List Ent} {e : Ent} {v1 : Value}
    (hq : l.Pairwise (fun a b => a.at_ < b.at_) ∧ (∀ e ∈ l, e.at_ < put) ∧ l.length ≤ put ∧ put ≤ 1000) (hi : FirstAt l i e) (k1 : ∀ b, S1 b → (S b ∧ b < w.heap.size) ∨ W0.heap.size ≤ b) (k2 : Que w1 S1 gq v1 L1 put) (hMU : ∀ b, M b ↔ Mu gq v b) (hml : ∀ b, M b → b < w.heap.size) (kM : ∀ b, Mu gq v1 b → Mu gq v b ∨ W0.heap.size ≤ b) (k3 : Tch (Mu gq v) W0 w1)
    (hr : ∀ L', (e :: L').Perm L → L'.Perm (l.eraseIdx i)) (k4 : (e :: L1).Perm L) (k5 : Hp.Hf Ent.first (fn L1) L1.length 0) (k6 : On w1 (fun b => S b ∧ ¬ M b ∧ b < w.heap.size) (fun W => e.ok W)) (hs : Sized e.key 100) (hb0 : Later w W0) (hsz : W0.heap.size = w.heap.size + 1) (hb5 : Later w1 W5) (x y z u : Value) :
    TakePost w S M gq l put (.returned (.tuple #[.int .i64 e.id, .agg #[.bool e.s, .slice e.A e.n e.c, .bool false, .slice e.A' e.n' e.c'], .bool true])) ((((W5.setCell ⟨w.heap.size, 0, none⟩ x).setCell ⟨w.heap.size, 1, none⟩ y).setCell ⟨w.heap.size, 2, none⟩ z).setCell ⟨w.heap.size, 3, none⟩ u) := by
  obtain ⟨h4, h5, h6, h7⟩ := hq
  have hO : Tch (fun b => b = w.heap.size) W5 ((((W5.setCell ⟨w.heap.size, 0, none⟩ x).setCell ⟨w.heap.size, 1, none⟩ y).setCell ⟨w.heap.size, 2, none⟩ z).setCell ⟨w.heap.size, 3, none⟩ u) := (Only.four w.heap.size W5 x y z u).tch rfl
  have hT : Tch M w ((((W5.setCell ⟨w.heap.size, 0, none⟩ x).setCell ⟨w.heap.size, 1, none⟩ y).setCell ⟨w.heap.size, 2, none⟩ z).setCell ⟨w.heap.size, 3, none⟩ u) := ((hb0.tch.step k3 (fun b hb => .inl ((hMU b).2 hb))).trans hb5.tch).step hO (fun b hb => .inr (by omega))
  have hs1 := k3.size
  have hs5 := hb5.size
  refine .inr ⟨i, e, fun x => S1 x ∧ x < W5.heap.size, Mu gq v1, hi, rfl, ⟨fun b hb => ?_, fun b hb => (kM b hb).imp (fun h => (hMU b).2 h) (fun h => by omega), hT⟩, ⟨v1, L1, (k2.later hb5).tch hO (fun x hx h1 e => ?_), fun _ => Iff.rfl, hr L1 k4, k5, h4.sublist (List.eraseIdx_sublist _ _), fun x hx => h5 x (List.mem_of_mem_eraseIdx hx), ?_, h7⟩, ?_, hs⟩
  · rcases k1 b hb.1 with h | h
    · exact .inl h.1
    · exact .inr (by omega)
  · rcases k1 x h1 with h | h
    · exact absurd h.2 (by omega)
    · omega
  · have := List.length_eraseIdx_le l i; omega
  · exact (k6.later hb5).tch hO (fun x hx e => by have := hx.2.2; omega)
set_option maxHeartbeats 4000000 in
theorem qtake_calls (w : World) (S M : Nat → Prop) (gq put : Nat) (l : List Ent) (hQ : Qs w S M gq l put) : Calls Try.prog 13 #[.pointer (some ⟨gq, 0, none⟩)] w (TakePost w S M gq l put) := by
  obtain ⟨v, L, h1, hM, h2, h3, h4, h5, h6, h7⟩ := hQ
  have HMU := hide hM
  have HML : Hid (∀ b, M b → b < w.heap.size) := hide fun b hb => h1.mult b ((hM b).1 hb)
  have hgl : gq < w.heap.size := h1.row.lt
  obtain ⟨W0, hW0⟩ : ∃ W0, W0 = w.alloc (Obj.cells #[Value.bool false, Value.slice none 0 0, Value.bool false, Value.slice none 0 0] 35) := ⟨_, rfl⟩
  obtain ⟨hb0, r1, hsz⟩ := boxes1 w [.bool false, .slice none 0 0, .bool false, .slice none 0 0] 35 hW0
  have HR1 := hide r1; have B0 := hide hb0; have HW0 := hide hW0
  clear r1 hb0 hW0
  by_cases hl : L.length = 0
  · have hL : L = [] := List.eq_nil_of_length_eq_zero hl
    subst hL
    have hl0 : l = [] := h2.symm.eq_nil
    obtain ⟨A, n, c, rfl, hn⟩ := h1.arr.form
    have hn' : n = 0 := hn
    have hnz : ((n : Int) == 0) = true := by rw [hn']; rfl
    have hq0 := h1.row.cell (i := 0) rfl
    have HL0 := hide hl0
    clear h1 hM h2 h3 h4 h5 h6 h7 hl0 hl hn hn'
    go_enter Try.func13, Try.ntmps13
    go_wp2_with fail
    rw [← HW0.out]
    ((with_reducible refine (rplain_calls _ _ 0 1 (rawR_zero _ 1) (by omega)).mono ?_); rintro e' w5 ⟨v5, rfl, o5, b5⟩)
    obtain ⟨s5, A5, n5, c5, A5', n5', c5', rfl, -⟩ := o5.open_
    have HO5 := hide o5; have HB5 := hide b5
    obtain ⟨d1, d2, d3, d4, d5, d6, d7, d8⟩ := row_cells4 (HR1.out.later HB5.out)
    have hr5 := HR1.out.later HB5.out
    have HR5 := hide hr5
    clear o5 b5 hr5
    go_wp2_with fail
    refine bodyPost_ret (results_int_rat_bool rfl rfl rfl rfl (HR5.out.four _ _ _ _)) rfl ?_
    have oo := Only.four w.heap.size w5 (.bool s5) (.slice A5 n5 c5) (.bool false) (.slice A5' n5' c5')
    have hB5 : w.heap.size < W0.heap.size := by rw [hsz]; omega
    exact .inl ⟨HL0.out, _, rfl, (HO5.out.only oo hB5).weaken B0.out.size, (B0.out.trans HB5.out).only oo (Nat.le_refl _)⟩
  · have hl0 : 0 < L.length := by omega
    obtain ⟨e, he⟩ : ∃ e, e = fn L 0 := ⟨_, rfl⟩
    obtain ⟨i, hi, hrest⟩ := firstAt h2 h3 h4 he hl0
    have hLl : L.length = l.length := h2.length_eq
    have hLl2 : L.length ≤ 1000 := by omega
    obtain ⟨A, n, c, rfl, hn⟩ := h1.arr.form
    have hq0 := h1.row.cell (i := 0) rfl
    have hnz : ((n : Int) == 0) = false := by simp; omega
    have HQ : Hid (Que W0 (fun b => S b ∧ b < w.heap.size) gq (.slice A n c) L put) := hide (h1.tch (T := fun _ => False) B0.out.tch (fun _ _ _ h => h))
    have HKE : Hid (On w (fun b => S b) (fun W => e.ok W) ∧ Sized e.key 100) := hide ⟨(h1.keys.ok.map fun W k => k e (by rw [he]; exact fn_mem hl0)).mono (fun b hb _ => hb.1), h1.keys.sized e (by rw [he]; exact fn_mem hl0)⟩
    have HH := hide h3; have HP2 := hide h2; have HP4 := hide h4; have HP5 := hide h5; have HP6 := hide h6; have HI := hide hi; have HE := hide he; have HREST := hide hrest
    have HQS := hide (And.intro h4 (And.intro h5 (And.intro h6 h7)))
    have hp1000 : put ≤ 1000 := h7
    have hmx : Try.prog.follows .mixedOrders = true := by kernel_rfl
    clear h1 hM h2 h3 h4 h5 h6 h7 hLl hi he hrest hn
    go_enter Try.func13, Try.ntmps13
    go_wp2_with fail
    rw [← HW0.out]
    ((with_reducible refine (hpop_calls W0 _ gq put _ L HQ.out hl0 (by omega) HH.out e HE.out).mono ?_); rintro e' w1 ⟨rfl, ⟨S1, v1, L1, k1, kM, k2, k3, k4, k5⟩, k6⟩)
    have HK1 := hide k1; have HK2 := hide k2; have HK3 := hide k3; have HK4 := hide k4; have HK5 := hide k5; have HK6 := hide k6; have HKM := hide kM
    clear k1 kM k2 k3 k4 k5 k6
    have has := as_entry
    have hzs : W0.heap.size ≤ w1.heap.size := HK3.out.size
    have hr1 : Row w1 w.heap.size 35 [.bool false, .slice none 0 0, .bool false, .slice none 0 0] := HR1.out.tch HK3.out (fun h => absurd (HML.out _ ((HMU.out _).2 h)) (Nat.lt_irrefl _))
    obtain ⟨W5, hW5⟩ : ∃ W5, W5 = w1.alloc (Obj.cells #[Value.bool e.s, Value.slice e.A e.n e.c, Value.bool false, Value.slice e.A' e.n' e.c', Value.int .i64 e.id, Value.int .i64 (e.at_ : Int)] 64) := ⟨_, rfl⟩
    obtain ⟨hb5, r5, hsz5⟩ := boxes1 w1 [.bool e.s, .slice e.A e.n e.c, .bool false, .slice e.A' e.n' e.c', .int .i64 e.id, .int .i64 (e.at_ : Int)] 64 hW5
    obtain ⟨d0, d1, d2, d3, d4, d5⟩ := row_cells6 r5
    have hr15 := hr1.later hb5
    obtain ⟨z0, z1, z2, z3, y0, y1, y2, y3⟩ := row_cells4 hr15
    have HB5 := hide hb5; have HW5 := hide hW5; have HR15 := hide hr15
    clear hW5 hb5 r5 hr1 hr15
    go_upto_region 4 with fail
    rw [← HW5.out]
    refine wp_region_N (fun _ => True) [] hmx trivial (fun hHeld => ?_)
    refine wpAnyN_takeD (some 24) (by rfl) (i := 0) (oi := _) (v := ?_) rfl (by kernel_rfl) (by kernel_rfl) (by kernel_rfl) (by kernel_rfl) (fun _ _ _ h => h) (Or.inl ⟨by rfl, ?_⟩) (by assumption) ?_
    rotate_left
    · intro w hSw; (try dsimp only at hSw); go_simp
      first | done | with_reducible rfl
    try simp only [Act.put, List.setIfInBounds_toArray, List.set_cons_zero, List.set_cons_succ]
    refine wpAnyN_takeD (some 26) (by rfl) (i := 2) (oi := _) (v := ?_) rfl (by kernel_rfl) (by kernel_rfl) (by kernel_rfl) (by kernel_rfl) (fun _ _ _ h => h) (Or.inl ⟨by rfl, ?_⟩) (by assumption) ?_
    rotate_left
    · intro w hSw; (try dsimp only at hSw); go_simp
      first | done | with_reducible rfl
    try simp only [Act.put, List.setIfInBounds_toArray, List.set_cons_zero, List.set_cons_succ]
    refine wpAnyN_ready (rs := [1, 3]) (by kernel_rfl) (by simp) ?_
    refine AllReadyN.held rfl (by rfl) (fun K hK => ?_) ?_
    · go_simp
      refine hK.out _ _ ?_ (fun hHeld => ?_)
      · trivial
      clear hK K
      try simp only [Act.put, List.setIfInBounds_toArray, List.set_cons_zero, List.set_cons_succ]
      refine wpAnyN_takeD (some 2) (by rfl) (i := 4) (oi := _) (v := ?_) rfl (by kernel_rfl) (by kernel_rfl) (by kernel_rfl) (by kernel_rfl) (fun _ _ _ h => h) (Or.inl ⟨by rfl, ?_⟩) (by assumption) ?_
      rotate_left
      · intro w hSw; (try dsimp only at hSw); go_simp
        first | done | with_reducible rfl
      try simp only [Act.put, List.setIfInBounds_toArray, List.set_cons_zero, List.set_cons_succ]
      refine wpAnyN_ready (rs := [3]) (by kernel_rfl) (by simp) ?_
      refine AllReadyN.held rfl (by rfl) (fun K hK => ?_) AllReadyN.nil
      go_simp
      refine hK.out _ _ ?_ (fun hHeld => ?_)
      · trivial
      clear hK K
      try simp only [Act.put, List.setIfInBounds_toArray, List.set_cons_zero, List.set_cons_succ]
      refine wpAnyN_ready (rs := [5]) (by kernel_rfl) (by simp) ?_
      refine AllReadyN.held rfl (by rfl) (fun K hK => ?_) AllReadyN.nil
      go_simp
      refine hK.out _ _ ?_ (fun hHeld => ?_)
      · trivial
      clear hK K
      try simp only [Act.put, List.setIfInBounds_toArray, List.set_cons_zero, List.set_cons_succ]
      refine wpAnyN_takeD (some 4) (by rfl) (i := 6) (oi := _) (v := ?_) rfl (by kernel_rfl) (by kernel_rfl) (by kernel_rfl) (by kernel_rfl) (fun _ _ _ h => h) (Or.inl ⟨by rfl, ?_⟩) (by assumption) ?_
      rotate_left
      · intro w hSw; (try dsimp only at hSw); go_simp
        first | done | with_reducible rfl
      try simp only [Act.put, List.setIfInBounds_toArray, List.set_cons_zero, List.set_cons_succ]
      refine wpAnyN_done (by kernel_rfl) ?_ _
      have hend := taken (HQS.out) HI.out HK1.out HK2.out HMU.out HML.out HKM.out HK3.out HREST.out HK4.out HK5.out (HK6.out.mono (fun b hb _ => ⟨hb.1.1, fun h => hb.2 ((HMU.out b).1 h), hb.1.2⟩)) HKE.out.2 B0.out hsz HB5.out.drew (.bool e.s) (.slice e.A e.n e.c) (.bool false) (.slice e.A' e.n' e.c')
      have HEND := hide hend
      clear hend
      go_wp2_with fail
      refine bodyPost_ret (results_int_rat_bool rfl rfl rfl rfl (HR15.out.four _ _ _ _)) rfl ?_
      exact HEND.out
    refine AllReadyN.held rfl (by rfl) (fun K hK => ?_) AllReadyN.nil
    go_simp
    refine hK.out _ _ ?_ (fun hHeld => ?_)
    · trivial
    clear hK K
    try simp only [Act.put, List.setIfInBounds_toArray, List.set_cons_zero, List.set_cons_succ]
    refine wpAnyN_ready (rs := [1]) (by kernel_rfl) (by simp) ?_
    refine AllReadyN.held rfl (by rfl) (fun K hK => ?_) AllReadyN.nil
    go_simp
    refine hK.out _ _ ?_ (fun hHeld => ?_)
    · trivial
    clear hK K
    try simp only [Act.put, List.setIfInBounds_toArray, List.set_cons_zero, List.set_cons_succ]
    refine wpAnyN_takeD (some 2) (by rfl) (i := 4) (oi := _) (v := ?_) rfl (by kernel_rfl) (by kernel_rfl) (by kernel_rfl) (by kernel_rfl) (fun _ _ _ h => h) (Or.inl ⟨by rfl, ?_⟩) (by assumption) ?_
    rotate_left
    · intro w hSw; (try dsimp only at hSw); go_simp
      first | done | with_reducible rfl
    try simp only [Act.put, List.setIfInBounds_toArray, List.set_cons_zero, List.set_cons_succ]
    refine wpAnyN_ready (rs := [5]) (by kernel_rfl) (by simp) ?_
    refine AllReadyN.held rfl (by rfl) (fun K hK => ?_) AllReadyN.nil
    go_simp
    refine hK.out _ _ ?_ (fun hHeld => ?_)
    · trivial
    clear hK K
    try simp only [Act.put, List.setIfInBounds_toArray, List.set_cons_zero, List.set_cons_succ]
    refine wpAnyN_takeD (some 4) (by rfl) (i := 6) (oi := _) (v := ?_) rfl (by kernel_rfl) (by kernel_rfl) (by kernel_rfl) (by kernel_rfl) (fun _ _ _ h => h) (Or.inl ⟨by rfl, ?_⟩) (by assumption) ?_
    rotate_left
    · intro w hSw; (try dsimp only at hSw); go_simp
      first | done | with_reducible rfl
    try simp only [Act.put, List.setIfInBounds_toArray, List.set_cons_zero, List.set_cons_succ]
    refine wpAnyN_done (by kernel_rfl) ?_ _
    have hend := taken (HQS.out) HI.out HK1.out HK2.out HMU.out HML.out HKM.out HK3.out HREST.out HK4.out HK5.out (HK6.out.mono (fun b hb _ => ⟨hb.1.1, fun h => hb.2 ((HMU.out b).1 h), hb.1.2⟩)) HKE.out.2 B0.out hsz HB5.out.drew (.bool e.s) (.slice e.A e.n e.c) (.bool false) (.slice e.A' e.n' e.c')
    have HEND := hide hend
    clear hend
    go_wp2_with fail
    refine bodyPost_ret (results_int_rat_bool rfl rfl rfl rfl (HR15.out.four _ _ _ _)) rfl ?_
    exact HEND.out

end Go.Proofs.Ytbhohnhkephefaa


/- Queues: those above a key go. -/
set_option linter.unusedVariables false
set_option linter.unusedSimpArgs false
set_option maxRecDepth 100000
namespace Go.Proofs.Ytbhohnhkephefaa
open Go.RowKit Go.Shelf
attribute [local go_sem ↓] Go.wp_at_zero Go.wp_at_succ

/-- those that are not above a key -/
def notAbove (q : Rat) (l : List Ent) : List Ent := l.filter (fun e => !decide (q < e.key))
def DropPost (w : World) (S M : Nat → Prop) (gq : Nat) (l : List Ent) (put : Nat) (q : Rat) (e' : Ending) (w' : World) : Prop :=
  e' = .returned (.int .i64 ((l.length : Int) - ((notAbove q l).length : Int))) ∧ ∃ S' M', QStep w S M w' S' M' ∧ Qs w' S' M' gq (notAbove q l) put
theorem Que.dropped {w w1 : World} {S : Nat → Prop} {gq put : Nat} {v v' : Value} {L L' : List Ent} (h : Que w S gq v L put) (ha : ArrV w1 v' L') (ho : v'.ownBlock = v.ownBlock) (ht : Tch (fun b => some b = v.ownBlock) w w1) (hs : ∀ e ∈ L', e ∈ L) :
    Que (w1.setCell ⟨gq, 0, none⟩ v') S gq v' L' put ∧ Tch (Mu gq v) w (w1.setCell ⟨gq, 0, none⟩ v') := by
  have hO := (Only.one gq w1 0 v').tch (S := fun b => b = gq) rfl
  have hng : ¬ some gq = v.ownBlock := fun e => (h.own gq e.symm).2 rfl
  refine ⟨⟨h.sq, (h.row.tch ht hng).set_ 0 v', ha.tch hO (fun g hg e => (h.own g (ho ▸ hg)).2 e), fun g hg => h.own g (ho ▸ hg), ?_⟩, (ht.mono (fun x _ e => .inr e)).trans ((Only.one gq w1 0 v').tch (.inl rfl))⟩
  rw [ho]
  exact ((h.keys.sub hs).tch ht (fun x hx e => hx.2.2 e)).tch hO (fun x hx e => hx.2.1 e)

set_option maxHeartbeats 4000000 in
theorem qdrop_calls (w : World) (S M : Nat → Prop) (gq put : Nat) (l : List Ent) (vk : Value) (q : Rat) (hQ : Qs w S M gq l put) (hk : On w (fun b => ¬ S b) (fun W => RawR W vk q 50)) :
    Calls Try.prog 16 #[.pointer (some ⟨gq, 0, none⟩), vk] w (DropPost w S M gq l put q) := by
  obtain ⟨v, L, h1, hM, h2, h3, h4, h5, h6, h7⟩ := hQ
  have HMU := hide hM
  have hgl : gq < w.heap.size := h1.row.lt
  obtain ⟨sk, Ak, nk, ck, sk', Bk, mk, dk, rfl⟩ := hk.now.open_
  obtain ⟨W0, hW0⟩ : ∃ W0, W0 = w.alloc (Obj.cells #[Value.bool sk, Value.slice Ak nk ck, Value.bool sk', Value.slice Bk mk dk] 35) := ⟨_, rfl⟩
  obtain ⟨hb0, r1, hsz⟩ := boxes1 w [.bool sk, .slice Ak nk ck, .bool sk', .slice Bk mk dk] 35 hW0
  have HR1 := hide r1; have B0 := hide hb0; have HW0 := hide hW0
  obtain ⟨A, n, c, rfl, hn⟩ := h1.arr.form
  have hLl : L.length = l.length := h2.length_eq
  have hq0 := h1.row.cell (i := 0) rfl
  have HQ : Hid (Que W0 (fun b => S b ∧ b < w.heap.size) gq (.slice A n c) L put) := hide (h1.tch (T := fun _ => False) hb0.tch (fun _ _ _ h => h))
  have hq00 := HQ.out.row.cell (i := 0) rfl
  have HK : Hid (On W0 (fun b => ¬ S b) (fun W => RawR W (.agg #[.bool sk, .slice Ak nk ck, .bool sk', .slice Bk mk dk]) q 50)) := hide (hk.later hb0)
  have hv0 : ∀ g, (Value.slice A n c).ownBlock = some g → S g ∧ g < w.heap.size := fun g hg => ⟨(h1.own g hg).1, h1.arr.lt g hg⟩
  have HP : Hid (∀ W e, Tch (fun b => some b = (Value.slice A n c).ownBlock) W0 W → e ∈ L → e.ok W → Calls Try.prog 31 #[.agg #[.bool e.s, .slice e.A e.n e.c, .bool false, .slice e.A' e.n' e.c', .int .i64 e.id, .int .i64 (e.at_ : Int)], .pointer (some ⟨w.heap.size, 0, none⟩)] W (RetV W (.bool (decide (q < e.key))))) := hide (fun W e hT he ho =>
    drop1_calls W e ho (h1.keys.sized e he) w.heap.size sk sk' Ak Bk nk ck mk dk (r1.tch hT (fun e => by have := (hv0 _ e.symm).2; omega)) q (RawR.mono (HK.out.tch hT (fun b hb e => hb (hv0 b e.symm).1)).now (by omega)) _ rfl)
  have HPM := hide h2; have HP4 := hide h4; have HP5 := hide h5; have HP6 := hide h6; have HN := hide hn; have HL := hide hLl
  have hLl2 : L.length ≤ 1000 := by omega
  have hn2 : n ≤ 1000 := by omega
  have hp1000 : put ≤ 1000 := h7
  have hen : Enters 31 := ⟨fun w args => by kernel_rfl⟩
  have hff := hq00
  have hfz := HQ.out.row.frozen 0
  clear h1 hM h2 h3 h4 h5 h6 h7 hk hW0 r1 hb0 hn hLl hv0 hq00
  go_enter Try.func16, Try.ntmps16
  go_wp2_with fail
  rw [← HW0.out]
  refine (delf_calls W0 _ L _ HQ.out.arr HQ.out.keys (fun b hb => hb.2.2) (by omega) _ hen w.heap.size (fun e => decide (q < e.key)) HP.out).mono ?_
  rintro e' w1 ⟨v', rfl, a1, o1, t1⟩
  obtain ⟨A', n', c', rfl, hn'⟩ := a1.form
  have hdr := HQ.out.dropped a1 o1 t1 (fun e he => (List.mem_filter.1 he).1)
  have hrow1 : Row w1 gq 60 [.slice A n c, .int .i64 (put : Int)] := HQ.out.row.tch t1 (fun e => (HQ.out.own gq e.symm).2 rfl)
  have hc1 := hrow1.cell (i := 0) rfl
  have hf1 := hrow1.frozen 0
  have hn2' : n' ≤ 1000 := by rw [hn']; have := List.length_filter_le (fun e => !decide (q < e.key)) L; omega
  have HDR := hide hdr; have HOO := hide o1
  have HPD : Hid ((L.filter (fun e => !decide (q < e.key))).Perm (notAbove q l)) := hide (List.Perm.filter _ HPM.out)
  clear hdr a1 o1 t1 hrow1 hn' hq0 hff
  go_wp2_with fail
  obtain ⟨w2, hw2⟩ : ∃ w2, w2 = w1.setCell ⟨gq, 0, none⟩ (.slice A' n' c') := ⟨_, rfl⟩
  rw [← hw2]
  have HDR2 : Hid (Que w2 (fun b => S b ∧ b < w.heap.size) gq (.slice A' n' c') (L.filter (fun e => !decide (q < e.key))) put ∧ Tch (Mu gq (.slice A n c)) W0 w2 ∧ (∀ b, Mu gq (.slice A' n' c') b → Mu gq (.slice A n c) b)) := hide (by rw [hw2]; exact ⟨HDR.out.1, HDR.out.2, fun b hb => hb.imp (fun h => h) (fun h => by rw [HOO.out] at h; exact h)⟩)
  clear hw2 HDR
  ((with_reducible refine (hinit_calls w2 _ gq put _ _ HDR2.out.1 (by have := List.length_filter_le (fun e => !decide (q < e.key)) L; omega)).mono ?_); rintro e' w3 ⟨rfl, S3, v3, L3, k1, kM, k2, k3, k4, k5⟩)
  obtain ⟨A3, n3, c3, rfl, hn3⟩ := k2.arr.form
  have hq3 := k2.row.cell (i := 0) rfl
  have hL3 : L3.length = (notAbove q l).length := (k4.trans HPD.out).length_eq
  have hL3b : (notAbove q l).length ≤ l.length := List.length_filter_le _ _
  have hnn : (n : Int) - (n3 : Int) = ((l.length : Int) - ((notAbove q l).length : Int)) := by rw [hn3, hL3, HN.out, HL.out]
  have hb1 : (0 : Int) ≤ (n : Int) - (n3 : Int) := by rw [hnn]; omega
  have hn3b : n3 ≤ 1000 := by rw [hn3, hL3]; omega
  have HNN := hide hnn
  have HPOST : Hid (∃ S' M', QStep w S M w3 S' M' ∧ Qs w3 S' M' gq (notAbove q l) put) := hide ⟨S3, Mu gq (.slice A3 n3 c3), ⟨fun b hb => by
      rcases k1 b hb with h | h
      · exact .inl h.1
      · have := B0.out.size; have := HDR2.out.2.1.size; exact .inr (by omega), fun b hb => (kM b hb).imp (fun h => (HMU.out b).2 (HDR2.out.2.2 b h)) (fun h => by have := B0.out.size; have := HDR2.out.2.1.size; omega), (B0.out.tch.step HDR2.out.2.1 (fun b hb => .inl ((HMU.out b).2 hb))).step k3 (fun b hb => .inl ((HMU.out b).2 (HDR2.out.2.2 b hb)))⟩,
    _, L3, k2, fun _ => Iff.rfl, k4.trans HPD.out, k5, HP4.out.sublist List.filter_sublist, fun e he => HP5.out e ((List.mem_filter.1 he).1), Nat.le_trans hL3b HP6.out, hp1000⟩
  clear k1 kM k2 k3 k4 k5 hn3 hL3 hnn
  go_wp2_with fail
  go_ret
  refine ⟨?_, HPOST.out⟩
  first | rw [← HNN.out] | (rw [← HNN.out]; rfl)
  rfl
end Go.Proofs.Ytbhohnhkephefaa
