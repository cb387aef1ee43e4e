import Derived.Test.YtbhohnhkephefaaM26

/- Queues: what a law asks first. -/
set_option linter.unusedVariables false
set_option linter.unusedSimpArgs false
set_option maxRecDepth 100000
namespace Go.Proofs.Ytbhohnhkephefaa
open Go.RowKit Go.Shelf
attribute [local go_sem ↓] Go.wp_at_zero Go.wp_at_succ

theorem Qs.sub {w : World} {S M : Nat → Prop} {gq put : Nat} {l : List Ent} (h : Qs w S M gq l put) : ∀ b, M b → S b := by
  obtain ⟨v, L, h1, hM, -⟩ := h
  exact fun b hb => h1.mu b ((hM b).1 hb)
theorem Qs.len {w : World} {S M : Nat → Prop} {gq put : Nat} {l : List Ent} (h : Qs w S M gq l put) : l.length ≤ put ∧ put ≤ 1000 := by
  obtain ⟨v, L, h1, hM, h2, h3, h4, h5, h6, h7⟩ := h
  exact ⟨h6, h7⟩
theorem Qs.mlt {w : World} {S M : Nat → Prop} {gq put : Nat} {l : List Ent} (h : Qs w S M gq l put) : ∀ b, M b → b < w.heap.size := by
  obtain ⟨v, L, h1, hM, -⟩ := h
  exact fun b hb => h1.mult b ((hM b).1 hb)
/-- a queue that was made since w0 -/
structure QI (w0 w : World) (S M : Nat → Prop) (gq : Nat) (l : List Ent) (put : Nat) : Prop where
  q : Qs w S M gq l put
  late : Later w0 w
  since : ∀ b, S b → w0.heap.size ≤ b
section
variable {w0 w w' : World} {S M S' M' : Nat → Prop} {gq put put' : Nat} {l l' : List Ent}
theorem QI.later (h : QI w0 w S M gq l put) (k : Later w w') : QI w0 w' S M gq l put := ⟨h.1.later k, h.late.trans k, h.since⟩
theorem QI.step (h : QI w0 w S M gq l put) (k : QStep w S M w' S' M') (q : Qs w' S' M' gq l' put') : QI w0 w' S' M' gq l' put' :=
  ⟨q, Tch.later h.late k.2.2 (fun x hx hm => by have := h.since x (h.1.sub x hm); omega), fun b hb => (k.1 b hb).elim (h.since b) (fun e => Nat.le_trans h.late.size e)⟩
theorem QI.cut (h : QI w0 w S M gq l put) : QI w0 w (fun b => S b ∧ b < w.heap.size) M gq l put :=
  ⟨h.1.tch (T := fun _ => False) (Tch.refl _ w) (fun _ _ _ h => h), h.late, fun b hb => h.since b hb.1⟩
/-- what hangs on nothing that turns -/
theorem On.qstep {P : Nat → Prop} {T : World → Prop} (h : On w P T) (k : QStep w S M w' S' M') (hP : ∀ b, P b → ¬ M b) : On w' (fun b => P b ∧ ¬ M' b) T := by
  have h1 := h.lt.tch k.2.2 (fun x hx => hP x hx.1)
  exact h1.mono fun b hb _ => ⟨hb.1, fun e => (k.2.1 b e).elim (hP b hb.1) (fun e => by have := hb.2; omega)⟩
theorem On.qs {T : World → Prop} (h : On w (fun b => ¬ M b) T) (k : QStep w S M w' S' M') : On w' (fun b => ¬ M' b) T := (h.qstep k (fun _ h => h)).mono (fun _ hb _ => hb.2)
end
theorem RawR.onlow {w0 w : World} {S : Nat → Prop} {v : Value} {q : Rat} {k : Nat} (h : RawR w0 v q k) (hl : Later w0 w) (hS : ∀ b, S b → w0.heap.size ≤ b) : On w (fun b => ¬ S b) (fun W => RawR W v q k) :=
  ((On.rawR h).later hl).mono (fun b hb _ e => by have := hS b e; omega)
theorem list3 {l : List Ent} (h : l.map (fun e => (e.key, e.id)) = ([(2, 0), (1, 1), (1, 2)] : List (Rat × Int))) : ∃ a b c, l = [a, b, c] ∧ a.key = 2 ∧ a.id = 0 ∧ b.key = 1 ∧ b.id = 1 ∧ c.key = 1 ∧ c.id = 2 := by
  match l, h with
  | [a, b, c], h => simp at h; exact ⟨a, b, c, rfl, by simp [h]⟩
  | [], h => simp at h
  | [a], h => simp at h
  | [a, b], h => simp at h
  | a :: b :: c :: d :: l, h => simp at h
theorem take3 {a b c e : Ent} {i : Nat} (ha : a.key = 2) (hb : b.key = 1) (hc : c.key = 1) (h : FirstAt [a, b, c] i e) : i = 1 ∧ e = b := by
  obtain ⟨h1, h2⟩ := h
  have k1 := h2 1 b rfl
  match i, h1 with
  | 0, h1 => simp at h1; subst h1; have := k1.1; grind
  | 1, h1 => simp at h1; exact ⟨rfl, h1.symm⟩
  | 2, h1 => simp at h1; subst h1; have := k1.2 (by omega); grind
  | i + 3, h1 => simp at h1
theorem take2 {a c e : Ent} {i : Nat} (ha : a.key = 2) (hc : c.key = 1) (h : FirstAt [a, c] i e) : i = 1 ∧ e = c := by
  obtain ⟨h1, h2⟩ := h
  have k1 := h2 1 c rfl
  match i, h1 with
  | 0, h1 => simp at h1; subst h1; have := k1.1; grind
  | 1, h1 => simp at h1; exact ⟨rfl, h1.symm⟩
  | i + 2, h1 => simp at h1
theorem take1 {a e : Ent} {i : Nat} (h : FirstAt [a] i e) : i = 0 ∧ e = a := by
  obtain ⟨h1, h2⟩ := h
  match i, h1 with
  | 0, h1 => simp at h1; exact ⟨rfl, h1.symm⟩
  | i + 1, h1 => simp at h1
theorem take0 {e : Ent} {i : Nat} (h : FirstAt [] i e) : False := by
  have := h.1; simp at this

set_option maxHeartbeats 8000000 in
theorem qawake_calls (w : World) : Calls Try.prog 8 #[] w (RetV w (.bool true)) := by
  go_enter Try.func8, Try.ntmps8
  go_wp2_with fail
  ((with_reducible refine (qnew_calls w).mono ?_); rintro e' w1 ⟨rfl, b1, q1⟩)
  have HI1 : Hid (QI w w1 (fun b => w.heap.size ≤ b) (fun b => b = w.heap.size) w.heap.size [] 0) := hide ⟨q1, b1, fun b hb => hb⟩
  clear b1 q1
  go_wp2_with fail
  go_loopw [2] (fun iv wr => ∃ (j : Nat) (S M : Nat → Prop) (l : List Ent), j ≤ 3 ∧ iv = .int .i64 (j : Int) ∧ Hid (QI w wr S M w.heap.size l j) ∧ Hid (l.map (fun e => (e.key, e.id)) = ([(2, 0), (1, 1), (1, 2)] : List (Rat × Int)).take j)) (fun iv _ => (3 - intOf iv).toNat)
  case atStart => exact ⟨0, _, _, [], by omega, rfl, HI1, hide rfl⟩
  case round =>
    obtain ⟨j, S, M, l, hj, rfl, HI, HL⟩ := hrel
    rcases (show j = 0 ∨ j = 1 ∨ j = 2 ∨ j = 3 by omega) with rfl | rfl | rfl | rfl
    · go_wp2_with fail
      obtain ⟨W1, hW1⟩ : ∃ W1, W1 = wr.alloc (Obj.cells #[Value.int .i64 2, Value.int .i64 1, Value.int .i64 1] 3) := ⟨_, rfl⟩
      have hb1 : Later wr W1 := by rw [hW1]; exact (Later.refl _).alloc _
      rw [← hW1]
      have HI1 := hide (HI.out.later hb1)
      clear hW1 hb1
      ((with_reducible refine (lawof_calls W1 2 (by omega) (by omega) 2 div_2).mono ?_); rintro e w2 ⟨v2, rfl, o2, b2⟩)
      obtain ⟨s2, P2, q2, e2, P2', q2', e2', rfl, o2⟩ := o2.open_; have O2 := hide o2; clear o2
      have HI2 := hide (HI1.out.later b2)
      have HRAW : Hid (RawR w2 (.agg #[.bool s2, .slice P2 q2 e2, .bool false, .slice P2' q2' e2']) 2 50) := hide (OwnR.raw O2.out (sized_2.mono (by omega)))
      clear b2
      go_wp2_with fail
      have hpc := qput_calls w2 S M w.heap.size 0 l _ 2 0 HI2.out.1 (by omega) HRAW.out
      ((with_reducible refine hpc.mono ?_); rintro e' w3 ⟨rfl, S', M', ent, hst, hk, hi, hq⟩)
      have HI3 := hide (HI2.out.step hst hq)
      have HL3 : Hid ((l ++ [ent]).map (fun e => (e.key, e.id)) = ([(2, 0), (1, 1), (1, 2)] : List (Rat × Int)).take (0 + 1)) := hide (by rw [List.map_append, HL.out]; simp [hk, hi])
      clear hpc hst hk hi hq
      go_wp2_with fail
      exact ⟨⟨0 + 1, S', M', l ++ [ent], by omega, by rfl, HI3, HL3⟩, by simp [intOf]⟩
    · go_wp2_with fail
      obtain ⟨W1, hW1⟩ : ∃ W1, W1 = wr.alloc (Obj.cells #[Value.int .i64 2, Value.int .i64 1, Value.int .i64 1] 3) := ⟨_, rfl⟩
      have hb1 : Later wr W1 := by rw [hW1]; exact (Later.refl _).alloc _
      rw [← hW1]
      have HI1 := hide (HI.out.later hb1)
      clear hW1 hb1
      ((with_reducible refine (lawof_calls W1 1 (by omega) (by omega) 1 div_1).mono ?_); rintro e w2 ⟨v2, rfl, o2, b2⟩)
      obtain ⟨s2, P2, q2, e2, P2', q2', e2', rfl, o2⟩ := o2.open_; have O2 := hide o2; clear o2
      have HI2 := hide (HI1.out.later b2)
      have HRAW : Hid (RawR w2 (.agg #[.bool s2, .slice P2 q2 e2, .bool false, .slice P2' q2' e2']) 1 50) := hide (OwnR.raw O2.out (sized_1.mono (by omega)))
      clear b2
      go_wp2_with fail
      have hpc := qput_calls w2 S M w.heap.size 1 l _ 1 1 HI2.out.1 (by omega) HRAW.out
      ((with_reducible refine hpc.mono ?_); rintro e' w3 ⟨rfl, S', M', ent, hst, hk, hi, hq⟩)
      have HI3 := hide (HI2.out.step hst hq)
      have HL3 : Hid ((l ++ [ent]).map (fun e => (e.key, e.id)) = ([(2, 0), (1, 1), (1, 2)] : List (Rat × Int)).take (1 + 1)) := hide (by rw [List.map_append, HL.out]; simp [hk, hi])
      clear hpc hst hk hi hq
      go_wp2_with fail
      exact ⟨⟨1 + 1, S', M', l ++ [ent], by omega, by rfl, HI3, HL3⟩, by simp [intOf]⟩
    · go_wp2_with fail
      obtain ⟨W1, hW1⟩ : ∃ W1, W1 = wr.alloc (Obj.cells #[Value.int .i64 2, Value.int .i64 1, Value.int .i64 1] 3) := ⟨_, rfl⟩
      have hb1 : Later wr W1 := by rw [hW1]; exact (Later.refl _).alloc _
      rw [← hW1]
      have HI1 := hide (HI.out.later hb1)
      clear hW1 hb1
      ((with_reducible refine (lawof_calls W1 1 (by omega) (by omega) 1 div_1).mono ?_); rintro e w2 ⟨v2, rfl, o2, b2⟩)
      obtain ⟨s2, P2, q2, e2, P2', q2', e2', rfl, o2⟩ := o2.open_; have O2 := hide o2; clear o2
      have HI2 := hide (HI1.out.later b2)
      have HRAW : Hid (RawR w2 (.agg #[.bool s2, .slice P2 q2 e2, .bool false, .slice P2' q2' e2']) 1 50) := hide (OwnR.raw O2.out (sized_1.mono (by omega)))
      clear b2
      go_wp2_with fail
      have hpc := qput_calls w2 S M w.heap.size 2 l _ 1 2 HI2.out.1 (by omega) HRAW.out
      ((with_reducible refine hpc.mono ?_); rintro e' w3 ⟨rfl, S', M', ent, hst, hk, hi, hq⟩)
      have HI3 := hide (HI2.out.step hst hq)
      have HL3 : Hid ((l ++ [ent]).map (fun e => (e.key, e.id)) = ([(2, 0), (1, 1), (1, 2)] : List (Rat × Int)).take (2 + 1)) := hide (by rw [List.map_append, HL.out]; simp [hk, hi])
      clear hpc hst hk hi hq
      go_wp2_with fail
      exact ⟨⟨2 + 1, S', M', l ++ [ent], by omega, by rfl, HI3, HL3⟩, by simp [intOf]⟩
    · obtain ⟨a, b, c, rfl, ka, ia, kb, ib, kc, ic⟩ := list3 HL.out
      go_wp2_with fail
      ((with_reducible refine (qtake_calls wr S M w.heap.size 3 [a, b, c] HI.out.1).mono ?_); rintro e' w1 hp)
      rcases hp with ⟨h0, -⟩ | ⟨i, e, S1, M1, hf, rfl, hst, hq, hon, hsz⟩
      · simp at h0
      obtain ⟨rfl, rfl⟩ := take3 ka kb kc hf
      have HI1 : Hid (QI w w1 S1 M1 w.heap.size [a, c] 3) := hide (HI.out.step hst hq)
      have HB1 : Hid (On w1 (fun x => ¬ M1 x) (fun W => e.ok W)) := hide ((hon.mono (fun x hx _ hm => (hst.2.1 x hm).elim hx.2.1 (fun h => by have := hx.2.2; omega))))
      have HSB := hide hsz
      have HKA := hide ka; have HIA := hide ia; have HKB := hide kb; have HKC := hide kc; have HIC := hide ic
      rw [ib]
      clear hf hst hq hon hsz ka ia kb kc ib ic
      go_wp2_with fail
      obtain ⟨W1, hW1⟩ : ∃ W1, W1 = w1.alloc (Obj.cells #[Value.bool e.s, Value.slice e.A e.n e.c, Value.bool false, Value.slice e.A' e.n' e.c'] 35) := ⟨_, rfl⟩
      have hb1 : Later w1 W1 := by rw [hW1]; exact (Later.refl _).alloc _
      have hr1 : Row W1 w1.heap.size 35 [.bool e.s, .slice e.A e.n e.c, .bool false, .slice e.A' e.n' e.c'] := by rw [hW1]; exact Row.new _ _ _
      have HB2 : Hid (On W1 (fun x => ¬ M1 x) (fun W => e.ok W ∧ Row W w1.heap.size 35 [.bool e.s, .slice e.A e.n e.c, .bool false, .slice e.A' e.n' e.c'])) := hide ((HB1.out.later hb1).and (On.of_row hr1 (fun h => Nat.lt_irrefl _ (HI1.out.1.mlt _ h)) (fun W h => h)))
      have HI2 := hide (HI1.out.later hb1)
      rw [← hW1]
      clear hb1 hr1 hW1
      ((with_reducible refine (qtake_calls W1 S1 M1 w.heap.size 3 [a, c] HI2.out.1).mono ?_); rintro e' w2 hp)
      rcases hp with ⟨h0, -⟩ | ⟨i, e2, S2, M2, hf, rfl, hst, hq, hon, hsz⟩
      · simp at h0
      obtain ⟨rfl, rfl⟩ := take2 HKA.out HKC.out hf
      have HI3 : Hid (QI w w2 S2 M2 w.heap.size [a] 3) := hide (HI2.out.step hst hq)
      have HB3 := hide (HB2.out.qs hst)
      have ic := HIC.out
      rw [ic]
      clear hf hst hq hon hsz ic
      go_wp2_with fail
      obtain ⟨W2, hW2⟩ : ∃ W2, W2 = w2.alloc (Obj.cells #[Value.bool e2.s, Value.slice e2.A e2.n e2.c, Value.bool false, Value.slice e2.A' e2.n' e2.c'] 35) := ⟨_, rfl⟩
      have hb2 : Later w2 W2 := by rw [hW2]; exact (Later.refl _).alloc _
      have HB4 := hide (HB3.out.later hb2)
      have HI4 := hide (HI3.out.later hb2)
      rw [← hW2]
      clear hb2 hW2
      ((with_reducible refine (qleast_calls W2 S2 M2 w.heap.size 3 [a] HI4.out.1).mono ?_); rintro e' w3 ⟨b3, hp⟩)
      rcases hp with ⟨h0, -⟩ | ⟨i, e3, hf, rfl⟩
      · simp at h0
      obtain ⟨rfl, rfl⟩ := take1 hf
      have HI5 := hide (HI4.out.later b3)
      have HB5 := hide (HB4.out.later b3)
      clear hf b3
      go_wp2_with fail
      obtain ⟨W3, hW3⟩ : ∃ W3, W3 = w3.alloc (Obj.cells #[Value.bool e3.s, Value.slice e3.A e3.n e3.c, Value.bool false, Value.slice e3.A' e3.n' e3.c'] 35) := ⟨_, rfl⟩
      have hb3 : Later w3 W3 := by rw [hW3]; exact (Later.refl _).alloc _
      have hr3 : Row W3 w3.heap.size 35 [.bool e3.s, .slice e3.A e3.n e3.c, .bool false, .slice e3.A' e3.n' e3.c'] := by rw [hW3]; exact Row.new _ _ _
      have hka := HI5.out.1.key (e := e3) (by simp)
      have HSA := hide hka.2
      have HB6 := hide (((HB5.out.later hb3).and ((hka.1.later hb3).mono (fun x hx _ => hx.2))).and (On.of_row (P := fun x => ¬ M2 x) hr3 (fun h => Nat.lt_irrefl _ (HI5.out.1.mlt _ h)) (fun W h => h)))
      have HI6 := hide (HI5.out.later hb3)
      rw [← hW3]
      clear hb3 hr3 hW3 hka
      ((with_reducible refine (lawof_calls W3 1 (by omega) (by omega) 1 div_1).mono ?_); rintro e' w4 ⟨v4, rfl, o4, b4⟩)
      have HI7 := hide (HI6.out.cut.later b4)
      have HB7 := hide (HB6.out.later b4)
      have HO4 : Hid (On w4 (fun x => ¬ (S2 x ∧ x < W3.heap.size)) (fun W => RawR W v4 1 50)) := hide (((On.ownR o4).map (fun W h => OwnR.raw h (sized_1.mono (by omega)))).mono (fun x hx _ h => by have := h.2; omega))
      clear b4 o4
      go_wp2_with fail
      ((with_reducible refine (qdrop_calls w4 _ M2 w.heap.size 3 [e3] v4 1 HI7.out.1 HO4.out).mono ?_); rintro e' w5 ⟨rfl, S5, M5, hst, hq⟩)
      have hna : notAbove 1 [e3] = [] := by
        have hlt : (1 : Rat) < e3.key := by rw [HKA.out]; decide +kernel
        simp [notAbove, hlt]
      have hval : (([e3].length : Nat) : Int) - (((notAbove 1 [e3]).length : Nat) : Int) = 1 := by rw [hna]; rfl
      rw [hna] at hq
      rw [hval]
      have HI8 : Hid (QI w w5 S5 M5 w.heap.size [] 3) := hide (HI7.out.step hst hq)
      have HB8 := hide (HB7.out.qs hst)
      clear hst hq hna hval
      go_wp2_with fail
      ((with_reducible refine (qtake_calls w5 S5 M5 w.heap.size 3 [] HI8.out.1).mono ?_); rintro e' w6 hp)
      rcases hp with ⟨-, v6, rfl, o6, b6⟩ | ⟨i, e9, S9, M9, hf, -⟩
      rotate_left
      · exact (take0 hf).elim
      obtain ⟨s6, A6, n6, c6, A6', n6', c6', rfl, -⟩ := o6.open_
      have HI9 := hide (HI8.out.later b6)
      have HB9 := hide (HB8.out.later b6)
      clear o6 b6
      go_upto_region 13 with fail
      obtain ⟨W6, hW6⟩ : ∃ W6, W6 = w6.alloc (Obj.cells #[Value.bool s6, Value.slice A6 n6 c6, Value.bool false, Value.slice A6' n6' c6'] 35) := ⟨_, rfl⟩
      have hd : Later w6 W6.drew := by rw [hW6]; exact ((Later.refl w6).alloc _).drew
      rw [← hW6]
      have HOE : Hid (∀ W', Later W6.drew W' → OwnR W' 0 (.agg #[.bool e.s, .slice e.A e.n e.c, .bool false, .slice e.A' e.n' e.c']) e.key) := hide fun W' h => ((HB9.out.later hd).now.1.1.1).later h
      have HOE3 : Hid (∀ W', Later W6.drew W' → OwnR W' 0 (.agg #[.bool e3.s, .slice e3.A e3.n e3.c, .bool false, .slice e3.A' e3.n' e3.c']) e3.key) := hide fun W' h => ((HB9.out.later hd).now.1.2).later h
      have hr1 := (HB9.out.later hd).now.1.1.2
      have hr3 := (HB9.out.later hd).now.2
      have HIA' := hide (HI9.out.later hd)
      have HT1 : Hid (∀ w', Later W6.drew w' → w'.cell? ⟨w1.heap.size, 0, none⟩ = some (.bool e.s) ∧ w'.cell? ⟨w1.heap.size, 1, none⟩ = some (.slice e.A e.n e.c) ∧ w'.cell? ⟨w1.heap.size, 2, none⟩ = some (.bool false) ∧ w'.cell? ⟨w1.heap.size, 3, none⟩ = some (.slice e.A' e.n' e.c') ∧ w'.cell? ⟨w3.heap.size, 0, none⟩ = some (.bool e3.s) ∧ w'.cell? ⟨w3.heap.size, 1, none⟩ = some (.slice e3.A e3.n e3.c) ∧ w'.cell? ⟨w3.heap.size, 2, none⟩ = some (.bool false) ∧ w'.cell? ⟨w3.heap.size, 3, none⟩ = some (.slice e3.A' e3.n' e3.c')) :=
        hide fun w' hb => ⟨(hr1.later hb).cell rfl, (hr1.later hb).cell rfl, (hr1.later hb).cell rfl, (hr1.later hb).cell rfl, (hr3.later hb).cell rfl, (hr3.later hb).cell rfl, (hr3.later hb).cell rfl, (hr3.later hb).cell rfl⟩

      clear hr1 hr3 hd hW6
      have hmx : Try.prog.follows .mixedOrders = true := by kernel_rfl
      refine wp_region_N (fun w' => w'.cell? ⟨w1.heap.size, 0, none⟩ = some (.bool e.s) ∧ w'.cell? ⟨w1.heap.size, 1, none⟩ = some (.slice e.A e.n e.c) ∧ w'.cell? ⟨w1.heap.size, 2, none⟩ = some (.bool false) ∧ w'.cell? ⟨w1.heap.size, 3, none⟩ = some (.slice e.A' e.n' e.c') ∧ w'.cell? ⟨w3.heap.size, 0, none⟩ = some (.bool e3.s) ∧ w'.cell? ⟨w3.heap.size, 1, none⟩ = some (.slice e3.A e3.n e3.c) ∧ w'.cell? ⟨w3.heap.size, 2, none⟩ = some (.bool false) ∧ w'.cell? ⟨w3.heap.size, 3, none⟩ = some (.slice e3.A' e3.n' e3.c')) [] hmx (HT1.out _ (Later.refl _)) (fun hHeld => ?_)
      refine wpAnyN_takeD (some 56) (by rfl) (i := 0) (oi := _) (v := ?_) rfl (by kernel_rfl) (by kernel_rfl) (by kernel_rfl) (by kernel_rfl) (fun _ _ _ h => h) (Or.inl ⟨by rfl, ?_⟩) (by assumption) ?_
      rotate_left
      · intro w hSw; (try dsimp only at hSw); go_simp
        first | done | with_reducible rfl
      try simp only [Act.put, List.setIfInBounds_toArray, List.set_cons_zero, List.set_cons_succ]
      refine wpAnyN_takeD (some 57) (by rfl) (i := 1) (oi := _) (v := ?_) rfl (by kernel_rfl) (by kernel_rfl) (by kernel_rfl) (by kernel_rfl) (fun _ _ _ h => h) (Or.inl ⟨by rfl, ?_⟩) (by assumption) ?_
      rotate_left
      · intro w hSw; (try dsimp only at hSw); go_simp
        first | done | with_reducible rfl
      try simp only [Act.put, List.setIfInBounds_toArray, List.set_cons_zero, List.set_cons_succ]
      refine wpAnyN_takeD (some 58) (by rfl) (i := 2) (oi := _) (v := ?_) rfl (by kernel_rfl) (by kernel_rfl) (by kernel_rfl) (by kernel_rfl) (fun _ _ _ h => h) (Or.inl ⟨by rfl, ?_⟩) (by assumption) ?_
      rotate_left
      · intro w hSw; (try dsimp only at hSw); go_simp
        first | done | with_reducible rfl
      try simp only [Act.put, List.setIfInBounds_toArray, List.set_cons_zero, List.set_cons_succ]
      refine wpAnyN_takeD (some 59) (by rfl) (i := 3) (oi := _) (v := ?_) rfl (by kernel_rfl) (by kernel_rfl) (by kernel_rfl) (by kernel_rfl) (fun _ _ _ h => h) (Or.inl ⟨by rfl, ?_⟩) (by assumption) ?_
      rotate_left
      · intro w hSw; (try dsimp only at hSw); go_simp
        first | done | with_reducible rfl
      try simp only [Act.put, List.setIfInBounds_toArray, List.set_cons_zero, List.set_cons_succ]
      refine wpAnyN_takeD (some 60) (by rfl) (i := 4) (oi := _) (v := ?_) rfl (by kernel_rfl) (by kernel_rfl) (by kernel_rfl) (by kernel_rfl) (fun _ _ _ h => h) (Or.inl ⟨by rfl, ?_⟩) (by assumption) ?_
      rotate_left
      · intro w hSw; (try dsimp only at hSw); go_simp
        first | done | with_reducible rfl
      try simp only [Act.put, List.setIfInBounds_toArray, List.set_cons_zero, List.set_cons_succ]
      refine wpAnyN_takeD (some 61) (by rfl) (i := 5) (oi := _) (v := ?_) rfl (by kernel_rfl) (by kernel_rfl) (by kernel_rfl) (by kernel_rfl) (fun _ _ _ h => h) (Or.inl ⟨by rfl, ?_⟩) (by assumption) ?_
      rotate_left
      · intro w hSw; (try dsimp only at hSw); go_simp
        first | done | with_reducible rfl
      try simp only [Act.put, List.setIfInBounds_toArray, List.set_cons_zero, List.set_cons_succ]
      refine wpAnyN_takeD (some 62) (by rfl) (i := 6) (oi := _) (v := ?_) rfl (by kernel_rfl) (by kernel_rfl) (by kernel_rfl) (by kernel_rfl) (fun _ _ _ h => h) (Or.inl ⟨by rfl, ?_⟩) (by assumption) ?_
      rotate_left
      · intro w hSw; (try dsimp only at hSw); go_simp
        first | done | with_reducible rfl
      try simp only [Act.put, List.setIfInBounds_toArray, List.set_cons_zero, List.set_cons_succ]
      refine wpAnyN_ready (rs := [7]) (by kernel_rfl) (by simp) ?_
      refine AllReadyN.held rfl (by rfl) (fun K hK => ?_) AllReadyN.nil
      go_simp
      ((with_reducible refine (lawof_calls _ 1 (by omega) (by omega) 1 div_1).mono ?_); rintro e' w107 ⟨v107, rfl, o107, b107⟩)
      obtain ⟨s107, P107, q107, e107, P107', q107', e107', rfl, o107⟩ := o107.open_; have O107 := hide o107; clear o107
      have l7 : Later W6.drew w107 := Later.trans (Later.refl _) b107
      refine hK.out _ _ ?_ (fun hHeld => ?_)
      · exact HT1.out _ l7
      clear hK K
      try simp only [Act.put, List.setIfInBounds_toArray, List.set_cons_zero, List.set_cons_succ]
      refine wpAnyN_ready (rs := [8]) (by kernel_rfl) (by simp) ?_
      refine AllReadyN.held rfl (by rfl) (fun K hK => ?_) AllReadyN.nil
      go_simp
      ((with_reducible refine (qsame_calls _ _ _ e.key 1 0 _ 100 2 (HOE.out _ l7) O107.out HSB.out (sized_1.mono (by omega)) (by omega) (by omega) true (by rw [HKB.out]; decide)).mono ?_); rintro e' w108 ⟨rfl, b108⟩)
      have l8 : Later W6.drew w108 := Later.trans l7 b108
      refine hK.out _ _ ?_ (fun hHeld => ?_)
      · exact HT1.out _ l8
      clear hK K
      try simp only [Act.put, List.setIfInBounds_toArray, List.set_cons_zero, List.set_cons_succ]
      refine wpAnyN_takeD (some 65) (by rfl) (i := 9) (oi := _) (v := ?_) rfl (by kernel_rfl) (by kernel_rfl) (by kernel_rfl) (by kernel_rfl) (fun _ _ _ h => h) (Or.inl ⟨by rfl, ?_⟩) (by assumption) ?_
      rotate_left
      · intro w hSw; (try dsimp only at hSw); go_simp
        first | done | with_reducible rfl
      try simp only [Act.put, List.setIfInBounds_toArray, List.set_cons_zero, List.set_cons_succ]
      refine wpAnyN_takeD (some 66) (by rfl) (i := 10) (oi := _) (v := ?_) rfl (by kernel_rfl) (by kernel_rfl) (by kernel_rfl) (by kernel_rfl) (fun _ _ _ h => h) (Or.inl ⟨by rfl, ?_⟩) (by assumption) ?_
      rotate_left
      · intro w hSw; (try dsimp only at hSw); go_simp
        first | done | with_reducible rfl
      try simp only [Act.put, List.setIfInBounds_toArray, List.set_cons_zero, List.set_cons_succ]
      refine wpAnyN_takeD (some 67) (by rfl) (i := 11) (oi := _) (v := ?_) rfl (by kernel_rfl) (by kernel_rfl) (by kernel_rfl) (by kernel_rfl) (fun _ _ _ h => h) (Or.inl ⟨by rfl, ?_⟩) (by assumption) ?_
      rotate_left
      · intro w hSw; (try dsimp only at hSw); go_simp
        first | done | with_reducible rfl
      try simp only [Act.put, List.setIfInBounds_toArray, List.set_cons_zero, List.set_cons_succ]
      refine wpAnyN_takeD (some 68) (by rfl) (i := 12) (oi := _) (v := ?_) rfl (by kernel_rfl) (by kernel_rfl) (by kernel_rfl) (by kernel_rfl) (fun _ _ _ h => h) (Or.inl ⟨by rfl, ?_⟩) (by assumption) ?_
      rotate_left
      · intro w hSw; (try dsimp only at hSw); go_simp
        first | done | with_reducible rfl
      try simp only [Act.put, List.setIfInBounds_toArray, List.set_cons_zero, List.set_cons_succ]
      refine wpAnyN_takeD (some 69) (by rfl) (i := 13) (oi := _) (v := ?_) rfl (by kernel_rfl) (by kernel_rfl) (by kernel_rfl) (by kernel_rfl) (fun _ _ _ h => h) (Or.inl ⟨by rfl, ?_⟩) (by assumption) ?_
      rotate_left
      · intro w hSw; (try dsimp only at hSw); go_simp
        first | done | with_reducible rfl
      try simp only [Act.put, List.setIfInBounds_toArray, List.set_cons_zero, List.set_cons_succ]
      refine wpAnyN_takeD (some 70) (by rfl) (i := 14) (oi := _) (v := ?_) rfl (by kernel_rfl) (by kernel_rfl) (by kernel_rfl) (by kernel_rfl) (fun _ _ _ h => h) (Or.inl ⟨by rfl, ?_⟩) (by assumption) ?_
      rotate_left
      · intro w hSw; (try dsimp only at hSw); go_simp
        first | done | with_reducible rfl
      try simp only [Act.put, List.setIfInBounds_toArray, List.set_cons_zero, List.set_cons_succ]
      refine wpAnyN_takeD (some 71) (by rfl) (i := 15) (oi := _) (v := ?_) rfl (by kernel_rfl) (by kernel_rfl) (by kernel_rfl) (by kernel_rfl) (fun _ _ _ h => h) (Or.inl ⟨by rfl, ?_⟩) (by assumption) ?_
      rotate_left
      · intro w hSw; (try dsimp only at hSw); go_simp
        first | done | with_reducible rfl
      try simp only [Act.put, List.setIfInBounds_toArray, List.set_cons_zero, List.set_cons_succ]
      refine wpAnyN_takeD (some 72) (by rfl) (i := 16) (oi := _) (v := ?_) rfl (by kernel_rfl) (by kernel_rfl) (by kernel_rfl) (by kernel_rfl) (fun _ _ _ h => h) (Or.inl ⟨by rfl, ?_⟩) (by assumption) ?_
      rotate_left
      · intro w hSw; (try dsimp only at hSw); go_simp
        first | done | with_reducible rfl
      try simp only [Act.put, List.setIfInBounds_toArray, List.set_cons_zero, List.set_cons_succ]
      refine wpAnyN_takeD (some 73) (by rfl) (i := 17) (oi := _) (v := ?_) rfl (by kernel_rfl) (by kernel_rfl) (by kernel_rfl) (by kernel_rfl) (fun _ _ _ h => h) (Or.inl ⟨by rfl, ?_⟩) (by assumption) ?_
      rotate_left
      · intro w hSw; (try dsimp only at hSw); go_simp
        first | done | with_reducible rfl
      try simp only [Act.put, List.setIfInBounds_toArray, List.set_cons_zero, List.set_cons_succ]
      refine wpAnyN_takeD (some 74) (by rfl) (i := 18) (oi := _) (v := ?_) rfl (by kernel_rfl) (by kernel_rfl) (by kernel_rfl) (by kernel_rfl) (fun _ _ _ h => h) (Or.inl ⟨by rfl, ?_⟩) (by assumption) ?_
      rotate_left
      · intro w hSw; (try dsimp only at hSw); go_simp
        first | done | with_reducible rfl
      try simp only [Act.put, List.setIfInBounds_toArray, List.set_cons_zero, List.set_cons_succ]
      refine wpAnyN_ready (rs := [19]) (by kernel_rfl) (by simp) ?_
      refine AllReadyN.held rfl (by rfl) (fun K hK => ?_) AllReadyN.nil
      go_simp
      ((with_reducible refine (lawof_calls _ 2 (by omega) (by omega) 2 div_2).mono ?_); rintro e' w119 ⟨v119, rfl, o119, b119⟩)
      obtain ⟨s119, P119, q119, e119, P119', q119', e119', rfl, o119⟩ := o119.open_; have O119 := hide o119; clear o119
      have l19 : Later W6.drew w119 := Later.trans l8 b119
      refine hK.out _ _ ?_ (fun hHeld => ?_)
      · exact HT1.out _ l19
      clear hK K
      try simp only [Act.put, List.setIfInBounds_toArray, List.set_cons_zero, List.set_cons_succ]
      refine wpAnyN_ready (rs := [20]) (by kernel_rfl) (by simp) ?_
      refine AllReadyN.held rfl (by rfl) (fun K hK => ?_) AllReadyN.nil
      go_simp
      ((with_reducible refine (qsame_calls _ _ _ e3.key 2 0 _ 100 2 (HOE3.out _ l19) O119.out HSA.out (sized_2.mono (by omega)) (by omega) (by omega) true (by rw [HKA.out]; decide)).mono ?_); rintro e' w120 ⟨rfl, b120⟩)
      have l20 : Later W6.drew w120 := Later.trans l19 b120
      refine hK.out _ _ ?_ (fun hHeld => ?_)
      · exact HT1.out _ l20
      clear hK K
      try simp only [Act.put, List.setIfInBounds_toArray, List.set_cons_zero, List.set_cons_succ]
      refine wpAnyN_takeD (some 77) (by rfl) (i := 21) (oi := _) (v := ?_) rfl (by kernel_rfl) (by kernel_rfl) (by kernel_rfl) (by kernel_rfl) (fun _ _ _ h => h) (Or.inl ⟨by rfl, ?_⟩) (by assumption) ?_
      rotate_left
      · intro w hSw; (try dsimp only at hSw); go_simp
        first | done | with_reducible rfl
      try simp only [Act.put, List.setIfInBounds_toArray, List.set_cons_zero, List.set_cons_succ]
      refine wpAnyN_takeD (some 78) (by rfl) (i := 22) (oi := _) (v := ?_) rfl (by kernel_rfl) (by kernel_rfl) (by kernel_rfl) (by kernel_rfl) (fun _ _ _ h => h) (Or.inl ⟨by rfl, ?_⟩) (by assumption) ?_
      rotate_left
      · intro w hSw; (try dsimp only at hSw); go_simp
        first | done | with_reducible rfl
      try simp only [Act.put, List.setIfInBounds_toArray, List.set_cons_zero, List.set_cons_succ]
      refine wpAnyN_takeD (some 79) (by rfl) (i := 23) (oi := _) (v := ?_) rfl (by kernel_rfl) (by kernel_rfl) (by kernel_rfl) (by kernel_rfl) (fun _ _ _ h => h) (Or.inl ⟨by rfl, ?_⟩) (by assumption) ?_
      rotate_left
      · intro w hSw; (try dsimp only at hSw); go_simp
        first | done | with_reducible rfl
      try simp only [Act.put, List.setIfInBounds_toArray, List.set_cons_zero, List.set_cons_succ]
      refine wpAnyN_takeD (some 80) (by rfl) (i := 24) (oi := _) (v := ?_) rfl (by kernel_rfl) (by kernel_rfl) (by kernel_rfl) (by kernel_rfl) (fun _ _ _ h => h) (Or.inl ⟨by rfl, ?_⟩) (by assumption) ?_
      rotate_left
      · intro w hSw; (try dsimp only at hSw); go_simp
        first | done | with_reducible rfl
      try simp only [Act.put, List.setIfInBounds_toArray, List.set_cons_zero, List.set_cons_succ]
      refine wpAnyN_takeD (some 81) (by rfl) (i := 25) (oi := _) (v := ?_) rfl (by kernel_rfl) (by kernel_rfl) (by kernel_rfl) (by kernel_rfl) (fun _ _ _ h => h) (Or.inl ⟨by rfl, ?_⟩) (by assumption) ?_
      rotate_left
      · intro w hSw; (try dsimp only at hSw); go_simp
        first | done | with_reducible rfl
      try simp only [Act.put, List.setIfInBounds_toArray, List.set_cons_zero, List.set_cons_succ]
      refine wpAnyN_takeD (some 82) (by rfl) (i := 26) (oi := _) (v := ?_) rfl (by kernel_rfl) (by kernel_rfl) (by kernel_rfl) (by kernel_rfl) (fun _ _ _ h => h) (Or.inl ⟨by rfl, ?_⟩) (by assumption) ?_
      rotate_left
      · intro w hSw; (try dsimp only at hSw); go_simp
        first | done | with_reducible rfl
      try simp only [Act.put, List.setIfInBounds_toArray, List.set_cons_zero, List.set_cons_succ]
      refine wpAnyN_takeD (some 83) (by rfl) (i := 27) (oi := _) (v := ?_) rfl (by kernel_rfl) (by kernel_rfl) (by kernel_rfl) (by kernel_rfl) (fun _ _ _ h => h) (Or.inl ⟨by rfl, ?_⟩) (by assumption) ?_
      rotate_left
      · intro w hSw; (try dsimp only at hSw); go_simp
        first | done | with_reducible rfl
      try simp only [Act.put, List.setIfInBounds_toArray, List.set_cons_zero, List.set_cons_succ]
      refine wpAnyN_takeD (some 84) (by rfl) (i := 28) (oi := _) (v := ?_) rfl (by kernel_rfl) (by kernel_rfl) (by kernel_rfl) (by kernel_rfl) (fun _ _ _ h => h) (Or.inl ⟨by rfl, ?_⟩) (by assumption) ?_
      rotate_left
      · intro w hSw; (try dsimp only at hSw); go_simp
        first | done | with_reducible rfl
      try simp only [Act.put, List.setIfInBounds_toArray, List.set_cons_zero, List.set_cons_succ]
      refine wpAnyN_takeD (some 85) (by rfl) (i := 29) (oi := _) (v := ?_) rfl (by kernel_rfl) (by kernel_rfl) (by kernel_rfl) (by kernel_rfl) (fun _ _ _ h => h) (Or.inl ⟨by rfl, ?_⟩) (by assumption) ?_
      rotate_left
      · intro w hSw; (try dsimp only at hSw); go_simp
        first | done | with_reducible rfl
      try simp only [Act.put, List.setIfInBounds_toArray, List.set_cons_zero, List.set_cons_succ]
      refine wpAnyN_takeD (some 86) (by rfl) (i := 30) (oi := _) (v := ?_) rfl (by kernel_rfl) (by kernel_rfl) (by kernel_rfl) (by kernel_rfl) (fun _ _ _ h => h) (Or.inl ⟨by rfl, ?_⟩) (by assumption) ?_
      rotate_left
      · intro w hSw; (try dsimp only at hSw); go_simp
        first | done | with_reducible rfl
      try simp only [Act.put, List.setIfInBounds_toArray, List.set_cons_zero, List.set_cons_succ]
      refine wpAnyN_takeD (some 87) (by rfl) (i := 31) (oi := _) (v := ?_) rfl (by kernel_rfl) (by kernel_rfl) (by kernel_rfl) (by kernel_rfl) (fun _ _ _ h => h) (Or.inl ⟨by rfl, ?_⟩) (by assumption) ?_
      rotate_left
      · intro w hSw; (try dsimp only at hSw); go_simp
        first | done | with_reducible rfl
      try simp only [Act.put, List.setIfInBounds_toArray, List.set_cons_zero, List.set_cons_succ]
      refine wpAnyN_ready (rs := [32]) (by kernel_rfl) (by simp) ?_
      refine AllReadyN.held rfl (by rfl) (fun K hK => ?_) AllReadyN.nil
      go_simp
      ((with_reducible refine (qlen_calls _ _ _ w.heap.size 3 [] (HIA'.out.later l20).1).mono ?_); rintro e' w132 ⟨rfl, b132⟩)
      have l32 : Later W6.drew w132 := Later.trans l20 b132
      refine hK.out _ _ ?_ (fun hHeld => ?_)
      · exact HT1.out _ l32
      clear hK K
      try simp only [Act.put, List.setIfInBounds_toArray, List.set_cons_zero, List.set_cons_succ]
      refine wpAnyN_takeD (some 89) (by rfl) (i := 33) (oi := _) (v := ?_) rfl (by kernel_rfl) (by kernel_rfl) (by kernel_rfl) (by kernel_rfl) (fun _ _ _ h => h) (Or.inl ⟨by rfl, ?_⟩) (by assumption) ?_
      rotate_left
      · intro w hSw; (try dsimp only at hSw); go_simp
        first | done | with_reducible rfl
      try simp only [Act.put, List.setIfInBounds_toArray, List.set_cons_zero, List.set_cons_succ]
      refine wpAnyN_takeD (some 90) (by rfl) (i := 34) (oi := _) (v := ?_) rfl (by kernel_rfl) (by kernel_rfl) (by kernel_rfl) (by kernel_rfl) (fun _ _ _ h => h) (Or.inl ⟨by rfl, ?_⟩) (by assumption) ?_
      rotate_left
      · intro w hSw; (try dsimp only at hSw); go_simp
        first | done | with_reducible rfl
      try simp only [Act.put, List.setIfInBounds_toArray, List.set_cons_zero, List.set_cons_succ]
      refine wpAnyN_takeD (some 0) (by rfl) (i := 35) (oi := _) (v := ?_) rfl (by kernel_rfl) (by kernel_rfl) (by kernel_rfl) (by kernel_rfl) (fun _ _ _ h => h) (Or.inl ⟨by rfl, ?_⟩) (by assumption) ?_
      rotate_left
      · intro w hSw; (try dsimp only at hSw); go_simp
        first | done | with_reducible rfl
      try simp only [Act.put, List.setIfInBounds_toArray, List.set_cons_zero, List.set_cons_succ]
      refine wpAnyN_done (by kernel_rfl) ?_ _
      go_wp2_with fail
      go_ret
      exact ⟨rfl, HIA'.out.late.trans l32⟩

end Go.Proofs.Ytbhohnhkephefaa
