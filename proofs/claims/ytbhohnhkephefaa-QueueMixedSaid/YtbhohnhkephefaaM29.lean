import Derived.Test.YtbhohnhkephefaaM27
import Derived.Test.YtbhohnhkephefaaM17
import Derived.Test.YtbhohnhkephefaaM28

/- QueueMixed: the walk. -/
set_option linter.unusedVariables false
set_option linter.unusedSimpArgs false
set_option maxRecDepth 100000
namespace Go.Proofs.Ytbhohnhkephefaa
open Go.RowKit Go.Shelf
attribute [local go_sem ↓] Go.wp_at_zero Go.wp_at_succ

theorem On.of_row2 {W : World} {g : Nat} {t : TypeId} {cs : List Value} {P : Nat → Prop} (h : Row W g t cs) (hg : P g) : On W P (fun W => Row W g t cs) := On.of_row h hg (fun _ h => h)
/-- two queues apart -/
structure Two (w0 w : World) (SA MA : Nat → Prop) (ga : Nat) (la : List Ent) (pa : Nat) (SB MB : Nat → Prop) (gb : Nat) (lb : List Ent) (pb : Nat) : Prop where
  a : QI w0 w SA MA ga la pa
  b : QI w0 w SB MB gb lb pb
  dis : ∀ x, SA x → ¬ SB x
section
variable {w0 w w' : World} {SA MA SA' MA' SB MB SB' MB' : Nat → Prop} {ga gb pa pb pa' pb' : Nat} {la lb la' lb' : List Ent} {T : World → Prop}
theorem Two.swap (h : Two w0 w SA MA ga la pa SB MB gb lb pb) : Two w0 w SB MB gb lb pb SA MA ga la pa := ⟨h.b, h.a, fun x hb ha => h.dis x ha hb⟩
theorem Two.later (h : Two w0 w SA MA ga la pa SB MB gb lb pb) (k : Later w w') : Two w0 w' SA MA ga la pa SB MB gb lb pb := ⟨h.a.later k, h.b.later k, h.dis⟩
theorem Two.stepA (h : Two w0 w SA MA ga la pa SB MB gb lb pb) (k : QStep w SA MA w' SA' MA') (q : Qs w' SA' MA' ga la' pa') : Two w0 w' SA' MA' ga la' pa' (fun x => SB x ∧ x < w.heap.size) MB gb lb pb :=
  ⟨h.a.step k q, ⟨h.b.q.tch k.2.2 (fun x _ hB hM => h.dis x (h.a.q.sub x hM) hB), (h.a.step k q).late, fun b hb => h.b.since b hb.1⟩, fun x hx hB => (k.1 x hx).elim (fun h1 => h.dis x h1 hB.1) (fun h2 => by have := hB.2; omega)⟩
theorem Two.stepB (h : Two w0 w SA MA ga la pa SB MB gb lb pb) (k : QStep w SB MB w' SB' MB') (q : Qs w' SB' MB' gb lb' pb') : Two w0 w' (fun x => SA x ∧ x < w.heap.size) MA ga la pa SB' MB' gb lb' pb' := (h.swap.stepA k q).swap
theorem Two.ma (h : Two w0 w SA MA ga la pa SB MB gb lb pb) {x : Nat} (hx : SA x) : ¬ MB x := fun hm => h.dis x hx (h.b.q.sub x hm)
theorem Two.mb (h : Two w0 w SA MA ga la pa SB MB gb lb pb) {x : Nat} (hx : SB x) : ¬ MA x := fun hm => h.dis x (h.a.q.sub x hm) hx
theorem On.twoA (h : On w (fun x => ¬ MA x ∧ ¬ MB x) T) (k : QStep w SA MA w' SA' MA') : On w' (fun x => ¬ MA' x ∧ ¬ MB x) T := (h.qstep k (fun _ h => h.1)).mono (fun b hb _ => ⟨hb.2, hb.1.2⟩)
theorem On.twoB (h : On w (fun x => ¬ MA x ∧ ¬ MB x) T) (k : QStep w SB MB w' SB' MB') : On w' (fun x => ¬ MA x ∧ ¬ MB' x) T := (h.qstep k (fun _ h => h.2)).mono (fun b hb _ => ⟨hb.1.1, hb.2⟩)
end
def ki (e : Ent) : Rat × Int := (e.key, e.id)
theorem first_same {la lb : List Ent} {i k : Nat} {e o : Ent} (hm : la.map ki = lb.map ki) (ha : FirstAt la i e) (hb : FirstAt lb k o) : i = k ∧ e.key = o.key ∧ e.id = o.id ∧ (la.eraseIdx i).map ki = (lb.eraseIdx k).map ki := by
  have get : ∀ (m : Nat) (x : Ent), la[m]? = some x → ∃ y, lb[m]? = some y ∧ ki x = ki y := fun m x hx => by
    have h1 : (la.map ki)[m]? = some (ki x) := by rw [List.getElem?_map, hx]; rfl
    rw [hm, List.getElem?_map] at h1
    cases hy : lb[m]? with
    | none => rw [hy] at h1; simp at h1
    | some y => rw [hy] at h1; exact ⟨y, rfl, by simpa using h1.symm⟩
  have get' : ∀ (m : Nat) (x : Ent), lb[m]? = some x → ∃ y, la[m]? = some y ∧ ki x = ki y := fun m x hx => by
    have h1 : (lb.map ki)[m]? = some (ki x) := by rw [List.getElem?_map, hx]; rfl
    rw [← hm, List.getElem?_map] at h1
    cases hy : la[m]? with
    | none => rw [hy] at h1; simp at h1
    | some y => rw [hy] at h1; exact ⟨y, rfl, by simpa using h1.symm⟩
  obtain ⟨y, hy, hey⟩ := get i e ha.1
  obtain ⟨z, hz, hoz⟩ := get' k o hb.1
  have h1 := ha.2 k z hz
  have h2 := hb.2 i y hy
  have e1 : e.key = y.key := congrArg Prod.fst hey
  have e2 : o.key = z.key := congrArg Prod.fst hoz
  have hik : i = k := by
    rcases Nat.lt_trichotomy i k with h | h | h
    · have := h2.2 h; grind
    · exact h
    · have := h1.2 h; grind
  subst hik
  have hyo : y = o := by rw [hb.1] at hy; exact (Option.some.inj hy).symm
  subst hyo
  refine ⟨rfl, e1, congrArg Prod.snd hey, ?_⟩
  have er : ∀ (l : List Ent) (i : Nat), (l.eraseIdx i).map ki = (l.map ki).eraseIdx i := fun l i => by
    apply List.ext_getElem?
    intro m
    rw [List.getElem?_map, List.getElem?_eraseIdx, List.getElem?_eraseIdx]
    split <;> simp
  rw [er, er, hm]
theorem first_uniq {l : List Ent} {i k : Nat} {e o : Ent} (ha : FirstAt l i e) (hb : FirstAt l k o) : e = o := by
  obtain ⟨rfl, -⟩ := first_same rfl ha hb
  have := ha.1; rw [hb.1] at this; exact (Option.some.inj this).symm
theorem cmp_le {a b : Rat} {c : Int} (h : cmpQ a b = c) (hle : b ≤ a) : decide (c < 0) = false := by
  unfold cmpQ at h
  rw [if_neg (by grind)] at h
  split at h <;> simp <;> omega
set_option maxHeartbeats 16000000 in
theorem queuemixed_walk (w : World) (va : Value) (keys : List Rat) (z : Int) (ha : Rats EAny w va keys) (hz : (Lit.int .u8 z).wf = true) :
    Calls Try.prog 6 #[va, .int .u8 z] w (RetV w (.bool true)) := by
  have HA := hide ha
  obtain ⟨A0, na, ca, rfl, hna, -⟩ := ha.form
  have HNA := hide hna
  clear ha hna
  have hz0 : 0 ≤ z := by simp [Lit.wf, IntKind.min, IntKind.max, IntKind.bits, IntKind.signed] at hz; omega
  have hz1 : z ≤ 255 := by simp [Lit.wf, IntKind.min, IntKind.max, IntKind.bits, IntKind.signed] at hz; omega
  clear hz
  go_enter Try.func6, Try.ntmps6
  go_wp2_with fail
  ((with_reducible refine (qawake_calls w).mono ?_); rintro e' w1 ⟨rfl, b1⟩)
  have HL1 := hide b1
  clear b1
  go_wp2_with fail
  refine (few_calls w1 _ keys 100 (HA.out.later EAny.later HL1.out) (by omega)).mono ?_
  rintro e w2 ⟨t, rfl, hf, hw⟩
  subst hw
  cases t with
  | false =>
    go_wp2_with fail
    go_ret
    exact ⟨rfl, HL1.out⟩
  | true =>
  have HFA := hide (hf rfl)
  clear hf
  go_wp2_with fail
  ((with_reducible refine (qnew_calls w1).mono ?_); rintro e' w3 ⟨rfl, b3, q3⟩)
  have HI3 : Hid (QI w1 w3 (fun b => w1.heap.size ≤ b) (fun b => b = w1.heap.size) w1.heap.size [] 0) := hide ⟨q3, b3, fun b hb => hb⟩
  clear q3
  go_wp2_with fail
  ((with_reducible refine (qnew_calls w3).mono ?_); rintro e' w4 ⟨rfl, b4, q4⟩)
  have hs3 : w1.heap.size < w3.heap.size := HI3.out.1.mlt _ rfl
  obtain ⟨ga, hga⟩ : ∃ g, g = w1.heap.size := ⟨_, rfl⟩
  obtain ⟨gb, hgb⟩ : ∃ g, g = w3.heap.size := ⟨_, rfl⟩
  have HT4 : Hid (Two w1 w4 (fun b => w1.heap.size ≤ b ∧ b < w3.heap.size) (fun b => b = w1.heap.size) w1.heap.size [] 0 (fun b => w3.heap.size ≤ b) (fun b => b = w3.heap.size) w3.heap.size [] 0) :=
    hide ⟨HI3.out.cut.later b4, ⟨q4, b3.trans b4, fun b hb => by omega⟩, fun x h1 h2 => by omega⟩
  have HB4 : Hid (On w4 (fun x => ¬ (x = w1.heap.size) ∧ ¬ (x = w3.heap.size)) (fun W => Rats (ERaw 1) W (.slice A0 na ca) keys)) := hide ((((On.ratsRaw HFA.out.2).later b3).later b4).mono (fun b hb _ => ⟨fun e => by omega, fun e => by omega⟩))
  have HNN : Hid (na ≤ 100) := hide (by rw [HNA.out]; exact HFA.out.1)
  rw [← hga] at HT4 HB4
  rw [← hgb] at HT4 HB4
  rw [← hga, ← hgb]
  clear b3 q4 b4 hs3 hga hgb HI3
  go_wp2_with fail
  obtain ⟨ev, hev⟩ : ∃ ev, ev = 1 + z % 5 := ⟨_, rfl⟩
  rw [← hev]
  have hev1 : 1 ≤ ev := by omega
  have hev5 : ev ≤ 5 := by omega
  clear hev
  go_loopw [8] (fun iv wr => ∃ (j : Nat) (SA MA : Nat → Prop) (la : List Ent) (SB MB : Nat → Prop) (lb : List Ent), j ≤ na ∧ iv = .int .i64 (j : Int) ∧ Hid (Two w1 wr SA MA ga la j SB MB gb lb j) ∧ Hid (la.map ki = lb.map ki) ∧ Hid (On wr (fun x => ¬ MA x ∧ ¬ MB x) (fun W => Rats (ERaw 1) W (.slice A0 na ca) keys))) (fun iv _ => (na - intOf iv).toNat)
  case atStart => exact ⟨0, _, _, [], _, _, [], by omega, rfl, HT4, hide rfl, HB4⟩
  case round =>
    obtain ⟨j, SA, MA, la, SB, MB, lb, hj, rfl, HT, HM, HB⟩ := hrel
    have hn100 := HNN.out
    by_cases hjn : j < na
    · obtain ⟨x, hx⟩ : ∃ x, keys[j]? = some x := ⟨keys[j]'(by have := HNA.out; omega), List.getElem?_eq_getElem _⟩
      obtain ⟨b1, off1, sx1, X1, nx1, cx1, sx1', X1', nx1', cx1', rfl, x1, x2, x3, x4, ex⟩ := HB.out.now.at_ hx
      have EX := hide ex; have HX := hide hx
      have hj0 : (0 : Int) ≤ (j : Int) := by omega
      have hj1 : (j : Int) < na := by omega
      clear ex hx
      go_wp2_with fail
      have hpc := qput_calls wr SA MA ga j la _ x j HT.out.a.q (by omega) (RawR.mono EX.out (by omega : 1 ≤ 50))
      ((with_reducible refine hpc.mono ?_); rintro e' w5 ⟨rfl, S', M', ent, hst, hk, hi, hq⟩)
      have HT5 := hide (HT.out.stepA hst hq)
      have HB5 := hide (HB.out.twoA hst)
      have HK := hide hk; have HI := hide hi
      clear hpc hst hk hi hq x1 x2 x3 x4 EX
      obtain ⟨b2, off2, sx2, X2, nx2, cx2, sx2', X2', nx2', cx2', hA, x1, x2, x3, x4, ex⟩ := HB5.out.now.at_ HX.out
      injection hA with hA; injection hA with hA1 hA2; subst hA1 hA2
      have EX := hide ex
      clear ex
      go_wp2_with fail
      have hpc := qput_calls w5 _ MB gb j lb _ x j HT5.out.b.q (by omega) (RawR.mono EX.out (by omega : 1 ≤ 50))
      ((with_reducible refine hpc.mono ?_); rintro e' w6 ⟨rfl, S2, M2, ent2, hst, hk, hi, hq⟩)
      have HT6 := hide (HT5.out.stepB hst hq)
      have HB6 := hide (HB5.out.twoB hst)
      have HM6 : Hid ((la ++ [ent]).map ki = (lb ++ [ent2]).map ki) := hide (by rw [List.map_append, List.map_append, HM.out]; simp [ki, hk, hi, HK.out, HI.out])
      have hne : la ++ [ent] ≠ [] := by simp
      have hne2 : lb ++ [ent2] ≠ [] := by simp
      obtain ⟨LA, hLA⟩ : ∃ L, L = la ++ [ent] := ⟨_, rfl⟩
      obtain ⟨LB, hLB⟩ : ∃ L, L = lb ++ [ent2] := ⟨_, rfl⟩
      rw [← hLA] at HT6 HM6 hne
      rw [← hLB] at HT6 HM6 hne2
      have HNE := hide hne; have HNE2 := hide hne2
      clear hpc hst hk hi hq x1 x2 x3 x4 EX hne hne2 hLA hLB
      by_cases hrem : 0 < (j : Int) % ev
      · have t3 : decide (0 < (j : Int) % ev) = true := by simp [hrem]
        go_wp2_with fail
        exact ⟨⟨j + 1, _, _, LA, _, _, LB, by omega, by go_num, HT6, HM6, HB6⟩, by simp [intOf]; omega⟩
      · have t3 : decide (0 < (j : Int) % ev) = false := by simp; omega
        go_upto_region 16 with fail
        go_wp2_with fail
        ((with_reducible refine (qleast_calls w6 _ _ ga (j + 1) LA HT6.out.a.q).mono ?_); rintro e' w7 ⟨b7, hp⟩)
        rcases hp with ⟨h0, -⟩ | ⟨i0, e0, hf0, rfl⟩
        · exact absurd h0 HNE.out
        have HF0 := hide hf0
        have HT7 := hide (HT6.out.later b7)
        have HB7 := hide (HB6.out.later b7)
        clear hf0 b7
        go_wp2_with fail
        obtain ⟨W7, hW7⟩ : ∃ W7, W7 = w7.alloc (Obj.cells #[Value.bool e0.s, Value.slice e0.A e0.n e0.c, Value.bool false, Value.slice e0.A' e0.n' e0.c'] 35) := ⟨_, rfl⟩
        obtain ⟨g7, hg7⟩ : ∃ g7, g7 = w7.heap.size := ⟨_, rfl⟩
        have hb : Later w7 W7 := by rw [hW7]; exact (Later.refl _).alloc _
        have hr : Row W7 g7 35 [.bool e0.s, .slice e0.A e0.n e0.c, .bool false, .slice e0.A' e0.n' e0.c'] := by rw [hW7, hg7]; exact Row.new _ _ _
        rw [← hW7, ← hg7]
        have hka := HT7.out.a.q.key (e := e0) (List.mem_of_getElem? HF0.out.1)
        have HSZ0 := hide hka.2
        have HB8 := hide (((HB7.out.later hb).and ((hka.1.later hb).mono (fun x hx _ => ⟨hx.2, HT7.out.ma hx.1⟩))).and (On.of_row2 hr ⟨fun h => by have := HT7.out.a.q.mlt _ h; omega, fun h => by have := HT7.out.b.q.mlt _ h; omega⟩))
        have HT8 := hide (HT7.out.later hb)
        clear hb hr hW7 hg7 hka
        ((with_reducible refine (qtake_calls W7 _ _ ga (j + 1) LA HT8.out.a.q).mono ?_); rintro e' w9 hp)
        rcases hp with ⟨h0, -⟩ | ⟨i1, e1, SA1, MA1, hf, rfl, hst, hq, hon, hsz⟩
        · exact absurd h0 HNE.out
        obtain rfl : e0 = e1 := first_uniq HF0.out hf
        have HF1 := hide hf
        have HT9 := hide (HT8.out.stepA hst hq)
        have HB9 := hide (HB8.out.twoA hst)
        clear hf hst hq hon hsz
        go_wp2_with fail
        obtain ⟨W9, hW9⟩ : ∃ W9, W9 = w9.alloc (Obj.cells #[Value.bool e0.s, Value.slice e0.A e0.n e0.c, Value.bool false, Value.slice e0.A' e0.n' e0.c'] 35) := ⟨_, rfl⟩
        obtain ⟨g9, hg9⟩ : ∃ g9, g9 = w9.heap.size := ⟨_, rfl⟩
        have hb : Later w9 W9 := by rw [hW9]; exact (Later.refl _).alloc _
        have hr : Row W9 g9 35 [.bool e0.s, .slice e0.A e0.n e0.c, .bool false, .slice e0.A' e0.n' e0.c'] := by rw [hW9, hg9]; exact Row.new _ _ _
        rw [← hW9, ← hg9]
        have HB10 := hide ((HB9.out.later hb).and (On.of_row2 hr ⟨fun h => by have := HT9.out.a.q.mlt _ h; omega, fun h => by have := HT9.out.b.q.mlt _ h; omega⟩))
        have HT10 := hide (HT9.out.later hb)
        clear hb hr hW9 hg9
        ((with_reducible refine (qtake_calls W9 _ _ gb (j + 1) LB HT10.out.b.q).mono ?_); rintro e' w11 hp)
        rcases hp with ⟨h0, -⟩ | ⟨i2, o, SB1, MB1, hf, rfl, hst, hq, hon, hsz⟩
        · exact absurd h0 HNE2.out
        obtain ⟨-, hko, hio, hM11⟩ := first_same HM6.out HF1.out hf
        have HKO := hide hko; have HM11 := hide hM11; have HSZO := hide hsz
        have hmb : ∀ x, x < W9.heap.size → (fun x => SB1 x) x → True := fun _ _ _ => trivial
        have HB11 := hide ((HB10.out.twoB hst).and (hon.mono (P' := fun x => ¬ MA1 x ∧ ¬ MB1 x) (fun x hx _ => ⟨HT10.out.mb hx.1, fun hm => (hst.2.1 x hm).elim hx.2.1 (fun h => by have := hx.2.2; omega)⟩)))
        have HT11 := hide (HT10.out.stepB hst hq)
        rw [← hio]
        clear hf hst hq hon hsz hko hio hM11 hmb
        go_upto_region 19 with fail
        obtain ⟨W11, hW11⟩ : ∃ W11, W11 = w11.alloc (Obj.cells #[Value.bool o.s, Value.slice o.A o.n o.c, Value.bool false, Value.slice o.A' o.n' o.c'] 35) := ⟨_, rfl⟩
        obtain ⟨g11, hg11⟩ : ∃ g11, g11 = w11.heap.size := ⟨_, rfl⟩
        have hb : Later w11 W11 := by rw [hW11]; exact (Later.refl _).alloc _
        have hr : Row W11 g11 35 [.bool o.s, .slice o.A o.n o.c, .bool false, .slice o.A' o.n' o.c'] := by rw [hW11, hg11]; exact Row.new _ _ _
        rw [← hW11, ← hg11]
        have HB12 := hide ((HB11.out.later hb).and (On.of_row2 hr ⟨fun h => by have := HT11.out.a.q.mlt _ h; omega, fun h => by have := HT11.out.b.q.mlt _ h; omega⟩))
        have HT12 := hide (HT11.out.later hb)
        clear hb hr hW11 hg11
        obtain ⟨⟨⟨⟨⟨-, he0⟩, hr7⟩, hr9⟩, heo⟩, hr11⟩ := HB12.out.now
        obtain ⟨d1, d2, d3, d4, -⟩ := row_cells4 hr9
        obtain ⟨f1, f2, f3, f4, -⟩ := row_cells4 hr11
        have HE0 : Hid (OwnR W11 0 (.agg #[.bool e0.s, .slice e0.A e0.n e0.c, .bool false, .slice e0.A' e0.n' e0.c']) e0.key) := hide he0
        have HEO : Hid (OwnR W11 0 (.agg #[.bool o.s, .slice o.A o.n o.c, .bool false, .slice o.A' o.n' o.c']) o.key) := hide heo
        have HR7 := hide hr7
        clear he0 heo hr7 hr9 hr11
        go_wp2_with fail
        ((with_reducible refine (qsame_calls _ _ _ e0.key o.key 0 0 100 100 HE0.out HEO.out HSZ0.out HSZO.out (by omega) (by omega) true (by rw [HKO.out]; simp)).mono ?_); rintro e' w13 ⟨rfl, b13⟩)
        have HT13 := hide (HT12.out.later b13)
        have HB13 := hide (HB12.out.later b13)
        have HE03 : Hid (OwnR w13 0 (.agg #[.bool e0.s, .slice e0.A e0.n e0.c, .bool false, .slice e0.A' e0.n' e0.c']) e0.key) := hide (OwnR.later HE0.out b13)
        obtain ⟨g1, g2, g3, g4, -⟩ := row_cells4 (HR7.out.later b13)
        have d1 := Later.cell b13 d1; have d2 := Later.cell b13 d2; have d3 := Later.cell b13 d3; have d4 := Later.cell b13 d4
        clear b13 f1 f2 f3 f4 HR7
        go_wp2_with fail
        ((with_reducible refine (qsame_calls _ _ _ e0.key e0.key 0 0 100 100 HE03.out HE03.out HSZ0.out HSZ0.out (by omega) (by omega) true (by simp)).mono ?_); rintro e' w14 ⟨rfl, b14⟩)
        have HT14 := hide (HT13.out.later b14)
        have HB14 := hide (HB13.out.later b14)
        clear b14 d1 d2 d3 d4 g1 g2 g3 g4
        go_wp2_with fail
        ((with_reducible refine (qleast_calls w14 _ _ ga (j + 1) _ HT14.out.a.q).mono ?_); rintro e' w15 ⟨b15, hp⟩)
        rcases hp with ⟨h0, v15, rfl, o15⟩ | ⟨i3, e3, hf3, rfl⟩
        · obtain ⟨s15, P15, q15, e15, P15', q15', e15', rfl, -⟩ := o15.open_
          have HT15 := hide (HT14.out.later b15)
          have HB15 := hide (HB14.out.later b15)
          clear b15 o15 h0
          go_upto_region 22 with fail
          obtain ⟨W15, hW15⟩ : ∃ W15, W15 = w15.alloc (Obj.cells #[Value.bool s15, Value.slice P15 q15 e15, Value.bool false, Value.slice P15' q15' e15'] 35) := ⟨_, rfl⟩
          obtain ⟨g15, hg15⟩ : ∃ g15, g15 = w15.heap.size := ⟨_, rfl⟩
          have hb : Later w15 W15 := by rw [hW15]; exact (Later.refl _).alloc _
          have hr : Row W15 g15 35 [.bool s15, .slice P15 q15 e15, .bool false, .slice P15' q15' e15'] := by rw [hW15, hg15]; exact Row.new _ _ _
          rw [← hW15, ← hg15]
          have HT16 := hide (HT15.out.later hb)
          have HB16 := hide (HB15.out.later hb)
          clear hb hr hW15 hg15
          go_wp2_with fail
          exact ⟨⟨j + 1, _, _, _, _, _, _, by omega, by go_num, HT16, HM11, HB16.out.map (fun W h => h.1.1.1.1.1)⟩, by simp [intOf]; omega⟩
        · have hle : e0.key ≤ e3.key := by
            have h1 := List.mem_of_getElem? hf3.1
            obtain ⟨m, hm, hmo⟩ := List.mem_eraseIdx_iff_getElem?.1 h1
            exact (HF1.out.2 m e3 hmo).1
          have hka := HT14.out.a.q.key (e := e3) (List.mem_of_getElem? hf3.1)
          have HSZ3 := hide hka.2
          have HLE := hide hle
          have HT15 := hide (HT14.out.later b15)
          have HB15 := hide ((HB14.out.and (hka.1.mono (fun x hx _ => ⟨hx.2, HT14.out.ma hx.1⟩))).later b15)
          clear b15 hka hle hf3
          go_upto_region 22 with fail
          obtain ⟨W15, hW15⟩ : ∃ W15, W15 = w15.alloc (Obj.cells #[Value.bool e3.s, Value.slice e3.A e3.n e3.c, Value.bool false, Value.slice e3.A' e3.n' e3.c'] 35) := ⟨_, rfl⟩
          obtain ⟨g15, hg15⟩ : ∃ g15, g15 = w15.heap.size := ⟨_, rfl⟩
          have hb : Later w15 W15 := by rw [hW15]; exact (Later.refl _).alloc _
          have hr : Row W15 g15 35 [.bool e3.s, .slice e3.A e3.n e3.c, .bool false, .slice e3.A' e3.n' e3.c'] := by rw [hW15, hg15]; exact Row.new _ _ _
          rw [← hW15, ← hg15]
          have HT16 := hide (HT15.out.later hb)
          have HB16 := hide ((HB15.out.later hb).and (On.of_row2 hr ⟨fun h => by have := HT15.out.a.q.mlt _ h; omega, fun h => by have := HT15.out.b.q.mlt _ h; omega⟩))
          clear hb hr hW15 hg15
          obtain ⟨⟨⟨⟨⟨⟨⟨-, he0⟩, hr7⟩, hr9⟩, heo⟩, hr11⟩, he3⟩, hr15⟩ := HB16.out.now
          have HE0R : Hid (RawR W15 (.agg #[.bool e0.s, .slice e0.A e0.n e0.c, .bool false, .slice e0.A' e0.n' e0.c']) e0.key 100) := hide (OwnR.raw he0 HSZ0.out)
          have HE3R : Hid (RawR W15 (.agg #[.bool e3.s, .slice e3.A e3.n e3.c, .bool false, .slice e3.A' e3.n' e3.c']) e3.key 100) := hide (OwnR.raw he3 HSZ3.out)
          obtain ⟨d1, d2, d3, d4, -⟩ := row_cells4 hr9
          obtain ⟨f1, f2, f3, f4, -⟩ := row_cells4 hr15
          obtain ⟨cz, hcz⟩ : ∃ cz, cmpQ e3.key e0.key = cz := ⟨_, rfl⟩
          have t8 := cmp_le hcz HLE.out
          have HCZ := hide hcz
          clear he0 hr7 hr9 heo hr11 he3 hr15 hcz
          go_wp2_with fail
          ((with_reducible refine (qcmp_calls _ _ _ e3.key e0.key 100 100 HE3R.out HE0R.out (by omega)).mono ?_); rintro e' w17 ⟨rfl, b17⟩; rw [HCZ.out])
          have HT17 := hide (HT16.out.later b17)
          have HB17 := hide (HB16.out.later b17)
          clear b17 d1 d2 d3 d4 f1 f2 f3 f4
          go_wp2_with fail
          exact ⟨⟨j + 1, _, _, _, _, _, _, by omega, by go_num, HT17, HM11, HB17.out.map (fun W h => h.1.1.1.1.1.1.1)⟩, by simp [intOf]; omega⟩
    · obtain rfl : na = j := by omega
      have hll : la.length = lb.length := by have := congrArg List.length HM.out; simpa using this
      have HLL := hide hll
      clear hll
      go_wp2_with fail
      ((with_reducible refine (qlen_calls _ _ _ ga na la HT.out.a.q).mono ?_); rintro e' w7 ⟨rfl, b7⟩)
      have HT5 := hide (HT.out.later b7)
      clear b7
      go_wp2_with fail
      ((with_reducible refine (qlen_calls _ _ _ gb na lb HT5.out.b.q).mono ?_); rintro e' w8 ⟨rfl, b8⟩)
      rw [HLL.out]
      have HE := hide (HT5.out.a.late.trans b8)
      clear b8
      go_wp2_with fail
      go_ret
      exact ⟨rfl, HL1.out.trans HE.out⟩
end Go.Proofs.Ytbhohnhkephefaa
