import Derived.Test.YtbhohnhkephefaaM27
import Derived.Test.YtbhohnhkephefaaM17
import Derived.Test.YtbhohnhkephefaaM28
import Derived.Deep.CutBlock

/- QueueMixed: the walk. -/
set_option linter.unusedVariables false
set_option linter.unusedSimpArgs false
set_option maxRecDepth 100000
namespace Go.Proofs.Ytbhohnhkephefaa
open Go.RowKit Go.Shelf
attribute [local go_sem ↓] Go.wp_at_zero Go.wp_at_succ

theorem On.of_row2 {W : World} {g : Nat} {t : TypeId} {cs : List Value} {P : Nat → Prop} (h : Row W g t cs) (hg : P g) : On W P (fun W => Row W g t cs) := On.of_row h hg (fun _ h => h)
/-- two queues apart -/
structure Two (w0 w : World) (SA MA : Nat → Prop) (ga : Nat) (la : List Ent) (pa : Nat) (SB MB : Nat → Prop) (gb : Nat) (lb : List Ent) (pb : Nat) : Prop where
  a : QI w0 w SA MA ga la pa
  b : QI w0 w SB MB gb lb pb
  dis : ∀ x, SA x → ¬ SB x
section
variable {w0 w w' : World} {SA MA SA' MA' SB MB SB' MB' : Nat → Prop} {ga gb pa pb pa' pb' : Nat} {la lb la' lb' : List Ent} {T : World → Prop}
theorem Two.swap (h : Two w0 w SA MA ga la pa SB MB gb lb pb) : Two w0 w SB MB gb lb pb SA MA ga la pa := ⟨h.b, h.a, fun x hb ha => h.dis x ha hb⟩
theorem Two.later (h : Two w0 w SA MA ga la pa SB MB gb lb pb) (k : Later w w') : Two w0 w' SA MA ga la pa SB MB gb lb pb := ⟨h.a.later k, h.b.later k, h.dis⟩
theorem Two.stepA (h : Two w0 w SA MA ga la pa SB MB gb lb pb) (k : QStep w SA MA w' SA' MA') (q : Qs w' SA' MA' ga la' pa') : Two w0 w' SA' MA' ga la' pa' (fun x => SB x ∧ x < w.heap.size) MB gb lb pb :=
  ⟨h.a.step k q, ⟨h.b.q.tch k.2.2 (fun x _ hB hM => h.dis x (h.a.q.sub x hM) hB), (h.a.step k q).late, fun b hb => h.b.since b hb.1⟩, fun x hx hB => (k.1 x hx).elim (fun h1 => h.dis x h1 hB.1) (fun h2 => by have := hB.2; omega)⟩
theorem Two.stepB (h : Two w0 w SA MA ga la pa SB MB gb lb pb) (k : QStep w SB MB w' SB' MB') (q : Qs w' SB' MB' gb lb' pb') : Two w0 w' (fun x => SA x ∧ x < w.heap.size) MA ga la pa SB' MB' gb lb' pb' := (h.swap.stepA k q).swap
theorem Two.ma (h : Two w0 w SA MA ga la pa SB MB gb lb pb) {x : Nat} (hx : SA x) : ¬ MB x := fun hm => h.dis x hx (h.b.q.sub x hm)
theorem Two.mb (h : Two w0 w SA MA ga la pa SB MB gb lb pb) {x : Nat} (hx : SB x) : ¬ MA x := fun hm => h.dis x (h.a.q.sub x hm) hx
theorem On.twoA (h : On w (fun x => ¬ MA x ∧ ¬ MB x) T) (k : QStep w SA MA w' SA' MA') : On w' (fun x => ¬ MA' x ∧ ¬ MB x) T := (h.qstep k (fun _ h => h.1)).mono (fun b hb _ => ⟨hb.2, hb.1.2⟩)
theorem On.twoB (h : On w (fun x => ¬ MA x ∧ ¬ MB x) T) (k : QStep w SB MB w' SB' MB') : On w' (fun x => ¬ MA x ∧ ¬ MB' x) T := (h.qstep k (fun _ h => h.2)).mono (fun b hb _ => ⟨hb.1.1, hb.2⟩)
end
def ki (e : Ent) : Rat × Int := (e.key, e.id)
theorem first_same {la lb : List Ent} {i k : Nat} {e o : Ent} (hm : la.map ki = lb.map ki) (ha : FirstAt la i e) (hb : FirstAt lb k o) : i = k ∧ e.key = o.key ∧ e.id = o.id ∧ (la.eraseIdx i).map ki = (lb.eraseIdx k).map ki := by
  have get : ∀ (m : Nat) (x : Ent), la[m]? = some x → ∃ y, lb[m]? = some y ∧ ki x = ki y := fun m x hx => by
    have h1 : (la.map ki)[m]? = some (ki x) := by rw [List.getElem?_map, hx]; rfl
    rw [hm, List.getElem?_map] at h1
    cases hy : lb[m]? with
    | none => rw [hy] at h1; simp at h1
    | some y => rw [hy] at h1; exact ⟨y, rfl, by simpa using h1.symm⟩
  have get' : ∀ (m : Nat) (x : Ent), lb[m]? = some x → ∃ y, la[m]? = some y ∧ ki x = ki y := fun m x hx => by
    have h1 : (lb.map ki)[m]? = some (ki x) := by rw [List.getElem?_map, hx]; rfl
    rw [← hm, List.getElem?_map] at h1
    cases hy : la[m]? with
    | none => rw [hy] at h1; simp at h1
    | some y => rw [hy] at h1; exact ⟨y, rfl, by simpa using h1.symm⟩
  obtain ⟨y, hy, hey⟩ := get i e ha.1
  obtain ⟨z, hz, hoz⟩ := get' k o hb.1
  have h1 := ha.2 k z hz
  have h2 := hb.2 i y hy
  have e1 : e.key = y.key := congrArg Prod.fst hey
  have e2 : o.key = z.key := congrArg Prod.fst hoz
  have hik : i = k := by
    rcases Nat.lt_trichotomy i k with h | h | h
    · have := h2.2 h; grind
    · exact h
    · have := h1.2 h; grind
  subst hik
  have hyo : y = o := by rw [hb.1] at hy; exact (Option.some.inj hy).symm
  subst hyo
  refine ⟨rfl, e1, congrArg Prod.snd hey, ?_⟩
  have er : ∀ (l : List Ent) (i : Nat), (l.eraseIdx i).map ki = (l.map ki).eraseIdx i := fun l i => by
    apply List.ext_getElem?
    intro m
    rw [List.getElem?_map, List.getElem?_eraseIdx, List.getElem?_eraseIdx]
    split <;> simp
  rw [er, er, hm]
theorem first_uniq {l : List Ent} {i k : Nat} {e o : Ent} (ha : FirstAt l i e) (hb : FirstAt l k o) : e = o := by
  obtain ⟨rfl, -⟩ := first_same rfl ha hb
  have := ha.1; rw [hb.1] at this; exact (Option.some.inj this).symm
theorem cmp_le {a b : Rat} {c : Int} (h : cmpQ a b = c) (hle : b ≤ a) : decide (c < 0) = false := by
  unfold cmpQ at h
  rw [if_neg (by grind)] at h
  split at h <;> simp <;> omega
set_option maxHeartbeats 16000000 in
theorem queuemixed_walk (w : World) (va : Value) (keys : List Rat) (z : Int) (ha : Rats EAny w va keys) (hz : (Lit.int .u8 z).wf = true) :
    Calls Try.prog 6 #[va, .int .u8 z] w (RetV w (.bool true)) := by
  have HA := hide ha
  obtain ⟨A0, na, ca, rfl, hna, -⟩ := ha.form
  have HNA := hide hna
  clear ha hna
  have hz0 : 0 ≤ z := by simp [Lit.wf, IntKind.min, IntKind.max, IntKind.bits, IntKind.signed] at hz; omega
  have hz1 : z ≤ 255 := by simp [Lit.wf, IntKind.min, IntKind.max, IntKind.bits, IntKind.signed] at hz; omega
  clear hz
  go_enter Try.func6, Try.ntmps6
  go_wp2_with fail
  ((with_reducible refine (qawake_calls w).mono ?_); rintro e' w1 ⟨rfl, b1⟩)
  have HL1 := hide b1
  clear b1
  go_wp2_with fail
  refine (few_calls w1 _ keys 100 (HA.out.later EAny.later HL1.out) (by omega)).mono ?_
  rintro e w2 ⟨t, rfl, hf, hw⟩
  subst hw
  cases t with
  | false =>
    go_wp2_with fail
    go_ret
    exact ⟨rfl, HL1.out⟩
  | true =>
  have HFA := hide (hf rfl)
  clear hf
  go_wp2_with fail
  ((with_reducible refine (qnew_calls w1).mono ?_); rintro e' w3 ⟨rfl, b3, q3⟩)
  have HI3 : Hid (QI w1 w3 (fun b => w1.heap.size ≤ b) (fun b => b = w1.heap.size) w1.heap.size [] 0) := hide ⟨q3, b3, fun b hb => hb⟩
  clear q3
  go_wp2_with fail
  ((with_reducible refine (qnew_calls w3).mono ?_); rintro e' w4 ⟨rfl, b4, q4⟩)
  have hs3 : w1.heap.size < w3.heap.size := HI3.out.1.mlt _ rfl
  obtain ⟨ga, hga⟩ : ∃ g, g = w1.heap.size := ⟨_, rfl⟩
  obtain ⟨gb, hgb⟩ : ∃ g, g = w3.heap.size := ⟨_, rfl⟩
  have HT4 : Hid (Two w1 w4 (fun b => w1.heap.size ≤ b ∧ b < w3.heap.size) (fun b => b = w1.heap.size) w1.heap.size [] 0 (fun b => w3.heap.size ≤ b) (fun b => b = w3.heap.size) w3.heap.size [] 0) :=
    hide ⟨HI3.out.cut.later b4, ⟨q4, b3.trans b4, fun b hb => by omega⟩, fun x h1 h2 => by omega⟩
  have HB4 : Hid (On w4 (fun x => ¬ (x = w1.heap.size) ∧ ¬ (x = w3.heap.size)) (fun W => Rats (ERaw 1) W (.slice A0 na ca) keys)) := hide ((((On.ratsRaw HFA.out.2).later b3).later b4).mono (fun b hb _ => ⟨fun e => by omega, fun e => by omega⟩))
  have HNN : Hid (na ≤ 100) := hide (by rw [HNA.out]; exact HFA.out.1)
  rw [← hga] at HT4 HB4
  rw [← hgb] at HT4 HB4
  rw [← hga, ← hgb]
  clear b3 q4 b4 hs3 hga hgb HI3
  go_wp2_with fail
  obtain ⟨ev, hev⟩ : ∃ ev, ev = 1 + z % 5 := ⟨_, rfl⟩
  rw [← hev]
  have hev1 : 1 ≤ ev := by omega
  have hev5 : ev ≤ 5 := by omega
  clear hev
  go_loopw [8] (fun iv wr => ∃ (j : Nat) (SA MA : Nat → Prop) (la : List Ent) (SB MB : Nat → Prop) (lb : List Ent), j ≤ na ∧ iv = .int .i64 (j : Int) ∧ Hid (Two w1 wr SA MA ga la j SB MB gb lb j) ∧ Hid (la.map ki = lb.map ki) ∧ Hid (On wr (fun x => ¬ MA x ∧ ¬ MB x) (fun W => Rats (ERaw 1) W (.slice A0 na ca) keys))) (fun iv _ => (na - intOf iv).toNat)
  case atStart => exact ⟨0, _, _, [], _, _, [], by omega, rfl, HT4, hide rfl, HB4⟩
  case round =>
    obtain ⟨j, SA, MA, la, SB, MB, lb, hj, rfl, HT, HM, HB⟩ := hrel
    have hn100 := HNN.out
    by_cases hjn : j < na
    · obtain ⟨x, hx⟩ : ∃ x, keys[j]? = some x := ⟨keys[j]'(by have := HNA.out; omega), List.getElem?_eq_getElem _⟩
      obtain ⟨b1, off1, sx1, X1, nx1, cx1, sx1', X1', nx1', cx1', rfl, x1, x2, x3, x4, ex⟩ := HB.out.now.at_ hx
      have EX := hide ex; have HX := hide hx
      have hj0 : (0 : Int) ≤ (j : Int) := by omega
      have hj1 : (j : Int) < na := by omega
      clear ex hx
      go_wp2_with fail
      have hpc := qput_calls wr SA MA ga j la _ x j HT.out.a.q (by omega) (RawR.mono EX.out (by omega : 1 ≤ 50))
      ((with_reducible refine hpc.mono ?_); rintro e' w5 ⟨rfl, S', M', ent, hst, hk, hi, hq⟩)
      have HT5 := hide (HT.out.stepA hst hq)
      have HB5 := hide (HB.out.twoA hst)
      have HK := hide hk; have HI := hide hi
      clear hpc hst hk hi hq x1 x2 x3 x4 EX
      obtain ⟨b2, off2, sx2, X2, nx2, cx2, sx2', X2', nx2', cx2', hA, x1, x2, x3, x4, ex⟩ := HB5.out.now.at_ HX.out
      injection hA with hA; injection hA with hA1 hA2; subst hA1 hA2
      have EX := hide ex
      clear ex
      go_wp2_with fail
      have hpc := qput_calls w5 _ MB gb j lb _ x j HT5.out.b.q (by omega) (RawR.mono EX.out (by omega : 1 ≤ 50))
      ((with_reducible refine hpc.mono ?_); rintro e' w6 ⟨rfl, S2, M2, ent2, hst, hk, hi, hq⟩)
      have HT6 := hide (HT5.out.stepB hst hq)
      have HB6 := hide (HB5.out.twoB hst)
      have HM6 : Hid ((la ++ [ent]).map ki = (lb ++ [ent2]).map ki) := hide (by rw [List.map_append, List.map_append, HM.out]; simp [ki, hk, hi, HK.out, HI.out])
      have hne : la ++ [ent] ≠ [] := by simp
      have hne2 : lb ++ [ent2] ≠ [] := by simp
      obtain ⟨LA, hLA⟩ : ∃ L, L = la ++ [ent] := ⟨_, rfl⟩
      obtain ⟨LB, hLB⟩ : ∃ L, L = lb ++ [ent2] := ⟨_, rfl⟩
      rw [← hLA] at HT6 HM6 hne
      rw [← hLB] at HT6 HM6 hne2
      have HNE := hide hne; have HNE2 := hide hne2
      clear hpc hst hk hi hq x1 x2 x3 x4 EX hne hne2 hLA hLB
      by_cases hrem : 0 < (j : Int) % ev
      · have t3 : decide (0 < (j : Int) % ev) = true := by simp [hrem]
        go_wp2_with fail
        exact ⟨⟨j + 1, _, _, LA, _, _, LB, by omega, by go_num, HT6, HM6, HB6⟩, by simp [intOf]; omega⟩
      · have t3 : decide (0 < (j : Int) % ev) = false := by simp; omega
        go_upto_region 16 with fail
        go_wp2_with fail
        ((with_reducible refine (qleast_calls w6 _ _ ga (j + 1) LA HT6.out.a.q).mono ?_); rintro e' w7 ⟨b7, hp⟩)
        rcases hp with ⟨h0, -⟩ | ⟨i0, e0, hf0, rfl⟩
        · exact absurd h0 HNE.out
        have HF0 := hide hf0
        have HT7 := hide (HT6.out.later b7)
        have HB7 := hide (HB6.out.later b7)
        clear hf0 b7
        go_wp2_with fail
        obtain ⟨W7, hW7⟩ : ∃ W7, W7 = w7.alloc (Obj.cells #[Value.bool e0.s, Value.slice e0.A e0.n e0.c, Value.bool false, Value.slice e0.A' e0.n' e0.c'] 35) := ⟨_, rfl⟩
        obtain ⟨g7, hg7⟩ : ∃ g7, g7 = w7.heap.size := ⟨_, rfl⟩
        have hb : Later w7 W7 := by rw [hW7]; exact (Later.refl _).alloc _
        have hr : Row W7 g7 35 [.bool e0.s, .slice e0.A e0.n e0.c, .bool false, .slice e0.A' e0.n' e0.c'] := by rw [hW7, hg7]; exact Row.new _ _ _
        rw [← hW7, ← hg7]
        have hka := HT7.out.a.q.key (e := e0) (List.mem_of_getElem? HF0.out.1)
        have HSZ0 := hide hka.2
        have HB8 := hide (((HB7.out.later hb).and ((hka.1.later hb).mono (fun x hx _ => ⟨hx.2, HT7.out.ma hx.1⟩))).and (On.of_row2 hr ⟨fun h => by have := HT7.out.a.q.mlt _ h; omega, fun h => by have := HT7.out.b.q.mlt _ h; omega⟩))
        have HT8 := hide (HT7.out.later hb)
        clear hb hr hW7 hg7 hka
        ((with_reducible refine (qtake_calls W7 _ _ ga (j + 1) LA HT8.out.a.q).mono ?_); rintro e' w9 hp)
        rcases hp with ⟨h0, -⟩ | ⟨i1, e1, SA1, MA1, hf, rfl, hst, hq, hon, hsz⟩
        · exact absurd h0 HNE.out
        obtain rfl : e0 = e1 := first_uniq HF0.out hf
        have HF1 := hide hf
        have HT9 := hide (HT8.out.stepA hst hq)
        have HB9 := hide (HB8.out.twoA hst)
        clear hf hst hq hon hsz
        go_wp2_with fail
        obtain ⟨W9, hW9⟩ : ∃ W9, W9 = w9.alloc (Obj.cells #[Value.bool e0.s, Value.slice e0.A e0.n e0.c, Value.bool false, Value.slice e0.A' e0.n' e0.c'] 35) := ⟨_, rfl⟩
        obtain ⟨g9, hg9⟩ : ∃ g9, g9 = w9.heap.size := ⟨_, rfl⟩
        have hb : Later w9 W9 := by rw [hW9]; exact (Later.refl _).alloc _
        have hr : Row W9 g9 35 [.bool e0.s, .slice e0.A e0.n e0.c, .bool false, .slice e0.A' e0.n' e0.c'] := by rw [hW9, hg9]; exact Row.new _ _ _
        rw [← hW9, ← hg9]
        have HB10 := hide ((HB9.out.later hb).and (On.of_row2 hr ⟨fun h => by have := HT9.out.a.q.mlt _ h; omega, fun h => by have := HT9.out.b.q.mlt _ h; omega⟩))
        have HT10 := hide (HT9.out.later hb)
        clear hb hr hW9 hg9
        ((with_reducible refine (qtake_calls W9 _ _ gb (j + 1) LB HT10.out.b.q).mono ?_); rintro e' w11 hp)
        rcases hp with ⟨h0, -⟩ | ⟨i2, o, SB1, MB1, hf, rfl, hst, hq, hon, hsz⟩
        · exact absurd h0 HNE2.out
        obtain ⟨-, hko, hio, hM11⟩ := first_same HM6.out HF1.out hf
        have HKO := hide hko; have HM11 := hide hM11; have HSZO := hide hsz
        have hmb : ∀ x, x < W9.heap.size → (fun x => SB1 x) x → True := fun _ _ _ => trivial
        have HB11 := hide ((HB10.out.twoB hst).and (hon.mono (P' := fun x => ¬ MA1 x ∧ ¬ MB1 x) (fun x hx _ => ⟨HT10.out.mb hx.1, fun hm => (hst.2.1 x hm).elim hx.2.1 (fun h => by have := hx.2.2; omega)⟩)))
        have HT11 := hide (HT10.out.stepB hst hq)
        rw [← hio]
        clear hf hst hq hon hsz hko hio hM11 hmb
        go_upto_region 19 with fail
        obtain ⟨W11, hW11⟩ : ∃ W11, W11 = w11.alloc (Obj.cells #[Value.bool o.s, Value.slice o.A o.n o.c, Value.bool false, Value.slice o.A' o.n' o.c'] 35) := ⟨_, rfl⟩
        obtain ⟨g11, hg11⟩ : ∃ g11, g11 = w11.heap.size := ⟨_, rfl⟩
        have hb : Later w11 W11 := by rw [hW11]; exact (Later.refl _).alloc _
        have hr : Row W11 g11 35 [.bool o.s, .slice o.A o.n o.c, .bool false, .slice o.A' o.n' o.c'] := by rw [hW11, hg11]; exact Row.new _ _ _
        rw [← hW11, ← hg11]
        have HB12 := hide ((HB11.out.later hb).and (On.of_row2 hr ⟨fun h => by have := HT11.out.a.q.mlt _ h; omega, fun h => by have := HT11.out.b.q.mlt _ h; omega⟩))
        have HT12 := hide (HT11.out.later hb)
        clear hb hr hW11 hg11
        obtain ⟨⟨⟨⟨⟨-, he0⟩, hr7⟩, hr9⟩, heo⟩, hr11⟩ := HB12.out.now
        obtain ⟨d1, d2, d3, d4, -⟩ := row_cells4 hr9
        obtain ⟨f1, f2, f3, f4, -⟩ := row_cells4 hr11
        have HE0 : Hid (OwnR W11 0 (.agg #[.bool e0.s, .slice e0.A e0.n e0.c, .bool false, .slice e0.A' e0.n' e0.c']) e0.key) := hide he0
        have HEO : Hid (OwnR W11 0 (.agg #[.bool o.s, .slice o.A o.n o.c, .bool false, .slice o.A' o.n' o.c']) o.key) := hide heo
        have HR7 := hide hr7
        clear he0 heo hr7 hr9 hr11
        go_wp2_with fail
        ((with_reducible refine (qsame_calls _ _ _ e0.key o.key 0 0 100 100 HE0.out HEO.out HSZ0.out HSZO.out (by omega) (by omega) true (by rw [HKO.out]; simp)).mono ?_); rintro e' w13 ⟨rfl, b13⟩)
        have HT13 := hide (HT12.out.later b13)
        have HB13 := hide (HB12.out.later b13)
        have HE03 : Hid (OwnR w13 0 (.agg #[.bool e0.s, .slice e0.A e0.n e0.c, .bool false, .slice e0.A' e0.n' e0.c']) e0.key) := hide (OwnR.later HE0.out b13)
        obtain ⟨g1, g2, g3, g4, -⟩ := row_cells4 (HR7.out.later b13)
        have d1 := Later.cell b13 d1; have d2 := Later.cell b13 d2; have d3 := Later.cell b13 d3; have d4 := Later.cell b13 d4
        clear b13 f1 f2 f3 f4 HR7
        go_wp2_with fail
        ((with_reducible refine (qsame_calls _ _ _ e0.key e0.key 0 0 100 100 HE03.out HE03.out HSZ0.out HSZ0.out (by omega) (by omega) true (by simp)).mono ?_); rintro e' w14 ⟨rfl, b14⟩)
        have HT14 := hide (HT13.out.later b14)
        have HB14 := hide (HB13.out.later b14)
        clear b14 d1 d2 d3 d4 g1 g2 g3 g4
        go_wp2_with fail
        ((with_reducible refine (qleast_calls w14 _ _ ga (j + 1) _ HT14.out.a.q).mono ?_); rintro e' w15 ⟨b15, hp⟩)
        rcases hp with ⟨h0, v15, rfl, o15⟩ | ⟨i3, e3, hf3, rfl⟩
        · obtain ⟨s15, P15, q15, e15, P15', q15', e15', rfl, -⟩ := o15.open_
          have HT15 := hide (HT14.out.later b15)
          have HB15 := hide (HB14.out.later b15)
          clear b15 o15 h0
          go_upto_region 22 with fail
          obtain ⟨W15, hW15⟩ : ∃ W15, W15 = w15.alloc (Obj.cells #[Value.bool s15, Value.slice P15 q15 e15, Value.bool false, Value.slice P15' q15' e15'] 35) := ⟨_, rfl⟩
          obtain ⟨g15, hg15⟩ : ∃ g15, g15 = w15.heap.size := ⟨_, rfl⟩
          have hb : Later w15 W15 := by rw [hW15]; exact (Later.refl _).alloc _
          have hr : Row W15 g15 35 [.bool s15, .slice P15 q15 e15, .bool false, .slice P15' q15' e15'] := by rw [hW15, hg15]; exact Row.new _ _ _
          rw [← hW15, ← hg15]
          have HT16 := hide (HT15.out.later hb)
          have HB16 := hide (HB15.out.later hb)
          clear hb hr hW15 hg15
          go_wp2_with fail
          exact ⟨⟨j + 1, _, _, _, _, _, _, by omega, by go_num, HT16, HM11, HB16.out.map (fun W h => h.1.1.1.1.1)⟩, by simp [intOf]; omega⟩
        · have hle : e0.key ≤ e3.key := by
            have h1 := List.mem_of_getElem? hf3.1
            obtain ⟨m, hm, hmo⟩ := List.mem_eraseIdx_iff_getElem?.1 h1
            exact (HF1.out.2 m e3 hmo).1
          have hka := HT14.out.a.q.key (e := e3) (List.mem_of_getElem? hf3.1)
          have HSZ3 := hide hka.2
          have HLE := hide hle
          have HT15 := hide (HT14.out.later b15)
          have HB15 := hide ((HB14.out.and (hka.1.mono (fun x hx _ => ⟨hx.2, HT14.out.ma hx.1⟩))).later b15)
          clear b15 hka hle hf3
          go_upto_region 22 with fail
          obtain ⟨W15, hW15⟩ : ∃ W15, W15 = w15.alloc (Obj.cells #[Value.bool e3.s, Value.slice e3.A e3.n e3.c, Value.bool false, Value.slice e3.A' e3.n' e3.c'] 35) := ⟨_, rfl⟩
          obtain ⟨g15, hg15⟩ : ∃ g15, g15 = w15.heap.size := ⟨_, rfl⟩
          have hb : Later w15 W15 := by rw [hW15]; exact (Later.refl _).alloc _
          have hr : Row W15 g15 35 [.bool e3.s, .slice e3.A e3.n e3.c, .bool false, .slice e3.A' e3.n' e3.c'] := by rw [hW15, hg15]; exact Row.new _ _ _
          rw [← hW15, ← hg15]
          have HT16 := hide (HT15.out.later hb)
          have HB16 := hide ((HB15.out.later hb).and (On.of_row2 hr ⟨fun h => by have := HT15.out.a.q.mlt _ h; omega, fun h => by have := HT15.out.b.q.mlt _ h; omega⟩))
          clear hb hr hW15 hg15
          obtain ⟨⟨⟨⟨⟨⟨⟨-, he0⟩, hr7⟩, hr9⟩, heo⟩, hr11⟩, he3⟩, hr15⟩ := HB16.out.now
          have HE0R : Hid (RawR W15 (.agg #[.bool e0.s, .slice e0.A e0.n e0.c, .bool false, .slice e0.A' e0.n' e0.c']) e0.key 100) := hide (OwnR.raw he0 HSZ0.out)
          have HE3R : Hid (RawR W15 (.agg #[.bool e3.s, .slice e3.A e3.n e3.c, .bool false, .slice e3.A' e3.n' e3.c']) e3.key 100) := hide (OwnR.raw he3 HSZ3.out)
          obtain ⟨d1, d2, d3, d4, -⟩ := row_cells4 hr9
          obtain ⟨f1, f2, f3, f4, -⟩ := row_cells4 hr15
          obtain ⟨cz, hcz⟩ : ∃ cz, cmpQ e3.key e0.key = cz := ⟨_, rfl⟩
          have t8 := cmp_le hcz HLE.out
          have HCZ := hide hcz
          clear he0 hr7 hr9 heo hr11 he3 hr15 hcz
          go_wp2_with fail
          ((with_reducible refine (qcmp_calls _ _ _ e3.key e0.key 100 100 HE3R.out HE0R.out (by omega)).mono ?_); rintro e' w17 ⟨rfl, b17⟩; rw [HCZ.out])
          have HT17 := hide (HT16.out.later b17)
          have HB17 := hide (HB16.out.later b17)
          clear b17 d1 d2 d3 d4 f1 f2 f3 f4
          go_wp2_with fail
          exact ⟨⟨j + 1, _, _, _, _, _, _, by omega, by go_num, HT17, HM11, HB17.out.map (fun W h => h.1.1.1.1.1.1.1)⟩, by simp [intOf]; omega⟩
    · obtain rfl : na = j := by omega
      have hll : la.length = lb.length := by have := congrArg List.length HM.out; simpa using this
      have HLL := hide hll
      clear hll
      go_wp2_with fail
      ((with_reducible refine (qlen_calls _ _ _ ga na la HT.out.a.q).mono ?_); rintro e' w7 ⟨rfl, b7⟩)
      have HT5 := hide (HT.out.later b7)
      clear b7
      go_wp2_with fail
      ((with_reducible refine (qlen_calls _ _ _ gb na lb HT5.out.b.q).mono ?_); rintro e' w8 ⟨rfl, b8⟩)
      rw [HLL.out]
      have HE := hide (HT5.out.a.late.trans b8)
      clear b8
      go_wp2_with fail
      go_ret
      exact ⟨rfl, HL1.out.trans HE.out⟩
end Go.Proofs.Ytbhohnhkephefaa


/- QueuePlays: the walk. -/
set_option linter.unusedVariables false
set_option linter.unusedSimpArgs false
set_option maxRecDepth 100000
namespace Go.Proofs.Ytbhohnhkephefaa
open Go.RowKit Go.Shelf
attribute [local go_sem ↓] Go.wp_at_zero Go.wp_at_succ

/-- a row of acts that came in -/
def Acts (w : World) (v : Value) (l : List (Int × Rat × Int)) : Prop :=
  ∃ A c, v = .slice A l.length c ∧ l.length ≤ c ∧ c ≤ maxLen ∧ ∀ (i : Nat) (x : Int × Rat × Int), l[i]? = some x → ∃ b off s A1 n1 c1 s' A2 n2 c2, A = some ⟨b, off, none⟩ ∧ w.cell? ⟨b, off + i * 6, none⟩ = some (.int .i64 x.1) ∧ w.cell? ⟨b, off + i * 6 + 1, none⟩ = some (.bool s) ∧ w.cell? ⟨b, off + i * 6 + 2, none⟩ = some (.slice A1 n1 c1) ∧ w.cell? ⟨b, off + i * 6 + 3, none⟩ = some (.bool s') ∧ w.cell? ⟨b, off + i * 6 + 4, none⟩ = some (.slice A2 n2 c2) ∧ w.cell? ⟨b, off + i * 6 + 5, none⟩ = some (.int .i64 x.2.2) ∧ EAny w (.agg #[.bool s, .slice A1 n1 c1, .bool s', .slice A2 n2 c2]) x.2.1
theorem Acts.form {w : World} {v : Value} {l : List (Int × Rat × Int)} (h : Acts w v l) : ∃ A n c, v = .slice A n c ∧ n = l.length ∧ c ≤ maxLen := by
  obtain ⟨A, c, e, -, h2, -⟩ := h; exact ⟨A, _, c, e, rfl, h2⟩
theorem Acts.at_ {w : World} {A : Option Addr} {n c : Nat} {l : List (Int × Rat × Int)} (h : Acts w (.slice A n c) l) {i : Nat} {x : Int × Rat × Int} (hi : l[i]? = some x) :
    ∃ b off s A1 n1 c1 s' A2 n2 c2, A = some ⟨b, off, none⟩ ∧ w.cell? ⟨b, off + i * 6, none⟩ = some (.int .i64 x.1) ∧ w.cell? ⟨b, off + i * 6 + 1, none⟩ = some (.bool s) ∧ w.cell? ⟨b, off + i * 6 + 2, none⟩ = some (.slice A1 n1 c1) ∧ w.cell? ⟨b, off + i * 6 + 3, none⟩ = some (.bool s') ∧ w.cell? ⟨b, off + i * 6 + 4, none⟩ = some (.slice A2 n2 c2) ∧ w.cell? ⟨b, off + i * 6 + 5, none⟩ = some (.int .i64 x.2.2) ∧ EAny w (.agg #[.bool s, .slice A1 n1 c1, .bool s', .slice A2 n2 c2]) x.2.1 := by
  obtain ⟨A', c', e, -, -, h3⟩ := h
  injection e with e1 e2 e3
  subst e1
  exact h3 i x hi
theorem Acts.on {w : World} {v : Value} {l : List (Int × Rat × Int)} (h : Acts w v l) : On w (fun b => b < w.heap.size) (fun W => Acts W v l) :=
  ⟨fun b => b < w.heap.size, fun b hb => ⟨hb, hb⟩, fun W ha => by
    have hc : ∀ (p : Addr) (u : Value), w.cell? p = some u → W.cell? p = some u := fun p u h => (World.cell?_of_block (a := p) (ha p.block (World.block_lt_of_cell? w _ h))).trans h
    obtain ⟨A, c, e, h1, h2, h3⟩ := h
    refine ⟨A, c, e, h1, h2, fun i x hi => ?_⟩
    obtain ⟨b, off, s, A1, n1, c1, s', A2, n2, c2, hA, x1, x2, x3, x4, x5, x6, k, hk⟩ := h3 i x hi
    exact ⟨b, off, s, A1, n1, c1, s', A2, n2, c2, hA, hc _ _ x1, hc _ _ x2, hc _ _ x3, hc _ _ x4, hc _ _ x5, hc _ _ x6, k, rawR_agree hk ha⟩⟩
theorem rawI_len {w : World} {s : Bool} {A : Option Addr} {n c k : Nat} {z : Int} (h : RawI w (.agg #[.bool s, .slice A n c]) z k) : n ≤ k := by
  obtain ⟨neg, A3, n3, c3, l, e3, hu, hz, hl⟩ := h
  injection e3 with e3; injection e3 with e3; injection e3 with e4 e3; injection e3 with e5 e3
  obtain ⟨A4, c4, e6, -, -, -, -⟩ := hu.form
  rw [← e5] at e6
  injection e6 with _ e7 _
  omega
theorem rawR_lens {w : World} {s s' : Bool} {A A' : Option Addr} {n c n' c' k : Nat} {q : Rat} (h : RawR w (.agg #[.bool s, .slice A n c, .bool s', .slice A' n' c']) q k) : n ≤ k ∧ n' ≤ k := by
  obtain ⟨a, A1, n1, c1, b, A2, n2, c2, x, y, e, h1, h2, h3⟩ := h
  injection e with e; injection e with e; injection e with e1 e; injection e with e2 e; injection e with e3 e; injection e with e4 e
  injection e1 with e1; injection e2 with e5 e6 e7; injection e3 with e3; injection e4 with e8 e9 e10
  subst e1 e3 e5 e6 e7 e8 e9 e10
  exact ⟨rawI_len h1, rawI_len h2⟩
/-- the program's queue, and the reference's, apart -/
structure QR (w0 w : World) (S M : Nat → Prop) (gq : Nat) (l : List Ent) (put : Nat) (R : Nat → Prop) (gr : Nat) (L : List Ent) : Prop where
  q : QI w0 w S M gq l put
  r : RQs w R gr L
  since : ∀ b, R b → w0.heap.size ≤ b
  dis : ∀ x, S x → ¬ R x
section
variable {w0 w w' : World} {S M S' M' R R' : Nat → Prop} {gq gr put put' : Nat} {l l' L L' : List Ent} {T : World → Prop}
theorem RQs.later (h : RQs w R gr L) (k : Later w w') : RQs w' R gr L := by obtain ⟨vk, vi, h⟩ := h; exact ⟨vk, vi, h.later k⟩
theorem QR.later (h : QR w0 w S M gq l put R gr L) (k : Later w w') : QR w0 w' S M gq l put R gr L := ⟨h.q.later k, h.r.later k, h.since, h.dis⟩
theorem QR.stepQ (h : QR w0 w S M gq l put R gr L) (k : QStep w S M w' S' M') (q : Qs w' S' M' gq l' put') : QR w0 w' S' M' gq l' put' (fun x => R x ∧ x < w.heap.size) gr L := by
  obtain ⟨vk, vi, hr⟩ := h.r
  exact ⟨h.q.step k q, ⟨vk, vi, hr.tch k.2.2 (fun x _ hR hM => h.dis x (h.q.q.sub x hM) hR)⟩, fun b hb => h.since b hb.1, fun x hx hR => (k.1 x hx).elim (fun h1 => h.dis x h1 hR.1) (fun h2 => by have := hR.2; omega)⟩
theorem QR.stepR (h : QR w0 w S M gq l put R gr L) (k : RStep w R w' R') (q : RQs w' R' gr L') : QR w0 w' (fun x => S x ∧ x < w.heap.size) M gq l put R' gr L' :=
  ⟨⟨h.q.q.tch k.2 (fun x _ hx hR => h.dis x hx hR), Tch.later h.q.late k.2 (fun x hx hR => by have := h.since x hR; omega), fun b hb => h.q.since b hb.1⟩, q, fun b hb => (k.1 b hb).elim (h.since b) (fun e => Nat.le_trans h.q.late.size e), fun x hx hR => (k.1 x hR).elim (fun h1 => h.dis x hx.1 h1) (fun h2 => by have := hx.2; omega)⟩
theorem On.prQ (h : On w (fun x => ¬ M x ∧ ¬ R x) T) (k : QStep w S M w' S' M') : On w' (fun x => ¬ M' x ∧ ¬ (R x ∧ x < w.heap.size)) T := (h.qstep k (fun _ h => h.1)).mono (fun b hb _ => ⟨hb.2, fun h => hb.1.2 h.1⟩)
theorem On.prR (h : On w (fun x => ¬ M x ∧ ¬ R x) T) (k : RStep w R w' R') : On w' (fun x => ¬ M x ∧ ¬ R' x) T := by
  have h1 := h.lt.tch k.2 (fun x hx => hx.1.2)
  exact h1.mono fun b hb _ => ⟨hb.1.1, fun e => (k.1 b e).elim hb.1.2 (fun e => by have := hb.2; omega)⟩
theorem QR.nomr (h : QR w0 w S M gq l put R gr L) {x : Nat} (hx : S x ∧ ¬ M x) : ¬ M x ∧ ¬ R x := ⟨hx.2, h.dis x hx.1⟩
theorem QR.new_ (h : QR w0 w S M gq l put R gr L) {x : Nat} (hx : w.heap.size ≤ x) (hR : ¬ R x) : ¬ M x ∧ ¬ R x := ⟨fun e => by have := h.q.q.mlt _ e; omega, hR⟩
theorem QR.cut (h : QR w0 w S M gq l put R gr L) : QR w0 w (fun x => S x ∧ x < w.heap.size) M gq l put (fun x => R x ∧ x < w.heap.size) gr L := by
  obtain ⟨vk, vi, hr⟩ := h.r
  exact ⟨h.q.cut, ⟨vk, vi, hr.tch (T := fun _ => False) (Tch.refl _ w) (fun _ _ _ h => h)⟩, fun b hb => h.since b hb.1, fun x hx hR => h.dis x hx.1 hR.1⟩
end
theorem RQs.key {w : World} {R : Nat → Prop} {gr : Nat} {L : List Ent} {e : Ent} (h : RQs w R gr L) (he : e ∈ L) : e.ok w ∧ Sized e.key 100 := by
  obtain ⟨vk, vi, h⟩ := h; exact ⟨h.keys.ok.now e he, h.keys.sized e he⟩
/-- what Least tells, whichever -/
theorem LeastPost.out {w w' : World} {l : List Ent} {e' : Ending} (h : LeastPost w l e' w') (hk : ∀ e ∈ l, Hid (e.ok w) ∧ Sized e.key 100) :
    Later w w' ∧ ∃ s A n c A' n' c' q ok, e' = .returned (.tuple #[.agg #[.bool s, .slice A n c, .bool false, .slice A' n' c'], .bool ok]) ∧ OwnR w' 0 (.agg #[.bool s, .slice A n c, .bool false, .slice A' n' c']) q ∧ Sized q 100 ∧
      ((l = [] ∧ ok = false ∧ q = 0) ∨ ∃ i e, FirstAt l i e ∧ ok = true ∧ q = e.key) := by
  obtain ⟨hb, hp⟩ := h
  refine ⟨hb, ?_⟩
  rcases hp with ⟨h0, v, rfl, ho⟩ | ⟨i, e, hf, rfl⟩
  · obtain ⟨s, A, n, c, A', n', c', rfl, ho⟩ := ho.open_
    exact ⟨s, A, n, c, A', n', c', 0, false, rfl, OwnR.weaken ho (Nat.zero_le _), sized_0.mono (by omega), .inl ⟨h0, rfl, rfl⟩⟩
  · obtain ⟨h1, h2⟩ := hk e (List.mem_of_getElem? hf.1)
    exact ⟨e.s, e.A, e.n, e.c, e.A', e.n', e.c', e.key, true, rfl, OwnR.later (show OwnR w 0 _ e.key from h1.out) hb, h2, .inr ⟨i, e, hf, rfl, rfl⟩⟩
theorem least_same {l L : List Ent} {q q' : Rat} {ok ok' : Bool} (hm : l.map ki = L.map ki) (h : (l = [] ∧ ok = false ∧ q = 0) ∨ ∃ i e, FirstAt l i e ∧ ok = true ∧ q = e.key) (h' : (L = [] ∧ ok' = false ∧ q' = 0) ∨ ∃ i e, FirstAt L i e ∧ ok' = true ∧ q' = e.key) : ok = ok' ∧ q = q' := by
  rcases h with ⟨rfl, rfl, rfl⟩ | ⟨i, e, hf, rfl, rfl⟩
  · have hL : L = [] := by simpa using hm.symm
    subst hL
    rcases h' with ⟨-, rfl, rfl⟩ | ⟨i, e, hf, -⟩
    · exact ⟨rfl, rfl⟩
    · exact (take0 hf).elim
  · rcases h' with ⟨rfl, rfl, rfl⟩ | ⟨k, o, hg, rfl, rfl⟩
    · have hl : l = [] := by simpa using hm
      subst hl
      exact (take0 hf).elim
    · obtain ⟨-, hk, -⟩ := first_same hm hf hg
      exact ⟨rfl, hk⟩
theorem notAbove_same {q : Rat} {l L : List Ent} (hm : l.map ki = L.map ki) : (notAbove q l).map ki = (notAbove q L).map ki := by
  have h1 : ∀ l : List Ent, (notAbove q l).map ki = (l.map ki).filter (fun x => !decide (q < x.1)) := fun l => by
    unfold notAbove
    rw [List.filter_map]
    rfl
  rw [h1, h1, hm]
theorem len_same {l L : List Ent} (hm : l.map ki = L.map ki) : l.length = L.length := by
  have := congrArg List.length hm; simpa using this
set_option maxHeartbeats 16000000 in
theorem queueplays_walk (w : World) (va : Value) (script : List (Int × Rat × Int)) (ha : Acts w va script) :
    Calls Try.prog 3 #[va] w (RetV w (.bool true)) := by
  have HA := hide ha
  obtain ⟨A0, na, ca, rfl, hna, hcm⟩ := ha.form
  have HNA := hide hna
  clear ha hna
  go_enter Try.func3, Try.ntmps3
  go_wp2_with fail
  ((with_reducible refine (qawake_calls w).mono ?_); rintro e' w1 ⟨rfl, b1⟩)
  have HL1 := hide b1
  clear b1
  go_wp2_with fail
  ((with_reducible refine (qnew_calls w1).mono ?_); rintro e' w3 ⟨rfl, b3, q3⟩)
  have HI3 : Hid (QI w1 w3 (fun b => w1.heap.size ≤ b) (fun b => b = w1.heap.size) w1.heap.size [] 0) := hide ⟨q3, b3, fun b hb => hb⟩
  clear q3
  go_upto_region 5 with fail
  obtain ⟨W3, hW3⟩ : ∃ W3, W3 = w3.alloc (Obj.cells #[Value.slice none 0 0, Value.slice none 0 0] 30) := ⟨_, rfl⟩
  obtain ⟨gr, hgr⟩ : ∃ gr, gr = w3.heap.size := ⟨_, rfl⟩
  have hb : Later w3 W3 := by rw [hW3]; exact (Later.refl _).alloc _
  have hr : Row W3 gr 30 [.slice none 0 0, .slice none 0 0] := by rw [hW3, hgr]; exact Row.new _ _ _
  rw [← hW3, ← hgr]
  have hs3 : w1.heap.size < w3.heap.size := HI3.out.1.mlt _ rfl
  have hsw := HL1.out.size
  obtain ⟨gq, hgq⟩ : ∃ g, g = w1.heap.size := ⟨_, rfl⟩
  have HQ3 : Hid (QR w1 W3 (fun b => w1.heap.size ≤ b ∧ b < w3.heap.size) (fun b => b = w1.heap.size) w1.heap.size [] 0 (fun b => b = gr) gr []) :=
    hide ⟨HI3.out.cut.later hb, ⟨.slice none 0 0, .slice none 0 0, rfl, hr, World.ownsRow_nil W3 0 _ 4, World.ownsRow_nil W3 0 _ 1, (by intro k hk; cases hk), (by intro k hk; cases hk), Keys.nil _ _⟩, fun b hb => by omega, fun x h1 h2 => by omega⟩
  rw [← hgq] at HQ3
  rw [← hgq]
  clear b3 hs3 hsw hgq HI3 hb hr hW3 hgr
  go_wp2_with fail
  go_loopw [5] (fun iv wr => ∃ (j : Nat) (S M : Nat → Prop) (l : List Ent) (put : Nat) (R : Nat → Prop) (L : List Ent), j ≤ na ∧ put ≤ j ∧ iv = .int .i64 (j : Int) ∧ Hid (QR w1 wr S M gq l put R gr L) ∧ (l.map ki = L.map ki)) (fun iv _ => (na - intOf iv).toNat)
  case atStart => exact ⟨0, _, _, [], 0, _, [], by omega, by omega, rfl, HQ3, rfl⟩
  case round =>
    obtain ⟨j, S, M, l, put, R, L, hj, hput, rfl, HQ, hm⟩ := hrel
    have HM := hide hm
    clear hm
    by_cases hjn : j < na
    rotate_left
    · obtain rfl : na = j := by omega
      have HE := hide (HL1.out.trans HQ.out.q.late)
      go_wp2_with fail
      go_ret
      exact ⟨rfl, HE.out⟩
    by_cases hj200 : j < 200
    rotate_left
    · have t2 : decide ((j : Int) < 200) = false := by simp; omega
      have HE := hide (HL1.out.trans HQ.out.q.late)
      go_wp2_with fail
      go_ret
      exact ⟨rfl, HE.out⟩
    have t2 : decide ((j : Int) < 200) = true := by simp; omega
    obtain ⟨x, hx⟩ : ∃ x, script[j]? = some x := ⟨script[j]'(by have := HNA.out; omega), List.getElem?_eq_getElem _⟩
    have HQC := hide HQ.out.cut
    obtain ⟨b1, off1, sx, X, nx, cx, sx', X', nx', cx', rfl, x1, x2, x3, x4, x5, x6, ex⟩ := HA.out.at_ hx
    obtain ⟨kind, q, id⟩ := x
    dsimp only at x1 x2 x3 x4 x5 x6 ex
    have hLw := HL1.out.trans HQ.out.q.late
    have x1 := Later.cell hLw x1
    have x2 := Later.cell hLw x2
    have x3 := Later.cell hLw x3
    have x4 := Later.cell hLw x4
    have x5 := Later.cell hLw x5
    have x6 := Later.cell hLw x6
    have EX := hide ex; have HX := hide hx
    have hj0 : (0 : Int) ≤ (j : Int) := by omega
    have hj1 : (j : Int) < na := by omega
    have HLW := hide hLw
    clear ex hx hLw
    go_upto_region 11 with fail
    obtain ⟨W4, hW4⟩ : ∃ W4, W4 = wr.alloc (Obj.cells #[Value.int .i64 kind, Value.bool sx, Value.slice X nx cx, Value.bool sx', Value.slice X' nx' cx', Value.int .i64 id] 37) := ⟨_, rfl⟩
    obtain ⟨g6, hg6⟩ : ∃ g6, g6 = wr.heap.size := ⟨_, rfl⟩
    have hb : Later wr W4 := by rw [hW4]; exact (Later.refl _).alloc _
    have hr : Row W4 g6 37 [.int .i64 kind, .bool sx, .slice X nx cx, .bool sx', .slice X' nx' cx', .int .i64 id] := by rw [hW4, hg6]; exact Row.new _ _ _
    rw [← hW4, ← hg6]
    have hn6 : ¬ M g6 ∧ ¬ (R g6 ∧ g6 < wr.heap.size) := HQC.out.new_ (by omega) (fun h => by have := h.2; omega)
    have HQ4 := hide (HQC.out.later hb)
    have HB4' : Hid (On W4 (fun x => ¬ M x ∧ ¬ (R x ∧ x < wr.heap.size)) (fun W => Row W g6 37 [.int .i64 kind, .bool sx, .slice X nx cx, .bool sx', .slice X' nx' cx', .int .i64 id])) := hide (On.of_row2 hr hn6)
    have HLW4 := hide (HLW.out.trans hb)
    have hlt4 : g6 < W4.heap.size := hr.lt
    clear hb hW4 hg6 x1 x2 x3 x4 x5 x6
    have hrc := hr
    obtain ⟨r0, r1, r2, r3, r4, r5⟩ := (⟨hrc.cell (i := 0) rfl, hrc.cell (i := 1) rfl, hrc.cell (i := 2) rfl, hrc.cell (i := 3) rfl, hrc.cell (i := 4) rfl, hrc.cell (i := 5) rfl⟩ : W4.cell? ⟨g6, 0, none⟩ = some (.int .i64 kind) ∧ W4.cell? ⟨g6, 1, none⟩ = some (.bool sx) ∧ W4.cell? ⟨g6, 2, none⟩ = some (.slice X nx cx) ∧ W4.cell? ⟨g6, 3, none⟩ = some (.bool sx') ∧ W4.cell? ⟨g6, 4, none⟩ = some (.slice X' nx' cx') ∧ W4.cell? ⟨g6, 5, none⟩ = some (.int .i64 id))
    clear hr hrc
    go_wp2_with fail
    obtain ⟨W5, hW5⟩ : ∃ W5, W5 = W4.alloc (Obj.cells #[Value.bool sx, Value.slice X nx cx, Value.bool sx', Value.slice X' nx' cx'] 35) := ⟨_, rfl⟩
    obtain ⟨g7, hg7⟩ : ∃ g7, g7 = W4.heap.size := ⟨_, rfl⟩
    have hb : Later W4 W5 := by rw [hW5]; exact (Later.refl _).alloc _
    have hr : Row W5 g7 35 [.bool sx, .slice X nx cx, .bool sx', .slice X' nx' cx'] := by rw [hW5, hg7]; exact Row.new _ _ _
    rw [← hW5, ← hg7]
    have HR7 := hide hr
    have HQ5 := hide (HQ4.out.later hb)
    have HB5 := hide (HB4'.out.later hb)
    have HLW5 := hide (HLW4.out.trans hb)
    have EX5 := hide (EAny.later _ _ _ _ EX.out HLW5.out)
    clear hb hr hW5 hg7 r0 r1 r2 r3 r4 r5
    refine (few_calls W5 _ [q] 1 (rats_one HR7.out EX5.out) (by omega)).mono ?_
    rintro e w6 ⟨t, rfl, hf, hw⟩
    subst hw
    cases t with
    | false =>
      have HE := hide (HL1.out.trans HQ5.out.q.late)
      go_wp2_with fail
      go_ret
      exact ⟨rfl, HE.out⟩
    | true =>
    have hle := rawR_lens (rats_one_inv HR7.out (hf rfl).2)
    have HK : Hid (∀ W', Later w W' → RawR W' (.agg #[.bool sx, .slice X nx cx, .bool sx', .slice X' nx' cx']) q 50) := hide fun W' h => RawR.later (RawR.mono (rawR_small EX.out hle.1 hle.2) (by omega : 1 ≤ 50)) h
    clear hf hle
    have hrc := HB5.out.now
    obtain ⟨r0, r1, r2, r3, r4, r5⟩ := (⟨hrc.cell (i := 0) rfl, hrc.cell (i := 1) rfl, hrc.cell (i := 2) rfl, hrc.cell (i := 3) rfl, hrc.cell (i := 4) rfl, hrc.cell (i := 5) rfl⟩ : W5.cell? ⟨g6, 0, none⟩ = some (.int .i64 kind) ∧ W5.cell? ⟨g6, 1, none⟩ = some (.bool sx) ∧ W5.cell? ⟨g6, 2, none⟩ = some (.slice X nx cx) ∧ W5.cell? ⟨g6, 3, none⟩ = some (.bool sx') ∧ W5.cell? ⟨g6, 4, none⟩ = some (.slice X' nx' cx') ∧ W5.cell? ⟨g6, 5, none⟩ = some (.int .i64 id))
    clear hrc
    have hkr := HQ5.out.q.q.len
    have hll := len_same HM.out
    have HLL := hide hll
    clear hll
    go_upto_block 2 with fail
    go_cut [] (fun wx => ∃ (S M : Nat → Prop) (l : List Ent) (put : Nat) (R : Nat → Prop) (L : List Ent), put ≤ j + 1 ∧ Hid (QR w1 wx S M gq l put R gr L) ∧ Hid (l.map ki = L.map ki))
    case first =>
      by_cases k0 : kind = 0
      · subst k0
        go_wp2_with fail
        have hpc := qput_calls W5 _ M gq put l _ q id HQ5.out.q.q (by omega) (HK.out _ HLW5.out)
        ((with_reducible refine hpc.mono ?_); rintro e' w6 ⟨rfl, S2, M2, ent, hst, hk, hi, hq⟩)
        have HQ6 := hide (HQ5.out.stepQ hst hq)
        have HB6 := hide (HB5.out.prQ hst)
        have HKI := hide (And.intro hk hi)
        clear hpc hst hk hi hq r0 r1 r2 r3 r4 r5
        have hrc := HB6.out.now
        obtain ⟨r0, r1, r2, r3, r4, r5⟩ := (⟨hrc.cell (i := 0) rfl, hrc.cell (i := 1) rfl, hrc.cell (i := 2) rfl, hrc.cell (i := 3) rfl, hrc.cell (i := 4) rfl, hrc.cell (i := 5) rfl⟩ : w6.cell? ⟨g6, 0, none⟩ = some (.int .i64 0) ∧ w6.cell? ⟨g6, 1, none⟩ = some (.bool sx) ∧ w6.cell? ⟨g6, 2, none⟩ = some (.slice X nx cx) ∧ w6.cell? ⟨g6, 3, none⟩ = some (.bool sx') ∧ w6.cell? ⟨g6, 4, none⟩ = some (.slice X' nx' cx') ∧ w6.cell? ⟨g6, 5, none⟩ = some (.int .i64 id))
        clear hrc
        go_wp2_with fail
        have hpc := rput_calls w6 _ gr L _ q id HQ6.out.r (by rw [← HLL.out]; omega) (HK.out _ (HL1.out.trans HQ6.out.q.late))
        ((with_reducible refine hpc.mono ?_); rintro e' w7 ⟨rfl, R2, ent2, hst, hk, hi, hq⟩)
        have HQ7 := hide (HQ6.out.stepR hst hq)
        have HMN : Hid ((l ++ [ent]).map ki = (L ++ [ent2]).map ki) := hide (by rw [List.map_append, List.map_append, HM.out]; simp [ki, hk, hi, HKI.out.1, HKI.out.2])
        clear hpc hst hk hi hq r0 r1 r2 r3 r4 r5
        go_wp2_with fail
        go_meet
        exact ⟨_, _, _, _, _, _, by omega, HQ7, HMN⟩
      have t0 : (kind == 0) = false := by simp [k0]
      by_cases k1 : kind = 1
      · subst k1
        clear r0 r1 r2 r3 r4 r5
        go_wp2_with fail
        ((with_reducible refine (qtake_calls W5 _ M gq put l HQ5.out.q.q).mono ?_); rintro e' w6 hp)
        rcases hp with ⟨h0, v1, rfl, o1, b6⟩ | ⟨i, e, S2, M2, hf, rfl, hst, hq, hon, hsz⟩
        · obtain ⟨s1, P1, q1, e1, P1', q1', e1', rfl, o1⟩ := o1.open_; have O1 := hide (OwnR.weaken o1 (Nat.zero_le _)); clear o1
          have hL0 : L = [] := by have := HM.out; rw [h0] at this; simpa using this.symm
          have HL0 := hide hL0
          have HQ6 := hide (HQ5.out.later b6)
          clear b6 hL0 h0
          go_wp2_with fail
          obtain ⟨W6, hW6⟩ : ∃ W6, W6 = w6.alloc (Obj.cells #[Value.bool s1, Value.slice P1 q1 e1, Value.bool false, Value.slice P1' q1' e1'] 35) := ⟨_, rfl⟩
          obtain ⟨g8, hg8⟩ : ∃ g8, g8 = w6.heap.size := ⟨_, rfl⟩
          have hb : Later w6 W6 := by rw [hW6]; exact (Later.refl _).alloc _
          have hr : Row W6 g8 35 [.bool s1, .slice P1 q1 e1, .bool false, .slice P1' q1' e1'] := by rw [hW6, hg8]; exact Row.new _ _ _
          rw [← hW6, ← hg8]
          have O1' := hide (OwnR.later O1.out hb)
          have HR1 := hide hr
          have HQ7 := hide (HQ6.out.later hb)
          clear hb hr hW6 hg8
          ((with_reducible refine (rtake_calls W6 _ gr L HQ7.out.r (by rw [← HLL.out]; omega)).mono ?_); rintro e' w7 hp)
          rcases hp with ⟨-, v2, rfl, o2, b7⟩ | ⟨i, e, R2, hf, -⟩
          rotate_left
          · rw [HL0.out] at hf; exact (take0 hf).elim
          obtain ⟨s2, P2, q2, e2, P2', q2', e2', rfl, o2⟩ := o2.open_; have O2 := hide (OwnR.weaken o2 (Nat.zero_le _)); clear o2
          have HQ8 := hide (HQ7.out.later b7)
          have HR2 := hide (HR1.out.later b7)
          have O12 := hide (OwnR.later O1'.out b7)
          clear b7
          go_upto_region 20 with fail
          obtain ⟨W7, hW7⟩ : ∃ W7, W7 = w7.alloc (Obj.cells #[Value.bool s2, Value.slice P2 q2 e2, Value.bool false, Value.slice P2' q2' e2'] 35) := ⟨_, rfl⟩
          obtain ⟨g11, hg11⟩ : ∃ g11, g11 = w7.heap.size := ⟨_, rfl⟩
          have hb : Later w7 W7 := by rw [hW7]; exact (Later.refl _).alloc _
          have hr : Row W7 g11 35 [.bool s2, .slice P2 q2 e2, .bool false, .slice P2' q2' e2'] := by rw [hW7, hg11]; exact Row.new _ _ _
          rw [← hW7, ← hg11]
          have HQ9 := hide (HQ8.out.later hb)
          have A1 := hide (OwnR.later O12.out hb)
          have A2 := hide (OwnR.later O2.out hb)
          obtain ⟨d1, d2, d3, d4, -⟩ := row_cells4 (HR2.out.later hb)
          obtain ⟨f1, f2, f3, f4, -⟩ := row_cells4 hr
          clear hb hr hW7 hg11
          go_wp2_with fail
          ((with_reducible refine (qsame_calls _ _ _ 0 0 0 0 1 1 A1.out A2.out sized_0 sized_0 (by omega) (by omega) true (by decide)).mono ?_); rintro e' w9 ⟨rfl, b9⟩)
          have HQ10 := hide (HQ9.out.later b9)
          clear b9 d1 d2 d3 d4 f1 f2 f3 f4
          go_wp2_with fail
          go_meet
          exact ⟨_, _, _, _, _, _, by omega, HQ10, HM⟩
        · have HQ6 := hide (HQ5.out.stepQ hst hq)
          have HOE := hide (hon.mono (P' := fun x => ¬ M2 x ∧ ¬ ((fun x => (R x ∧ x < wr.heap.size) ∧ x < W5.heap.size) x)) (fun x hx _ => ⟨fun hm => (hst.2.1 x hm).elim hx.2.1 (fun h => by have := hx.2.2; omega), fun h => HQ5.out.dis x hx.1 h.1⟩))
          have HF := hide hf; have HSZ := hide hsz; have HS56 := hide hst.2.2.size
          clear hf hst hq hon hsz
          go_wp2_with fail
          obtain ⟨W6, hW6⟩ : ∃ W6, W6 = w6.alloc (Obj.cells #[Value.bool e.s, Value.slice e.A e.n e.c, Value.bool false, Value.slice e.A' e.n' e.c'] 35) := ⟨_, rfl⟩
          obtain ⟨g8, hg8⟩ : ∃ g8, g8 = w6.heap.size := ⟨_, rfl⟩
          have hb : Later w6 W6 := by rw [hW6]; exact (Later.refl _).alloc _
          have hr : Row W6 g8 35 [.bool e.s, .slice e.A e.n e.c, .bool false, .slice e.A' e.n' e.c'] := by rw [hW6, hg8]; exact Row.new _ _ _
          rw [← hW6, ← hg8]
          have HQ7 := hide (HQ6.out.later hb)
          have HB7 := hide ((HOE.out.later hb).and (On.of_row2 hr (HQ6.out.new_ (by omega) (fun h => by have := h.2; have := HS56.out; omega))))
          clear hb hr hW6 hg8
          ((with_reducible refine (rtake_calls W6 _ gr L HQ7.out.r (by rw [← HLL.out]; omega)).mono ?_); rintro e' w7 hp)
          rcases hp with ⟨h0, -⟩ | ⟨k, o, R2, hf, rfl, hst, hq, hon, hsz⟩
          · have h9 := HM.out
            rw [h0] at h9
            have : l = [] := by simpa using h9
            rw [this] at HF
            exact (take0 HF.out).elim
          obtain ⟨-, hko, hio, hMN⟩ := first_same HM.out HF.out hf
          have HQ8 := hide (HQ7.out.stepR hst hq)
          have HB8 := hide (HB7.out.prR hst)
          have HMN := hide hMN; have HKO := hide hko; have HSZO := hide hsz
          have HOO := hide hon.now
          rw [← hio]
          clear hf hst hq hon hsz hMN hko hio
          go_upto_region 20 with fail
          obtain ⟨W7, hW7⟩ : ∃ W7, W7 = w7.alloc (Obj.cells #[Value.bool o.s, Value.slice o.A o.n o.c, Value.bool false, Value.slice o.A' o.n' o.c'] 35) := ⟨_, rfl⟩
          obtain ⟨g11, hg11⟩ : ∃ g11, g11 = w7.heap.size := ⟨_, rfl⟩
          have hb : Later w7 W7 := by rw [hW7]; exact (Later.refl _).alloc _
          have hr : Row W7 g11 35 [.bool o.s, .slice o.A o.n o.c, .bool false, .slice o.A' o.n' o.c'] := by rw [hW7, hg11]; exact Row.new _ _ _
          rw [← hW7, ← hg11]
          have HQ9 := hide (HQ8.out.later hb)
          have A2 : Hid (OwnR W7 0 (.agg #[.bool o.s, .slice o.A o.n o.c, .bool false, .slice o.A' o.n' o.c']) o.key) := hide (HOO.out.later hb)
          have h8 := (HB8.out.later hb).now
          have A1 : Hid (OwnR W7 0 (.agg #[.bool e.s, .slice e.A e.n e.c, .bool false, .slice e.A' e.n' e.c']) e.key) := hide h8.1
          obtain ⟨d1, d2, d3, d4, -⟩ := row_cells4 h8.2
          obtain ⟨f1, f2, f3, f4, -⟩ := row_cells4 hr
          clear hb hr hW7 hg11 h8
          go_wp2_with fail
          ((with_reducible refine (qsame_calls _ _ _ e.key o.key 0 0 100 100 A1.out A2.out HSZ.out HSZO.out (by omega) (by omega) true (by rw [HKO.out]; simp)).mono ?_); rintro e' w9 ⟨rfl, b9⟩)
          have HQ10 := hide (HQ9.out.later b9)
          clear b9 d1 d2 d3 d4 f1 f2 f3 f4
          go_wp2_with fail
          go_meet
          exact ⟨_, _, _, _, _, _, by omega, HQ10, HMN⟩
      have t1 : (kind == 1) = false := by simp [k1]
      by_cases k2 : kind = 2
      · subst k2
        clear r0 r1 r2 r3 r4 r5
        go_upto_region 23 with fail
        have hd : Later W5 W5.drew := (Later.refl W5).drew
        have HQ5d := hide (HQ5.out.later hd)
        have HB5d := hide (HB5.out.later hd)
        have hw1 := HL1.out.size
        have HKD := hide (RawR.onlow (HK.out w (Later.refl w)) (HLW5.out.trans hd) (fun b hb => Nat.le_trans hw1 (HQ5d.out.q.since b hb)))
        obtain ⟨dz, hdz⟩ : ∃ dz, ((l.length : Nat) : Int) - (((notAbove q l).length : Nat) : Int) = dz := ⟨_, rfl⟩
        have hmn := notAbove_same (q := q) HM.out
        have HV2 : Hid (((L.length : Nat) : Int) - (((notAbove q L).length : Nat) : Int) = dz) := hide (by rw [← hdz, len_same HM.out, len_same hmn])
        have HV1 := hide hdz; have HMN := hide hmn
        have hmx : Try.prog.follows .mixedOrders = true := by kernel_rfl
        have hrc := HB5d.out.now
        have hS0 : W5.drew.cell? ⟨g6, 1, none⟩ = some (.bool sx) ∧ W5.drew.cell? ⟨g6, 2, none⟩ = some (.slice X nx cx) ∧ W5.drew.cell? ⟨g6, 3, none⟩ = some (.bool sx') ∧ W5.drew.cell? ⟨g6, 4, none⟩ = some (.slice X' nx' cx') := ⟨hrc.cell rfl, hrc.cell rfl, hrc.cell rfl, hrc.cell rfl⟩
        clear hdz hmn hrc hd hw1
        refine wp_region_N (fun w' => w'.cell? ⟨g6, 1, none⟩ = some (.bool sx) ∧ w'.cell? ⟨g6, 2, none⟩ = some (.slice X nx cx) ∧ w'.cell? ⟨g6, 3, none⟩ = some (.bool sx') ∧ w'.cell? ⟨g6, 4, none⟩ = some (.slice X' nx' cx')) [] hmx hS0 (fun hHeld => ?_)
        clear hS0
        refine wpAnyN_takeD (some 89) (by rfl) (i := 0) (oi := _) (v := ?_) rfl (by kernel_rfl) (by kernel_rfl) (by kernel_rfl) (by kernel_rfl) (fun _ _ _ h => h) (Or.inl ⟨by rfl, ?_⟩) (by assumption) ?_
        rotate_left
        · intro w hSw; (try dsimp only at hSw); go_simp
          first | done | with_reducible rfl
        try simp only [Act.put, List.setIfInBounds_toArray, List.set_cons_zero, List.set_cons_succ]
        refine wpAnyN_takeD (some 90) (by rfl) (i := 1) (oi := _) (v := ?_) rfl (by kernel_rfl) (by kernel_rfl) (by kernel_rfl) (by kernel_rfl) (fun _ _ _ h => h) (Or.inl ⟨by rfl, ?_⟩) (by assumption) ?_
        rotate_left
        · intro w hSw; (try dsimp only at hSw); go_simp
          first | done | with_reducible rfl
        try simp only [Act.put, List.setIfInBounds_toArray, List.set_cons_zero, List.set_cons_succ]
        refine wpAnyN_takeD (some 91) (by rfl) (i := 2) (oi := _) (v := ?_) rfl (by kernel_rfl) (by kernel_rfl) (by kernel_rfl) (by kernel_rfl) (fun _ _ _ h => h) (Or.inl ⟨by rfl, ?_⟩) (by assumption) ?_
        rotate_left
        · intro w hSw; (try dsimp only at hSw); go_simp
          first | done | with_reducible rfl
        try simp only [Act.put, List.setIfInBounds_toArray, List.set_cons_zero, List.set_cons_succ]
        refine wpAnyN_takeD (some 93) (by rfl) (i := 4) (oi := _) (v := ?_) rfl (by kernel_rfl) (by kernel_rfl) (by kernel_rfl) (by kernel_rfl) (fun _ _ _ h => h) (Or.inl ⟨by rfl, ?_⟩) (by assumption) ?_
        rotate_left
        · intro w hSw; (try dsimp only at hSw); go_simp
          first | done | with_reducible rfl
        try simp only [Act.put, List.setIfInBounds_toArray, List.set_cons_zero, List.set_cons_succ]
        refine wpAnyN_takeD (some 94) (by rfl) (i := 5) (oi := _) (v := ?_) rfl (by kernel_rfl) (by kernel_rfl) (by kernel_rfl) (by kernel_rfl) (fun _ _ _ h => h) (Or.inl ⟨by rfl, ?_⟩) (by assumption) ?_
        rotate_left
        · intro w hSw; (try dsimp only at hSw); go_simp
          first | done | with_reducible rfl
        try simp only [Act.put, List.setIfInBounds_toArray, List.set_cons_zero, List.set_cons_succ]
        refine wpAnyN_takeD (some 95) (by rfl) (i := 6) (oi := _) (v := ?_) rfl (by kernel_rfl) (by kernel_rfl) (by kernel_rfl) (by kernel_rfl) (fun _ _ _ h => h) (Or.inl ⟨by rfl, ?_⟩) (by assumption) ?_
        rotate_left
        · intro w hSw; (try dsimp only at hSw); go_simp
          first | done | with_reducible rfl
        try simp only [Act.put, List.setIfInBounds_toArray, List.set_cons_zero, List.set_cons_succ]
        refine wpAnyN_ready (rs := [3]) (by kernel_rfl) (by simp) ?_
        refine AllReadyN.held rfl (by rfl) (fun K hK => ?_) AllReadyN.nil
        go_simp
        ((with_reducible refine (qdrop_calls W5.drew _ M gq put l _ q HQ5d.out.q.q HKD.out).mono ?_); rintro e' w103 ⟨rfl, S3, M3, hst, hq⟩; rw [HV1.out])
        have HQ6 := hide (HQ5d.out.stepQ hst hq)
        have HB6 := hide (HB5d.out.prQ hst)
        have hrx := HB6.out.now
        clear hst hq
        refine hK.out _ _ ?_ (fun hHeld => ?_)
        · exact ⟨hrx.cell rfl, hrx.cell rfl, hrx.cell rfl, hrx.cell rfl⟩
        clear hK K
        try simp only [Act.put, List.setIfInBounds_toArray, List.set_cons_zero, List.set_cons_succ]
        refine wpAnyN_ready (rs := [7]) (by kernel_rfl) (by simp) ?_
        refine AllReadyN.held rfl (by rfl) (fun K hK => ?_) AllReadyN.nil
        go_simp
        ((with_reducible refine (rdrop_calls w103 _ gr L _ q HQ6.out.r (by rw [← HLL.out]; omega) (HK.out _ (HL1.out.trans HQ6.out.q.late))).mono ?_); rintro e' w107 ⟨rfl, R3, hst, hq⟩; rw [HV2.out])
        have HQ7 := hide (HQ6.out.stepR hst hq)
        have hrx2 := (HB6.out.prR hst).now
        clear hst hq hrx
        refine hK.out _ _ ?_ (fun hHeld => ?_)
        · exact ⟨hrx2.cell rfl, hrx2.cell rfl, hrx2.cell rfl, hrx2.cell rfl⟩
        clear hK K
        try simp only [Act.put, List.setIfInBounds_toArray, List.set_cons_zero, List.set_cons_succ]
        refine wpAnyN_takeD (some 97) (by rfl) (i := 8) (oi := _) (v := ?_) rfl (by kernel_rfl) (by kernel_rfl) (by kernel_rfl) (by kernel_rfl) (fun _ _ _ h => h) (Or.inl ⟨by rfl, ?_⟩) (by assumption) ?_
        rotate_left
        · intro w hSw; (try dsimp only at hSw); go_simp
          first | done | with_reducible rfl
        try simp only [Act.put, List.setIfInBounds_toArray, List.set_cons_zero, List.set_cons_succ]
        refine wpAnyN_done (by kernel_rfl) ?_ _
        clear hHeld hrx2
        go_wp2_with fail
        go_meet
        exact ⟨_, _, _, _, _, _, by omega, HQ7, HMN⟩

      have t2' : (kind == 2) = false := by simp [k2]
      go_wp2_with fail
      go_meet
      exact ⟨_, _, _, _, _, _, by omega, HQ5, HM⟩
    case rest =>
      obtain ⟨S, M, l, put, R, L, hput', HQ, HM⟩ := hcut
      have HLN := hide (congrArg (fun (n : Nat) => (n : Int)) (len_same HM.out))
      go_wp2_with fail
      ((with_reducible refine (qleast_calls wc _ M gq put l HQ.out.q.q).mono ?_); rintro e' w6 hp)
      obtain ⟨b6, s1, P1, q1, e1, P1', q1', e1', qv, ok, rfl, o1, hsz, hd1⟩ := hp.out (fun e he => ⟨hide (HQ.out.q.q.key he).1.now, (HQ.out.q.q.key he).2⟩)
      have O1 := hide o1; have HSZ := hide hsz; have HD1 := hide hd1
      have HQ6 := hide (HQ.out.later b6)
      clear b6 o1 hsz hd1 hp
      go_wp2_with fail
      obtain ⟨W13, hW13⟩ : ∃ W13, W13 = w6.alloc (Obj.cells #[Value.bool s1, Value.slice P1 q1 e1, Value.bool false, Value.slice P1' q1' e1'] 35) := ⟨_, rfl⟩
      obtain ⟨g13, hg13⟩ : ∃ g13, g13 = w6.heap.size := ⟨_, rfl⟩
      have hb : Later w6 W13 := by rw [hW13]; exact (Later.refl _).alloc _
      have hr : Row W13 g13 35 [.bool s1, .slice P1 q1 e1, .bool false, .slice P1' q1' e1'] := by rw [hW13, hg13]; exact Row.new _ _ _
      rw [← hW13, ← hg13]
      have O11 := hide (OwnR.later O1.out hb)
      have HR1 := hide hr
      have HQ7 := hide (HQ6.out.later hb)
      clear hb hr hW13 hg13
      ((with_reducible refine (rleast_calls W13 R gr L HQ7.out.r (by rw [← len_same HM.out]; have := HQ7.out.q.q.len; omega)).mono ?_); rintro e' w8 hp)
      obtain ⟨b8, s2, P2, q2, e2, P2', q2', e2', qv2, ok2, rfl, o2, -, hd2⟩ := hp.out (fun e he => ⟨hide (HQ7.out.r.key he).1, (HQ7.out.r.key he).2⟩)
      obtain ⟨rfl, rfl⟩ := least_same HM.out HD1.out hd2
      have O2 := hide o2; have O12 := hide (OwnR.later O11.out b8)
      have HQ8 := hide (HQ7.out.later b8)
      have HR2 := hide (HR1.out.later b8)
      clear b8 o2 hd2 hp
      go_upto_region 27 with fail
      obtain ⟨W15, hW15⟩ : ∃ W15, W15 = w8.alloc (Obj.cells #[Value.bool s2, Value.slice P2 q2 e2, Value.bool false, Value.slice P2' q2' e2'] 35) := ⟨_, rfl⟩
      obtain ⟨g15, hg15⟩ : ∃ g15, g15 = w8.heap.size := ⟨_, rfl⟩
      have hb : Later w8 W15 := by rw [hW15]; exact (Later.refl _).alloc _
      have hr : Row W15 g15 35 [.bool s2, .slice P2 q2 e2, .bool false, .slice P2' q2' e2'] := by rw [hW15, hg15]; exact Row.new _ _ _
      rw [← hW15, ← hg15]
      have hd : Later W15 W15.drew := (Later.refl W15).drew
      have hbd := hb.trans hd
      have HQ15 := hide (HQ8.out.later hbd)
      have HE1 : Hid (∀ W', Later W15.drew W' → OwnR W' 0 (.agg #[.bool s1, .slice P1 q1 e1, .bool false, .slice P1' q1' e1']) qv) := hide fun W' h => OwnR.later O12.out (hbd.trans h)
      have HE2 : Hid (∀ W', Later W15.drew W' → OwnR W' 0 (.agg #[.bool s2, .slice P2 q2 e2, .bool false, .slice P2' q2' e2']) qv) := hide fun W' h => OwnR.later O2.out (hbd.trans h)
      obtain ⟨vk9, vi9, hrq⟩ := HQ15.out.r
      obtain ⟨A9, n9, c9, hvi, hn9⟩ := own_form hrq.js
      have hrow := hrq.row
      rw [hvi] at hrow
      have hr1 := HR2.out.later hbd
      have hr2 := hr.later hd
      have HT1 : Hid (∀ w', Later W15.drew w' → w'.cell? ⟨g13, 0, none⟩ = some (.bool s1) ∧ w'.cell? ⟨g13, 1, none⟩ = some (.slice P1 q1 e1) ∧ w'.cell? ⟨g13, 2, none⟩ = some (.bool false) ∧ w'.cell? ⟨g13, 3, none⟩ = some (.slice P1' q1' e1') ∧ w'.cell? ⟨g15, 0, none⟩ = some (.bool s2) ∧ w'.cell? ⟨g15, 1, none⟩ = some (.slice P2 q2 e2) ∧ w'.cell? ⟨g15, 2, none⟩ = some (.bool false) ∧ w'.cell? ⟨g15, 3, none⟩ = some (.slice P2' q2' e2') ∧ w'.cell? ⟨gr, 1, none⟩ = some (.slice A9 n9 c9)) := hide fun w' hb => ⟨(hr1.later hb).cell rfl, (hr1.later hb).cell rfl, (hr1.later hb).cell rfl, (hr1.later hb).cell rfl, (hr2.later hb).cell rfl, (hr2.later hb).cell rfl, (hr2.later hb).cell rfl, (hr2.later hb).cell rfl, (hrow.later hb).cell rfl⟩
      have HN9 := hide hn9
      clear hd hbd hrq hvi hrow hr1 hr2 hn9 hb hr hW15 hg15
      have hmx : Try.prog.follows .mixedOrders = true := by kernel_rfl
      have hn9 := HN9.out
      subst hn9
      refine wp_region_N (fun w' => w'.cell? ⟨g13, 0, none⟩ = some (.bool s1) ∧ w'.cell? ⟨g13, 1, none⟩ = some (.slice P1 q1 e1) ∧ w'.cell? ⟨g13, 2, none⟩ = some (.bool false) ∧ w'.cell? ⟨g13, 3, none⟩ = some (.slice P1' q1' e1') ∧ w'.cell? ⟨g15, 0, none⟩ = some (.bool s2) ∧ w'.cell? ⟨g15, 1, none⟩ = some (.slice P2 q2 e2) ∧ w'.cell? ⟨g15, 2, none⟩ = some (.bool false) ∧ w'.cell? ⟨g15, 3, none⟩ = some (.slice P2' q2' e2') ∧ w'.cell? ⟨gr, 1, none⟩ = some (.slice A9 L.length c9)) [] hmx (HT1.out _ (Later.refl _)) (fun hHeld => ?_)
      refine wpAnyN_takeD (some 108) (by rfl) (i := 0) (oi := _) (v := ?_) rfl (by kernel_rfl) (by kernel_rfl) (by kernel_rfl) (by kernel_rfl) (fun _ _ _ h => h) (Or.inl ⟨by rfl, ?_⟩) (by assumption) ?_
      rotate_left
      · intro w hSw; (try dsimp only at hSw); go_simp
        first | done | with_reducible rfl
      try simp only [Act.put, List.setIfInBounds_toArray, List.set_cons_zero, List.set_cons_succ]
      refine wpAnyN_takeD (some 109) (by rfl) (i := 1) (oi := _) (v := ?_) rfl (by kernel_rfl) (by kernel_rfl) (by kernel_rfl) (by kernel_rfl) (fun _ _ _ h => h) (Or.inl ⟨by rfl, ?_⟩) (by assumption) ?_
      rotate_left
      · intro w hSw; (try dsimp only at hSw); go_simp
        first | done | with_reducible rfl
      try simp only [Act.put, List.setIfInBounds_toArray, List.set_cons_zero, List.set_cons_succ]
      refine wpAnyN_ready (rs := [2]) (by kernel_rfl) (by simp) ?_
      refine AllReadyN.held rfl (by rfl) (fun K hK => ?_) AllReadyN.nil
      go_simp
      ((with_reducible refine (qsame_calls _ _ _ qv qv 0 0 100 100 (HE1.out _ (Later.refl _)) (HE2.out _ (Later.refl _)) HSZ.out HSZ.out (by omega) (by omega) true (by simp)).mono ?_); rintro e' w102 ⟨rfl, b102⟩)
      have l2 : Later W15.drew w102 := Later.trans (Later.refl _) b102
      refine hK.out _ _ ?_ (fun hHeld => ?_)
      · exact HT1.out _ l2
      clear hK K
      try simp only [Act.put, List.setIfInBounds_toArray, List.set_cons_zero, List.set_cons_succ]
      refine wpAnyN_takeD (some 111) (by rfl) (i := 3) (oi := _) (v := ?_) rfl (by kernel_rfl) (by kernel_rfl) (by kernel_rfl) (by kernel_rfl) (fun _ _ _ h => h) (Or.inl ⟨by rfl, ?_⟩) (by assumption) ?_
      rotate_left
      · intro w hSw; (try dsimp only at hSw); go_simp
        first | done | with_reducible rfl
      try simp only [Act.put, List.setIfInBounds_toArray, List.set_cons_zero, List.set_cons_succ]
      refine wpAnyN_takeD (some 112) (by rfl) (i := 4) (oi := _) (v := ?_) rfl (by kernel_rfl) (by kernel_rfl) (by kernel_rfl) (by kernel_rfl) (fun _ _ _ h => h) (Or.inl ⟨by rfl, ?_⟩) (by assumption) ?_
      rotate_left
      · intro w hSw; (try dsimp only at hSw); go_simp
        first | done | with_reducible rfl
      try simp only [Act.put, List.setIfInBounds_toArray, List.set_cons_zero, List.set_cons_succ]
      refine wpAnyN_takeD (some 113) (by rfl) (i := 5) (oi := _) (v := ?_) rfl (by kernel_rfl) (by kernel_rfl) (by kernel_rfl) (by kernel_rfl) (fun _ _ _ h => h) (Or.inl ⟨by rfl, ?_⟩) (by assumption) ?_
      rotate_left
      · intro w hSw; (try dsimp only at hSw); go_simp
        first | done | with_reducible rfl
      try simp only [Act.put, List.setIfInBounds_toArray, List.set_cons_zero, List.set_cons_succ]
      refine wpAnyN_takeD (some 114) (by rfl) (i := 6) (oi := _) (v := ?_) rfl (by kernel_rfl) (by kernel_rfl) (by kernel_rfl) (by kernel_rfl) (fun _ _ _ h => h) (Or.inl ⟨by rfl, ?_⟩) (by assumption) ?_
      rotate_left
      · intro w hSw; (try dsimp only at hSw); go_simp
        first | done | with_reducible rfl
      try simp only [Act.put, List.setIfInBounds_toArray, List.set_cons_zero, List.set_cons_succ]
      refine wpAnyN_takeD (some 115) (by rfl) (i := 7) (oi := _) (v := ?_) rfl (by kernel_rfl) (by kernel_rfl) (by kernel_rfl) (by kernel_rfl) (fun _ _ _ h => h) (Or.inl ⟨by rfl, ?_⟩) (by assumption) ?_
      rotate_left
      · intro w hSw; (try dsimp only at hSw); go_simp
        first | done | with_reducible rfl
      try simp only [Act.put, List.setIfInBounds_toArray, List.set_cons_zero, List.set_cons_succ]
      refine wpAnyN_takeD (some 116) (by rfl) (i := 8) (oi := _) (v := ?_) rfl (by kernel_rfl) (by kernel_rfl) (by kernel_rfl) (by kernel_rfl) (fun _ _ _ h => h) (Or.inl ⟨by rfl, ?_⟩) (by assumption) ?_
      rotate_left
      · intro w hSw; (try dsimp only at hSw); go_simp
        first | done | with_reducible rfl
      try simp only [Act.put, List.setIfInBounds_toArray, List.set_cons_zero, List.set_cons_succ]
      refine wpAnyN_takeD (some 117) (by rfl) (i := 9) (oi := _) (v := ?_) rfl (by kernel_rfl) (by kernel_rfl) (by kernel_rfl) (by kernel_rfl) (fun _ _ _ h => h) (Or.inl ⟨by rfl, ?_⟩) (by assumption) ?_
      rotate_left
      · intro w hSw; (try dsimp only at hSw); go_simp
        first | done | with_reducible rfl
      try simp only [Act.put, List.setIfInBounds_toArray, List.set_cons_zero, List.set_cons_succ]
      refine wpAnyN_takeD (some 118) (by rfl) (i := 10) (oi := _) (v := ?_) rfl (by kernel_rfl) (by kernel_rfl) (by kernel_rfl) (by kernel_rfl) (fun _ _ _ h => h) (Or.inl ⟨by rfl, ?_⟩) (by assumption) ?_
      rotate_left
      · intro w hSw; (try dsimp only at hSw); go_simp
        first | done | with_reducible rfl
      try simp only [Act.put, List.setIfInBounds_toArray, List.set_cons_zero, List.set_cons_succ]
      refine wpAnyN_takeD (some 120) (by rfl) (i := 12) (oi := _) (v := ?_) rfl (by kernel_rfl) (by kernel_rfl) (by kernel_rfl) (by kernel_rfl) (fun _ _ _ h => h) (Or.inl ⟨by rfl, ?_⟩) (by assumption) ?_
      rotate_left
      · intro w hSw; (try dsimp only at hSw); go_simp
        first | done | with_reducible rfl
      try simp only [Act.put, List.setIfInBounds_toArray, List.set_cons_zero, List.set_cons_succ]
      refine wpAnyN_takeD (some 121) (by rfl) (i := 13) (oi := _) (v := ?_) rfl (by kernel_rfl) (by kernel_rfl) (by kernel_rfl) (by kernel_rfl) (fun _ _ _ h => h) (Or.inl ⟨by rfl, ?_⟩) (by assumption) ?_
      rotate_left
      · intro w hSw; (try dsimp only at hSw); go_simp
        first | done | with_reducible rfl
      try simp only [Act.put, List.setIfInBounds_toArray, List.set_cons_zero, List.set_cons_succ]
      refine wpAnyN_takeD (some 122) (by rfl) (i := 14) (oi := _) (v := ?_) rfl (by kernel_rfl) (by kernel_rfl) (by kernel_rfl) (by kernel_rfl) (fun _ _ _ h => h) (Or.inl ⟨by rfl, ?_⟩) (by assumption) ?_
      rotate_left
      · intro w hSw; (try dsimp only at hSw); go_simp
        first | done | with_reducible rfl
      try simp only [Act.put, List.setIfInBounds_toArray, List.set_cons_zero, List.set_cons_succ]
      refine wpAnyN_takeD (some 123) (by rfl) (i := 15) (oi := _) (v := ?_) rfl (by kernel_rfl) (by kernel_rfl) (by kernel_rfl) (by kernel_rfl) (fun _ _ _ h => h) (Or.inl ⟨by rfl, ?_⟩) (by assumption) ?_
      rotate_left
      · intro w hSw; (try dsimp only at hSw); go_simp
        first | done | with_reducible rfl
      try simp only [Act.put, List.setIfInBounds_toArray, List.set_cons_zero, List.set_cons_succ]
      refine wpAnyN_takeD (some 124) (by rfl) (i := 16) (oi := _) (v := ?_) rfl (by kernel_rfl) (by kernel_rfl) (by kernel_rfl) (by kernel_rfl) (fun _ _ _ h => h) (Or.inl ⟨by rfl, ?_⟩) (by assumption) ?_
      rotate_left
      · intro w hSw; (try dsimp only at hSw); go_simp
        first | done | with_reducible rfl
      try simp only [Act.put, List.setIfInBounds_toArray, List.set_cons_zero, List.set_cons_succ]
      refine wpAnyN_ready (rs := [11]) (by kernel_rfl) (by simp) ?_
      refine AllReadyN.held rfl (by rfl) (fun K hK => ?_) AllReadyN.nil
      go_simp
      ((with_reducible refine (qlen_calls _ _ _ gq put l (HQ15.out.later l2).q.q).mono ?_); rintro e' w111 ⟨rfl, b111⟩; rw [HLN.out])
      have l11 : Later W15.drew w111 := Later.trans l2 b111
      refine hK.out _ _ ?_ (fun hHeld => ?_)
      · exact HT1.out _ l11
      clear hK K
      try simp only [Act.put, List.setIfInBounds_toArray, List.set_cons_zero, List.set_cons_succ]
      refine wpAnyN_takeD (some 125) (by rfl) (i := 17) (oi := _) (v := ?_) rfl (by kernel_rfl) (by kernel_rfl) (by kernel_rfl) (by kernel_rfl) (fun _ _ _ h => h) (Or.inl ⟨by rfl, ?_⟩) (by assumption) ?_
      rotate_left
      · intro w hSw; (try dsimp only at hSw); go_simp
        first | done | with_reducible rfl
      try simp only [Act.put, List.setIfInBounds_toArray, List.set_cons_zero, List.set_cons_succ]
      refine wpAnyN_takeD (some 126) (by rfl) (i := 18) (oi := _) (v := ?_) rfl (by kernel_rfl) (by kernel_rfl) (by kernel_rfl) (by kernel_rfl) (fun _ _ _ h => h) (Or.inl ⟨by rfl, ?_⟩) (by assumption) ?_
      rotate_left
      · intro w hSw; (try dsimp only at hSw); go_simp
        first | done | with_reducible rfl
      try simp only [Act.put, List.setIfInBounds_toArray, List.set_cons_zero, List.set_cons_succ]
      refine wpAnyN_done (by kernel_rfl) ?_ _
      have HQ16 := hide (HQ15.out.later l11)
      clear hHeld
      go_wp2_with fail
      exact ⟨⟨j + 1, S, M, l, put, R, L, by omega, by omega, by go_num, HQ16, HM.out⟩, by simp [intOf]; omega⟩

end Go.Proofs.Ytbhohnhkephefaa
