/- Books: awake. -/
import Derived.Test.YtncbebfhakcgdaaGreatC27
import Derived.Test.YtncbebfhakcgdaaGreatC18
import Derived.Test.YtncbebfhakcgdaaGreatC7
set_option linter.unusedVariables false
set_option linter.unusedSimpArgs false
set_option maxRecDepth 100000
namespace Go.Proofs.YtncbebfhakcgdaaGreat
open Go.RowKit Go.Shelf
attribute [local go_sem ↓] Go.wp_at_zero Go.wp_at_succ
theorem perE_free {D : PBook} {p : Int} (h1 : 0 <= p /\ p <= 39) (h2 : D.now <= p) (h3 : D.mks = []) : perE D p = 0 := by
 unfold perE
 rw [if_neg (by omega), if_neg (by omega), h3, if_neg (by simp)]
theorem itm_may (n : Nat) (h1 : 1 <= n) (h2 : n <= 2) : MayP (newD (List.replicate n itm) 2) := by
 refine newD_may ⟨fun x hx => ?_, (fun c hc => by simp [newD] at hc), ?_, ?_, by show (1 : Int) <= 2; omega, ?_, by show (0 : Int) <= 0; omega, by show (0 : Int) <= 40; omega, by simp [newD]⟩
 ·have h := (List.mem_replicate.1 hx).2
  subst h
  unfold PItem.okB costB itm; decide +kernel
 ·show 1 <= (List.replicate n itm).length; rw [List.length_replicate]; exact h1
 ·show (List.replicate n itm).length <= 3; rw [List.length_replicate]; omega
 ·show (2 : Int) * ((List.replicate n itm).length : Int) <= 6; rw [List.length_replicate]; omega
theorem items0 : itemsN 0 = [itm] := rfl
theorem new_items (n : Int) : newV (itemsN n) 2 = .ok (newD (itemsN n) 2) := by
 unfold newV itemsN
 rw [if_pos (mayB_iff.2 (itm_may _ (by omega) (by omega)))]
theorem awake_facts : ∃ D1 D2 D3 : PBook, newV (itemsN 0) 2 = .ok D1 /\ applyV D1 (mkCap 0 2) = .ok D2 /\ applyV D2 (mkCom 0 [3]) = .error 10 /\ applyV D2 (mkCom 0 [2]) = .ok D3 /\ StoB D3 /\ D3.mks.length = 1 /\ (tellV D3).length = 2 := by
 have h1 : MayP (newD [itm] 2) := itm_may 1 (by omega) (by omega)
 have e1 : applyV (newD [itm] 2) (mkCap 0 2) = .ok ⟨[itm], 2, 0, [2], [], []⟩ := by
  rw [apply_cap h1]; unfold capS
  rw [if_neg (by omega), if_neg (by rw [perE_free (by omega) (by show (0 : Int) <= 0; omega) rfl]; simp)]; rfl
 have h2 := apply_may e1
 have hc : capV ⟨[itm], 2, 0, [2], [], []⟩ 0 = 2 := by rw [capV_may h2, if_pos (by omega)]; rfl
 have hp : perE ⟨[itm], 2, 0, [2], [], []⟩ 0 = 0 := perE_free (by omega) (by show (0 : Int) <= 0; omega) rfl
 have e2 : applyV ⟨[itm], 2, 0, [2], [], []⟩ (mkCom 0 [3]) = .error 10 := by
  rw [apply_com h2]; unfold comV
  rw [if_neg (by simp), if_neg (by decide), if_neg (by rw [hp]; simp), hc, if_pos (by decide)]
 have e3 : applyV ⟨[itm], 2, 0, [2], [], []⟩ (mkCom 0 [2]) = .ok ⟨[itm], 2, 0, [2], [], [⟨0, 0, 2⟩]⟩ := by
  rw [apply_com h2]; unfold comV
  rw [if_neg (by simp), if_neg (by decide), if_neg (by rw [hp]; simp), hc, if_neg (by decide)]; rfl
 exact ⟨_, _, _, new_items 0, e1, e2, e3, ((whole_new h1.head).apply e1).apply e3, rfl, by decide +kernel⟩
theorem enc258 : encV (mkCan 258) = some [2, 2, 1, 0, 0] := by decide +kernel
theorem dec258 : decV [2, 2, 1, 0, 0] = some (mkCan 258) := enc_dec enc258
theorem new_none : newV [] 2 = .error 1 := by
 unfold newV
 rw [if_neg]
 intro h
 have := (mayB_iff.1 h).head.n1
 simp [newD] at this
theorem fit0 : POrd.fit ⟨0, 0, 0, 0⟩ := ⟨ifit0, ifit0, ifit0, ifit0⟩
theorem sq_one {w : World} {g : Nat} {T : TypeId} {x : Int} (hr : Row w g T [.int .i64 x]) : Sq 1 iCells w (.slice (some ⟨g, 0, none⟩) 1 1) [x] := by
 refine ⟨_, 1, rfl, Nat.le_refl _, by decide, fun i q hi => ?_⟩
 match i, hi with
 | 0, hi => simp at hi; subst hi; exact ⟨g, 0, rfl, fun j u hj => hr.cell (by rw [show 0 + 0 * 1 + j = j by omega]; exact hj)⟩
 | i + 1, hi => simp at hi
set_option maxHeartbeats 4000000 in
theorem awake20_calls (w : World)  :
 Calls Tryz.prog 9 #[] w (RetV w (.bool true)) := by
 obtain ⟨D1, D2, D3, E1, E2, E3, E4, hst, hml, htl⟩ := awake_facts
 have HE1 := hide E1; have HE2 := hide E2; have HE3 := hide E3; have HE4 := hide E4; have HST := hide hst; have HML := hide hml; have HTL := hide htl
 clear E1 E2 E3 E4 hst hml htl
 have HN1 : Hid (∀ W A n c, Its 12 W (.slice A n c) (itemsN 0) -> Calls Tryz.prog 14 #[.slice A n c, .int .i64 2] W (CauP W (.ok D1))) := hide (fun W A n c hI => by
  have h2 := new_calls W A n c (itemsN 0) 2 hI (by rw [items0]; simp) (by unfold IFit; omega)
  rw [HE1.out] at h2; exact h2)
 have HN2 : Hid (∀ W, Calls Tryz.prog 14 #[.slice none 0 0, .int .i64 2] W (CauP W (.error 1))) := hide (fun W => by
  have h2 := new_calls W none 0 0 [] 2 ⟨none, 0, rfl, by simp, by decide, fun i x hi => by simp at hi⟩ (by simp) (by unfold IFit; omega)
  rw [new_none] at h2; exact h2)
 go_enter Tryz.func9, Tryz.ntmps9
 go_upto_region 2 with (first | (go_at_call 24; (with_reducible refine (items20_calls _ 0 (by omega)).mono ?_); rintro e a0 ⟨A0, n0, c0, rfl, hi0, b0⟩) | (go_at_call 14; (refine (HN1.out _ _ _ _ hi0).mono ?_); rintro e a1 h1; unfold CauP at h1; dsimp only at h1; obtain ⟨b1, hm1, B1a, B2a, B3a, B4a, m1a, m2a, m3a, m4a, d1a, d2a, d3a, d4a, rfl, hk1⟩ := h1))
 obtain ⟨W1, hW1⟩ : ∃ W1, W1 = a1.alloc (Obj.cells #[Value.slice B1a m1a d1a, Value.int .i64 D1.hor, Value.int .i64 D1.now, Value.slice B2a m2a d2a, Value.slice B3a m3a d3a, Value.slice B4a m4a d4a] 27) := ⟨_, rfl⟩
 obtain ⟨g1, hg1⟩ : ∃ g1, g1 = a1.heap.size := ⟨_, rfl⟩
 have bW1 : Later a1 W1 := by rw [hW1]; exact (Later.refl _).alloc _
 have rg1 : Row W1 g1 27 [.slice B1a m1a d1a, .int .i64 D1.hor, .int .i64 D1.now, .slice B2a m2a d2a, .slice B3a m3a d3a, .slice B4a m4a d4a] := by rw [hW1, hg1]; exact Row.new _ _ _
 rw [<- hW1, <- hg1]
 have L1 := hide (b0.trans (b1.trans bW1)); have RB := hide rg1; have KB := hide ((hk1.weaken b0.size).later bW1); have MB := hide hm1
 clear hW1 hg1 b0 b1 bW1 rg1 hk1 hm1 hi0
 go_upto_region 3 with (go_at_call 14; (refine (HN2.out _).mono ?_); rintro e a2 ⟨b2, rfl⟩)
 obtain ⟨W2, hW2⟩ : ∃ W, W = a2.alloc (Obj.cells #[Value.slice none 0 0, Value.int .i64 0, Value.int .i64 0, Value.slice none 0 0, Value.slice none 0 0, Value.slice none 0 0] 27) := ⟨_, rfl⟩
 have l12 : Later W1 W2 := by rw [hW2]; exact b2.alloc _
 rw [<- hW2]
 have L12 := hide l12
 clear hW2 b2 l12
 have x := RB.out.later L12.out
 have x0 := x.cell (i := 0) rfl; have x1 := x.cell (i := 1) rfl; have x2 := x.cell (i := 2) rfl; have x3 := x.cell (i := 3) rfl; have x4 := x.cell (i := 4) rfl; have x5 := x.cell (i := 5) rfl
 clear x
 have HA3 : Hid (∀ W, BookIn W (.slice B1a m1a d1a) (.slice B2a m2a d2a) (.slice B3a m3a d3a) (.slice B4a m4a d4a) D1 -> Sq 1 iCells W (.slice none 0 0) [] -> Calls Tryz.prog 12 #[.agg #[.slice B1a m1a d1a, .int .i64 D1.hor, .int .i64 D1.now, .slice B2a m2a d2a, .slice B3a m3a d3a, .slice B4a m4a d4a], .agg #[.int .i64 3, .int .i64 0, .int .i64 0, .int .i64 0, .int .i64 0, .int .i64 0, .int .i64 0, .int .i64 2, .slice none 0 0]] W (CauP W (.ok D2))) := hide (fun W hB hQ => by
  have h2 := apply_calls W B1a B2a B3a B4a none m1a m2a m3a m4a 0 d1a d2a d3a d4a 0 D1 (mkCap 0 2) hB fit0 hQ (by decide)
  rw [HE2.out] at h2; exact h2)
 go_upto_region 4 with (go_at_call 12; (refine (HA3.out _ ((KB.out.later L12.out).book (fit_of_may MB.out)) (Sq.nil _ _ _)).mono ?_); rintro e a3 h1; unfold CauP at h1; dsimp only at h1; obtain ⟨b3, hm3, B1c, B2c, B3c, B4c, m1c, m2c, m3c, m4c, d1c, d2c, d3c, d4c, rfl, hk3⟩ := h1)
 obtain ⟨W3, hW3⟩ : ∃ W3, W3 = a3.alloc (Obj.cells #[Value.slice B1c m1c d1c, Value.int .i64 D2.hor, Value.int .i64 D2.now, Value.slice B2c m2c d2c, Value.slice B3c m3c d3c, Value.slice B4c m4c d4c] 27) := ⟨_, rfl⟩
 obtain ⟨g3, hg3⟩ : ∃ g3, g3 = a3.heap.size := ⟨_, rfl⟩
 have bW3 : Later a3 W3 := by rw [hW3]; exact (Later.refl _).alloc _
 have rg3 : Row W3 g3 27 [.slice B1c m1c d1c, .int .i64 D2.hor, .int .i64 D2.now, .slice B2c m2c d2c, .slice B3c m3c d3c, .slice B4c m4c d4c] := by rw [hW3, hg3]; exact Row.new _ _ _
 rw [<- hW3, <- hg3]
 have L3' := hide (b3.trans bW3); have RC := hide rg3; have KC := hide ((hk3.weaken ((L1.out.trans L12.out).size)).later bW3); have MC := hide hm3
 clear hW3 hg3 b3 bW3 rg3 hk3 hm3 x0 x1 x2 x3 x4 x5
 have x0 := RC.out.cell (i := 0) rfl; have x1 := RC.out.cell (i := 1) rfl; have x2 := RC.out.cell (i := 2) rfl; have x3 := RC.out.cell (i := 3) rfl; have x4 := RC.out.cell (i := 4) rfl; have x5 := RC.out.cell (i := 5) rfl
 have LA4 : Later W3 (W3.alloc (Obj.cells #[Value.int .i64 3] 3)) := (Later.refl _).alloc _
 have SQ4 : Sq 1 iCells (W3.alloc (Obj.cells #[Value.int .i64 3] 3)) (.slice (some ⟨W3.heap.size, 0, none⟩) 1 1) [3] := sq_one (Row.new W3 3 [.int .i64 3])
 have y0 := (RC.out.later LA4).cell (i := 0) rfl; have y1 := (RC.out.later LA4).cell (i := 1) rfl; have y2 := (RC.out.later LA4).cell (i := 2) rfl; have y3 := (RC.out.later LA4).cell (i := 3) rfl; have y4 := (RC.out.later LA4).cell (i := 4) rfl; have y5 := (RC.out.later LA4).cell (i := 5) rfl
 have HA4 : Hid (∀ W, BookIn W (.slice B1c m1c d1c) (.slice B2c m2c d2c) (.slice B3c m3c d3c) (.slice B4c m4c d4c) D2 -> Sq 1 iCells W (.slice (some ⟨W3.heap.size, 0, none⟩) 1 1) [3] -> Calls Tryz.prog 12 #[.agg #[.slice B1c m1c d1c, .int .i64 D2.hor, .int .i64 D2.now, .slice B2c m2c d2c, .slice B3c m3c d3c, .slice B4c m4c d4c], .agg #[.int .i64 5, .int .i64 0, .int .i64 0, .int .i64 0, .int .i64 0, .int .i64 0, .int .i64 0, .int .i64 0, .slice (some ⟨W3.heap.size, 0, none⟩) 1 1]] W (CauP W (.error 10))) := hide (fun W hB hQ => by
  have h2 := apply_calls W B1c B2c B3c B4c (some ⟨W3.heap.size, 0, none⟩) m1c m2c m3c m4c 1 d1c d2c d3c d4c 1 D2 (mkCom 0 [3]) hB fit0 hQ (by decide)
  rw [HE3.out] at h2; exact h2)
 have HQ4 := hide SQ4; have HLA4 := hide LA4
 clear SQ4 LA4
 go_upto_region 5 with (go_at_call 12; (refine (HA4.out _ ((KC.out.later HLA4.out).book (fit_of_may MC.out)) HQ4.out).mono ?_); rintro e a4 ⟨b4, rfl⟩)
 obtain ⟨W4, hW4⟩ : ∃ W4, W4 = a4.alloc (Obj.cells #[Value.slice none 0 0, Value.int .i64 0, Value.int .i64 0, Value.slice none 0 0, Value.slice none 0 0, Value.slice none 0 0] 27) := ⟨_, rfl⟩
 obtain ⟨g4, hg4⟩ : ∃ g4, g4 = a4.heap.size := ⟨_, rfl⟩
 have bW4 : Later a4 W4 := by rw [hW4]; exact (Later.refl _).alloc _
 have rg4 : Row W4 g4 27 [.slice none 0 0, .int .i64 0, .int .i64 0, .slice none 0 0, .slice none 0 0, .slice none 0 0] := by rw [hW4, hg4]; exact Row.new _ _ _
 rw [<- hW4, <- hg4]
 have L34 := hide (HLA4.out.trans (b4.trans bW4))
 clear hW4 hg4 bW4 rg4 b4 x0 x1 x2 x3 x4 x5 y0 y1 y2 y3 y4 y5
 have rc4 := RC.out.later L34.out
 have x0 := rc4.cell (i := 0) rfl; have x1 := rc4.cell (i := 1) rfl; have x2 := rc4.cell (i := 2) rfl; have x3 := rc4.cell (i := 3) rfl; have x4 := rc4.cell (i := 4) rfl; have x5 := rc4.cell (i := 5) rfl
 have LA5 : Later W4 (W4.alloc (Obj.cells #[Value.int .i64 2] 3)) := (Later.refl _).alloc _
 have SQ5 : Sq 1 iCells (W4.alloc (Obj.cells #[Value.int .i64 2] 3)) (.slice (some ⟨W4.heap.size, 0, none⟩) 1 1) [2] := sq_one (Row.new W4 3 [.int .i64 2])
 have y0 := (rc4.later LA5).cell (i := 0) rfl; have y1 := (rc4.later LA5).cell (i := 1) rfl; have y2 := (rc4.later LA5).cell (i := 2) rfl; have y3 := (rc4.later LA5).cell (i := 3) rfl; have y4 := (rc4.later LA5).cell (i := 4) rfl; have y5 := (rc4.later LA5).cell (i := 5) rfl
 have HA5 : Hid (∀ W, BookIn W (.slice B1c m1c d1c) (.slice B2c m2c d2c) (.slice B3c m3c d3c) (.slice B4c m4c d4c) D2 -> Sq 1 iCells W (.slice (some ⟨W4.heap.size, 0, none⟩) 1 1) [2] -> Calls Tryz.prog 12 #[.agg #[.slice B1c m1c d1c, .int .i64 D2.hor, .int .i64 D2.now, .slice B2c m2c d2c, .slice B3c m3c d3c, .slice B4c m4c d4c], .agg #[.int .i64 5, .int .i64 0, .int .i64 0, .int .i64 0, .int .i64 0, .int .i64 0, .int .i64 0, .int .i64 0, .slice (some ⟨W4.heap.size, 0, none⟩) 1 1]] W (CauP W (.ok D3))) := hide (fun W hB hQ => by
  have h2 := apply_calls W B1c B2c B3c B4c (some ⟨W4.heap.size, 0, none⟩) m1c m2c m3c m4c 1 d1c d2c d3c d4c 1 D2 (mkCom 0 [2]) hB fit0 hQ (by decide)
  rw [HE4.out] at h2; exact h2)
 have HQ5 := hide SQ5; have HLA5 := hide LA5
 clear SQ5 LA5 rc4
 go_upto_region 6 with (go_at_call 12; (refine (HA5.out _ ((KC.out.later (L34.out.trans HLA5.out)).book (fit_of_may MC.out)) HQ5.out).mono ?_); rintro e a5 h1; unfold CauP at h1; dsimp only at h1; obtain ⟨b5, hm5, B1e, B2e, B3e, B4e, m1e, m2e, m3e, m4e, d1e, d2e, d3e, d4e, rfl, hk5⟩ := h1)
 obtain ⟨W5, hW5⟩ : ∃ W5, W5 = a5.alloc (Obj.cells #[Value.slice B1e m1e d1e, Value.int .i64 D3.hor, Value.int .i64 D3.now, Value.slice B2e m2e d2e, Value.slice B3e m3e d3e, Value.slice B4e m4e d4e] 27) := ⟨_, rfl⟩
 obtain ⟨g5, hg5⟩ : ∃ g5, g5 = a5.heap.size := ⟨_, rfl⟩
 have bW5 : Later a5 W5 := by rw [hW5]; exact (Later.refl _).alloc _
 have rg5 : Row W5 g5 27 [.slice B1e m1e d1e, .int .i64 D3.hor, .int .i64 D3.now, .slice B2e m2e d2e, .slice B3e m3e d3e, .slice B4e m4e d4e] := by rw [hW5, hg5]; exact Row.new _ _ _
 rw [<- hW5, <- hg5]
 have hme : m4e = 1 := by rw [<- HML.out]; exact (own_len3 hk5.mks).1
 subst hme
 have L35 := hide ((L34.out.trans HLA5.out).trans (b5.trans bW5)); have RD := hide rg5; have KD := hide (hk5.later bW5); have MD := hide hm5
 clear hW5 hg5 b5 bW5 rg5 hk5 hm5 x0 x1 x2 x3 x4 x5 y0 y1 y2 y3 y4 y5
 have x0 := RD.out.cell (i := 0) rfl; have x1 := RD.out.cell (i := 1) rfl; have x2 := RD.out.cell (i := 2) rfl; have x3 := RD.out.cell (i := 3) rfl; have x4 := RD.out.cell (i := 4) rfl; have x5 := RD.out.cell (i := 5) rfl
 go_upto_region 7 with (go_at_call 25; (refine (story_calls _ B1e B2e B3e B4e m1e m2e m3e 1 d1e d2e d3e d4e D3 HST.out (KD.out.book (fit_of_may MD.out))).mono ?_); rintro e a6 h6; unfold StoryP at h6; obtain ⟨A6, n6, c6, rfl, ho6, b6⟩ := h6; obtain ⟨_, _, _, ee, e2, -⟩ := ho6.ops.form; injection ee with _ e3 _; rw [<- e3, HTL.out] at e2; subst e2; clear e3 ho6)
 have L6 := hide b6
 have HEN : Hid (∀ W, Calls Tryz.prog 18 #[.agg #[.int .i64 2, .int .i64 0, .int .i64 0, .int .i64 0, .int .i64 0, .int .i64 258, .int .i64 0, .int .i64 0, .slice none 0 0]] W (EncP W (some [2, 2, 1, 0, 0]))) := hide (fun W => by
  have h2 := encode_calls W none 0 0 (mkCan 258) (Sq.nil _ _ _) (fun _ => rfl) (by decide)
  rw [enc258] at h2; exact h2)
 clear b6 x0 x1 x2 x3 x4 x5
 go_upto_region 8 with (go_at_call 18; (refine (HEN.out _).mono ?_); rintro e a7 h7; unfold EncP at h7; obtain ⟨b7, A7, n7, c7, rfl, ho7⟩ := h7; have hn7 := (own_len3 ho7).1; change n7 = 5 at hn7; subst hn7)
 have HSX := hide (Sq.of_own uCells_len ho7)
 have L7 := hide b7
 clear ho7 b7
 have HDE : Hid (∀ W, Sq 1 uCells W (.slice A7 5 c7) [2, 2, 1, 0, 0] -> Calls Tryz.prog 20 #[.slice A7 5 c7] W (fun e w' => Later W w' /\ ∃ A n c, e = .returned (.tuple #[.agg #[.int .i64 2, .int .i64 0, .int .i64 0, .int .i64 0, .int .i64 0, .int .i64 258, .int .i64 0, .int .i64 0, .slice A n c], .int .i64 0]))) := hide (fun W hW => by
  have h2 := decode_calls W A7 5 c7 [2, 2, 1, 0, 0] hW (by intro x hx; simp at hx; omega)
  rw [dec258] at h2
  refine h2.mono ?_
  rintro e w' ⟨h1, A, n, c, rfl, -⟩
  exact ⟨h1, A, n, c, rfl⟩)
 go_upto_region 9 with (go_at_call 20; (refine (HDE.out _ HSX.out).mono ?_); rintro e a8 ⟨b8, A8, n8, c8, rfl⟩)
 obtain ⟨W8, hW8⟩ : ∃ W8, W8 = a8.alloc (Obj.cells #[Value.int .i64 2, Value.int .i64 0, Value.int .i64 0, Value.int .i64 0, Value.int .i64 0, Value.int .i64 258, Value.int .i64 0, Value.int .i64 0, Value.slice A8 n8 c8] 31) := ⟨_, rfl⟩
 obtain ⟨g8, hg8⟩ : ∃ g8, g8 = a8.heap.size := ⟨_, rfl⟩
 have bW8 : Later a8 W8 := by rw [hW8]; exact (Later.refl _).alloc _
 have rg8 : Row W8 g8 31 [.int .i64 2, .int .i64 0, .int .i64 0, .int .i64 0, .int .i64 0, .int .i64 258, .int .i64 0, .int .i64 0, .slice A8 n8 c8] := by rw [hW8, hg8]; exact Row.new _ _ _
 rw [<- hW8, <- hg8]
 have L8 := hide (b8.trans bW8); have RO := hide rg8
 clear hW8 hg8 b8 bW8 rg8
 have rd8 := RD.out.later (L6.out.trans (L7.out.trans L8.out))
 have x0 := rd8.cell (i := 0) rfl; have x1 := rd8.cell (i := 1) rfl; have x2 := rd8.cell (i := 2) rfl; have x3 := rd8.cell (i := 3) rfl; have x4 := rd8.cell (i := 4) rfl; have x5 := rd8.cell (i := 5) rfl
 clear rd8
 have HSY : Hid (Sq 1 uCells (W8.alloc (Obj.cells #[Value.int .u8 2, Value.int .u8 2, Value.int .u8 1, Value.int .u8 0, Value.int .u8 0] 5)) (.slice (some ⟨W8.heap.size, 0, none⟩) 5 5) [2, 2, 1, 0, 0]) := hide (Sq.of_own uCells_len (World.ownsRow_lit W8 #[Value.int .u8 2, Value.int .u8 2, Value.int .u8 1, Value.int .u8 0, Value.int .u8 0] (e := 5) (size := 1) (base := W8.heap.size) 5 (Nat.le_refl _) (by decide) rfl))
 go_wp2_with (go_at_call 22; (refine (rows01_calls _ _ _ [2, 2, 1, 0, 0] (HSX.out.later (L8.out.alloc _)) HSY.out (by decide)).mono ?_); rintro e a9 ⟨rfl, b9⟩; have y5 := (RO.out.later (((Later.refl _).alloc _).trans b9)).cell (i := 5) rfl)
 go_ret
 exact ⟨rfl, (L1.out.trans (L12.out.trans (L3'.out.trans (L35.out.trans (L6.out.trans (L7.out.trans (L8.out.alloc _))))))).trans b9⟩
end Go.Proofs.YtncbebfhakcgdaaGreat
namespace Go.Proofs.YtncbebfhakcgdaaGreat
open Go.RowKit Go.Shelf
attribute [local go_sem ↓] Go.wp_at_zero Go.wp_at_succ
def BkAt (lo : Nat) (w : World) (g : Nat) (D : PBook) : Prop := ∃ B1  B2  B3  B4  m1  m2  m3  m4  d1  d2  d3  d4, Row w g 27 [.slice B1 m1 d1, .int .i64 D.hor, .int .i64 D.now, .slice B2 m2 d2, .slice B3 m3 d3, .slice B4 m4 d4] /\ BkN lo w (.slice B1 m1 d1) (.slice B2 m2 d2) (.slice B3 m3 d3) (.slice B4 m4 d4) D
theorem BkAt.later {lo : Nat} {w w' : World} {g : Nat} {D : PBook} (h : BkAt lo w g D) (hb : Later w w') : BkAt lo w' g D := by
 obtain ⟨B1, B2, B3, B4, m1, m2, m3, m4, d1, d2, d3, d4, h1, h2⟩ := h
 exact ⟨B1, B2, B3, B4, m1, m2, m3, m4, d1, d2, d3, d4, h1.later hb, h2.later hb⟩
theorem BkAt.new {lo : Nat} {w : World} {D : PBook} {B1  B2  B3  B4 : Option Addr} {m1 m2  m3  m4  d1  d2  d3  d4 : Nat} (h : BkN lo w (.slice B1 m1 d1) (.slice B2 m2 d2) (.slice B3 m3 d3) (.slice B4 m4 d4) D) : BkAt lo (w.alloc (Obj.cells #[Value.slice B1 m1 d1, Value.int .i64 D.hor, Value.int .i64 D.now, Value.slice B2 m2 d2, Value.slice B3 m3 d3, Value.slice B4 m4 d4] 27)) w.heap.size D :=
 ⟨B1, B2, B3, B4, m1, m2, m3, m4, d1, d2, d3, d4, Row.new _ _ _, h.later ((Later.refl _).alloc _)⟩
theorem BkAt.put {lo lo' : Nat} {w : World} {g : Nat} {D : PBook} {cs : List Value} {B1  B2  B3  B4 : Option Addr} {m1 m2  m3  m4  d1  d2  d3  d4 : Nat} {v0 v1 v2 v3 v4 v5 : Value} (hb : IsBox w g) (hr : Row w g 27 [v0, v1, v2, v3, v4, v5]) (h : BkN lo w (.slice B1 m1 d1) (.slice B2 m2 d2) (.slice B3 m3 d3) (.slice B4 m4 d4) D) : BkAt lo ((((((w.setCell ⟨g, 0, none⟩ (.slice B1 m1 d1)).setCell ⟨g, 1, none⟩ (.int .i64 D.hor)).setCell ⟨g, 2, none⟩ (.int .i64 D.now)).setCell ⟨g, 3, none⟩ (.slice B2 m2 d2)).setCell ⟨g, 4, none⟩ (.slice B3 m3 d3)).setCell ⟨g, 5, none⟩ (.slice B4 m4 d4)) g D := by
 have oo := only6 (W := w) g (.slice B1 m1 d1) (.int .i64 D.hor) (.int .i64 D.now) (.slice B2 m2 d2) (.slice B3 m3 d3) (.slice B4 m4 d4)
 exact ⟨B1, B2, B3, B4, m1, m2, m3, m4, d1, d2, d3, d4, hr.put6 _ _ _ _ _ _, h.box hb oo⟩
theorem FroP.now {D : PBook} (h : FroP D) : 0 <= D.now /\ D.now <= 40 := ⟨h.may.head.t0, h.may.head.t40⟩
end Go.Proofs.YtncbebfhakcgdaaGreat
namespace Go.Proofs.YtncbebfhakcgdaaGreat
open Go.RowKit Go.Shelf Go.ChangeShapes Go.WideShapes Go.Deep
section
variable {H : Type} {enc : TypeId × Value -> H} {w : World} {base : Nat} {spare : Nat -> Bool} {held : Bool}
theorem cellsOp : Tryz.prog.cellsOf 31 = 9 := by kernel_rfl
theorem is_nil {fuel : Nat} {n c : Nat} {y : DataW H × List MemPlace} (h : DataW.trod enc Tryz.prog w base spare held fuel 23 [.slice none n c] = some y) : c = 0 := by
 rcases open_ints Tryz.underlying23 Tryz.underlying3 cellsII h with ⟨e, -⟩ | ⟨a, n', c', zs, e, -⟩
 ·simp at e; exact e.2
 ·simp at e
def OpOk (w : World) (p : QS × POp) : Prop := Sq 1 iCells w (.slice p.1.A p.1.n p.1.c) p.2.qtys /\ p.2.ord.fit /\ (p.1.A = none -> p.1.c = 0) /\ IFit p.2.kind /\ IFit p.2.id /\ IFit p.2.period /\ IFit p.2.qty /\ ∀ z ∈ p.2.qtys, IFit z
instance : Inhabited (QS × POp) := ⟨⟨⟨none, 0, 0⟩, ⟨0, ⟨0, 0, 0, 0⟩, 0, 0, 0, []⟩⟩⟩
theorem op_open {fuel : Nat} {cs : List Value} {y : DataW H × List MemPlace} (h : DataW.trod enc Tryz.prog w base spare held fuel 31 cs = some y) : ∃ p : QS × POp, cs = opCells p /\ OpOk w p := by
 obtain ⟨xs, m, -, -, hlen, hxl, hx⟩ := DataW.trod_struct Tryz.underlying31 h
 have h0 := hx 0 _ rfl; have h1 := hx 1 _ rfl; have h2 := hx 2 _ rfl; have h3 := hx 3 _ rfl; have h4 := hx 4 _ rfl; have h5 := hx 5 _ rfl
 rw [cellsOp] at hlen
 match cs, hlen, xs, hxl with
 | [c0, c1, c2, c3, c4, c5, c6, c7, c8], _, [y0, y1, y2, y3, y4, y5], _ =>
   simp only [List.getElem_toArray, List.getElem_cons_zero, List.getElem_cons_succ, List.getElem?_cons_zero, List.getElem?_cons_succ, cellsII, cellsOrder, cellsIIs, List.drop_zero, List.drop_succ_cons, List.take_succ_cons, List.take_zero] at h0 h1 h2 h3 h4 h5
   obtain ⟨k0, e0, -, f0⟩ := DataW.trod_int Tryz.underlying3 h0
   obtain ⟨o, e1, f1⟩ := ord_open h1
   obtain ⟨k2, e2, -, f2⟩ := DataW.trod_int Tryz.underlying3 h2
   obtain ⟨k3, e3, -, f3⟩ := DataW.trod_int Tryz.underlying3 h3
   obtain ⟨k4, e4, -, f4⟩ := DataW.trod_int Tryz.underlying3 h4
   obtain ⟨A5, n5, d5, qs, e5, g5, f5⟩ := is_open h5
   simp [oCells] at e0 e1 e2 e3 e4 e5
   obtain ⟨rfl, rfl, rfl, rfl⟩ := e1
   subst e0 e2 e3 e4 e5
   exact ⟨⟨⟨A5, n5, d5⟩, ⟨k0, o, k2, k3, k4, qs⟩⟩, rfl, g5, f1, (fun e => by
    have e' : A5 = none := e
    subst e'; exact is_nil h5), wf_fit f0, wf_fit f2, wf_fit f3, wf_fit f4, f5⟩
end
end Go.Proofs.YtncbebfhakcgdaaGreat
namespace Go.Proofs.YtncbebfhakcgdaaGreat
open Go.RowKit Go.Shelf
attribute [local go_sem ↓] Go.wp_at_zero Go.wp_at_succ
set_option maxHeartbeats 2000000 in
theorem rplain20_calls (w : World) (Aq : Option Addr) (nq cq : Nat) (o : POp) (hq : nq = o.qtys.length) (u : Bool) (hu : plainB o = u) :
 Calls Tryz.prog 38 #[.agg #[.int .i64 o.kind, .int .i64 o.ord.id, .int .i64 o.ord.item, .int .i64 o.ord.due, .int .i64 o.ord.qty, .int .i64 o.id, .int .i64 o.period, .int .i64 o.qty, .slice Aq nq cq]] w (RetV w (.bool u)) := by
 have HNQ := hide hq; have HU := hide hu
 clear hq hu
 obtain ⟨W0, hW0⟩ : ∃ W0, W0 = (w.alloc (Obj.cells #[Value.int .i64 o.kind, Value.int .i64 o.ord.id, Value.int .i64 o.ord.item, Value.int .i64 o.ord.due, Value.int .i64 o.ord.qty, Value.int .i64 o.id, Value.int .i64 o.period, Value.int .i64 o.qty, Value.slice Aq nq cq] 31)) := ⟨_, rfl⟩
 have B0 := hide (show Later w W0 by rw [hW0]; exact (Later.refl _).alloc _)
 have HR0 := hide (show Row W0 w.heap.size 31 [.int .i64 o.kind, .int .i64 o.ord.id, .int .i64 o.ord.item, .int .i64 o.ord.due, .int .i64 o.ord.qty, .int .i64 o.id, .int .i64 o.period, .int .i64 o.qty, .slice Aq nq cq] by rw [hW0]; exact Row.new _ _ _)
 have HW0 := hide hW0
 clear hW0
 go_enter Tryz.func38, Tryz.ntmps38
 go_upto_region 1 with fail
 rw [<- HW0.out]
 have x0 := HR0.out.cell (i := 0) rfl; have x1 := HR0.out.cell (i := 1) rfl; have x2 := HR0.out.cell (i := 2) rfl; have x3 := HR0.out.cell (i := 3) rfl; have x4 := HR0.out.cell (i := 4) rfl; have x5 := HR0.out.cell (i := 5) rfl; have x6 := HR0.out.cell (i := 6) rfl; have x7 := HR0.out.cell (i := 7) rfl; have x8 := HR0.out.cell (i := 8) rfl
 by_cases c0 : 1 <= o.kind
 rotate_left
 ·have t0 : decide (1 <= o.kind) = false := by simpa using c0
  have HF : Hid (u = false) := hide (by rw [<- HU.out]; exact Bool.eq_false_iff.2 fun h => by have := (plainB_iff.1 h).1; omega)
  go_wp2_with fail
  go_ret
  exact ⟨by rw [HF.out]; rfl, B0.out⟩
 have t0 : decide (1 <= o.kind) = true := by simpa using c0
 by_cases c1 : o.kind <= 5
 rotate_left
 ·have t1 : decide (o.kind <= 5) = false := by simpa using c1
  have HF : Hid (u = false) := hide (by rw [<- HU.out]; exact Bool.eq_false_iff.2 fun h => by have := (plainB_iff.1 h).1; omega)
  go_wp2_with fail
  go_ret
  exact ⟨by rw [HF.out]; rfl, B0.out⟩
 have t1 : decide (o.kind <= 5) = true := by simpa using c1
 have HI := hide (plainB_iff (o := o))
 go_wp2_with fail
 all_goals (refine bodyPost_ret (results_bl rfl rfl) rfl ⟨?_, B0.out⟩; refine congrArg Ending.returned (congrArg Value.bool ?_); have hi := HI.out; have hn := HNQ.out; rw [<- HU.out, Bool.eq_iff_iff, hi, <- List.length_eq_zero_iff, <- hn]; clear hi hn HI HU HNQ; simp [POrd.isZ, *]; try omega)
set_option maxHeartbeats 4000000 in
theorem rnum_calls (w : World) (n : Int) (hn : 0 <= n /\ n <= 2147483647) :
 Calls Tryz.prog 88 #[.int .i64 n] w (fun e w' => ∃ A m c, e = .returned (.slice A m c) /\ OutB w.heap.size w' (.slice A m c) (num4 n) /\ Later w w') := by
 go_enter Tryz.func88, Tryz.ntmps88
 go_wp2_with fail
 exact bodyPost_ret (results_sl rfl rfl) rfl ⟨_, _, _, rfl, World.ownsRow_lit w #[Value.int .u8 (n % 256), Value.int .u8 (n / 256 % 256), Value.int .u8 (n / 65536 % 256), Value.int .u8 (n / 16777216 % 256)] (e := 5) (size := 1) (base := w.heap.size) 4 (Nat.le_refl _) (by decide) rfl, (Later.refl _).alloc _⟩
end Go.Proofs.YtncbebfhakcgdaaGreat
namespace Go.Proofs.YtncbebfhakcgdaaGreat
open Go.RowKit Go.Shelf
attribute [local go_sem ↓] Go.wp_at_zero Go.wp_at_succ
section
variable {w : World} {o : Oper} {a : Act} {K : Act -> World -> Prop} {Q : Exit -> Act -> World -> Prop}
theorem wp_append_b (d : Option Nat) (hd : o.dst = d) (s x : Operand) (ho : o.op = .call { callee := .builtin .append, args := #[s, x], argTypes := #[45, 45] }) {lo lo' : Nat} {v vx : Value} {l l' : List Int} (hs : a.eval s = v) (hown : OutB lo w v l) (hx : a.eval x = vx) (hsrc : OutB lo' w vx l') (h0 : 0 < l'.length) (hlen : l.length + l'.length <= 3000000) (hbase : lo <= w.heap.size)
 (h : ∀ A n c w', OutB lo w' (.slice A n c) (l ++ l') -> w.grownBy w' v.ownBlock -> K (a.put d (.slice A n c)) w') : o.wp Tryz.prog a w K Q := by
 subst hd
 obtain ⟨A, c, rfl⟩ := own_form hsrc
 obtain ⟨g, rfl⟩ := own_some hsrc h0
 have hl : (l'.flatMap uCells).length = l'.length * 1 := flat_len uCells_len l'
 refine wp_append_own_ s x _ ho lo 5 _ 1 1 Tryz.underlying45 info_u8 rfl (by omega) (by omega) v l.length _ hs hown ⟨g, 0, none⟩ l'.length c (l'.flatMap uCells) hx hl (fun j u hj => ?_) (fun u hu => ?_) (by omega) hbase ?_
 ·have hj2 := (List.getElem?_eq_some_iff.1 hj).1
  rw [addr_add, Nat.zero_add, World.ownsRow.cellAt hsrc j (by omega)]; exact hj
 ·obtain ⟨z, -, hz⟩ := List.mem_flatMap.1 hu
  exact uCells_one z u hz
 ·intro v' w' k1 k2 k3
  obtain ⟨A', c', rfl⟩ := own_form k1
  exact h _ _ _ _ (by unfold OutB; rw [List.length_append, List.flatMap_append]; exact k1) k2
end
theorem wpList_append_b {w : World} {ops : Array Oper} {rest : List Oper} {o : Oper} {a : Act} {Q : Exit -> Act -> World -> Prop} (hgd : o.guard = none) (s x : Operand) (ho : o.op = .call { callee := .builtin .append, args := #[s, x], argTypes := #[45, 45] }) {lo lo' : Nat} {v vx : Value} {l l' : List Int} (hs : a.eval s = v) (hown : OutB lo w v l) (hx : a.eval x = vx) (hsrc : OutB lo' w vx l') (h0 : 0 < l'.length) (hlen : l.length + l'.length <= 3000000) (hbase : lo <= w.heap.size)
 (h : ∀ A n c w', OutB lo w' (.slice A n c) (l ++ l') -> w.grownBy w' v.ownBlock -> wpList Tryz.prog ops Q rest (a.put o.dst (.slice A n c)) w') : wpList Tryz.prog ops Q (o :: rest) a w :=
 wpList_plain hgd fun K hK => wp_append_b _ rfl s x ho hs hown hx hsrc h0 hlen hbase fun A n c w' h1 h2 => hK _ _ (h A n c w' h1 h2)
theorem outb_of_row {w : World} {g : Nat} {x : Int} (hr : Row w g 5 [.int .u8 x]) : OutB 0 w (.slice (some ⟨g, 0, none⟩) 1 1) [x] :=
 ⟨rfl, .inr ⟨g, 1, #[.int .u8 x], rfl, Nat.zero_le _, hr, Nat.le_refl _, by decide, rfl, rfl⟩⟩
def WrP (w : World) (l : List Int) (e : Ending) (w' : World) : Prop := ∃ A m c, e = .returned (.slice A m c) /\ OutB w.heap.size w' (.slice A m c) l /\ Later w w'
set_option maxHeartbeats 2000000 in
theorem write_calls (w : World) (Aq : Option Addr) (nq cq : Nat) (o : POp) (hQ : Sq 1 iCells w (.slice Aq nq cq) o.qtys) (he : encOk o = true) :
 Calls Tryz.prog 48 #[.agg #[.int .i64 o.kind, .int .i64 o.ord.id, .int .i64 o.ord.item, .int .i64 o.ord.due, .int .i64 o.ord.qty, .int .i64 o.id, .int .i64 o.period, .int .i64 o.qty, .slice Aq nq cq]] w (WrP w (encB o)) := by
 obtain ⟨hp, hl3, hrg⟩ := encOk_iff.1 he
 have hk := (plainB_iff.1 hp).1
 have HKD := hide hk; have HRG := hide hrg; have HL3 := hide hl3; have HQ := hide hQ
 have hnq : nq = o.qtys.length := by
  obtain ⟨_, _, _, e, e2, -⟩ := hQ.form
  injection e with _ e3 _; omega
 have HNQ := hide hnq
 have hwk : IntKind.u8.wrap o.kind = o.kind := IntWalk.u8_in _ (by omega)
 clear hp hl3 hrg hk hQ he hnq
 obtain ⟨W0, hW0⟩ : ∃ W0, W0 = (w.alloc (Obj.cells #[Value.int .i64 o.kind, Value.int .i64 o.ord.id, Value.int .i64 o.ord.item, Value.int .i64 o.ord.due, Value.int .i64 o.ord.qty, Value.int .i64 o.id, Value.int .i64 o.period, Value.int .i64 o.qty, Value.slice Aq nq cq] 31)) := ⟨_, rfl⟩
 have B0 := hide (show Later w W0 by rw [hW0]; exact (Later.refl _).alloc _)
 have HR0 := hide (show Row W0 w.heap.size 31 [.int .i64 o.kind, .int .i64 o.ord.id, .int .i64 o.ord.item, .int .i64 o.ord.due, .int .i64 o.ord.qty, .int .i64 o.id, .int .i64 o.period, .int .i64 o.qty, .slice Aq nq cq] by rw [hW0]; exact Row.new _ _ _)
 have HW0 := hide hW0
 clear hW0
 go_enter Tryz.func48, Tryz.ntmps48
 go_upto_region 1 with fail
 rw [<- HW0.out]
 have x0 := HR0.out.cell (i := 0) rfl
 go_upto_region 2 with fail
 obtain ⟨W1, hW1⟩ : ∃ W, W = W0.alloc (Obj.cells #[Value.int .u8 o.kind] 5) := ⟨_, rfl⟩
 have l1 : Later W0 W1 := by rw [hW1]; exact (Later.refl _).alloc _
 have HOb1 : Hid (OutB W0.heap.size W1 (.slice (some ⟨W0.heap.size, 0, none⟩) 1 1) [o.kind]) := hide (by rw [hW1]; exact World.ownsRow_lit W0 #[.int .u8 o.kind] (e := 5) (size := 1) (base := W0.heap.size) 1 (Nat.le_refl _) (by decide) rfl)
 rw [<- hW1]
 clear hW1 hwk x0
 have x0 := (HR0.out.later l1).cell (i := 0) rfl
 have hmx : Tryz.prog.follows .mixedOrders = true := by kernel_rfl
 by_cases k1 : o.kind = 1
 ·have t1 : (o.kind == 1) = true := by simpa using k1
  have HE : Hid (encB o = ((([o.kind] ++ num4 o.ord.id) ++ num4 o.ord.item) ++ num4 o.ord.due) ++ num4 o.ord.qty) := hide (by
   unfold encB numsOf
   rw [if_neg (by omega), if_pos k1]
   simp [List.flatMap])
  have HN : Hid ((0 <= o.ord.id /\ o.ord.id <= 2147483647) /\ (0 <= o.ord.item /\ o.ord.item <= 2147483647) /\ (0 <= o.ord.due /\ o.ord.due <= 2147483647) /\ (0 <= o.ord.qty /\ o.ord.qty <= 2147483647)) := hide (by
   have h := HRG.out
   unfold numsOf at h
   rw [if_pos k1] at h
   exact ⟨h _ (by simp), h _ (by simp), h _ (by simp), h _ (by simp)⟩)
  have HT : Hid (∀ w', Later W0 w' -> w'.cell? ⟨w.heap.size, 1, none⟩ = some (.int .i64 o.ord.id) /\ w'.cell? ⟨w.heap.size, 2, none⟩ = some (.int .i64 o.ord.item) /\ w'.cell? ⟨w.heap.size, 3, none⟩ = some (.int .i64 o.ord.due) /\ w'.cell? ⟨w.heap.size, 4, none⟩ = some (.int .i64 o.ord.qty)) := hide (fun w' hb => ⟨(HR0.out.later hb).cell rfl, (HR0.out.later hb).cell rfl, (HR0.out.later hb).cell rfl, (HR0.out.later hb).cell rfl⟩)
  clear k1
  go_upto_region 4 with fail
  clear x0
  refine wp_region_N (fun w' => w'.cell? ⟨w.heap.size, 1, none⟩ = some (.int .i64 o.ord.id) /\ w'.cell? ⟨w.heap.size, 2, none⟩ = some (.int .i64 o.ord.item) /\ w'.cell? ⟨w.heap.size, 3, none⟩ = some (.int .i64 o.ord.due) /\ w'.cell? ⟨w.heap.size, 4, none⟩ = some (.int .i64 o.ord.qty)) [] hmx (HT.out _ lt_) (fun hHeld => ?_)
  refine tkB 13 0 ?_
  refine tkB 14 1 ?_
  refine tkB 15 2 ?_
  refine tkB 16 3 ?_
  refine tkB 19 6 ?_
  refine tkB 20 7 ?_
  refine tkB 21 8 ?_
  refine tkB 24 11 ?_
  refine tkB 25 12 ?_
  refine tkB 26 13 ?_
  refine tkB 29 16 ?_
  refine tkB 30 17 ?_
  refine tkB 31 18 ?_
  refine wpAnyN_ready (rs := [4]) (by kernel_rfl) (by simp) ?_
  refine AllReadyN.held rfl (by rfl) (fun K hK => ?_) AllReadyN.nil
  go_simp
  refine (rnum_calls _ o.ord.id HN.out.1).mono ?_
  rintro e z4 ⟨Az4, nz4, cz4, rfl, oz4, bz4⟩
  have l4 : Later W0 z4 := Later.trans lt_ bz4
  have HOz4 := hide oz4
  have HOb4 := hide (own_later HOb1.out (show Later W1 z4 from Later.trans lt_ bz4))
  clear oz4 bz4
  refine hK.out _ _ ?_ (fun hHeld => ?_)
  ·exact HT.out _ lt_
  clear hK K
  try simp only [Act.put, s1_, s2_, s3_]
  refine wpAnyN_ready (rs := [5]) (by kernel_rfl) (by simp) ?_
  refine AllReadyN.held rfl (by rfl) (fun K hK => ?_) AllReadyN.nil
  refine wp_append_b (some 18) (by rfl) _ _ rfl rfl HOb4.out rfl HOz4.out (by rw [num4_len]; omega) (by simp [num4]) l4.size ?_
  intro A5 n5 c5 y5 k1 k2
  have l5 : Later W0 y5 := l4.grown k2 (fun k hk => (World.ownsRow.lt HOb4.out k hk).1)
  have HOb5 := hide k1
  clear k1 k2
  refine hK.out _ _ ?_ (fun hHeld => ?_)
  ·exact HT.out _ lt_
  clear hK K
  try simp only [Act.put, s1_, s2_, s3_]
  refine wpAnyN_ready (rs := [9]) (by kernel_rfl) (by simp) ?_
  refine AllReadyN.held rfl (by rfl) (fun K hK => ?_) AllReadyN.nil
  go_simp
  refine (rnum_calls _ o.ord.item HN.out.2.1).mono ?_
  rintro e z9 ⟨Az9, nz9, cz9, rfl, oz9, bz9⟩
  have l9 : Later W0 z9 := Later.trans lt_ bz9
  have HOz9 := hide oz9
  have HOb9 := hide (own_later HOb5.out (show Later y5 z9 from Later.trans lt_ bz9))
  clear oz9 bz9
  refine hK.out _ _ ?_ (fun hHeld => ?_)
  ·exact HT.out _ lt_
  clear hK K
  try simp only [Act.put, s1_, s2_, s3_]
  refine wpAnyN_ready (rs := [10]) (by kernel_rfl) (by simp) ?_
  refine AllReadyN.held rfl (by rfl) (fun K hK => ?_) AllReadyN.nil
  refine wp_append_b (some 23) (by rfl) _ _ rfl rfl HOb9.out rfl HOz9.out (by rw [num4_len]; omega) (by simp [num4]) l9.size ?_
  intro A10 n10 c10 y10 k1 k2
  have l10 : Later W0 y10 := l9.grown k2 (fun k hk => (World.ownsRow.lt HOb9.out k hk).1)
  have HOb10 := hide k1
  clear k1 k2
  refine hK.out _ _ ?_ (fun hHeld => ?_)
  ·exact HT.out _ lt_
  clear hK K
  try simp only [Act.put, s1_, s2_, s3_]
  refine wpAnyN_ready (rs := [14]) (by kernel_rfl) (by simp) ?_
  refine AllReadyN.held rfl (by rfl) (fun K hK => ?_) AllReadyN.nil
  go_simp
  refine (rnum_calls _ o.ord.due HN.out.2.2.1).mono ?_
  rintro e z14 ⟨Az14, nz14, cz14, rfl, oz14, bz14⟩
  have l14 : Later W0 z14 := Later.trans lt_ bz14
  have HOz14 := hide oz14
  have HOb14 := hide (own_later HOb10.out (show Later y10 z14 from Later.trans lt_ bz14))
  clear oz14 bz14
  refine hK.out _ _ ?_ (fun hHeld => ?_)
  ·exact HT.out _ lt_
  clear hK K
  try simp only [Act.put, s1_, s2_, s3_]
  refine wpAnyN_ready (rs := [15]) (by kernel_rfl) (by simp) ?_
  refine AllReadyN.held rfl (by rfl) (fun K hK => ?_) AllReadyN.nil
  refine wp_append_b (some 28) (by rfl) _ _ rfl rfl HOb14.out rfl HOz14.out (by rw [num4_len]; omega) (by simp [num4]) l14.size ?_
  intro A15 n15 c15 y15 k1 k2
  have l15 : Later W0 y15 := l14.grown k2 (fun k hk => (World.ownsRow.lt HOb14.out k hk).1)
  have HOb15 := hide k1
  clear k1 k2
  refine hK.out _ _ ?_ (fun hHeld => ?_)
  ·exact HT.out _ lt_
  clear hK K
  try simp only [Act.put, s1_, s2_, s3_]
  refine wpAnyN_ready (rs := [19]) (by kernel_rfl) (by simp) ?_
  refine AllReadyN.held rfl (by rfl) (fun K hK => ?_) AllReadyN.nil
  go_simp
  refine (rnum_calls _ o.ord.qty HN.out.2.2.2).mono ?_
  rintro e z19 ⟨Az19, nz19, cz19, rfl, oz19, bz19⟩
  have l19 : Later W0 z19 := Later.trans lt_ bz19
  have HOz19 := hide oz19
  have HOb19 := hide (own_later HOb15.out (show Later y15 z19 from Later.trans lt_ bz19))
  clear oz19 bz19
  refine hK.out _ _ ?_ (fun hHeld => ?_)
  ·exact HT.out _ lt_
  clear hK K
  try simp only [Act.put, s1_, s2_, s3_]
  refine wpAnyN_ready (rs := [20]) (by kernel_rfl) (by simp) ?_
  refine AllReadyN.held rfl (by rfl) (fun K hK => ?_) AllReadyN.nil
  refine wp_append_b (some 33) (by rfl) _ _ rfl rfl HOb19.out rfl HOz19.out (by rw [num4_len]; omega) (by simp [num4]) l19.size ?_
  intro A20 n20 c20 y20 k1 k2
  have l20 : Later W0 y20 := l19.grown k2 (fun k hk => (World.ownsRow.lt HOb19.out k hk).1)
  have HOb20 := hide k1
  clear k1 k2
  refine hK.out _ _ ?_ (fun hHeld => ?_)
  ·exact HT.out _ lt_
  clear hK K
  try simp only [Act.put, s1_, s2_, s3_]
  refine tkB 2 21 ?_
  refine wpAnyN_done (by kernel_rfl) ?_ _
  clear hHeld
  go_wp2_with fail
  refine bodyPost_ret (results_sl rfl rfl) rfl ⟨_, _, _, rfl, own_weaken (show OutB W0.heap.size y20 _ (encB o) from by rw [HE.out]; exact HOb20.out) B0.out.size, B0.out.trans l20⟩
 have t1 : (o.kind == 1) = false := by simpa using k1
 by_cases k2 : o.kind = 2
 ·have t2 : (o.kind == 2) = true := by simpa using k2
  have HE : Hid (encB o = [o.kind] ++ num4 o.id) := hide (by
   unfold encB numsOf
   rw [if_neg (by omega), if_neg (by omega), if_pos k2]
   simp [List.flatMap])
  have HN : Hid (0 <= o.id /\ o.id <= 2147483647) := hide (by
   have h := HRG.out
   unfold numsOf at h
   rw [if_neg k1, if_pos k2] at h
   exact h _ (by simp))
  clear k1 k2
  have x5 := (HR0.out.later l1).cell (i := 5) rfl
  go_wp2_with (first | (go_at_call 88; (refine (rnum_calls _ o.id HN.out).mono ?_); rintro e z4 ⟨Az, nz, cz, rfl, oz, bz⟩; have HOz := hide oz; have HOb := hide (own_later HOb1.out bz); have l4 := l1.trans bz; clear oz bz) | (at_builtin; (refine wpList_append_b rfl _ _ rfl rfl HOb.out rfl HOz.out (by rw [num4_len]; omega) (by simp [num4]) l4.size ?_); intro A5 n5 c5 y5 q1 q2; have HO5 := hide q1; have l5 : Later W0 y5 := l4.grown q2 (fun k hk => (World.ownsRow.lt HOb.out k hk).1); clear q1 q2))
  exact bodyPost_ret (results_sl rfl rfl) rfl ⟨_, _, _, rfl, own_weaken (show OutB W0.heap.size y5 _ (encB o) from by rw [HE.out]; exact HO5.out) B0.out.size, B0.out.trans l5⟩
 have t2 : (o.kind == 2) = false := by simpa using k2
 by_cases k3 : o.kind = 3
 ·have t3 : (o.kind == 3) = true := by simpa using k3
  have HE : Hid (encB o = ([o.kind] ++ num4 o.period) ++ num4 o.qty) := hide (by
   unfold encB numsOf
   rw [if_neg (by omega), if_neg (by omega), if_neg (by omega), if_pos k3]
   simp [List.flatMap])
  have HN : Hid ((0 <= o.period /\ o.period <= 2147483647) /\ (0 <= o.qty /\ o.qty <= 2147483647)) := hide (by
   have h := HRG.out
   unfold numsOf at h
   rw [if_neg k1, if_neg k2, if_pos k3] at h
   exact ⟨h _ (by simp), h _ (by simp)⟩)
  have HT : Hid (∀ w', Later W0 w' -> w'.cell? ⟨w.heap.size, 6, none⟩ = some (.int .i64 o.period) /\ w'.cell? ⟨w.heap.size, 7, none⟩ = some (.int .i64 o.qty)) := hide (fun w' hb => ⟨(HR0.out.later hb).cell rfl, (HR0.out.later hb).cell rfl⟩)
  clear k1 k2 k3
  go_upto_region 8 with fail
  clear x0
  refine wp_region_N (fun w' => w'.cell? ⟨w.heap.size, 6, none⟩ = some (.int .i64 o.period) /\ w'.cell? ⟨w.heap.size, 7, none⟩ = some (.int .i64 o.qty)) [] hmx (HT.out _ lt_) (fun hHeld => ?_)
  refine tkB 43 0 ?_
  refine tkB 44 1 ?_
  refine tkB 45 2 ?_
  refine tkB 48 5 ?_
  refine tkB 49 6 ?_
  refine wpAnyN_ready (rs := [3]) (by kernel_rfl) (by simp) ?_
  refine AllReadyN.held rfl (by rfl) (fun K hK => ?_) AllReadyN.nil
  go_simp
  refine (rnum_calls _ o.period HN.out.1).mono ?_
  rintro e z3 ⟨Az3, nz3, cz3, rfl, oz3, bz3⟩
  have l3 : Later W0 z3 := Later.trans lt_ bz3
  have HOz3 := hide oz3
  have HOb3 := hide (own_later HOb1.out (show Later W1 z3 from Later.trans lt_ bz3))
  clear oz3 bz3
  refine hK.out _ _ ?_ (fun hHeld => ?_)
  ·exact HT.out _ lt_
  clear hK K
  try simp only [Act.put, s1_, s2_, s3_]
  refine wpAnyN_ready (rs := [4]) (by kernel_rfl) (by simp) ?_
  refine AllReadyN.held rfl (by rfl) (fun K hK => ?_) AllReadyN.nil
  refine wp_append_b (some 47) (by rfl) _ _ rfl rfl HOb3.out rfl HOz3.out (by rw [num4_len]; omega) (by simp [num4]) l3.size ?_
  intro A4 n4 c4 y4 k1 k2
  have l4 : Later W0 y4 := l3.grown k2 (fun k hk => (World.ownsRow.lt HOb3.out k hk).1)
  have HOb4 := hide k1
  clear k1 k2
  refine hK.out _ _ ?_ (fun hHeld => ?_)
  ·exact HT.out _ lt_
  clear hK K
  try simp only [Act.put, s1_, s2_, s3_]
  refine wpAnyN_ready (rs := [7]) (by kernel_rfl) (by simp) ?_
  refine AllReadyN.held rfl (by rfl) (fun K hK => ?_) AllReadyN.nil
  go_simp
  refine (rnum_calls _ o.qty HN.out.2).mono ?_
  rintro e z7 ⟨Az7, nz7, cz7, rfl, oz7, bz7⟩
  have l7 : Later W0 z7 := Later.trans lt_ bz7
  have HOz7 := hide oz7
  have HOb7 := hide (own_later HOb4.out (show Later y4 z7 from Later.trans lt_ bz7))
  clear oz7 bz7
  refine hK.out _ _ ?_ (fun hHeld => ?_)
  ·exact HT.out _ lt_
  clear hK K
  try simp only [Act.put, s1_, s2_, s3_]
  refine wpAnyN_ready (rs := [8]) (by kernel_rfl) (by simp) ?_
  refine AllReadyN.held rfl (by rfl) (fun K hK => ?_) AllReadyN.nil
  refine wp_append_b (some 51) (by rfl) _ _ rfl rfl HOb7.out rfl HOz7.out (by rw [num4_len]; omega) (by simp [num4]) l7.size ?_
  intro A8 n8 c8 y8 k1 k2
  have l8 : Later W0 y8 := l7.grown k2 (fun k hk => (World.ownsRow.lt HOb7.out k hk).1)
  have HOb8 := hide k1
  clear k1 k2
  refine hK.out _ _ ?_ (fun hHeld => ?_)
  ·exact HT.out _ lt_
  clear hK K
  try simp only [Act.put, s1_, s2_, s3_]
  refine tkB 2 9 ?_
  refine wpAnyN_done (by kernel_rfl) ?_ _
  clear hHeld
  go_wp2_with fail
  refine bodyPost_ret (results_sl rfl rfl) rfl ⟨_, _, _, rfl, own_weaken (show OutB W0.heap.size y8 _ (encB o) from by rw [HE.out]; exact HOb8.out) B0.out.size, B0.out.trans l8⟩
 have t3 : (o.kind == 3) = false := by simpa using k3
 by_cases k5 : o.kind = 5
 ·have t5 : (o.kind == 5) = true := by simpa using k5
  have HN : Hid (0 <= o.period /\ o.period <= 2147483647) := hide (by
   have h := HRG.out
   unfold numsOf at h
   rw [if_neg k1, if_neg k2, if_neg k3, if_pos k5] at h
   exact h _ (by simp))
  have HE : Hid (encB o = (([o.kind] ++ num4 o.period) ++ [(nq : Int)]) ++ o.qtys.flatMap num4) := hide (by unfold encB; rw [if_pos k5, HNQ.out, k5]; simp)
  have hq3 : nq <= 3 := by have := HL3.out; have := HNQ.out; omega
  have hwq : IntKind.u8.wrap (nq : Int) = (nq : Int) := IntWalk.u8_in _ (by omega)
  have HRQ : Hid (∀ x ∈ o.qtys, 0 <= x /\ x <= 2147483647) := hide (fun x hx => by
   have h := HRG.out
   unfold numsOf at h
   rw [if_neg k1, if_neg k2, if_neg k3, if_pos k5] at h
   exact h _ (List.mem_cons_of_mem _ hx))
  have HT : Hid (∀ w', Later W0 w' -> w'.cell? ⟨w.heap.size, 6, none⟩ = some (.int .i64 o.period) /\ w'.cell? ⟨w.heap.size, 8, none⟩ = some (.slice Aq nq cq)) := hide (fun w' hb => ⟨(HR0.out.later hb).cell rfl, (HR0.out.later hb).cell rfl⟩)
  have HOb := HOb1
  clear k1 k2 k3 k5
  go_upto_region 10 with fail
  clear x0
  refine wp_region_N (fun w' => w'.cell? ⟨w.heap.size, 6, none⟩ = some (.int .i64 o.period) /\ w'.cell? ⟨w.heap.size, 8, none⟩ = some (.slice Aq nq cq)) [] hmx (HT.out _ lt_) (fun hHeld => ?_)
  refine tkB 54 0 ?_
  refine tkB 55 1 ?_
  refine tkB 56 2 ?_
  refine tkB 59 5 ?_
  refine tkB 60 6 ?_
  refine tkB 61 7 ?_
  refine tkB 62 8 ?_
  refine wpAnyN_ready (rs := [3, 9]) (by kernel_rfl) (by simp) ?_
  refine AllReadyN.held rfl (by rfl) (fun K hK => ?_) ?_
  ·go_simp
   refine (rnum_calls _ o.period HN.out).mono ?_
   rintro e z3 ⟨Az, nz, cz, rfl, oz, bz⟩
   have HOz := hide oz
   have HOb := hide (own_later HOb.out (Later.trans ((Later.refl W1).drew) bz))
   have l3 : Later W0 z3 := Later.trans lt_ bz
   have HSZ : Hid (W1.heap.size <= z3.heap.size) := hide (by have h := Below.size bz; exact h)
   clear oz bz
   refine hK.out _ _ ?_ (fun hHeld => ?_)
   ·exact HT.out _ lt_
   clear hK K
   try simp only [Act.put, s1_, s2_, s3_]
   refine wpAnyN_ready (rs := [4, 9]) (by kernel_rfl) (by simp) ?_
   refine AllReadyN.held rfl (by rfl) (fun K hK => ?_) ?_
   ·refine wp_append_b (some 58) (by rfl) _ _ rfl rfl HOb.out rfl HOz.out (by rw [num4_len]; omega) (by simp [num4]) (Below.size (show Later W0 _ from lt_)) ?_
    intro A4 n4 c4 y4 k1 k2
    have l4 : Later W0 y4 := Later.grown (show Later W0 z3 from lt_) k2 (fun k hk => (World.ownsRow.lt HOb.out k hk).1)
    have HOb := hide k1
    have HSZ : Hid (W1.heap.size <= y4.heap.size) := hide (Nat.le_trans HSZ.out k2.size)
    clear k1 k2
    refine hK.out _ _ ?_ (fun hHeld => ?_)
    ·exact HT.out _ lt_
    clear hK K
    try simp only [Act.put, s1_, s2_, s3_]
    refine wpAnyN_ready (rs := [9]) (by kernel_rfl) (by simp) ?_
    refine AllReadyN.held rfl (by rfl) (fun K hK => ?_) AllReadyN.nil
    go_simp
    obtain ⟨g9, hg9⟩ : ∃ g, g = y4.heap.size := ⟨_, rfl⟩
    rw [<- hg9]
    have HNR : Hid (Row (y4.alloc (Obj.cells #[Value.int .u8 (nq : Int)] 5)) g9 5 [.int .u8 (nq : Int)]) := hide (by rw [hg9]; exact Row.new y4 _ _)
    have HOb : Hid (OutB W0.heap.size (y4.alloc (Obj.cells #[Value.int .u8 (nq : Int)] 5)) (.slice A4 n4 c4) ([o.kind] ++ num4 o.period)) := hide (World.ownsRow.alloc HOb.out _)
    have HG9 : Hid (W0.heap.size < g9) := hide (by have h1 := (World.ownsRow.lt HOb1.out W0.heap.size rfl).2; have h2 := HSZ.out; rw [hg9]; omega)
    clear hg9
    refine hK.out _ _ ?_ (fun hHeld => ?_)
    ·exact HT.out _ lt_
    clear hK K
    try simp only [Act.put, s1_, s2_, s3_]
    refine wpAnyN_ready (rs := [10]) (by kernel_rfl) (by simp) ?_
    refine AllReadyN.held rfl (by rfl) (fun K hK => ?_) AllReadyN.nil
    refine wp_append_b (some 64) (by rfl) _ _ rfl rfl HOb.out rfl (outb_of_row HNR.out) (by simp) (by simp [num4]) (Below.size (show Later W0 _ from lt_)) ?_
    intro A10 n10 c10 y10 k1 k2
    have l10 : Later W0 y10 := Later.grown (show Later W0 (y4.alloc (Obj.cells #[Value.int .u8 (nq : Int)] 5)) from lt_) k2 (fun k hk => (World.ownsRow.lt HOb.out k hk).1)
    have HO10 : Hid (OutB W0.heap.size y10 (.slice A10 n10 c10) (([o.kind] ++ num4 o.period) ++ [(nq : Int)])) := hide k1
    clear k1 k2
    refine hK.out _ _ ?_ (fun hHeld => ?_)
    ·exact HT.out _ lt_
    clear hK K
    try simp only [Act.put, s1_, s2_, s3_]
    refine tkB 3 11 ?_
    refine wpAnyN_done (by kernel_rfl) ?_ _
    clear hHeld
    have HL10 := hide l10
    clear l10
    go_wp2_with fail
    go_loopw [3, 4] (fun bv iv wr => ∃ (j : Nat) (A : Option Addr) (n c : Nat), bv = .slice A n c /\ iv = .int .i64 (j : Int) /\ j <= nq /\ Hid (OutB W0.heap.size wr (.slice A n c) ((([o.kind] ++ num4 o.period) ++ [(nq : Int)]) ++ (o.qtys.take j).flatMap num4)) /\ Hid (Later W0 wr)) (fun _ iv _ => (nq - intOf iv).toNat)
    case atStart => exact ⟨0, A10, n10, c10, rfl, rfl, Nat.zero_le _, hide (by rw [List.take_zero]; simpa using HO10.out), HL10⟩
    case round =>
     obtain ⟨j, A, n, c, rfl, rfl, hj, HOb, HL⟩ := hrel
     have x8 := (HR0.out.later HL.out).cell (i := 8) rfl
     by_cases hjn : j < nq
     ·obtain ⟨x, hx⟩ : ∃ x, o.qtys[j]? = some x := ⟨o.qtys[j]'(by have := HNQ.out; omega), List.getElem?_eq_getElem _⟩
      obtain ⟨b1, off1, rfl, x1⟩ := (HQ.out.later (B0.out.trans HL.out)).at1 hx
      have HXR := hide (HRQ.out x (List.mem_of_getElem? hx))
      have HTK : Hid ((o.qtys.take (j+1)).flatMap num4 = (o.qtys.take j).flatMap num4 ++ num4 x) := hide (by rw [List.take_add_one, hx, List.flatMap_append]; simp)
      have HLN : Hid (((([o.kind] ++ num4 o.period) ++ [(nq : Int)]) ++ (o.qtys.take j).flatMap num4).length <= 100) := hide (by rw [List.length_append, nums_len, List.length_take]; simp [num4]; omega)
      have hj0 : (0 : Int) <= (j : Int) := by omega
      have hj1 : (j : Int) < nq := by omega
      clear hx
      go_wp2_with (first | (go_at_call 88; (refine (rnum_calls _ x HXR.out).mono ?_); rintro e z4 ⟨Az, nz, cz, rfl, oz, bz⟩; have HOz := hide oz; have HOb2 := hide (own_later HOb.out bz); have l4 := HL.out.trans bz; clear oz bz) | (at_builtin; (refine wpList_append_b rfl _ _ rfl rfl HOb2.out rfl HOz.out (by rw [num4_len]; omega) (by have := HLN.out; rw [num4_len]; omega) l4.size ?_); intro A5 n5 c5 y5 q1 q2; have HO5 := hide q1; have l5 : Later W0 y5 := l4.grown q2 (fun k hk => (World.ownsRow.lt HOb2.out k hk).1); clear q1 q2))
      refine ⟨⟨j+1, A5, n5, c5, rfl, by go_num, by omega, hide ?_, hide l5⟩, by simp [intOf]; omega⟩
      rw [HTK.out, <- List.append_assoc]; exact HO5.out
     ·obtain rfl : nq = j := by omega
      have HA : Hid (o.qtys.take nq = o.qtys) := hide (List.take_of_length_le (by have := HNQ.out; omega))
      rw [HA.out] at HOb
      go_wp2_with fail
      exact bodyPost_ret (results_sl rfl rfl) rfl ⟨_, _, _, rfl, own_weaken (show OutB W0.heap.size wr _ (encB o) from by rw [HE.out]; exact HOb.out) B0.out.size, B0.out.trans HL.out⟩
   refine AllReadyN.held rfl (by rfl) (fun K hK => ?_) AllReadyN.nil
   go_simp
   obtain ⟨g9, hg9⟩ : ∃ g, g = z3.heap.size := ⟨_, rfl⟩
   rw [<- hg9]
   have HNR : Hid (Row (z3.alloc (Obj.cells #[Value.int .u8 (nq : Int)] 5)) g9 5 [.int .u8 (nq : Int)]) := hide (by rw [hg9]; exact Row.new z3 _ _)
   have HOb : Hid (OutB W0.heap.size (z3.alloc (Obj.cells #[Value.int .u8 (nq : Int)] 5)) (.slice (some ⟨W0.heap.size, 0, none⟩) 1 1) [o.kind]) := hide (World.ownsRow.alloc HOb.out _)
   have HOz := hide (World.ownsRow.alloc HOz.out (Obj.cells #[Value.int .u8 (nq : Int)] 5))
   have HG9 : Hid (W0.heap.size < g9) := hide (by have h1 := (World.ownsRow.lt HOb1.out W0.heap.size rfl).2; have h2 := HSZ.out; rw [hg9]; omega)
   clear hg9
   refine hK.out _ _ ?_ (fun hHeld => ?_)
   ·exact HT.out _ lt_
   clear hK K
   try simp only [Act.put, s1_, s2_, s3_]
   refine wpAnyN_ready (rs := [4]) (by kernel_rfl) (by simp) ?_
   refine AllReadyN.held rfl (by rfl) (fun K hK => ?_) AllReadyN.nil
   refine wp_append_b (some 58) (by rfl) _ _ rfl rfl HOb.out rfl HOz.out (by rw [num4_len]; omega) (by simp [num4]) (Below.size (show Later W0 _ from lt_)) ?_
   intro A4 n4 c4 y4 k1 k2
   have l4 : Later W0 y4 := Later.grown (show Later W0 (z3.alloc (Obj.cells #[Value.int .u8 (nq : Int)] 5)) from lt_) k2 (fun k hk => (World.ownsRow.lt HOb.out k hk).1)
   have HOb := hide k1
   have HSZ : Hid (W1.heap.size <= y4.heap.size) := hide (Nat.le_trans (Nat.le_trans HSZ.out (by simp)) k2.size)
   have HNR := hide (HNR.out.grown k2 (fun e => by have h1 := HG9.out; have h2 : some g9 = some W0.heap.size := e; injection h2 with h2; omega))
   clear k1 k2
   refine hK.out _ _ ?_ (fun hHeld => ?_)
   ·exact HT.out _ lt_
   clear hK K
   try simp only [Act.put, s1_, s2_, s3_]
   refine wpAnyN_ready (rs := [10]) (by kernel_rfl) (by simp) ?_
   refine AllReadyN.held rfl (by rfl) (fun K hK => ?_) AllReadyN.nil
   refine wp_append_b (some 64) (by rfl) _ _ rfl rfl HOb.out rfl (outb_of_row HNR.out) (by simp) (by simp [num4]) (Below.size (show Later W0 _ from lt_)) ?_
   intro A10 n10 c10 y10 k1 k2
   have l10 : Later W0 y10 := Later.grown (show Later W0 y4 from lt_) k2 (fun k hk => (World.ownsRow.lt HOb.out k hk).1)
   have HO10 : Hid (OutB W0.heap.size y10 (.slice A10 n10 c10) (([o.kind] ++ num4 o.period) ++ [(nq : Int)])) := hide k1
   clear k1 k2
   refine hK.out _ _ ?_ (fun hHeld => ?_)
   ·exact HT.out _ lt_
   clear hK K
   try simp only [Act.put, s1_, s2_, s3_]
   refine tkB 3 11 ?_
   refine wpAnyN_done (by kernel_rfl) ?_ _
   clear hHeld
   have HL10 := hide l10
   clear l10
   go_wp2_with fail
   go_loopw [3, 4] (fun bv iv wr => ∃ (j : Nat) (A : Option Addr) (n c : Nat), bv = .slice A n c /\ iv = .int .i64 (j : Int) /\ j <= nq /\ Hid (OutB W0.heap.size wr (.slice A n c) ((([o.kind] ++ num4 o.period) ++ [(nq : Int)]) ++ (o.qtys.take j).flatMap num4)) /\ Hid (Later W0 wr)) (fun _ iv _ => (nq - intOf iv).toNat)
   case atStart => exact ⟨0, A10, n10, c10, rfl, rfl, Nat.zero_le _, hide (by rw [List.take_zero]; simpa using HO10.out), HL10⟩
   case round =>
    obtain ⟨j, A, n, c, rfl, rfl, hj, HOb, HL⟩ := hrel
    have x8 := (HR0.out.later HL.out).cell (i := 8) rfl
    by_cases hjn : j < nq
    ·obtain ⟨x, hx⟩ : ∃ x, o.qtys[j]? = some x := ⟨o.qtys[j]'(by have := HNQ.out; omega), List.getElem?_eq_getElem _⟩
     obtain ⟨b1, off1, rfl, x1⟩ := (HQ.out.later (B0.out.trans HL.out)).at1 hx
     have HXR := hide (HRQ.out x (List.mem_of_getElem? hx))
     have HTK : Hid ((o.qtys.take (j+1)).flatMap num4 = (o.qtys.take j).flatMap num4 ++ num4 x) := hide (by rw [List.take_add_one, hx, List.flatMap_append]; simp)
     have HLN : Hid (((([o.kind] ++ num4 o.period) ++ [(nq : Int)]) ++ (o.qtys.take j).flatMap num4).length <= 100) := hide (by rw [List.length_append, nums_len, List.length_take]; simp [num4]; omega)
     have hj0 : (0 : Int) <= (j : Int) := by omega
     have hj1 : (j : Int) < nq := by omega
     clear hx
     go_wp2_with (first | (go_at_call 88; (refine (rnum_calls _ x HXR.out).mono ?_); rintro e z4 ⟨Az, nz, cz, rfl, oz, bz⟩; have HOz := hide oz; have HOb2 := hide (own_later HOb.out bz); have l4 := HL.out.trans bz; clear oz bz) | (at_builtin; (refine wpList_append_b rfl _ _ rfl rfl HOb2.out rfl HOz.out (by rw [num4_len]; omega) (by have := HLN.out; rw [num4_len]; omega) l4.size ?_); intro A5 n5 c5 y5 q1 q2; have HO5 := hide q1; have l5 : Later W0 y5 := l4.grown q2 (fun k hk => (World.ownsRow.lt HOb2.out k hk).1); clear q1 q2))
     refine ⟨⟨j+1, A5, n5, c5, rfl, by go_num, by omega, hide ?_, hide l5⟩, by simp [intOf]; omega⟩
     rw [HTK.out, <- List.append_assoc]; exact HO5.out
    ·obtain rfl : nq = j := by omega
     have HA : Hid (o.qtys.take nq = o.qtys) := hide (List.take_of_length_le (by have := HNQ.out; omega))
     rw [HA.out] at HOb
     go_wp2_with fail
     exact bodyPost_ret (results_sl rfl rfl) rfl ⟨_, _, _, rfl, own_weaken (show OutB W0.heap.size wr _ (encB o) from by rw [HE.out]; exact HOb.out) B0.out.size, B0.out.trans HL.out⟩
  refine AllReadyN.held rfl (by rfl) (fun K hK => ?_) AllReadyN.nil
  go_simp
  obtain ⟨g9, hg9⟩ : ∃ g, g = W1.heap.size := ⟨_, rfl⟩
  rw [<- hg9]
  have HNR : Hid (Row (W1.drew.alloc (Obj.cells #[Value.int .u8 (nq : Int)] 5)) g9 5 [.int .u8 (nq : Int)]) := hide (by rw [hg9]; exact Row.new W1.drew _ _)
  have HOb : Hid (OutB W0.heap.size (W1.drew.alloc (Obj.cells #[Value.int .u8 (nq : Int)] 5)) (.slice (some ⟨W0.heap.size, 0, none⟩) 1 1) [o.kind]) := hide (World.ownsRow.alloc (World.ownsRow.drew HOb.out) _)
  have HG9 : Hid (W0.heap.size < g9) := hide (by have h1 := (World.ownsRow.lt HOb1.out W0.heap.size rfl).2; have h2 := Nat.le_refl W1.heap.size; rw [hg9]; omega)
  clear hg9
  refine hK.out _ _ ?_ (fun hHeld => ?_)
  ·exact HT.out _ lt_
  clear hK K
  try simp only [Act.put, s1_, s2_, s3_]
  refine wpAnyN_ready (rs := [3]) (by kernel_rfl) (by simp) ?_
  refine AllReadyN.held rfl (by rfl) (fun K hK => ?_) AllReadyN.nil
  go_simp
  refine (rnum_calls _ o.period HN.out).mono ?_
  rintro e z3 ⟨Az, nz, cz, rfl, oz, bz⟩
  have HOz := hide oz
  have HOb := hide (own_later HOb.out (bz))
  have l3 : Later W0 z3 := Later.trans lt_ bz
  have HSZ : Hid (W1.heap.size <= z3.heap.size) := hide (by have h := Below.size bz; have h2 := Below.size ((Later.refl W1).alloc (Obj.cells #[Value.int .u8 (nq : Int)] 5)); exact Nat.le_trans h2 h)
  have HNR := hide (HNR.out.later bz)
  clear oz bz
  refine hK.out _ _ ?_ (fun hHeld => ?_)
  ·exact HT.out _ lt_
  clear hK K
  try simp only [Act.put, s1_, s2_, s3_]
  refine wpAnyN_ready (rs := [4]) (by kernel_rfl) (by simp) ?_
  refine AllReadyN.held rfl (by rfl) (fun K hK => ?_) AllReadyN.nil
  refine wp_append_b (some 58) (by rfl) _ _ rfl rfl HOb.out rfl HOz.out (by rw [num4_len]; omega) (by simp [num4]) (Below.size (show Later W0 _ from lt_)) ?_
  intro A4 n4 c4 y4 k1 k2
  have l4 : Later W0 y4 := Later.grown (show Later W0 z3 from lt_) k2 (fun k hk => (World.ownsRow.lt HOb.out k hk).1)
  have HOb := hide k1
  have HSZ : Hid (W1.heap.size <= y4.heap.size) := hide (Nat.le_trans HSZ.out k2.size)
  have HNR := hide (HNR.out.grown k2 (fun e => by have h1 := HG9.out; have h2 : some g9 = some W0.heap.size := e; injection h2 with h2; omega))
  clear k1 k2
  refine hK.out _ _ ?_ (fun hHeld => ?_)
  ·exact HT.out _ lt_
  clear hK K
  try simp only [Act.put, s1_, s2_, s3_]
  refine wpAnyN_ready (rs := [10]) (by kernel_rfl) (by simp) ?_
  refine AllReadyN.held rfl (by rfl) (fun K hK => ?_) AllReadyN.nil
  refine wp_append_b (some 64) (by rfl) _ _ rfl rfl HOb.out rfl (outb_of_row HNR.out) (by simp) (by simp [num4]) (Below.size (show Later W0 _ from lt_)) ?_
  intro A10 n10 c10 y10 k1 k2
  have l10 : Later W0 y10 := Later.grown (show Later W0 y4 from lt_) k2 (fun k hk => (World.ownsRow.lt HOb.out k hk).1)
  have HO10 : Hid (OutB W0.heap.size y10 (.slice A10 n10 c10) (([o.kind] ++ num4 o.period) ++ [(nq : Int)])) := hide k1
  clear k1 k2
  refine hK.out _ _ ?_ (fun hHeld => ?_)
  ·exact HT.out _ lt_
  clear hK K
  try simp only [Act.put, s1_, s2_, s3_]
  refine tkB 3 11 ?_
  refine wpAnyN_done (by kernel_rfl) ?_ _
  clear hHeld
  have HL10 := hide l10
  clear l10
  go_wp2_with fail
  go_loopw [3, 4] (fun bv iv wr => ∃ (j : Nat) (A : Option Addr) (n c : Nat), bv = .slice A n c /\ iv = .int .i64 (j : Int) /\ j <= nq /\ Hid (OutB W0.heap.size wr (.slice A n c) ((([o.kind] ++ num4 o.period) ++ [(nq : Int)]) ++ (o.qtys.take j).flatMap num4)) /\ Hid (Later W0 wr)) (fun _ iv _ => (nq - intOf iv).toNat)
  case atStart => exact ⟨0, A10, n10, c10, rfl, rfl, Nat.zero_le _, hide (by rw [List.take_zero]; simpa using HO10.out), HL10⟩
  case round =>
   obtain ⟨j, A, n, c, rfl, rfl, hj, HOb, HL⟩ := hrel
   have x8 := (HR0.out.later HL.out).cell (i := 8) rfl
   by_cases hjn : j < nq
   ·obtain ⟨x, hx⟩ : ∃ x, o.qtys[j]? = some x := ⟨o.qtys[j]'(by have := HNQ.out; omega), List.getElem?_eq_getElem _⟩
    obtain ⟨b1, off1, rfl, x1⟩ := (HQ.out.later (B0.out.trans HL.out)).at1 hx
    have HXR := hide (HRQ.out x (List.mem_of_getElem? hx))
    have HTK : Hid ((o.qtys.take (j+1)).flatMap num4 = (o.qtys.take j).flatMap num4 ++ num4 x) := hide (by rw [List.take_add_one, hx, List.flatMap_append]; simp)
    have HLN : Hid (((([o.kind] ++ num4 o.period) ++ [(nq : Int)]) ++ (o.qtys.take j).flatMap num4).length <= 100) := hide (by rw [List.length_append, nums_len, List.length_take]; simp [num4]; omega)
    have hj0 : (0 : Int) <= (j : Int) := by omega
    have hj1 : (j : Int) < nq := by omega
    clear hx
    go_wp2_with (first | (go_at_call 88; (refine (rnum_calls _ x HXR.out).mono ?_); rintro e z4 ⟨Az, nz, cz, rfl, oz, bz⟩; have HOz := hide oz; have HOb2 := hide (own_later HOb.out bz); have l4 := HL.out.trans bz; clear oz bz) | (at_builtin; (refine wpList_append_b rfl _ _ rfl rfl HOb2.out rfl HOz.out (by rw [num4_len]; omega) (by have := HLN.out; rw [num4_len]; omega) l4.size ?_); intro A5 n5 c5 y5 q1 q2; have HO5 := hide q1; have l5 : Later W0 y5 := l4.grown q2 (fun k hk => (World.ownsRow.lt HOb2.out k hk).1); clear q1 q2))
    refine ⟨⟨j+1, A5, n5, c5, rfl, by go_num, by omega, hide ?_, hide l5⟩, by simp [intOf]; omega⟩
    rw [HTK.out, <- List.append_assoc]; exact HO5.out
   ·obtain rfl : nq = j := by omega
    have HA : Hid (o.qtys.take nq = o.qtys) := hide (List.take_of_length_le (by have := HNQ.out; omega))
    rw [HA.out] at HOb
    go_wp2_with fail
    exact bodyPost_ret (results_sl rfl rfl) rfl ⟨_, _, _, rfl, own_weaken (show OutB W0.heap.size wr _ (encB o) from by rw [HE.out]; exact HOb.out) B0.out.size, B0.out.trans HL.out⟩
 ·have t5 : (o.kind == 5) = false := by simpa using k5
  have HE : Hid (encB o = [o.kind]) := hide (by unfold encB numsOf; rw [if_neg k5, if_neg k1, if_neg k2, if_neg k3, if_neg k5]; rfl)
  clear k1 k2 k3 k5
  go_wp2_with fail
  exact bodyPost_ret (results_sl rfl rfl) rfl ⟨_, _, _, rfl, own_weaken (show OutB W0.heap.size W1 _ (encB o) from by rw [HE.out]; exact HOb1.out) B0.out.size, B0.out.trans l1⟩
end Go.Proofs.YtncbebfhakcgdaaGreat
