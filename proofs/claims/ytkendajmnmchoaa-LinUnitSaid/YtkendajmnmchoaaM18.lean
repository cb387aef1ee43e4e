/- LinUnit: the walk. -/
import Derived.Test.YtkendajmnmchoaaM17
set_option linter.unusedVariables false
set_option linter.unusedSimpArgs false
set_option maxRecDepth 100000
namespace Go.Proofs.Ytkendajmnmchoaa
open Go.RowKit Go.Shelf
attribute [local go_sem ↓] Go.wp_at_zero Go.wp_at_succ

/-- 1 at one place -/
def unitRow (n i : Nat) : List Rat := (List.range n).map fun k => if k = i then 1 else 0
def unitTo (n j : Nat) : List (List Rat) := (List.range j).map (unitRow n)
theorem unitTo_succ (n j : Nat) : unitTo n (j+1) = unitTo n j ++ [unitRow n j] := by simp [unitTo, List.range_succ]
theorem unitTo_len (n j : Nat) : (unitTo n j).length = j := by simp [unitTo]
theorem unitRow_len (n j : Nat) : (unitRow n j).length = n := by simp [unitRow]
theorem unitRow_at {n i k : Nat} (hk : k < n) : (unitRow n i)[k]? = some (if k = i then 1 else 0) := by simp [unitRow, hk]
theorem unitRow_take {n i k : Nat} (hk : k < n) : (unitRow n i).take (k+1) = (unitRow n i).take k ++ [if k = i then 1 else 0] := by
  rw [List.take_add_one, unitRow_at hk]; rfl
theorem unit_rect (n j : Nat) : ∀ row ∈ unitTo n j, row.length = n := by
  intro row h
  obtain ⟨i, -, rfl⟩ := List.mem_map.1 h
  exact unitRow_len n i
theorem unit_sized (n j : Nat) : ∀ row ∈ unitTo n j, ∀ q ∈ row, Sized q 1 := by
  intro row h
  obtain ⟨i, -, rfl⟩ := List.mem_map.1 h
  exact sized_list1 (fun q hq => by
    obtain ⟨k, -, rfl⟩ := List.mem_map.1 hq
    split
    · exact .inr (.inl rfl)
    · exact .inl rfl)
theorem unit_ent {n i k : Nat} (hi : i < n) (hk : k < n) : ent (unitTo n n) i k = if k = i then 1 else 0 := by
  unfold ent unitTo
  rw [List.getD_eq_getElem?_getD (l := List.map _ _), List.getElem?_map, List.getElem?_range hi]
  simp only [Option.map_some, Option.getD_some]
  rw [List.getD_eq_getElem?_getD, unitRow_at hk]; rfl
theorem tab_ext {t u : List (List Rat)} {n m : Nat} (ht : t.length = n) (hu : u.length = n) (hr : ∀ row ∈ t, row.length = m) (hs : ∀ row ∈ u, row.length = m) (h : ∀ i k, i < n → k < m → ent t i k = ent u i k) : t = u := by
  apply List.ext_getElem (by omega)
  intro i h1 h2
  have e1 := hr _ (List.getElem_mem h1)
  have e2 := hs _ (List.getElem_mem h2)
  refine list_eq_of_getD e1 e2 fun k hk => ?_
  have h3 := h i k (by omega) hk
  unfold ent at h3
  rwa [List.getD_eq_getElem?_getD (l := t), List.getD_eq_getElem?_getD (l := u), List.getElem?_eq_getElem h1, List.getElem?_eq_getElem h2] at h3
theorem pivL_rect {t : List (List Rat)} {r c m : Nat} (hr : r < t.length) (h : ∀ row ∈ t, row.length = m) : ∀ row ∈ pivL t r c, row.length = m := by
  have hg : ∀ a, a < t.length → (t.getD a []).length = m := fun a ha => h _ (by rw [List.getD_eq_getElem?_getD, List.getElem?_eq_getElem ha]; exact List.getElem_mem ha)
  intro row hrow
  obtain ⟨i, hi, rfl⟩ := List.mem_map.1 hrow
  have hi2 := List.mem_range.1 hi
  unfold pivRow ownL axpyL
  split
  · rw [List.length_map]; exact hg r hr
  · rw [List.length_zipWith, List.length_map, hg r hr, hg i hi2, Nat.min_self]
theorem unit_piv {n i : Nat} (hi : i < n) : pivL (unitTo n n) i i = unitTo n n := by
  have hl := unitTo_len n n
  have hr := unit_rect n n
  refine tab_ext (n := n) (m := n) (by simp [pivL, hl]) hl (pivL_rect (by omega) hr) hr fun a k ha hk => ?_
  rw [piv_ent (by omega) hr (by omega) hk]
  unfold piv
  rw [unit_ent hi hk, unit_ent hi hi, unit_ent ha hk, unit_ent ha hi, if_pos rfl]
  by_cases e : a = i
  · subst e; rw [if_pos rfl]; split <;> grind
  · have e2 : ¬ i = a := fun h => e h.symm
    simp only [if_neg e2]; grind

set_option maxHeartbeats 8000000 in
theorem linunit_walk (w : World) (vb : Value) (b : List Rat) (hb : Rats EAny w vb b) : Calls Try.prog 4 #[vb] w (RetV w (.bool true)) := by
  have HB := hide hb
  obtain ⟨B0, nb, cb, rfl, hnb, -⟩ := hb.form
  have HNB := hide hnb
  clear hb hnb
  go_enter Try.func4, Try.ntmps4
  go_wp2_with fail
  refine (awake_calls _).mono ?_
  rintro e w1 ⟨rfl, b1⟩
  have HL1 := hide b1
  clear b1
  go_wp2_with fail
  refine (few_calls w1 _ b 6 (HB.out.later EAny.later HL1.out) (by omega)).mono ?_
  rintro e w2 ⟨t, rfl, hf, hw⟩
  subst hw
  cases t with
  | false =>
    go_wp2_with fail
    go_ret
    exact ⟨rfl, HL1.out⟩
  | true =>
    have HFB := hide (hf rfl)
    have hn6 : nb ≤ 6 := by rw [HNB.out]; exact HFB.out.1
    have HN6 := hide hn6
    have HRB : Hid (∀ W, Later w1 W → Rats (ERaw 1) W (.slice B0 nb cb) b) := hide fun W hW => HFB.out.2.later ERaw.later hW
    clear hf
    go_wp2_with fail
    go_loopw [4, 5, 6] (fun tv wv i wr => ∃ j : Nat, j ≤ nb ∧ i = .int .i64 (j : Int) ∧ OutTab EOwn wr (fun k => w1.heap.size ≤ k ∧ some k ≠ wv.ownBlock) w1.heap.size tv (unitTo nb j) ∧ OutRats EOwn wr (fun k => w1.heap.size ≤ k ∧ some k ≠ tv.ownBlock) w1.heap.size wv (b.take j) ∧ Later w1 wr) (fun _ _ i _ => (nb - intOf i).toNat)
    case atStart => exact ⟨0, by omega, rfl, OutTab.nil _ _ _ _, OutRats.nil _ _ _ _, Later.refl w1⟩
    case round =>
      obtain ⟨j, hj, rfl, ht, hw, hL⟩ := hrel
      by_cases hjn : j < nb
      · have HT := hide ht; have HW := hide hw; have HLO := hide hL
        have hwr := hL.size_le
        have htlt := ht.lt; have hwlt := hw.lt
        have HAP := hide (rats_tab_apart hw ht)
        clear ht hw hL
        go_wp2_with fail
        obtain ⟨wo, hwo⟩ : ∃ wo, wo = wr := ⟨_, rfl⟩
        rw [← hwo] at HT HW HLO hwr htlt hwlt ⊢
        clear hwo
        clear wr
        go_loopw [7, 8] (fun rv k wi => ∃ m : Nat, m ≤ nb ∧ k = .int .i64 (m : Int) ∧ OutRats EOwn wi (fun b => wo.heap.size ≤ b) wo.heap.size rv ((unitRow nb j).take m) ∧ Later wo wi) (fun _ k _ => (nb - intOf k).toNat)
        case atStart => exact ⟨0, by omega, rfl, OutRats.nil _ _ _ _, Later.refl _⟩
        case round =>
          obtain ⟨m, hm, rfl, hr, hi⟩ := hrel
          by_cases hmn : m < nb
          · have HROW := hide hr; have HLI := hide hi
            have hblt := hr.lt
            have hwi := hi.size_le
            clear hr hi
            obtain ⟨rv, hrv⟩ : ∃ rv, rv = u7 := ⟨_, rfl⟩
            rw [← hrv] at HROW hblt ⊢
            clear hrv
            by_cases e : m = j
            · have t2 : ((m : Int) == (j : Int)) = true := by simp; omega
              have HTK := hide (unitRow_take (i := j) hmn)
              rw [if_pos e] at HTK
              go_wp2_with fail
              refine (lawof_calls _ 1 (by omega) (by omega) 1 (by exact div_1)).mono ?_
              rintro e w5 ⟨v5, rfl, o5, b5⟩
              obtain ⟨s5, P5, q5, e5, P5', q5', e5', rfl, o5⟩ := o5.open_; have O5 := hide o5; clear o5
              have hs5 := b5.size_le
              have HOUT2 : Hid (∀ o, OutRats EOwn (w5.alloc o) (fun b => wo.heap.size ≤ b) wo.heap.size rv ((unitRow nb j).take m)) := hide fun o => HROW.out.later (b5.alloc o)
              have HEL : Hid (∀ o, On (w5.alloc o) (fun b => wo.heap.size ≤ b ∧ some b ≠ rv.ownBlock) (fun W => EOwn W (.agg #[.bool s5, .slice P5 q5 e5, .bool false, .slice P5' q5' e5']) 1)) := hide fun o =>
                (On.made (On.ownR O5.out) (by omega) (fun k hk => by have := (hblt k hk).2; omega)).later ((Later.refl _).alloc _)
              have hln : ((unitRow nb j).take m).length ≤ 3000000000 := by rw [List.length_take]; omega
              have HROWX : Hid (Row (w5.alloc (Obj.cells #[Value.bool s5, Value.slice P5 q5 e5, Value.bool false, Value.slice P5' q5' e5'] 27)) w5.heap.size 27 [.bool s5, .slice P5 q5 e5, .bool false, .slice P5' q5' e5']) := hide (Row.new w5 _ _)
              have HBASE : Hid (∀ o, wo.heap.size ≤ (w5.alloc o).heap.size) := hide fun o => by rw [World.size_alloc]; omega
              have HB5 := hide b5
              clear b5 t2
              go_wp2_with (at_builtin; refine wpList_append_rat rfl _ _ rfl rfl (HOUT2.out _) rfl HROWX.out (HEL.out _) hln (HBASE.out _) ?_; intro v9 w9 hout9 hg9)
              have kall := ((Later.grownBy HB5.out rv.ownBlock).trans (World.grownBy_alloc _ _ _)).trans hg9
              have HO2 : Hid (OutRats EOwn w9 (fun b => wo.heap.size ≤ b) wo.heap.size v9 ((unitRow nb j).take (m+1))) := hide (by rw [HTK.out]; exact hout9)
              have hL9 : Later wo w9 := HLI.out.grown kall fun k hk => by have := (hblt k hk).1; omega
              clear hout9 hg9 kall
              go_wp2_with fail
              exact ⟨⟨m+1, by omega, by go_num, HO2.out, hL9⟩, by simp [intOf]; omega⟩
            · have t2 : ((m : Int) == (j : Int)) = false := by simp; omega
              have HTK := hide (unitRow_take (i := j) hmn)
              rw [if_neg e] at HTK
              go_wp2_with fail
              refine (lawof_calls _ 0 (by omega) (by omega) 0 (by exact div_0)).mono ?_
              rintro e w5 ⟨v5, rfl, o5, b5⟩
              obtain ⟨s5, P5, q5, e5, P5', q5', e5', rfl, o5⟩ := o5.open_; have O5 := hide o5; clear o5
              have hs5 := b5.size_le
              have HOUT2 : Hid (∀ o, OutRats EOwn (w5.alloc o) (fun b => wo.heap.size ≤ b) wo.heap.size rv ((unitRow nb j).take m)) := hide fun o => HROW.out.later (b5.alloc o)
              have HEL : Hid (∀ o, On (w5.alloc o) (fun b => wo.heap.size ≤ b ∧ some b ≠ rv.ownBlock) (fun W => EOwn W (.agg #[.bool s5, .slice P5 q5 e5, .bool false, .slice P5' q5' e5']) 0)) := hide fun o =>
                (On.made (On.ownR O5.out) (by omega) (fun k hk => by have := (hblt k hk).2; omega)).later ((Later.refl _).alloc _)
              have hln : ((unitRow nb j).take m).length ≤ 3000000000 := by rw [List.length_take]; omega
              have HROWX : Hid (Row (w5.alloc (Obj.cells #[Value.bool s5, Value.slice P5 q5 e5, Value.bool false, Value.slice P5' q5' e5'] 27)) w5.heap.size 27 [.bool s5, .slice P5 q5 e5, .bool false, .slice P5' q5' e5']) := hide (Row.new w5 _ _)
              have HBASE : Hid (∀ o, wo.heap.size ≤ (w5.alloc o).heap.size) := hide fun o => by rw [World.size_alloc]; omega
              have HB5 := hide b5
              clear b5 t2
              go_wp2_with (at_builtin; refine wpList_append_rat rfl _ _ rfl rfl (HOUT2.out _) rfl HROWX.out (HEL.out _) hln (HBASE.out _) ?_; intro v9 w9 hout9 hg9)
              have kall := ((Later.grownBy HB5.out rv.ownBlock).trans (World.grownBy_alloc _ _ _)).trans hg9
              have HO2 : Hid (OutRats EOwn w9 (fun b => wo.heap.size ≤ b) wo.heap.size v9 ((unitRow nb j).take (m+1))) := hide (by rw [HTK.out]; exact hout9)
              have hL9 : Later wo w9 := HLI.out.grown kall fun k hk => by have := (hblt k hk).1; omega
              clear hout9 hg9 kall
              go_wp2_with fail
              exact ⟨⟨m+1, by omega, by go_num, HO2.out, hL9⟩, by simp [intOf]; omega⟩
          · obtain rfl : nb = m := by omega
            rw [List.take_of_length_le (by rw [unitRow_len]; exact Nat.le_refl _)] at hr
            obtain ⟨R0, rn, rc, hrv, -⟩ := hr.rats.now.form
            subst hrv
            have HROW := hide hr; have HLI := hide hi
            have hwi := hi.size_le
            obtain ⟨x, hx⟩ : ∃ x, b[j]? = some x := ⟨b[j]'(by have := HNB.out; omega), List.getElem?_eq_getElem _⟩
            have HTK : Hid (b.take (j+1) = b.take j ++ [x]) := hide (by rw [List.take_add_one, hx]; rfl)
            have HXJ := hide hx
            have hj0 : (0 : Int) ≤ (j : Int) := by omega
            have hj1 : (j : Int) < nb := by omega
            have HOUT2 : Hid (∀ o, OutTab EOwn (wr.alloc o) (fun k => w1.heap.size ≤ k ∧ some k ≠ u5.ownBlock) w1.heap.size u4 (unitTo nb j)) := hide fun o => HT.out.later (hi.alloc _)
            have HEL : Hid (∀ o, On (wr.alloc o) (fun k => (w1.heap.size ≤ k ∧ some k ≠ u5.ownBlock) ∧ some k ≠ u4.ownBlock) (fun W => Rats EOwn W (.slice R0 rn rc) (unitRow nb j))) := hide fun o =>
              (hr.rats.mono (P' := fun k => (w1.heap.size ≤ k ∧ some k ≠ u5.ownBlock) ∧ some k ≠ u4.ownBlock) (fun k hk _ => by
                have hk2 : wo.heap.size ≤ k := by rcases hk with h | h <;> exact h
                exact ⟨⟨by omega, fun e => by have := (hwlt k e.symm).2; omega⟩, fun e => by have := (htlt k e.symm).2; omega⟩)).later ((Later.refl _).alloc _)
            have HROWX : Hid (Row (wr.alloc (Obj.cells #[Value.slice R0 rn rc] 22)) wr.heap.size 22 [.slice R0 rn rc]) := hide (Row.new wr _ _)
            have hln : (unitTo nb j).length ≤ 3000000000 := by rw [unitTo_len]; omega
            have HBASE : Hid (∀ o, w1.heap.size ≤ (wr.alloc o).heap.size) := hide fun o => by rw [World.size_alloc]; omega
            clear hr hi hx
            go_upto_region 20 with (at_builtin; refine wpList_append_row3 rfl _ _ rfl rfl (HOUT2.out _) rfl HROWX.out (HEL.out _) hln (HBASE.out _) ?_; intro v9 w9 hout9 hg9 hblk9)
            have HW9 : Hid (OutRats EOwn w9 (fun k => w1.heap.size ≤ k ∧ some k ≠ v9.ownBlock) w1.heap.size u5 (b.take j)) := hide ((HW.out.later (HLI.out.alloc _)).beside hg9 HAP.out (fun k hk hlt => ⟨hk.2, hk.1, by
              rcases hblk9 with e | e
              · rw [e]; exact hk.2
              · rw [e]; intro e2; injection e2 with e2; omega⟩))
            have hL9 : Later w1 w9 := ((HLO.out.trans HLI.out).alloc _).grown hg9 fun k hk => (htlt k hk).1
            have hs9 : wr.heap.size + 1 ≤ w9.heap.size := by have := hg9.size; rw [World.size_alloc] at this; exact this
            have HT9 := hide hout9; have HL9 := hide hL9
            have h9lt := hout9.lt
            have HAP9 := hide (rats_tab_apart HW9.out hout9)
            obtain ⟨b1, off1, sx, A1, n1, c1, sx', A2, n2, c2, rfl, x1, x2, x3, x4, ex⟩ := (HRB.out _ hL9).at_ HXJ.out
            have HEX := hide (show RawR w9 (.agg #[.bool sx, .slice A1 n1 c1, .bool sx', .slice A2 n2 c2]) x 1 from ex)
            clear hout9 hg9 hblk9 hL9 ex
            go_wp2_with fail
            refine (qplain_calls _ _ x 1 HEX.out (by omega)).mono ?_
            rintro e w11 ⟨v11, rfl, o11, b11⟩
            obtain ⟨s11, P11, q11, e11, P11', q11', e11', rfl, o11⟩ := o11.open_; have O11 := hide o11; clear o11
            have hs11 := b11.size_le
            have HOUT3 : Hid (∀ o, OutRats EOwn (w11.alloc o) (fun k => w1.heap.size ≤ k ∧ some k ≠ v9.ownBlock) w1.heap.size u5 (b.take j)) := hide fun o => HW9.out.later (b11.alloc _)
            have HEL3 : Hid (∀ o, On (w11.alloc o) (fun k => (w1.heap.size ≤ k ∧ some k ≠ v9.ownBlock) ∧ some k ≠ u5.ownBlock) (fun W => EOwn W (.agg #[.bool s11, .slice P11 q11 e11, .bool false, .slice P11' q11' e11']) x)) := hide fun o =>
              ((On.ownR O11.out).mono (P' := fun k => (w1.heap.size ≤ k ∧ some k ≠ v9.ownBlock) ∧ some k ≠ u5.ownBlock) (fun k hk _ => ⟨⟨by omega, fun e => by have := (h9lt k e.symm).2; omega⟩, fun e => by have := (hwlt k e.symm).2; omega⟩)).later ((Later.refl _).alloc _)
            have HROWX3 : Hid (Row (w11.alloc (Obj.cells #[Value.bool s11, Value.slice P11 q11 e11, Value.bool false, Value.slice P11' q11' e11'] 27)) w11.heap.size 27 [.bool s11, .slice P11 q11 e11, .bool false, .slice P11' q11' e11']) := hide (Row.new w11 _ _)
            have hln3 : (b.take j).length ≤ 3000000000 := by rw [List.length_take]; omega
            have HBASE3 : Hid (∀ o, w1.heap.size ≤ (w11.alloc o).heap.size) := hide fun o => by rw [World.size_alloc]; omega
            have HB11 := hide b11
            clear b11
            go_wp2_with (at_builtin; refine wpList_append_rat3 rfl _ _ rfl rfl (HOUT3.out _) rfl HROWX3.out (HEL3.out _) hln3 (HBASE3.out _) ?_; intro v12 w12 hout12 hg12 hblk12)
            have HT12 : Hid (OutTab EOwn w12 (fun k => w1.heap.size ≤ k ∧ some k ≠ v12.ownBlock) w1.heap.size v9 (unitTo nb (j+1))) := hide (by
              rw [unitTo_succ]
              refine (HT9.out.later (HB11.out.alloc _)).beside hg12 (fun k hk e => HAP9.out k e.symm hk.symm) (fun k hk hlt => ⟨hk.2, hk.1, ?_⟩)
              rcases hblk12 with e | e
              · rw [e]; exact hk.2
              · rw [e]; intro e2; injection e2 with e2; omega)
            have HW12 : Hid (OutRats EOwn w12 (fun k => w1.heap.size ≤ k ∧ some k ≠ v9.ownBlock) w1.heap.size v12 (b.take (j+1))) := hide (by rw [HTK.out]; exact hout12)
            have hL12 : Later w1 w12 := ((HL9.out.trans HB11.out).alloc _).grown hg12 fun k hk => (hwlt k hk).1
            clear hout12 hg12 hblk12
            go_wp2_with fail
            exact ⟨⟨j+1, by omega, by go_num, HT12.out, HW12.out, hL12⟩, by simp [intOf]; omega⟩
      · obtain rfl : nb = j := by omega
        rw [List.take_of_length_le (by rw [← HNB.out]; exact Nat.le_refl _)] at hw
        have HTT := hide (ht.tab.now); have HWW := hide (hw.rats.now); have HLO := hide hL
        obtain ⟨A4, n4, c4, rfl, -⟩ := HTT.out.form
        obtain ⟨A5, n5, c5, rfl, -⟩ := HWW.out.form
        have HRAW : Hid (∀ W, Later wr W → Tab (ERaw 1) W (.slice A4 n4 c4) (unitTo nb nb)) := hide fun W hW => (HTT.out.later EOwn.later hW).map (fun row hr v q hq he => OwnR.raw (B := 0) he (unit_sized nb nb row hr q hq))
        clear ht hw hL
        go_wp2_with fail
        refine (solve_calls wr _ _ (unitTo nb nb) b 1 nb (HRAW.out _ (Later.refl _)) (HRB.out _ HLO.out) (unitTo_len _ _) HNB.out.symm (unit_rect nb nb) (by omega) (Nat.le_trans (grow_mono hn6) (by decide))).mono ?_
        rintro e w3 ⟨v3, o3, rfl, b3, (⟨rfl, rfl, hs⟩ | ⟨rfl, x, hxl, hx, hxs, hsol, -⟩)⟩
        · exact absurd hs (unit_not_sing fun i k hi hk => unit_ent hi hk)
        obtain rfl : b = x := (list_eq_of_getD hxl HNB.out.symm fun k hk => unit_sol (fun i k hi hk => unit_ent hi hk) hsol hk).symm
        have HX := hide (hx.rats.now); have HXS := hide hxs
        obtain ⟨A3, n3, c3, rfl, -⟩ := HX.out.form
        have HB3 := hide b3
        clear hx hxs hsol hxl b3
        go_wp2_with fail
        go_loopw [12] (fun i wi => ∃ m : Nat, m ≤ nb ∧ i = .int .i64 (m : Int) ∧ Later w3 wi) (fun i _ => (nb - intOf i).toNat)
        case atStart => exact ⟨0, by omega, rfl, Later.refl _⟩
        case round =>
          obtain ⟨m, hm, rfl, hi⟩ := hrel
          have HLI := hide hi
          clear hi
          by_cases hmn : m < nb
          · have hgm : (unitTo nb nb).getD m [] = unitRow nb m := by
              unfold unitTo
              rw [List.getD_eq_getElem?_getD, List.getElem?_map, List.getElem?_range hmn]; rfl
            have hgl : ((unitTo nb nb).getD m []).length = nb := by rw [hgm]; exact unitRow_len _ _
            have hgp : ((unitTo nb nb).getD m []).getD m 0 ≠ 0 := by
              have h1 := unit_ent hmn hmn
              unfold ent at h1
              rw [h1, if_pos rfl]; decide
            have HPC := hide (fun W h => pivot_calls W (.slice A4 n4 c4) (unitTo nb nb) 1 m m h (by rw [unitTo_len]; exact hmn) (by rw [unitTo_len]; omega) (fun row hr => by rw [hgl]; exact unit_rect nb nb row hr) (by rw [hgl]; exact hmn) (by rw [hgl]; omega) hgp (by omega))
            clear hgm hgl hgp
            go_wp2_with fail
            refine (HPC.out _ (HRAW.out _ (HB3.out.trans HLI.out))).mono ?_
            rintro e w5 ⟨v5, o5, rfl, ⟨ht5, rfl⟩, b5⟩
            rw [unit_piv hmn] at ht5
            have HT5 := hide (ht5.tab.now); have HB5 := hide b5
            obtain ⟨A6, n6, c6, rfl, -⟩ := HT5.out.form
            clear ht5 b5
            go_wp2_with fail
            refine (tsame_calls _ _ _ (unitTo nb nb) (unitTo nb nb) 1 1 HT5.out (HTT.out.later EOwn.later ((HB3.out.trans HLI.out).trans HB5.out)) (unit_sized nb nb) (unit_sized nb nb) (by omega) (by omega) (by rw [unitTo_len]; omega) (fun row hr => by rw [unit_rect nb nb row hr]; omega) true (by simp)).mono ?_
            rintro e w6 ⟨rfl, b6⟩
            have hL6 := (HLI.out.trans HB5.out).trans b6
            clear b6
            go_wp2_with fail
            exact ⟨⟨m+1, by omega, by go_num, hL6⟩, by simp [intOf]; omega⟩
          · go_wp2_with fail
            refine (lsame_calls _ _ _ b b (grow 1 nb + 1) 2 (HX.out.later EOwn.later HLI.out) (HWW.out.later EOwn.later (HB3.out.trans HLI.out)) HXS.out ((HRB.out _ (Later.refl _)).sized) (by have := Nat.le_trans (grow_mono (k := 1) hn6) (show grow 1 6 ≤ 10000000 by decide); omega) (by omega) (by rw [← HNB.out]; omega) true (by simp)).mono ?_
            rintro e w7 ⟨rfl, b7⟩
            go_wp2_with fail
            go_ret
            exact ⟨rfl, (((HL1.out.trans HLO.out).trans HB3.out).trans HLI.out).trans b7⟩
end Go.Proofs.Ytkendajmnmchoaa
