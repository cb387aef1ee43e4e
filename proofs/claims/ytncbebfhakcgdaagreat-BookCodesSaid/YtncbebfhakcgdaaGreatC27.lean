/- Books: the operation that bytes are (reader.op). -/
import Derived.Test.YtncbebfhakcgdaaGreatC26
import Derived.Test.YtncbebfhakcgdaaGreatC7
import Derived.Test.YtncbebfhakcgdaaGreatC18
set_option linter.unusedVariables false
set_option linter.unusedSimpArgs false
set_option maxRecDepth 100000
namespace Go.Proofs.YtncbebfhakcgdaaGreat
open Go.RowKit Go.Shelf
attribute [local go_sem ↓] Go.wp_at_zero Go.wp_at_succ
structure OS (w0 w : World) (G g2 g3 : Nat) (vs : List Value) (l : List Int) : Prop where
 rd : RdS w0 w G l
 r3 : Row w g3 31 vs
 r2 : Row w g2 31 [.int .i64 0, .int .i64 0, .int .i64 0, .int .i64 0, .int .i64 0, .int .i64 0, .int .i64 0, .int .i64 0, .slice none 0 0]
 nb : ∀ u ∈ vs, ∀ z, u ≠ .int .u8 z
 lt : Later w0 w
 hG : w0.heap.size <= G
 h2 : w0.heap.size <= g2
 h3 : w0.heap.size <= g3
 n2 : G ≠ g2
 n3 : G ≠ g3
 n23 : g2 ≠ g3
theorem OS.num {w0 w w' : World} {G g2 g3 : Nat} {vs : List Value} {l l' : List Int} (h : OS w0 w G g2 g3 vs l) (o : Only G w w') (r : RdS w0 w' G l') : OS w0 w' G g2 g3 vs l' :=
 ⟨r, h.r3.only o (Ne.symm h.n3), h.r2.only o (Ne.symm h.n2), h.nb, h.lt.only o h.hG, h.hG, h.h2, h.h3, h.n2, h.n3, h.n23⟩
theorem OS.put {w0 w : World} {G g2 g3 : Nat} {vs : List Value} {l : List Int} (h : OS w0 w G g2 g3 vs l) (i : Nat) (v : Value) (hv : ∀ z, v ≠ .int .u8 z) : OS w0 (w.setCell ⟨g3, i, none⟩ v) G g2 g3 (vs.set i v) l :=
 ⟨h.rd.only h.n3 (Only.one _ _ _ _), h.r3.set_ i v, h.r2.only (Only.one _ _ _ _) h.n23, (fun u hu z => by
  rcases List.mem_or_eq_of_mem_set hu with h1 | h1
  ·exact h.nb u h1 z
  ·rw [h1]; exact hv z), h.lt.only (Only.one _ _ _ _) h.h3, h.hG, h.h2, h.h3, h.n2, h.n3, h.n23⟩
theorem OS.later {w0 w w' : World} {G g2 g3 : Nat} {vs : List Value} {l : List Int} (h : OS w0 w G g2 g3 vs l) (hb : Later w w') : OS w0 w' G g2 g3 vs l :=
 ⟨h.rd.later hb, h.r3.later hb, h.r2.later hb, h.nb, h.lt.trans hb, h.hG, h.h2, h.h3, h.n2, h.n3, h.n23⟩
def OpP (w0 : World) (r : Option POp) (e : Ending) (w' : World) : Prop := Later w0 w' /\ match r with
 | some o => ∃ A n c, e = .returned (opV o A n c) /\ w'.ownsRow w0.heap.size 3 1 (.slice A n c) o.qtys.length (o.qtys.flatMap iCells)
 | none => e = .panicked (Pan 2)
theorem op_end {w0 w : World} {G g2 g3 : Nat} {o : POp} {A : Option Addr} {n c : Nat} {l : List Int} (h : OS w0 w G g2 g3 [.int .i64 o.kind, .int .i64 o.ord.id, .int .i64 o.ord.item, .int .i64 o.ord.due, .int .i64 o.ord.qty, .int .i64 o.id, .int .i64 o.period, .int .i64 o.qty, .slice A n c] l) (hown : w.ownsRow w0.heap.size 3 1 (.slice A n c) o.qtys.length (o.qtys.flatMap iCells)) (r : Option POp) (hr : r = some o) :
 OpP w0 r (.returned (.agg #[.int .i64 o.kind, .int .i64 o.ord.id, .int .i64 o.ord.item, .int .i64 o.ord.due, .int .i64 o.ord.qty, .int .i64 o.id, .int .i64 o.period, .int .i64 o.qty, .slice A n c])) (((((((((w.setCell ⟨g2, 0, none⟩ (.int .i64 o.kind)).setCell ⟨g2, 1, none⟩ (.int .i64 o.ord.id)).setCell ⟨g2, 2, none⟩ (.int .i64 o.ord.item)).setCell ⟨g2, 3, none⟩ (.int .i64 o.ord.due)).setCell ⟨g2, 4, none⟩ (.int .i64 o.ord.qty)).setCell ⟨g2, 5, none⟩ (.int .i64 o.id)).setCell ⟨g2, 6, none⟩ (.int .i64 o.period)).setCell ⟨g2, 7, none⟩ (.int .i64 o.qty)).setCell ⟨g2, 8, none⟩ (.slice A n c)) := by
 subst hr
 have oo := only9 (W := w) g2 (.int .i64 o.kind) (.int .i64 o.ord.id) (.int .i64 o.ord.item) (.int .i64 o.ord.due) (.int .i64 o.ord.qty) (.int .i64 o.id) (.int .i64 o.period) (.int .i64 o.qty) (.slice A n c)
 exact ⟨h.lt.only oo h.h2, A, n, c, rfl, own_only hown oo (own_box hown h.r2 (by decide))⟩
theorem le4_drop (b : List Int) (i : Nat) : le4 (b.drop i) 0 = le4 b i := by unfold le4; rw [getD_drop, getD_drop, getD_drop, getD_drop]; rfl
theorem numV_yes {b : List Int} {i : Nat} (h : i + 4 <= b.length /\ okAt b i) : numV (b.drop i) = some (le4 b i, b.drop (i + 4)) := by
 unfold numV
 have h2 := h.2
 unfold okAt at h2
 rw [if_neg (by rw [List.length_drop]; omega), le4_drop, if_pos h2, List.drop_drop]
theorem numV_no {b : List Int} {i : Nat} (h : ¬ (i + 4 <= b.length /\ okAt b i)) : numV (b.drop i) = none := by
 unfold numV
 by_cases h1 : (b.drop i).length < 4
 ·rw [if_pos h1]
 ·rw [if_neg h1, le4_drop, if_neg]
  intro h2; apply h; rw [List.length_drop] at h1
  exact ⟨by omega, h2⟩
theorem dec_none {b : List Int} (h : ∀ o, decV b = some o -> False) : decV b = none := by
 cases e : decV b with
 | none => rfl
 | some o => exact (h o e).elim
theorem qsR_range (b : List Int) : ∀ (f i n : Nat), b.length = i + 4 * n -> n < f -> qsR b f i = (List.range n).map fun t => le4 b (i + 4 * t)
 | 0, _, _, _, h => by omega
 | f + 1, i, n, h, hf => by
   unfold qsR
   cases n with
   | zero => rw [if_neg (by omega)]; rfl
   | succ n =>
     rw [if_pos (by omega), qsR_range b f (i+4) n (by omega) (by omega), List.range_succ_eq_map, List.map_cons, List.map_map]
     congr 1
     exact List.map_congr_left fun t _ => by show le4 b (i + 4 + 4 * t) = le4 b (i + 4 * (t + 1)); rw [show i + 4 + 4 * t = i + 4 * (t + 1) by omega]
def qsT (b : List Int) (j : Nat) : List Int := (List.range j).map fun t => le4 b (6 + 4 * t)
theorem qsT_succ (b : List Int) (j : Nat) : qsT b (j+1) = qsT b j ++ [le4 b (6 + 4 * j)] := by unfold qsT; rw [List.range_succ, List.map_append]; rfl
theorem qsT_len (b : List Int) (j : Nat) : (qsT b j).length = j := by unfold qsT; simp
theorem OS.grown {w0 w w' : World} {G g2 g3 : Nat} {vs : List Value} {l : List Int} {v : Value} {n : Nat} {xs : List Value} (h : OS w0 w G g2 g3 vs l) (hg : w.grownBy w' v.ownBlock) (ho : w.ownsRow w0.heap.size 3 1 v n xs) : OS w0 w' G g2 g3 vs l := by
 obtain ⟨A, n1, c, hr, hs⟩ := h.rd
 have e1 := own_box ho hr (by decide)
 have e2 := own_box ho h.r2 (by decide)
 have e3 := own_box ho h.r3 (by decide)
 exact ⟨⟨A, n1, c, hr.grown hg (fun e => e1 G e.symm rfl), hs⟩, h.r3.grown hg (fun e => e3 g3 e.symm rfl), h.r2.grown hg (fun e => e2 g2 e.symm rfl), h.nb, h.lt.grown hg (fun k hk => (World.ownsRow.lt ho k hk).1), h.hG, h.h2, h.h3, h.n2, h.n3, h.n23⟩
set_option maxHeartbeats 4000000 in
theorem op_calls (w : World) (w0 : World) (G : Nat) (b : List Int) (hb : Bytes b) (h : RdS w0 w G b) (hl : Later w0 w) (hG : w0.heap.size <= G) (hGw : G < w.heap.size) :
 Calls Tryz.prog 51 #[.pointer (some ⟨G, 0, none⟩)] w (OpP w0 (decV b)) := by
 have HB := hide hb; have H := hide h; have HL := hide hl; have HGG := hide hG; have HGW := hide hGw
 clear hb h hl hG hGw
 obtain ⟨W0, hW0⟩ : ∃ W0, W0 = (w.alloc (Obj.cells #[Value.int .i64 0, Value.int .i64 0, Value.int .i64 0, Value.int .i64 0, Value.int .i64 0, Value.int .i64 0, Value.int .i64 0, Value.int .i64 0, Value.slice none 0 0] 31)) := ⟨_, rfl⟩
 obtain ⟨hb0, r0, hsz0⟩ := boxes1 w [.int .i64 0, .int .i64 0, .int .i64 0, .int .i64 0, .int .i64 0, .int .i64 0, .int .i64 0, .int .i64 0, .slice none 0 0] 31 hW0
 have B0 := hide hb0; have HW0 := hide hW0; have HSZ0 := hide hsz0
 have R0 := hide r0
 clear hb0 hW0 hsz0 r0
 go_enter Tryz.func51, Tryz.ntmps51
 go_upto_region 1 with fail
 rw [<- HW0.out]
 have HRD0 := hide (H.out.later B0.out)
 have hbl : Hid (∀ W, Later w0 W -> RdS w0 W G b -> Calls Tryz.prog 90 #[.pointer (some ⟨G, 0, none⟩)] W (RdP w0 W G (byteV b))) := hide (fun W hl hW => byte_calls W w0 hl G HGG.out b HB.out hW)
 cases hbc : b with
 | nil =>
   have HV : Hid (decV [] = none) := hide (by unfold decV; rw [if_neg (by simp)])
   rw [hbc] at hbl HRD0
   go_wp2_with (go_at_call 90; (refine (hbl.out _ (HL.out.trans B0.out) HRD0.out).mono ?_); rintro e w4 ⟨o4, rfl⟩)
   exact ⟨rfl, (HL.out.trans B0.out).only o4 HGG.out, by rw [HV.out]⟩
 | cons x l =>
   have HBE := hide hbc
   have HLE : Hid (1 <= b.length) := hide (by rw [hbc]; simp)
   have hx := HB.out x (by rw [hbc]; simp)
   have HXR := hide hx
   have HK0 : Hid (b.getD 0 0 = x) := hide (by rw [hbc]; rfl)
   have hd1 : b.drop 1 = l := by rw [hbc]; rfl
   have HBY : Hid (∀ W, Later w0 W -> RdS w0 W G b -> Calls Tryz.prog 90 #[.pointer (some ⟨G, 0, none⟩)] W (RdP w0 W G (some (x, b.drop 1)))) := hide (fun W hl hW => by have h2 := hbl.out W hl hW; rw [hbc] at h2; rw [hbc]; exact h2)
   rw [<- hbc]
   clear hbc hd1 hbl
   go_upto_region 2 with (go_at_call 90; (refine (HBY.out _ (HL.out.trans B0.out) HRD0.out).mono ?_); rintro e w1 ⟨o1, rfl, rd1⟩)
   obtain ⟨W2, hW2⟩ : ∃ W2, W2 = w1.alloc (Obj.cells #[Value.int .i64 x, Value.int .i64 0, Value.int .i64 0, Value.int .i64 0, Value.int .i64 0, Value.int .i64 0, Value.int .i64 0, Value.int .i64 0, Value.slice none 0 0] 31) := ⟨_, rfl⟩
   obtain ⟨g3, hg3⟩ : ∃ g3, g3 = w1.heap.size := ⟨_, rfl⟩
   have bW2 : Later w1 W2 := by rw [hW2]; exact (Later.refl _).alloc _
   have rg3 : Row W2 g3 31 [.int .i64 x, .int .i64 0, .int .i64 0, .int .i64 0, .int .i64 0, .int .i64 0, .int .i64 0, .int .i64 0, .slice none 0 0] := by rw [hW2, hg3]; exact Row.new _ _ _
   rw [<- hW2, <- hg3]
   obtain ⟨g2, hg2⟩ : ∃ g2, g2 = w.heap.size := ⟨_, rfl⟩
   rw [<- hg2]
   have hs1 : w1.heap.size = w.heap.size + 1 := by rw [o1.size]; exact HSZ0.out
   have HS : Hid (OS w0 W2 G g2 g3 [.int .i64 x, .int .i64 0, .int .i64 0, .int .i64 0, .int .i64 0, .int .i64 0, .int .i64 0, .int .i64 0, .slice none 0 0] (b.drop 1)) := hide (by
    have hlt := HL.out.size
    have hgw := HGW.out
    exact ⟨rd1.later bW2, rg3, by rw [hg2]; exact (R0.out.only o1 (by omega)).later bW2, (by intro u hu z; simp at hu; rcases hu with rfl | rfl | rfl <;> simp), ((HL.out.trans B0.out).only o1 HGG.out).trans bW2, HGG.out, by omega, by rw [hg3, hs1]; omega, by omega, by rw [hg3, hs1]; omega, by rw [hg3, hs1]; omega⟩)
   have y0 := rg3.cell (i := 0) rfl
   clear hW2 hg3 bW2 rg3 hg2 hs1 o1 rd1 hx
   by_cases k1 : x = 1
   ·subst k1
    have HKK := HK0
    have k := True.intro
    go_upto_region 5 with fail
    clear y0
    by_cases g1 : 1 + 4 <= b.length /\ okAt b 1
    rotate_left
    ·have HV : Hid (decV b = none) := hide (dec_none fun o h => by have h2 := dec1_inv HKK.out h; apply g1; exact ⟨by omega, h2.2.1⟩)
     have HNV : Hid (∀ W, Later w0 W -> RdS w0 W G (b.drop 1) -> Calls Tryz.prog 91 #[.pointer (some ⟨G, 0, none⟩)] W (RdP w0 W G none)) := hide (fun W hl hW => by have h2 := num_calls W w0 hl G HGG.out (b.drop 1) (fun y hy => HB.out y (List.mem_of_mem_drop hy)) hW; rw [numV_no g1] at h2; exact h2)
     clear g1
     go_wp2_with (go_at_call 91; (refine (HNV.out _ HS.out.lt HS.out.rd).mono ?_); rintro e w4 ⟨o4, rfl⟩)
     exact ⟨rfl, HS.out.lt.only o4 HS.out.hG, by rw [HV.out]⟩
    have HNV : Hid (∀ W, Later w0 W -> RdS w0 W G (b.drop 1) -> Calls Tryz.prog 91 #[.pointer (some ⟨G, 0, none⟩)] W (RdP w0 W G (some (le4 b 1, b.drop (1+4))))) := hide (fun W hl hW => by have h2 := num_calls W w0 hl G HGG.out (b.drop 1) (fun y hy => HB.out y (List.mem_of_mem_drop hy)) hW; rw [numV_yes g1] at h2; exact h2)
    have HG1 := hide g1
    clear g1
    go_upto_region 6 with (go_at_call 91; (refine (HNV.out _ HS.out.lt HS.out.rd).mono ?_); rintro e w4 ⟨o4, rfl, rd4⟩; have s4 := HS.out.num o4 rd4; have y4 := s4.r3.cell (i := 1) rfl; have yz4 := s4.r3.frozen 1; have HS4 := hide s4; clear s4)
    have HS5 := hide (HS4.out.put 1 (.int .i64 (le4 b 1)) (by intro z h; cases h))
    obtain ⟨W5, hW5⟩ : ∃ W5, W5 = w4.setCell ⟨g3, 1, none⟩ (.int .i64 (le4 b 1)) := ⟨_, rfl⟩
    rw [<- hW5] at HS5
    rw [<- hW5]
    clear hW5 y4 yz4 HS HNV o4 rd4 HS4
    have HS : Hid (OS w0 W5 G g2 g3 [.int .i64 1, .int .i64 (le4 b 1), .int .i64 0, .int .i64 0, .int .i64 0, .int .i64 0, .int .i64 0, .int .i64 0, .slice none 0 0] (b.drop (1+4))) := HS5
    clear HS5
    by_cases g5 : 5 + 4 <= b.length /\ okAt b 5
    rotate_left
    ·have HV : Hid (decV b = none) := hide (dec_none fun o h => by have h2 := dec1_inv HKK.out h; apply g5; exact ⟨by omega, h2.2.2.1⟩)
     have HNV : Hid (∀ W, Later w0 W -> RdS w0 W G (b.drop 5) -> Calls Tryz.prog 91 #[.pointer (some ⟨G, 0, none⟩)] W (RdP w0 W G none)) := hide (fun W hl hW => by have h2 := num_calls W w0 hl G HGG.out (b.drop 5) (fun y hy => HB.out y (List.mem_of_mem_drop hy)) hW; rw [numV_no g5] at h2; exact h2)
     clear g5
     go_wp2_with (go_at_call 91; (refine (HNV.out _ HS.out.lt HS.out.rd).mono ?_); rintro e w4 ⟨o4, rfl⟩)
     exact ⟨rfl, HS.out.lt.only o4 HS.out.hG, by rw [HV.out]⟩
    have HNV : Hid (∀ W, Later w0 W -> RdS w0 W G (b.drop 5) -> Calls Tryz.prog 91 #[.pointer (some ⟨G, 0, none⟩)] W (RdP w0 W G (some (le4 b 5, b.drop (5+4))))) := hide (fun W hl hW => by have h2 := num_calls W w0 hl G HGG.out (b.drop 5) (fun y hy => HB.out y (List.mem_of_mem_drop hy)) hW; rw [numV_yes g5] at h2; exact h2)
    have HG5 := hide g5
    clear g5
    go_upto_region 7 with (go_at_call 91; (refine (HNV.out _ HS.out.lt HS.out.rd).mono ?_); rintro e w4 ⟨o4, rfl, rd4⟩; have s4 := HS.out.num o4 rd4; have y4 := s4.r3.cell (i := 2) rfl; have yz4 := s4.r3.frozen 2; have HS4 := hide s4; clear s4)
    have HS5 := hide (HS4.out.put 2 (.int .i64 (le4 b 5)) (by intro z h; cases h))
    obtain ⟨W5, hW5⟩ : ∃ W5, W5 = w4.setCell ⟨g3, 2, none⟩ (.int .i64 (le4 b 5)) := ⟨_, rfl⟩
    rw [<- hW5] at HS5
    rw [<- hW5]
    clear hW5 y4 yz4 HS HNV o4 rd4 HS4
    have HS : Hid (OS w0 W5 G g2 g3 [.int .i64 1, .int .i64 (le4 b 1), .int .i64 (le4 b 5), .int .i64 0, .int .i64 0, .int .i64 0, .int .i64 0, .int .i64 0, .slice none 0 0] (b.drop (5+4))) := HS5
    clear HS5
    by_cases g9 : 9 + 4 <= b.length /\ okAt b 9
    rotate_left
    ·have HV : Hid (decV b = none) := hide (dec_none fun o h => by have h2 := dec1_inv HKK.out h; apply g9; exact ⟨by omega, h2.2.2.2.1⟩)
     have HNV : Hid (∀ W, Later w0 W -> RdS w0 W G (b.drop 9) -> Calls Tryz.prog 91 #[.pointer (some ⟨G, 0, none⟩)] W (RdP w0 W G none)) := hide (fun W hl hW => by have h2 := num_calls W w0 hl G HGG.out (b.drop 9) (fun y hy => HB.out y (List.mem_of_mem_drop hy)) hW; rw [numV_no g9] at h2; exact h2)
     clear g9
     go_wp2_with (go_at_call 91; (refine (HNV.out _ HS.out.lt HS.out.rd).mono ?_); rintro e w4 ⟨o4, rfl⟩)
     exact ⟨rfl, HS.out.lt.only o4 HS.out.hG, by rw [HV.out]⟩
    have HNV : Hid (∀ W, Later w0 W -> RdS w0 W G (b.drop 9) -> Calls Tryz.prog 91 #[.pointer (some ⟨G, 0, none⟩)] W (RdP w0 W G (some (le4 b 9, b.drop (9+4))))) := hide (fun W hl hW => by have h2 := num_calls W w0 hl G HGG.out (b.drop 9) (fun y hy => HB.out y (List.mem_of_mem_drop hy)) hW; rw [numV_yes g9] at h2; exact h2)
    have HG9 := hide g9
    clear g9
    go_upto_region 8 with (go_at_call 91; (refine (HNV.out _ HS.out.lt HS.out.rd).mono ?_); rintro e w4 ⟨o4, rfl, rd4⟩; have s4 := HS.out.num o4 rd4; have y4 := s4.r3.cell (i := 3) rfl; have yz4 := s4.r3.frozen 3; have HS4 := hide s4; clear s4)
    have HS5 := hide (HS4.out.put 3 (.int .i64 (le4 b 9)) (by intro z h; cases h))
    obtain ⟨W5, hW5⟩ : ∃ W5, W5 = w4.setCell ⟨g3, 3, none⟩ (.int .i64 (le4 b 9)) := ⟨_, rfl⟩
    rw [<- hW5] at HS5
    rw [<- hW5]
    clear hW5 y4 yz4 HS HNV o4 rd4 HS4
    have HS : Hid (OS w0 W5 G g2 g3 [.int .i64 1, .int .i64 (le4 b 1), .int .i64 (le4 b 5), .int .i64 (le4 b 9), .int .i64 0, .int .i64 0, .int .i64 0, .int .i64 0, .slice none 0 0] (b.drop (9+4))) := HS5
    clear HS5
    by_cases g13 : 13 + 4 <= b.length /\ okAt b 13
    rotate_left
    ·have HV : Hid (decV b = none) := hide (dec_none fun o h => by have h2 := dec1_inv HKK.out h; apply g13; exact ⟨by omega, h2.2.2.2.2⟩)
     have HNV : Hid (∀ W, Later w0 W -> RdS w0 W G (b.drop 13) -> Calls Tryz.prog 91 #[.pointer (some ⟨G, 0, none⟩)] W (RdP w0 W G none)) := hide (fun W hl hW => by have h2 := num_calls W w0 hl G HGG.out (b.drop 13) (fun y hy => HB.out y (List.mem_of_mem_drop hy)) hW; rw [numV_no g13] at h2; exact h2)
     clear g13
     go_wp2_with (go_at_call 91; (refine (HNV.out _ HS.out.lt HS.out.rd).mono ?_); rintro e w4 ⟨o4, rfl⟩)
     exact ⟨rfl, HS.out.lt.only o4 HS.out.hG, by rw [HV.out]⟩
    have HNV : Hid (∀ W, Later w0 W -> RdS w0 W G (b.drop 13) -> Calls Tryz.prog 91 #[.pointer (some ⟨G, 0, none⟩)] W (RdP w0 W G (some (le4 b 13, b.drop (13+4))))) := hide (fun W hl hW => by have h2 := num_calls W w0 hl G HGG.out (b.drop 13) (fun y hy => HB.out y (List.mem_of_mem_drop hy)) hW; rw [numV_yes g13] at h2; exact h2)
    have HG13 := hide g13
    clear g13
    go_upto_region 23 with (go_at_call 91; (refine (HNV.out _ HS.out.lt HS.out.rd).mono ?_); rintro e w4 ⟨o4, rfl, rd4⟩; have s4 := HS.out.num o4 rd4; have y4 := s4.r3.cell (i := 4) rfl; have yz4 := s4.r3.frozen 4; have HS4 := hide s4; clear s4)
    have HS5 := hide (HS4.out.put 4 (.int .i64 (le4 b 13)) (by intro z h; cases h))
    obtain ⟨W5, hW5⟩ : ∃ W5, W5 = w4.setCell ⟨g3, 4, none⟩ (.int .i64 (le4 b 13)) := ⟨_, rfl⟩
    rw [<- hW5] at HS5
    rw [<- hW5]
    clear hW5 y4 yz4 HS HNV o4 rd4 HS4
    have HS : Hid (OS w0 W5 G g2 g3 [.int .i64 1, .int .i64 (le4 b 1), .int .i64 (le4 b 5), .int .i64 (le4 b 9), .int .i64 (le4 b 13), .int .i64 0, .int .i64 0, .int .i64 0, .slice none 0 0] (b.drop (13+4))) := HS5
    clear HS5
    obtain ⟨Ar, nr, cr, hrr, hsq⟩ := HS.out.rd
    have hnr : nr = b.length - (17) := by
     obtain ⟨_, _, _, e, e2, -⟩ := hsq.form
     rw [List.length_drop] at e2
     injection e with _ e3 _; omega
    have rc := hrr.cell (i := 0) rfl
    clear hrr hsq
    by_cases hlen : b.length = 17
    rotate_left
    ·have HV : Hid (decV b = none) := hide (dec_none fun o h => by have h2 := dec1_inv HKK.out h; apply hlen; exact h2.1)
     have t1 : ((nr : Int) == 0) = false := by simp; have hg := HG13.out.1; omega
     clear hlen hnr
     go_wp2_with (go_at_call 29; refine (must_no _ _).mono ?_; rintro e w' ⟨rfl, rfl⟩)
     exact ⟨rfl, HS.out.lt, by rw [HV.out]⟩
    have HV : Hid (decV b = some (mkOrd ⟨le4 b 1, le4 b 5, le4 b 9, le4 b 13⟩)) := hide (dec1 HB.out HKK.out hlen HG1.out.2 HG5.out.2 HG9.out.2 HG13.out.2)
    have t1 : ((nr : Int) == 0) = true := by simp; omega
    clear hlen hnr
    have s := HS.out
    have y0 := s.r3.cell (i := 0) rfl; have y1 := s.r3.cell (i := 1) rfl; have y2 := s.r3.cell (i := 2) rfl; have y3 := s.r3.cell (i := 3) rfl; have y4 := s.r3.cell (i := 4) rfl; have y5 := s.r3.cell (i := 5) rfl; have y6 := s.r3.cell (i := 6) rfl; have y7 := s.r3.cell (i := 7) rfl; have y8 := s.r3.cell (i := 8) rfl
    have q0 := s.r2.cell (i := 0) rfl; have qz0 := s.r2.frozen 0; have q1 := s.r2.cell (i := 1) rfl; have qz1 := s.r2.frozen 1; have q2 := s.r2.cell (i := 2) rfl; have qz2 := s.r2.frozen 2; have q3 := s.r2.cell (i := 3) rfl; have qz3 := s.r2.frozen 3; have q4 := s.r2.cell (i := 4) rfl; have qz4 := s.r2.frozen 4; have q5 := s.r2.cell (i := 5) rfl; have qz5 := s.r2.frozen 5; have q6 := s.r2.cell (i := 6) rfl; have qz6 := s.r2.frozen 6; have q7 := s.r2.cell (i := 7) rfl; have qz7 := s.r2.frozen 7; have q8 := s.r2.cell (i := 8) rfl; have qz8 := s.r2.frozen 8
    clear s
    go_wp2_with (go_at_call 29; refine (must_yes _ _).mono ?_; rintro e w' ⟨rfl, rfl⟩)
    refine bodyPost_ret (results_op rfl rfl (HS.out.r2.put9 _ _ _ _ _ _ _ _ _ )) rfl ?_
    exact op_end (o := mkOrd ⟨le4 b 1, le4 b 5, le4 b 9, le4 b 13⟩) HS.out (World.ownsRow_nil _ _ _ _) _ HV.out
   by_cases k2 : x = 2
   ·subst k2
    have HKK := HK0
    go_upto_region 10 with fail
    clear y0
    by_cases g1 : 1 + 4 <= b.length /\ okAt b 1
    rotate_left
    ·have HV : Hid (decV b = none) := hide (dec_none fun o h => by have h2 := dec2_inv HKK.out h; apply g1; exact ⟨by omega, h2.2⟩)
     have HNV : Hid (∀ W, Later w0 W -> RdS w0 W G (b.drop 1) -> Calls Tryz.prog 91 #[.pointer (some ⟨G, 0, none⟩)] W (RdP w0 W G none)) := hide (fun W hl hW => by have h2 := num_calls W w0 hl G HGG.out (b.drop 1) (fun y hy => HB.out y (List.mem_of_mem_drop hy)) hW; rw [numV_no g1] at h2; exact h2)
     clear g1
     go_wp2_with (go_at_call 91; (refine (HNV.out _ HS.out.lt HS.out.rd).mono ?_); rintro e w4 ⟨o4, rfl⟩)
     exact ⟨rfl, HS.out.lt.only o4 HS.out.hG, by rw [HV.out]⟩
    have HNV : Hid (∀ W, Later w0 W -> RdS w0 W G (b.drop 1) -> Calls Tryz.prog 91 #[.pointer (some ⟨G, 0, none⟩)] W (RdP w0 W G (some (le4 b 1, b.drop (1+4))))) := hide (fun W hl hW => by have h2 := num_calls W w0 hl G HGG.out (b.drop 1) (fun y hy => HB.out y (List.mem_of_mem_drop hy)) hW; rw [numV_yes g1] at h2; exact h2)
    have HG1 := hide g1
    clear g1
    go_upto_region 23 with (go_at_call 91; (refine (HNV.out _ HS.out.lt HS.out.rd).mono ?_); rintro e w4 ⟨o4, rfl, rd4⟩; have s4 := HS.out.num o4 rd4; have y4 := s4.r3.cell (i := 5) rfl; have yz4 := s4.r3.frozen 5; have HS4 := hide s4; clear s4)
    have HS5 := hide (HS4.out.put 5 (.int .i64 (le4 b 1)) (by intro z h; cases h))
    obtain ⟨W5, hW5⟩ : ∃ W5, W5 = w4.setCell ⟨g3, 5, none⟩ (.int .i64 (le4 b 1)) := ⟨_, rfl⟩
    rw [<- hW5] at HS5
    rw [<- hW5]
    clear hW5 y4 yz4 HS HNV o4 rd4 HS4
    have HS : Hid (OS w0 W5 G g2 g3 [.int .i64 2, .int .i64 0, .int .i64 0, .int .i64 0, .int .i64 0, .int .i64 (le4 b 1), .int .i64 0, .int .i64 0, .slice none 0 0] (b.drop (1+4))) := HS5
    clear HS5
    obtain ⟨Ar, nr, cr, hrr, hsq⟩ := HS.out.rd
    have hnr : nr = b.length - (5) := by
     obtain ⟨_, _, _, e, e2, -⟩ := hsq.form
     rw [List.length_drop] at e2
     injection e with _ e3 _; omega
    have rc := hrr.cell (i := 0) rfl
    clear hrr hsq
    by_cases hlen : b.length = 5
    rotate_left
    ·have HV : Hid (decV b = none) := hide (dec_none fun o h => by have h2 := dec2_inv HKK.out h; apply hlen; exact h2.1)
     have t1 : ((nr : Int) == 0) = false := by simp; have hg := HG1.out.1; omega
     clear hlen hnr
     go_wp2_with (go_at_call 29; refine (must_no _ _).mono ?_; rintro e w' ⟨rfl, rfl⟩)
     exact ⟨rfl, HS.out.lt, by rw [HV.out]⟩
    have HV : Hid (decV b = some (mkCan (le4 b 1))) := hide (dec2 HB.out HKK.out hlen HG1.out.2)
    have t1 : ((nr : Int) == 0) = true := by simp; omega
    clear hlen hnr
    have s := HS.out
    have y0 := s.r3.cell (i := 0) rfl; have y1 := s.r3.cell (i := 1) rfl; have y2 := s.r3.cell (i := 2) rfl; have y3 := s.r3.cell (i := 3) rfl; have y4 := s.r3.cell (i := 4) rfl; have y5 := s.r3.cell (i := 5) rfl; have y6 := s.r3.cell (i := 6) rfl; have y7 := s.r3.cell (i := 7) rfl; have y8 := s.r3.cell (i := 8) rfl
    have q0 := s.r2.cell (i := 0) rfl; have qz0 := s.r2.frozen 0; have q1 := s.r2.cell (i := 1) rfl; have qz1 := s.r2.frozen 1; have q2 := s.r2.cell (i := 2) rfl; have qz2 := s.r2.frozen 2; have q3 := s.r2.cell (i := 3) rfl; have qz3 := s.r2.frozen 3; have q4 := s.r2.cell (i := 4) rfl; have qz4 := s.r2.frozen 4; have q5 := s.r2.cell (i := 5) rfl; have qz5 := s.r2.frozen 5; have q6 := s.r2.cell (i := 6) rfl; have qz6 := s.r2.frozen 6; have q7 := s.r2.cell (i := 7) rfl; have qz7 := s.r2.frozen 7; have q8 := s.r2.cell (i := 8) rfl; have qz8 := s.r2.frozen 8
    clear s
    go_wp2_with (go_at_call 29; refine (must_yes _ _).mono ?_; rintro e w' ⟨rfl, rfl⟩)
    refine bodyPost_ret (results_op rfl rfl (HS.out.r2.put9 _ _ _ _ _ _ _ _ _ )) rfl ?_
    exact op_end (o := mkCan (le4 b 1)) HS.out (World.ownsRow_nil _ _ _ _) _ HV.out
   by_cases k3 : x = 3
   ·subst k3
    have HKK := HK0
    go_upto_region 12 with fail
    clear y0
    by_cases g1 : 1 + 4 <= b.length /\ okAt b 1
    rotate_left
    ·have HV : Hid (decV b = none) := hide (dec_none fun o h => by have h2 := dec3_inv HKK.out h; apply g1; exact ⟨by omega, h2.2.1⟩)
     have HNV : Hid (∀ W, Later w0 W -> RdS w0 W G (b.drop 1) -> Calls Tryz.prog 91 #[.pointer (some ⟨G, 0, none⟩)] W (RdP w0 W G none)) := hide (fun W hl hW => by have h2 := num_calls W w0 hl G HGG.out (b.drop 1) (fun y hy => HB.out y (List.mem_of_mem_drop hy)) hW; rw [numV_no g1] at h2; exact h2)
     clear g1
     go_wp2_with (go_at_call 91; (refine (HNV.out _ HS.out.lt HS.out.rd).mono ?_); rintro e w4 ⟨o4, rfl⟩)
     exact ⟨rfl, HS.out.lt.only o4 HS.out.hG, by rw [HV.out]⟩
    have HNV : Hid (∀ W, Later w0 W -> RdS w0 W G (b.drop 1) -> Calls Tryz.prog 91 #[.pointer (some ⟨G, 0, none⟩)] W (RdP w0 W G (some (le4 b 1, b.drop (1+4))))) := hide (fun W hl hW => by have h2 := num_calls W w0 hl G HGG.out (b.drop 1) (fun y hy => HB.out y (List.mem_of_mem_drop hy)) hW; rw [numV_yes g1] at h2; exact h2)
    have HG1 := hide g1
    clear g1
    go_upto_region 13 with (go_at_call 91; (refine (HNV.out _ HS.out.lt HS.out.rd).mono ?_); rintro e w4 ⟨o4, rfl, rd4⟩; have s4 := HS.out.num o4 rd4; have y4 := s4.r3.cell (i := 6) rfl; have yz4 := s4.r3.frozen 6; have HS4 := hide s4; clear s4)
    have HS5 := hide (HS4.out.put 6 (.int .i64 (le4 b 1)) (by intro z h; cases h))
    obtain ⟨W5, hW5⟩ : ∃ W5, W5 = w4.setCell ⟨g3, 6, none⟩ (.int .i64 (le4 b 1)) := ⟨_, rfl⟩
    rw [<- hW5] at HS5
    rw [<- hW5]
    clear hW5 y4 yz4 HS HNV o4 rd4 HS4
    have HS : Hid (OS w0 W5 G g2 g3 [.int .i64 3, .int .i64 0, .int .i64 0, .int .i64 0, .int .i64 0, .int .i64 0, .int .i64 (le4 b 1), .int .i64 0, .slice none 0 0] (b.drop (1+4))) := HS5
    clear HS5
    by_cases g5 : 5 + 4 <= b.length /\ okAt b 5
    rotate_left
    ·have HV : Hid (decV b = none) := hide (dec_none fun o h => by have h2 := dec3_inv HKK.out h; apply g5; exact ⟨by omega, h2.2.2⟩)
     have HNV : Hid (∀ W, Later w0 W -> RdS w0 W G (b.drop 5) -> Calls Tryz.prog 91 #[.pointer (some ⟨G, 0, none⟩)] W (RdP w0 W G none)) := hide (fun W hl hW => by have h2 := num_calls W w0 hl G HGG.out (b.drop 5) (fun y hy => HB.out y (List.mem_of_mem_drop hy)) hW; rw [numV_no g5] at h2; exact h2)
     clear g5
     go_wp2_with (go_at_call 91; (refine (HNV.out _ HS.out.lt HS.out.rd).mono ?_); rintro e w4 ⟨o4, rfl⟩)
     exact ⟨rfl, HS.out.lt.only o4 HS.out.hG, by rw [HV.out]⟩
    have HNV : Hid (∀ W, Later w0 W -> RdS w0 W G (b.drop 5) -> Calls Tryz.prog 91 #[.pointer (some ⟨G, 0, none⟩)] W (RdP w0 W G (some (le4 b 5, b.drop (5+4))))) := hide (fun W hl hW => by have h2 := num_calls W w0 hl G HGG.out (b.drop 5) (fun y hy => HB.out y (List.mem_of_mem_drop hy)) hW; rw [numV_yes g5] at h2; exact h2)
    have HG5 := hide g5
    clear g5
    go_upto_region 23 with (go_at_call 91; (refine (HNV.out _ HS.out.lt HS.out.rd).mono ?_); rintro e w4 ⟨o4, rfl, rd4⟩; have s4 := HS.out.num o4 rd4; have y4 := s4.r3.cell (i := 7) rfl; have yz4 := s4.r3.frozen 7; have HS4 := hide s4; clear s4)
    have HS5 := hide (HS4.out.put 7 (.int .i64 (le4 b 5)) (by intro z h; cases h))
    obtain ⟨W5, hW5⟩ : ∃ W5, W5 = w4.setCell ⟨g3, 7, none⟩ (.int .i64 (le4 b 5)) := ⟨_, rfl⟩
    rw [<- hW5] at HS5
    rw [<- hW5]
    clear hW5 y4 yz4 HS HNV o4 rd4 HS4
    have HS : Hid (OS w0 W5 G g2 g3 [.int .i64 3, .int .i64 0, .int .i64 0, .int .i64 0, .int .i64 0, .int .i64 0, .int .i64 (le4 b 1), .int .i64 (le4 b 5), .slice none 0 0] (b.drop (5+4))) := HS5
    clear HS5
    obtain ⟨Ar, nr, cr, hrr, hsq⟩ := HS.out.rd
    have hnr : nr = b.length - (9) := by
     obtain ⟨_, _, _, e, e2, -⟩ := hsq.form
     rw [List.length_drop] at e2
     injection e with _ e3 _; omega
    have rc := hrr.cell (i := 0) rfl
    clear hrr hsq
    by_cases hlen : b.length = 9
    rotate_left
    ·have HV : Hid (decV b = none) := hide (dec_none fun o h => by have h2 := dec3_inv HKK.out h; apply hlen; exact h2.1)
     have t1 : ((nr : Int) == 0) = false := by simp; have hg := HG5.out.1; omega
     clear hlen hnr
     go_wp2_with (go_at_call 29; refine (must_no _ _).mono ?_; rintro e w' ⟨rfl, rfl⟩)
     exact ⟨rfl, HS.out.lt, by rw [HV.out]⟩
    have HV : Hid (decV b = some (mkCap (le4 b 1) (le4 b 5))) := hide (dec3 HB.out HKK.out hlen HG1.out.2 HG5.out.2)
    have t1 : ((nr : Int) == 0) = true := by simp; omega
    clear hlen hnr
    have s := HS.out
    have y0 := s.r3.cell (i := 0) rfl; have y1 := s.r3.cell (i := 1) rfl; have y2 := s.r3.cell (i := 2) rfl; have y3 := s.r3.cell (i := 3) rfl; have y4 := s.r3.cell (i := 4) rfl; have y5 := s.r3.cell (i := 5) rfl; have y6 := s.r3.cell (i := 6) rfl; have y7 := s.r3.cell (i := 7) rfl; have y8 := s.r3.cell (i := 8) rfl
    have q0 := s.r2.cell (i := 0) rfl; have qz0 := s.r2.frozen 0; have q1 := s.r2.cell (i := 1) rfl; have qz1 := s.r2.frozen 1; have q2 := s.r2.cell (i := 2) rfl; have qz2 := s.r2.frozen 2; have q3 := s.r2.cell (i := 3) rfl; have qz3 := s.r2.frozen 3; have q4 := s.r2.cell (i := 4) rfl; have qz4 := s.r2.frozen 4; have q5 := s.r2.cell (i := 5) rfl; have qz5 := s.r2.frozen 5; have q6 := s.r2.cell (i := 6) rfl; have qz6 := s.r2.frozen 6; have q7 := s.r2.cell (i := 7) rfl; have qz7 := s.r2.frozen 7; have q8 := s.r2.cell (i := 8) rfl; have qz8 := s.r2.frozen 8
    clear s
    go_wp2_with (go_at_call 29; refine (must_yes _ _).mono ?_; rintro e w' ⟨rfl, rfl⟩)
    refine bodyPost_ret (results_op rfl rfl (HS.out.r2.put9 _ _ _ _ _ _ _ _ _ )) rfl ?_
    exact op_end (o := mkCap (le4 b 1) (le4 b 5)) HS.out (World.ownsRow_nil _ _ _ _) _ HV.out
   by_cases k4 : x = 4
   ·subst k4
    have HKK := HK0
    go_upto_region 23 with fail
    obtain ⟨Ar, nr, cr, hrr, hsq⟩ := HS.out.rd
    have hnr : nr = b.length - (1) := by
     obtain ⟨_, _, _, e, e2, -⟩ := hsq.form
     rw [List.length_drop] at e2
     injection e with _ e3 _; omega
    have rc := hrr.cell (i := 0) rfl
    clear hrr hsq
    by_cases hlen : b.length = 1
    rotate_left
    ·have HV : Hid (decV b = none) := hide (dec_none fun o h => by have h2 := dec4_inv HKK.out h; apply hlen; exact h2)
     have t1 : ((nr : Int) == 0) = false := by simp; have hg := HLE.out; omega
     clear hlen hnr
     go_wp2_with (go_at_call 29; refine (must_no _ _).mono ?_; rintro e w' ⟨rfl, rfl⟩)
     exact ⟨rfl, HS.out.lt, by rw [HV.out]⟩
    have HV : Hid (decV b = some (mkAdv)) := hide (dec4 HKK.out hlen)
    have t1 : ((nr : Int) == 0) = true := by simp; omega
    clear hlen hnr
    have s := HS.out
    have y0 := s.r3.cell (i := 0) rfl; have y1 := s.r3.cell (i := 1) rfl; have y2 := s.r3.cell (i := 2) rfl; have y3 := s.r3.cell (i := 3) rfl; have y4 := s.r3.cell (i := 4) rfl; have y5 := s.r3.cell (i := 5) rfl; have y6 := s.r3.cell (i := 6) rfl; have y7 := s.r3.cell (i := 7) rfl; have y8 := s.r3.cell (i := 8) rfl
    have q0 := s.r2.cell (i := 0) rfl; have qz0 := s.r2.frozen 0; have q1 := s.r2.cell (i := 1) rfl; have qz1 := s.r2.frozen 1; have q2 := s.r2.cell (i := 2) rfl; have qz2 := s.r2.frozen 2; have q3 := s.r2.cell (i := 3) rfl; have qz3 := s.r2.frozen 3; have q4 := s.r2.cell (i := 4) rfl; have qz4 := s.r2.frozen 4; have q5 := s.r2.cell (i := 5) rfl; have qz5 := s.r2.frozen 5; have q6 := s.r2.cell (i := 6) rfl; have qz6 := s.r2.frozen 6; have q7 := s.r2.cell (i := 7) rfl; have qz7 := s.r2.frozen 7; have q8 := s.r2.cell (i := 8) rfl; have qz8 := s.r2.frozen 8
    clear s
    go_wp2_with (go_at_call 29; refine (must_yes _ _).mono ?_; rintro e w' ⟨rfl, rfl⟩)
    refine bodyPost_ret (results_op rfl rfl (HS.out.r2.put9 _ _ _ _ _ _ _ _ _ )) rfl ?_
    exact op_end (o := mkAdv) HS.out (World.ownsRow_nil _ _ _ _) _ HV.out
   have t1 : (x == 1) = false := by simpa using k1
   have t2 : (x == 2) = false := by simpa using k2
   have t3 : (x == 3) = false := by simpa using k3
   have t4 : (x == 4) = false := by simpa using k4
   by_cases k5 : x = 5
   ·subst k5
    have HKK := HK0
    go_upto_region 16 with fail
    clear y0 k1 k2 k3 k4 t1 t2 t3 t4
    by_cases g1 : 1 + 4 <= b.length /\ okAt b 1
    rotate_left
    ·have HV : Hid (decV b = none) := hide (dec_none fun o h => by have h2 := dec5_inv HKK.out h; apply g1; obtain ⟨n, n1, n2, n3, n4, n5⟩ := h2; exact ⟨by omega, n4⟩)
     have HNV : Hid (∀ W, Later w0 W -> RdS w0 W G (b.drop 1) -> Calls Tryz.prog 91 #[.pointer (some ⟨G, 0, none⟩)] W (RdP w0 W G none)) := hide (fun W hl hW => by have h2 := num_calls W w0 hl G HGG.out (b.drop 1) (fun y hy => HB.out y (List.mem_of_mem_drop hy)) hW; rw [numV_no g1] at h2; exact h2)
     clear g1
     go_wp2_with (go_at_call 91; (refine (HNV.out _ HS.out.lt HS.out.rd).mono ?_); rintro e w4 ⟨o4, rfl⟩)
     exact ⟨rfl, HS.out.lt.only o4 HS.out.hG, by rw [HV.out]⟩
    have HNV : Hid (∀ W, Later w0 W -> RdS w0 W G (b.drop 1) -> Calls Tryz.prog 91 #[.pointer (some ⟨G, 0, none⟩)] W (RdP w0 W G (some (le4 b 1, b.drop (1+4))))) := hide (fun W hl hW => by have h2 := num_calls W w0 hl G HGG.out (b.drop 1) (fun y hy => HB.out y (List.mem_of_mem_drop hy)) hW; rw [numV_yes g1] at h2; exact h2)
    have HG1 := hide g1
    clear g1
    go_upto_region 17 with (go_at_call 91; (refine (HNV.out _ HS.out.lt HS.out.rd).mono ?_); rintro e w4 ⟨o4, rfl, rd4⟩; have s4 := HS.out.num o4 rd4; have y4 := s4.r3.cell (i := 6) rfl; have yz4 := s4.r3.frozen 6; have HS4 := hide s4; clear s4)
    have HS5 := hide (HS4.out.put 6 (.int .i64 (le4 b 1)) (by intro z h; cases h))
    obtain ⟨W5, hW5⟩ : ∃ W5, W5 = w4.setCell ⟨g3, 6, none⟩ (.int .i64 (le4 b 1)) := ⟨_, rfl⟩
    rw [<- hW5] at HS5
    rw [<- hW5]
    clear hW5 y4 yz4 HS HNV o4 rd4 HS4
    have HS : Hid (OS w0 W5 G g2 g3 [.int .i64 5, .int .i64 0, .int .i64 0, .int .i64 0, .int .i64 0, .int .i64 0, .int .i64 (le4 b 1), .int .i64 0, .slice none 0 0] (b.drop (1+4))) := HS5
    clear HS5
    by_cases g5 : 5 < b.length
    rotate_left
    ·have HV : Hid (decV b = none) := hide (dec_none fun o h => by obtain ⟨n, n1, n2, n3, n4, n5⟩ := dec5_inv HKK.out h; omega)
     have HBV : Hid (∀ W, Later w0 W -> RdS w0 W G (b.drop (1+4)) -> Calls Tryz.prog 90 #[.pointer (some ⟨G, 0, none⟩)] W (RdP w0 W G none)) := hide (fun W hl hW => by
      have h2 := byte_calls W w0 hl G HGG.out (b.drop (1+4)) (fun y hy => HB.out y (List.mem_of_mem_drop hy)) hW
      rw [show b.drop (1+4) = [] from List.drop_eq_nil_of_le (by omega)] at h2; exact h2)
     clear g5
     go_wp2_with (go_at_call 90; (refine (HBV.out _ HS.out.lt HS.out.rd).mono ?_); rintro e w4 ⟨o4, rfl⟩)
     exact ⟨rfl, HS.out.lt.only o4 HS.out.hG, by rw [HV.out]⟩
    obtain ⟨m, hm⟩ : ∃ m : Nat, b.getD 5 0 = m := ⟨(b.getD 5 0).toNat, by have := HB.out.at_ 5; omega⟩
    have HBV : Hid (∀ W, Later w0 W -> RdS w0 W G (b.drop (1+4)) -> Calls Tryz.prog 90 #[.pointer (some ⟨G, 0, none⟩)] W (RdP w0 W G (some ((m : Int), b.drop 6)))) := hide (fun W hl hW => by
     have h2 := byte_calls W w0 hl G HGG.out (b.drop (1+4)) (fun y hy => HB.out y (List.mem_of_mem_drop hy)) hW
     have e : b.drop (1+4) = (m : Int) :: b.drop 6 := by
      rw [<- hm, List.getD_eq_getElem?_getD, List.getElem?_eq_getElem g5]
      exact List.drop_eq_getElem_cons g5
     rw [show byteV (b.drop (1+4)) = some ((m : Int), b.drop 6) by rw [e]; rfl] at h2; exact h2)
    have HM := hide hm; have HG5 := hide g5
    clear hm g5
    go_upto_region 18 with (go_at_call 90; (refine (HBV.out _ HS.out.lt HS.out.rd).mono ?_); rintro e w4 ⟨o4, rfl, rd4⟩; have HS4 := hide (HS.out.num o4 rd4); clear o4 rd4)
    by_cases g3m : m <= 3
    rotate_left
    ·have HV : Hid (decV b = none) := hide (dec_none fun o h => by obtain ⟨n, n1, n2, n3, n4, n5⟩ := dec5_inv HKK.out h; have := HM.out; omega)
     have t1 : decide ((m : Int) <= 3) = false := by simp; omega
     clear g3m
     go_wp2_with (go_at_call 29; refine (must_no _ _).mono ?_; rintro e w' ⟨rfl, rfl⟩)
     exact ⟨rfl, HS4.out.lt, by rw [HV.out]⟩
    have t1 : decide ((m : Int) <= 3) = true := by simp; omega
    go_wp2_with (go_at_call 29; refine (must_yes _ _).mono ?_; rintro e w' ⟨rfl, rfl⟩)
    go_loopw [56] (fun iv wr => ∃ (j : Nat) (A5 : Option Addr) (n5 c5 : Nat), iv = .int .i64 (j : Int) /\ j <= m /\ Hid (OS w0 wr G g2 g3 [.int .i64 5, .int .i64 0, .int .i64 0, .int .i64 0, .int .i64 0, .int .i64 0, .int .i64 (le4 b 1), .int .i64 0, .slice A5 n5 c5] (b.drop (6 + 4 * j))) /\ Hid (wr.ownsRow w0.heap.size 3 1 (.slice A5 n5 c5) (qsT b j).length ((qsT b j).flatMap iCells)) /\ Hid (∀ t, t < j -> okAt b (6 + 4 * t)) /\ 6 + 4 * j <= b.length) (fun iv _ => (m - intOf iv).toNat)
    case atStart => exact ⟨0, none, 0, 0, rfl, Nat.zero_le _, HS4, hide (World.ownsRow_nil _ _ _ _), hide (fun t ht => by omega), by have := HG5.out; omega⟩
    case round =>
     obtain ⟨j, A5, n5, c5, rfl, hj, HS, HOWN, HOK, hjl⟩ := hrel
     by_cases hjm : j < m
     ·have hj0 : (0 : Int) <= (j : Int) := by omega
      have hj1 : (j : Int) < m := by omega
      have HT1 : Hid (∀ w', Later wr w' -> w'.cell? ⟨g3, 8, none⟩ = some (.slice A5 n5 c5)) := hide fun w' hb => (HS.out.r3.later hb).cell rfl
      have hmx : Tryz.prog.follows .mixedOrders = true := by kernel_rfl
      by_cases gj : (6 + 4 * j) + 4 <= b.length /\ okAt b (6 + 4 * j)
      ·have HNV : Hid (∀ W, Later w0 W -> RdS w0 W G (b.drop (6 + 4 * j)) -> Calls Tryz.prog 91 #[.pointer (some ⟨G, 0, none⟩)] W (RdP w0 W G (some (le4 b (6 + 4 * j), b.drop (6 + 4 * j + 4))))) := hide (fun W hl hW => by have h2 := num_calls W w0 hl G HGG.out (b.drop (6 + 4 * j)) (fun y hy => HB.out y (List.mem_of_mem_drop hy)) hW; rw [numV_yes gj] at h2; exact h2)
       have HGJ := hide gj
       obtain ⟨L, hL⟩ : ∃ L, L = qsT b j := ⟨_, rfl⟩
       have HL := hide hL
       have HLL : Hid (L.length <= 3) := hide (by rw [hL, qsT_len]; omega)
       rw [<- hL] at HOWN
       clear gj hL
       go_upto_region 21 with fail
       refine wp_region_N (fun w' => w'.cell? ⟨g3, 8, none⟩ = some (.slice A5 n5 c5)) [7] hmx (HT1.out _ lt_) (fun hHeld => ?_)
       refine tkB 58 0 ?_
       refine tkB 59 1 ?_
       refine tkB 60 2 ?_
       refine wpAnyN_ready (rs := [3]) (by kernel_rfl) (by simp) ?_
       refine AllReadyN.held rfl (by rfl) (fun K hK => ?_) AllReadyN.nil
       go_simp
       refine (HNV.out _ (HS.out.lt.trans lt_) (HS.out.rd.later lt_)).mono ?_
       rintro e w4 ⟨o4, rfl, rd4⟩
       have o4' : Only G wr.drew w4 := o4
       have HS4 := hide ((HS.out.later (show Later wr wr.drew from (Later.refl _).drew)).num o4' rd4)
       have HOW4 : Hid (w4.ownsRow w0.heap.size 3 1 (.slice A5 n5 c5) L.length (L.flatMap iCells)) := hide (by
        obtain ⟨Ax, nx, cx, hrx, -⟩ := HS.out.rd
        exact own_only (own_later HOWN.out (show Later wr wr.drew from (Later.refl _).drew)) o4' (own_box (own_later HOWN.out (show Later wr wr.drew from (Later.refl _).drew)) (hrx.later (show Later wr wr.drew from (Later.refl _).drew)) (by decide)))
       have HT4 : Hid (∀ w', Later w4 w' -> w'.cell? ⟨g3, 8, none⟩ = some (.slice A5 n5 c5)) := hide fun w' hb => (HS4.out.r3.later hb).cell rfl
       clear o4 o4' rd4
       refine hK.out _ _ ?_ (fun hHeld => ?_)
       ·exact HT4.out _ (Later.refl _)
       clear hK K
       try simp only [Act.put, s1_, s2_, s3_]
       refine wpAnyN_ready (rs := [4]) (by kernel_rfl) (by simp) ?_
       refine AllReadyN.held rfl (by rfl) (fun K hK => ?_) AllReadyN.nil
       go_simp
       refine hK.out _ _ ?_ (fun hHeld => ?_)
       ·exact HT4.out _ lt_
       clear hK K
       try simp only [Act.put, s1_, s2_, s3_]
       refine wpAnyN_ready (rs := [5]) (by kernel_rfl) (by simp) ?_
       refine AllReadyN.held rfl (by rfl) (fun K hK => ?_) AllReadyN.nil
       have HNR : Hid (Row (w4.alloc (Obj.cells #[Value.int .i64 (le4 b (6 + 4 * j))] 3)) w4.heap.size 3 [.int .i64 (le4 b (6 + 4 * j))]) := hide (Row.new w4 _ _)
       have HBS : Hid (w0.heap.size <= (w4.alloc (Obj.cells #[Value.int .i64 (le4 b (6 + 4 * j))] 3)).heap.size) := hide ((HS4.out.lt.alloc _).size)
       have HOWA : Hid ((w4.alloc (Obj.cells #[Value.int .i64 (le4 b (6 + 4 * j))] 3)).ownsRow w0.heap.size 3 1 (.slice A5 n5 c5) L.length (L.flatMap iCells)) := hide (World.ownsRow.alloc HOW4.out _)
       refine wp_append_own_ _ _ 23 rfl w0.heap.size 3 _ 1 8 Tryz.underlying23 info_int rfl (by omega) (by omega) (.slice A5 n5 c5) L.length _ (by rfl) HOWA.out ⟨w4.heap.size, 0, none⟩ 1 1 [.int .i64 (le4 b (6 + 4 * j))] (by rfl) rfl (fun k u hk => by rw [addr_add, Nat.zero_add]; exact HNR.out.cell hk) (by simp [Value.oneCell']) (by have := HLL.out; omega) HBS.out ?_
       intro v' w9 hown hg hblk
       obtain ⟨A6, c6, rfl⟩ := own_form hown
       have HOW9 := hide hown
       have HG9 : Hid (w4.grownBy w9 (Value.slice A5 n5 c5).ownBlock) := hide (grown_trans_alloc hg)
       have HS9 := hide (HS4.out.grown HG9.out HOW4.out)
       clear hown hg hblk HNR HBS HOWA
       refine hK.out _ _ ?_ (fun hHeld => ?_)
       ·exact HS9.out.r3.cell rfl
       clear hK K
       try simp only [Act.put, s1_, s2_, s3_]
       refine tkB 64 6 ?_
       refine wpAnyN_ready (rs := [7]) (by kernel_rfl) (by simp) ?_
       refine AllReadyN.free rfl (by rfl) (by kernel_rfl) (fun K hK => ?_) AllReadyN.nil
       have y8 := HS9.out.r3.cell (i := 8) rfl
       have yz8 := HS9.out.r3.frozen 8
       go_simp
       refine hK.out _ _ ?_
       clear hK K
       try simp only [Act.put, s1_, s2_, s3_]
       refine wpAnyN_done (by kernel_rfl) ?_ _
       clear hHeld y8 yz8
       go_wp2_with fail
       refine ⟨⟨j+1, A6, L.length + 1, c6, by go_num, by omega, hide ?_, hide ?_, hide ?_, by have := HGJ.out.1; omega⟩, by simp [intOf]; omega⟩
       ·have h9 := HS9.out.put 8 (.slice A6 (L.length + 1) c6) (by intro z h; cases h)
        rw [show 6 + 4 * j + 4 = 6 + 4 * (j + 1) by omega] at h9
        exact h9
       ·rw [qsT_succ, <- HL.out, List.length_append, List.flatMap_append]
        exact own_only HOW9.out (Only.one _ _ _ _) (own_box HOW9.out HS9.out.r3 (by decide))
       ·intro t ht
        by_cases e : t = j
        ·rw [e]; exact HGJ.out.2
        ·exact HOK.out t (by omega)
      ·have HNV : Hid (∀ W, Later w0 W -> RdS w0 W G (b.drop (6 + 4 * j)) -> Calls Tryz.prog 91 #[.pointer (some ⟨G, 0, none⟩)] W (RdP w0 W G none)) := hide (fun W hl hW => by have h2 := num_calls W w0 hl G HGG.out (b.drop (6 + 4 * j)) (fun y hy => HB.out y (List.mem_of_mem_drop hy)) hW; rw [numV_no gj] at h2; exact h2)
       have HV : Hid (decV b = none) := hide (dec_none fun o h => by
        obtain ⟨n, n1, n2, n3, n4, n5⟩ := dec5_inv HKK.out h
        have hmm := HM.out
        have hnm : n = m := by omega
        apply gj
        refine ⟨by omega, n5 _ ?_⟩
        rw [qsR_range b 10 6 n n3 (by omega)]
        exact List.mem_map.2 ⟨j, List.mem_range.2 (by omega), rfl⟩)
       clear gj
       go_upto_region 21 with fail
       refine wp_region_N (fun w' => w'.cell? ⟨g3, 8, none⟩ = some (.slice A5 n5 c5)) [7] hmx (HT1.out _ lt_) (fun hHeld => ?_)
       refine tkB 58 0 ?_
       refine tkB 59 1 ?_
       refine tkB 60 2 ?_
       refine wpAnyN_ready (rs := [3]) (by kernel_rfl) (by simp) ?_
       refine AllReadyN.held rfl (by rfl) (fun K hK => ?_) AllReadyN.nil
       go_simp
       refine (HNV.out _ (HS.out.lt.trans lt_) (HS.out.rd.later lt_)).mono ?_
       rintro e w4 ⟨o4, rfl⟩
       have o4' : Only G wr.drew w4 := o4
       exact ⟨rfl, (HS.out.later (show Later wr wr.drew from (Later.refl _).drew)).lt.only o4' HS.out.hG, by rw [HV.out]⟩
     ·obtain rfl : m = j := by omega
      clear hj hjm
      obtain ⟨Ar, nr, cr, hrr, hsq⟩ := HS.out.rd
      have hnr : nr = b.length - (6 + 4 * m) := by
       obtain ⟨_, _, _, e, e2, -⟩ := hsq.form
       rw [List.length_drop] at e2
       injection e with _ e3 _; omega
      have rc := hrr.cell (i := 0) rfl
      clear hrr hsq
      by_cases hlen : b.length = 6 + 4 * m
      rotate_left
      ·have HV : Hid (decV b = none) := hide (dec_none fun o h => by have h2 := dec5_inv HKK.out h; apply hlen; obtain ⟨n, n1, n2, n3, n4, n5⟩ := h2; have := HM.out; omega)
       have t1 : ((nr : Int) == 0) = false := by simp; omega
       clear hlen hnr
       go_wp2_with (go_at_call 29; refine (must_no _ _).mono ?_; rintro e w' ⟨rfl, rfl⟩)
       exact ⟨rfl, HS.out.lt, by rw [HV.out]⟩
      have HV : Hid (decV b = some (mkCom (le4 b 1) (qsT b m))) := hide (by
       have hq : qsR b 10 6 = qsT b m := qsR_range b 10 6 m hlen (by omega)
       rw [dec5 HB.out HKK.out m (by omega) HM.out hlen HG1.out.2 (fun q hq2 => by
        rw [hq] at hq2
        obtain ⟨t, ht, rfl⟩ := List.mem_map.1 hq2
        exact HOK.out t (List.mem_range.1 ht)), hq])
      have t1 : ((nr : Int) == 0) = true := by simp; omega
      clear hlen hnr
      have s := HS.out
      have y0 := s.r3.cell (i := 0) rfl; have y1 := s.r3.cell (i := 1) rfl; have y2 := s.r3.cell (i := 2) rfl; have y3 := s.r3.cell (i := 3) rfl; have y4 := s.r3.cell (i := 4) rfl; have y5 := s.r3.cell (i := 5) rfl; have y6 := s.r3.cell (i := 6) rfl; have y7 := s.r3.cell (i := 7) rfl; have y8 := s.r3.cell (i := 8) rfl
      have q0 := s.r2.cell (i := 0) rfl; have qz0 := s.r2.frozen 0; have q1 := s.r2.cell (i := 1) rfl; have qz1 := s.r2.frozen 1; have q2 := s.r2.cell (i := 2) rfl; have qz2 := s.r2.frozen 2; have q3 := s.r2.cell (i := 3) rfl; have qz3 := s.r2.frozen 3; have q4 := s.r2.cell (i := 4) rfl; have qz4 := s.r2.frozen 4; have q5 := s.r2.cell (i := 5) rfl; have qz5 := s.r2.frozen 5; have q6 := s.r2.cell (i := 6) rfl; have qz6 := s.r2.frozen 6; have q7 := s.r2.cell (i := 7) rfl; have qz7 := s.r2.frozen 7; have q8 := s.r2.cell (i := 8) rfl; have qz8 := s.r2.frozen 8
      clear s
      go_wp2_with (go_at_call 29; refine (must_yes _ _).mono ?_; rintro e w' ⟨rfl, rfl⟩)
      refine bodyPost_ret (results_op rfl rfl (HS.out.r2.put9 _ _ _ _ _ _ _ _ _ )) rfl ?_
      exact op_end (o := mkCom (le4 b 1) (qsT b m)) HS.out (HOWN.out) _ HV.out
   ·have t5 : (x == 5) = false := by simpa using k5
    have HV : Hid (decV b = none) := hide (dec_other (by have h9 := HXR.out; rw [HK0.out]; omega))
    clear k1 k2 k3 k4 k5
    go_wp2_with fail
    exact ⟨rfl, HS.out.lt, by rw [HV.out]; rfl⟩
end Go.Proofs.YtncbebfhakcgdaaGreat
namespace Go.Proofs.YtncbebfhakcgdaaGreat
open Go.RowKit Go.Shelf
attribute [local go_sem ↓] Go.wp_at_zero Go.wp_at_succ
def DecP (w : World) (r : Option POp) (e : Ending) (w' : World) : Prop := Later w w' /\ match r with
 | some o => ∃ A n c, e = .returned (.tuple #[opV o A n c, .int .i64 0]) /\ w'.ownsRow w.heap.size 3 1 (.slice A n c) o.qtys.length (o.qtys.flatMap iCells)
 | none => e = .returned (.tuple #[.agg #[.int .i64 0, .int .i64 0, .int .i64 0, .int .i64 0, .int .i64 0, .int .i64 0, .int .i64 0, .int .i64 0, .slice none 0 0], .int .i64 2])
theorem results_opt {fn : Func} {t s : Tmp} {tmps : Array Value} {W : World} {b : Nat} {v0 v1 v2 v3 v4 v5 v6 v7 v8 x : Value} (h : fn.results = #[.cell t 31, .tmp s]) (hp : tmps[t]?.getD undef = .pointer (some ⟨b, 0, none⟩)) (hq : tmps[s]?.getD undef = x) (hr : Row W b 31 [v0, v1, v2, v3, v4, v5, v6, v7, v8]) :
 (results fn tmps).run Tryz.prog W = .ok (.tuple #[.agg #[v0, v1, v2, v3, v4, v5, v6, v7, v8], x]) W := by
 have c0 := hr.cell (i := 0) rfl; have c1 := hr.cell (i := 1) rfl; have c2 := hr.cell (i := 2) rfl; have c3 := hr.cell (i := 3) rfl; have c4 := hr.cell (i := 4) rfl; have c5 := hr.cell (i := 5) rfl; have c6 := hr.cell (i := 6) rfl; have c7 := hr.cell (i := 7) rfl; have c8 := hr.cell (i := 8) rfl
 simp [results, h, hp, hq, go_sem, c0, c1, c2, c3, c4, c5, c6, c7, c8]
set_option maxHeartbeats 4000000 in
theorem decode1_calls (w : World) (gb : Nat) (A : Option Addr) (n c : Nat) (b : List Int) (hb : Row w gb 45 [.slice A n c]) (h : Sq 1 uCells w (.slice A n c) b) (hB : Bytes b) :
 Calls Tryz.prog 50 #[.pointer (some ⟨gb, 0, none⟩)] w (OpP w (decV b)) := by
 obtain ⟨r, hr⟩ : ∃ r, decV b = r := ⟨_, rfl⟩
 have HC : Hid (∀ W0 W G, Later w W0 -> Later W0 W -> W0.heap.size <= G -> G < W.heap.size -> Row W G 91 [.slice A n c] -> Calls Tryz.prog 51 #[.pointer (some ⟨G, 0, none⟩)] W (OpP W0 r)) := hide (fun W0 W G hW hW2 hG hG2 hrow => by
  have h2 := op_calls W W0 G b hB ⟨A, n, c, hrow, h.later hW⟩ hW2 hG hG2
  rw [hr] at h2; exact h2)
 rw [hr]
 have HRB := hide hb
 clear hr hb h hB
 obtain ⟨W0, hW0⟩ : ∃ W0, W0 = (w.alloc (Obj.cells #[Value.int .i64 0, Value.int .i64 0, Value.int .i64 0, Value.int .i64 0, Value.int .i64 0, Value.int .i64 0, Value.int .i64 0, Value.int .i64 0, Value.slice none 0 0] 31)) := ⟨_, rfl⟩
 obtain ⟨hb0, r0, hsz0⟩ := boxes1 w [.int .i64 0, .int .i64 0, .int .i64 0, .int .i64 0, .int .i64 0, .int .i64 0, .int .i64 0, .int .i64 0, .slice none 0 0] 31 hW0
 have B0 := hide hb0; have HW0 := hide hW0; have HSZ0 := hide hsz0
 have R0 := hide r0
 clear hb0 hW0 hsz0 r0
 go_enter Tryz.func50, Tryz.ntmps50
 go_upto_region 1 with fail
 rw [<- HW0.out]
 have rb := HRB.out.later B0.out
 have d0 := rb.cell (i := 0) rfl
 clear rb
 have hG := Row.new W0 91 [.slice A n c]
 have hc := hide (HC.out W0 (W0.alloc (Obj.cells #[Value.slice A n c] 91)) W0.heap.size B0.out ((Later.refl _).alloc _) (Nat.le_refl _) (by simp) hG)
 clear hG
 cases r with
 | none =>
   go_wp2_with (go_at_call 51; (refine hc.out.mono ?_); rintro e w4 ⟨l4, rfl⟩)
   exact ⟨rfl, B0.out.trans l4, rfl⟩
 | some o =>
   go_wp2_with (go_at_call 51; (refine hc.out.mono ?_); rintro e w4 h4; unfold OpP at h4; unfold opV at h4; obtain ⟨l4, A5, n5, c5, rfl, ho4⟩ := h4; have r4 := R0.out.later l4; have q0 := r4.cell (i := 0) rfl; have qz0 := r4.frozen 0; have q1 := r4.cell (i := 1) rfl; have qz1 := r4.frozen 1; have q2 := r4.cell (i := 2) rfl; have qz2 := r4.frozen 2; have q3 := r4.cell (i := 3) rfl; have qz3 := r4.frozen 3; have q4 := r4.cell (i := 4) rfl; have qz4 := r4.frozen 4; have q5 := r4.cell (i := 5) rfl; have qz5 := r4.frozen 5; have q6 := r4.cell (i := 6) rfl; have qz6 := r4.frozen 6; have q7 := r4.cell (i := 7) rfl; have qz7 := r4.frozen 7; have q8 := r4.cell (i := 8) rfl; have qz8 := r4.frozen 8; have HR4 := hide r4; have HO4 := hide ho4; have HL4 := hide l4; clear r4 ho4 l4)
   refine bodyPost_ret (results_op rfl rfl (HR4.out.put9 _ _ _ _ _ _ _ _ _ )) rfl ?_
   have oo := only9 (W := w4) w.heap.size (.int .i64 o.kind) (.int .i64 o.ord.id) (.int .i64 o.ord.item) (.int .i64 o.ord.due) (.int .i64 o.ord.qty) (.int .i64 o.id) (.int .i64 o.period) (.int .i64 o.qty) (.slice A5 n5 c5)
   exact ⟨(B0.out.trans HL4.out).only oo (Nat.le_refl _), A5, n5, c5, rfl, own_weaken (own_only HO4.out oo (own_box HO4.out HR4.out (by decide))) B0.out.size⟩
set_option maxHeartbeats 4000000 in
theorem caughtO_calls (w : World) (gb : Nat) (A : Option Addr) (n c : Nat) (b : List Int) (hb : Row w gb 45 [.slice A n c]) (h : Sq 1 uCells w (.slice A n c) b) (hB : Bytes b) :
 Calls Tryz.prog 49 #[.func (.func 50) #[] #[.pointer (some ⟨gb, 0, none⟩)]] w (DecP w (decV b)) := by
 obtain ⟨r, hr⟩ : ∃ r, decV b = r := ⟨_, rfl⟩
 have HC : Hid (∀ W, Later w W -> Calls Tryz.prog 50 #[.pointer (some ⟨gb, 0, none⟩)] W (OpP W r)) := hide (fun W hW => by
  have h2 := decode1_calls W gb A n c b (hb.later hW) (h.later hW) hB
  rw [hr] at h2; exact h2)
 rw [hr]
 clear hr hb h hB
 obtain ⟨W0, hW0⟩ : ∃ W0, W0 = ((w.alloc (Obj.cells #[Value.int .i64 0, Value.int .i64 0, Value.int .i64 0, Value.int .i64 0, Value.int .i64 0, Value.int .i64 0, Value.int .i64 0, Value.int .i64 0, Value.slice none 0 0] 31)).alloc (Obj.cells #[Value.int .i64 0] 35)) := ⟨_, rfl⟩
 obtain ⟨hb0, r0, r1, hsz0⟩ := boxes2 w [.int .i64 0, .int .i64 0, .int .i64 0, .int .i64 0, .int .i64 0, .int .i64 0, .int .i64 0, .int .i64 0, .slice none 0 0] [.int .i64 0] 31 35 hW0
 have B0 := hide hb0; have HW0 := hide hW0; have HSZ0 := hide hsz0
 have R0 := hide r0; have R1 := hide r1
 clear hb0 hW0 hsz0 r0 r1
 have hmf := mkF
 have HC := hide (HC.out W0 B0.out)
 go_enter_defers Tryz.func49, Tryz.ntmps49
 go_upto_region 2 with fail
 rw [<- HW0.out]
 cases r with
 | none =>
   go_wp2_with (go_at_call 50; (refine HC.out.mono ?_); rintro e w1 ⟨b1, rfl⟩)
   have r0 := R0.out.later b1; have r1 := R1.out.later b1
   refine leaves_cons (f := 89) (args := #[.pointer (some ⟨w.heap.size, 0, none⟩), .pointer (some ⟨w.heap.size + 1, 0, none⟩)]) (by simp) (by simp [go_sem]) ?_
   refine (catchO_pan w1 w.heap.size (w.heap.size + 1) _ _ _ _ _ _ _ _ _ _ 2 r0 r1 (by omega)).mono ?_
   rintro e u' w2 ⟨rfl, rfl, p0, p1, w3, l3, on⟩
   refine ⟨_, results_opc rfl rfl rfl p0 p1, ?_, rfl⟩
   exact (B0.out.trans (b1.trans l3)).onlys on (by intro g hg; simp at hg; rcases hg with rfl | rfl <;> omega)
 | some o =>
   go_wp2_with (go_at_call 50; (refine HC.out.mono ?_); rintro e w1 h1; unfold OpP at h1; unfold opV at h1; obtain ⟨b1, A5, n5, c5, rfl, ho1⟩ := h1; have rk := R0.out.later b1; have rc := R1.out.later b1; have q0 := rk.cell (i := 0) rfl; have qz0 := rk.frozen 0; have q1 := rk.cell (i := 1) rfl; have qz1 := rk.frozen 1; have q2 := rk.cell (i := 2) rfl; have qz2 := rk.frozen 2; have q3 := rk.cell (i := 3) rfl; have qz3 := rk.frozen 3; have q4 := rk.cell (i := 4) rfl; have qz4 := rk.frozen 4; have q5 := rk.cell (i := 5) rfl; have qz5 := rk.frozen 5; have q6 := rk.cell (i := 6) rfl; have qz6 := rk.frozen 6; have q7 := rk.cell (i := 7) rfl; have qz7 := rk.frozen 7; have q8 := rk.cell (i := 8) rfl; have qz8 := rk.frozen 8; have j0 := rc.cell (i := 0) rfl; have jz0 := rc.frozen 0; have RK := hide rk; have RC := hide rc; have HO1 := hide ho1; clear rk rc ho1)
   have r1 := (RK.out.put9 (.int .i64 o.kind) (.int .i64 o.ord.id) (.int .i64 o.ord.item) (.int .i64 o.ord.due) (.int .i64 o.ord.qty) (.int .i64 o.id) (.int .i64 o.period) (.int .i64 o.qty) (.slice A5 n5 c5)).far (p := ⟨w.heap.size + 1, 0, none⟩) (by show w.heap.size ≠ w.heap.size + 1; omega) (.int .i64 0)
   have rc2 := RC.out.off9 (by omega : w.heap.size + 1 ≠ w.heap.size) (.int .i64 o.kind) (.int .i64 o.ord.id) (.int .i64 o.ord.item) (.int .i64 o.ord.due) (.int .i64 o.ord.qty) (.int .i64 o.id) (.int .i64 o.period) (.int .i64 o.qty) (.slice A5 n5 c5)
   have r2 := rc2.set_ 0 (.int .i64 0)
   refine leaves_cons (f := 89) (args := #[.pointer (some ⟨w.heap.size, 0, none⟩), .pointer (some ⟨w.heap.size + 1, 0, none⟩)]) (by simp) (by simp [go_sem]) ?_
   refine (catchO_idle _ w.heap.size (w.heap.size + 1)).mono ?_
   rintro e u' w2 ⟨rfl, rfl, rfl⟩
   refine ⟨_, results_opc rfl rfl rfl r1 r2, ?_⟩
   have oa := only9 (W := w1) w.heap.size (.int .i64 o.kind) (.int .i64 o.ord.id) (.int .i64 o.ord.item) (.int .i64 o.ord.due) (.int .i64 o.ord.qty) (.int .i64 o.id) (.int .i64 o.period) (.int .i64 o.qty) (.slice A5 n5 c5)
   refine ⟨((B0.out.trans b1).only oa (Nat.le_refl _)).only (Only.one (w.heap.size + 1) _ 0 _) (by omega), _, _, _, rfl, ?_⟩
   have ho2 := own_only HO1.out oa (own_box HO1.out RK.out (by decide))
   exact own_weaken (own_only ho2 (Only.one _ _ _ _) (own_box ho2 rc2 (by decide))) B0.out.size
set_option maxHeartbeats 4000000 in
theorem decode_calls (w : World) (A : Option Addr) (n c : Nat) (b : List Int) (h : Sq 1 uCells w (.slice A n c) b) (hB : Bytes b) :
 Calls Tryz.prog 20 #[.slice A n c] w (DecP w (decV b)) := by
 obtain ⟨r, hr⟩ : ∃ r, decV b = r := ⟨_, rfl⟩
 have HC : Hid (∀ W gb, Later w W -> Row W gb 45 [.slice A n c] -> Calls Tryz.prog 49 #[.func (.func 50) #[] #[.pointer (some ⟨gb, 0, none⟩)]] W (DecP W r)) := hide (fun W gb hW hb => by
  have h2 := caughtO_calls W gb A n c b hb (h.later hW) hB
  rw [hr] at h2; exact h2)
 rw [hr]
 clear hr h hB
 obtain ⟨W0, hW0⟩ : ∃ W0, W0 = ((w.alloc (Obj.cells #[Value.slice A n c] 45)).alloc (Obj.cells #[Value.int .i64 0, Value.int .i64 0, Value.int .i64 0, Value.int .i64 0, Value.int .i64 0, Value.int .i64 0, Value.int .i64 0, Value.int .i64 0, Value.slice none 0 0] 31)) := ⟨_, rfl⟩
 obtain ⟨hb0, r0, r1, hsz0⟩ := boxes2 w [.slice A n c] [.int .i64 0, .int .i64 0, .int .i64 0, .int .i64 0, .int .i64 0, .int .i64 0, .int .i64 0, .int .i64 0, .slice none 0 0] 45 31 hW0
 have B0 := hide hb0; have HW0 := hide hW0; have HSZ0 := hide hsz0
 have R0 := hide r0; have R1 := hide r1
 clear hb0 hW0 hsz0 r0 r1
 have hmf := mkF
 go_enter Tryz.func20, Tryz.ntmps20
 go_upto_region 1 with fail
 rw [<- HW0.out]
 have hc := hide (HC.out W0 _ B0.out R0.out)
 cases r with
 | none =>
   go_wp2_with (go_at_call 49; (refine hc.out.mono ?_); rintro e w1 ⟨b1, rfl⟩; have rk := R1.out.later b1; have q0 := rk.cell (i := 0) rfl; have qz0 := rk.frozen 0; have q1 := rk.cell (i := 1) rfl; have qz1 := rk.frozen 1; have q2 := rk.cell (i := 2) rfl; have qz2 := rk.frozen 2; have q3 := rk.cell (i := 3) rfl; have qz3 := rk.frozen 3; have q4 := rk.cell (i := 4) rfl; have qz4 := rk.frozen 4; have q5 := rk.cell (i := 5) rfl; have qz5 := rk.frozen 5; have q6 := rk.cell (i := 6) rfl; have qz6 := rk.frozen 6; have q7 := rk.cell (i := 7) rfl; have qz7 := rk.frozen 7; have q8 := rk.cell (i := 8) rfl; have qz8 := rk.frozen 8; have RK := hide rk; clear rk)
   refine bodyPost_ret (results_opt rfl rfl rfl (RK.out.put9 _ _ _ _ _ _ _ _ _ )) rfl ?_
   exact ⟨(B0.out.trans b1).only (only9 _ _ _ _ _ _ _ _ _ _ ) (by omega), rfl⟩
 | some o =>
   go_wp2_with (go_at_call 49; (refine hc.out.mono ?_); rintro e w1 h1; unfold DecP at h1; unfold opV at h1; obtain ⟨b1, A5, n5, c5, rfl, ho1⟩ := h1; have rk := R1.out.later b1; have q0 := rk.cell (i := 0) rfl; have qz0 := rk.frozen 0; have q1 := rk.cell (i := 1) rfl; have qz1 := rk.frozen 1; have q2 := rk.cell (i := 2) rfl; have qz2 := rk.frozen 2; have q3 := rk.cell (i := 3) rfl; have qz3 := rk.frozen 3; have q4 := rk.cell (i := 4) rfl; have qz4 := rk.frozen 4; have q5 := rk.cell (i := 5) rfl; have qz5 := rk.frozen 5; have q6 := rk.cell (i := 6) rfl; have qz6 := rk.frozen 6; have q7 := rk.cell (i := 7) rfl; have qz7 := rk.frozen 7; have q8 := rk.cell (i := 8) rfl; have qz8 := rk.frozen 8; have RK := hide rk; have HO1 := hide ho1; clear rk ho1)
   refine bodyPost_ret (results_opt rfl rfl rfl (RK.out.put9 _ _ _ _ _ _ _ _ _ )) rfl ?_
   have oo := only9 (W := w1) (w.heap.size + 1) (.int .i64 o.kind) (.int .i64 o.ord.id) (.int .i64 o.ord.item) (.int .i64 o.ord.due) (.int .i64 o.ord.qty) (.int .i64 o.id) (.int .i64 o.period) (.int .i64 o.qty) (.slice A5 n5 c5)
   exact ⟨(B0.out.trans b1).only oo (by omega), _, _, _, rfl, own_weaken (own_only HO1.out oo (own_box HO1.out RK.out (by decide))) B0.out.size⟩
end Go.Proofs.YtncbebfhakcgdaaGreat
namespace Go.Proofs.YtncbebfhakcgdaaGreat
open Go.RowKit Go.Shelf
attribute [local go_sem ↓] Go.wp_at_zero Go.wp_at_succ
def itm : PItem := ⟨3, 1, 2, true, true, true⟩
def itemsN (n : Int) : List PItem := List.replicate ((n % 2).toNat + 1) itm
theorem OwnR.kept_types {w w' : World} {B lo sz n : Nat} {T : TypeId} {u v : Value} {xs : List Value} {q : Rat} (h : OwnR w B v q) (hg : w.grownBy w' u.ownBlock) (ho : w.ownsRow lo T sz u n xs) (hne : 160 ≠ T) : OwnR w' B v q := by
 obtain ⟨A, n, c, A', n', c', e, h1, h2⟩ := h
 exact ⟨A, n, c, A', n', c', e, ⟨h1.1, own_kept h1.2 hg (apart_types h1.2 ho hne)⟩, ⟨h2.1, own_kept h2.2 hg (apart_types h2.2 ho hne)⟩⟩
def OwnIt (w : World) (e : ICells × ICells × ICells) : Prop := OwnR w 0 (.agg e.1.cells.toArray) 3 /\ OwnR w 0 (.agg e.2.1.cells.toArray) 1 /\ OwnR w 0 (.agg e.2.2.cells.toArray) 2
theorem OwnIt.later {w w' : World} {e : ICells × ICells × ICells} (h : OwnIt w e) (hb : Later w w') : OwnIt w' e := ⟨h.1.later hb, h.2.1.later hb, h.2.2.later hb⟩
theorem OwnIt.kept {w w' : World} {lo sz n : Nat} {T : TypeId} {u : Value} {xs : List Value} {e : ICells × ICells × ICells} (h : OwnIt w e) (hg : w.grownBy w' u.ownBlock) (ho : w.ownsRow lo T sz u n xs) (hne : 160 ≠ T) : OwnIt w' e :=
 ⟨h.1.kept_types hg ho hne, h.2.1.kept_types hg ho hne, h.2.2.kept_types hg ho hne⟩
theorem items_end {w : World} {lo j : Nat} {v : Value} {es : List (ICells × ICells × ICells)} (hl : es.length = j) (ho : w.ownsRow lo 69 12 v j (es.flatMap cellsI)) (h : ∀ e ∈ es, OwnIt w e) : Its 12 w v (List.replicate j itm) := by
 refine Its.of_own (lo := lo) (T := 69) (by rw [List.length_replicate]; exact ho) ⟨by rw [List.length_replicate, hl], fun i e x h1 h2 => ?_⟩
 have hx : x = itm := by
  have := List.mem_of_getElem? h2
  exact (List.mem_replicate.1 this).2
 subst hx
 obtain ⟨a, b, c⟩ := h e (List.mem_of_getElem? h1)
 exact ⟨enum_own a sized_3, enum_own b sized_1, enum_own c sized_2⟩
def ItemsP (w : World) (l : List PItem) (e : Ending) (w' : World) : Prop := ∃ A n c, e = .returned (.slice A n c) /\ Its 12 w' (.slice A n c) l /\ Later w w'
set_option maxHeartbeats 1000000 in
theorem items20_calls (w : World) (n : Int) (hn : 0 <= n /\ n <= 255) :
 Calls Tryz.prog 24 #[.int .u8 n] w (ItemsP w (itemsN n)) := by
 obtain ⟨N, hN⟩ : ∃ N : Nat, (N : Int) = n % 2 := ⟨(n % 2).toNat, by omega⟩
 have hN1 : N <= 1 := by omega
 have HN := hide hN
 have hw1 : IntKind.i64.wrap n = n := IntWalk.i64_in _ (by omega)
 clear hN
 go_enter Tryz.func24, Tryz.ntmps24
 go_wp2_with fail
 clear hw1
 go_loopw [3, 4] (fun ov iv wr => ∃ (j : Nat) (A : Option Addr) (m c : Nat) (es : List (ICells × ICells × ICells)), ov = .slice A m c /\ iv = .int .i64 (j : Int) /\ j <= N + 1 /\ es.length = j /\ Hid (wr.ownsRow w.heap.size 69 12 (.slice A m c) j (es.flatMap cellsI)) /\ Hid (∀ e ∈ es, OwnIt wr e) /\ Hid (Later w wr)) (fun _ iv _ => (N + 1 - intOf iv).toNat)
 case atStart => exact ⟨0, none, 0, 0, [], rfl, rfl, Nat.zero_le _, rfl, hide (World.ownsRow_nil _ _ _ _), hide (fun e he => by cases he), hide (Later.refl _)⟩
 case round =>
  obtain ⟨j, A, m, c, es, rfl, rfl, hj, hes, HOWN, HIT, HL⟩ := hrel
  have hw1 : IntKind.i64.wrap n = n := IntWalk.i64_in _ (by omega)
  have hw2 : n.tmod 2 = (N : Int) := by rw [Int.tmod_eq_emod_of_nonneg hn.1]; exact HN.out.symm
  have hw3 : n % 2 = (N : Int) := HN.out.symm
  by_cases hjn : j <= N
  ·have t1 : decide (j <= N) = true := by simpa using hjn
   go_wp2_with (first | (go_at_call 53; (with_reducible refine (lawof_calls _ 3 (by decide) (by decide) 3 (by decide +kernel)).mono ?_); rintro e a1 ⟨v1, rfl, o1, b1⟩; obtain ⟨s1, P1, q1, e1, P1', q1', e1', rfl, o1⟩ := o1.open_; have O1 := hide o1; clear o1) | (go_at_call 53; (with_reducible refine (lawof_calls _ 1 (by decide) (by decide) 1 (by decide +kernel)).mono ?_); rintro e a2 ⟨v2, rfl, o2, b2⟩; obtain ⟨s2, P2, q2, e2, P2', q2', e2', rfl, o2⟩ := o2.open_; have O2 := hide o2; clear o2) | (go_at_call 53; (with_reducible refine (lawof_calls _ 2 (by decide) (by decide) 2 (by decide +kernel)).mono ?_); rintro e a3 ⟨v3, rfl, o3, b3⟩; obtain ⟨s3, P3, q3, e3, P3', q3', e3', rfl, o3⟩ := o3.open_; have O3 := hide o3; clear o3) | (at_builtin; (refine wpList_append_src rfl (.tmp 12) (.tmp 17) 22 rfl w.heap.size 69 (.agg #[.bool false, .slice none 0 0, .bool false, .slice none 0 0, .bool false, .slice none 0 0, .bool false, .slice none 0 0, .bool false, .slice none 0 0, .bool false, .slice none 0 0]) 12 192 Tryz.underlying22 info_it rfl (by omega) (by omega) _ j _ rfl (World.ownsRow.alloc (own_later HOWN.out ((b1.trans b2).trans b3)) _) _ 1 [.bool s1, .slice P1 q1 e1, .bool false, .slice P1' q1' e1', .bool s2, .slice P2 q2 e2, .bool false, .slice P2' q2' e2', .bool s3, .slice P3 q3 e3, .bool false, .slice P3' q3' e3'] rfl ⟨rfl, (by intro u hu; simp at hu; rcases hu with rfl | rfl | rfl | rfl | rfl | rfl | rfl | rfl | rfl | rfl | rfl | rfl <;> rfl), .inr ⟨_, _, rfl, fun jj u hj => by rw [addr_add, Nat.zero_add]; exact (Row.new a3 69 [.bool s1, .slice P1 q1 e1, .bool false, .slice P1' q1' e1', .bool s2, .slice P2 q2 e2, .bool false, .slice P2' q2' e2', .bool s3, .slice P3 q3 e3, .bool false, .slice P3' q3' e3']).cell hj⟩⟩ (by omega) (((HL.out.trans ((b1.trans b2).trans b3)).alloc _).size) ?_); intro v' w5 hown hg hblk; obtain ⟨A6, c6, rfl⟩ := own_form hown; have HO5 := hide hown; have HG5 := hide hg; clear hown hg hblk))
   refine ⟨⟨j+1, A6, j+1, c6, es ++ [((⟨s1, P1, q1, e1, false, P1', q1', e1'⟩, ⟨s2, P2, q2, e2, false, P2', q2', e2'⟩, ⟨s3, P3, q3, e3, false, P3', q3', e3'⟩) : ICells × ICells × ICells)], rfl, by go_num, by omega, by simp [hes], hide ?_, hide (fun e he => ?_), hide ?_⟩, by simp [intOf]; omega⟩
   ·rw [List.flatMap_append]; exact HO5.out
   ·have hla := ((b1.trans b2).trans b3).alloc (Obj.cells #[Value.bool s1, Value.slice P1 q1 e1, Value.bool false, Value.slice P1' q1' e1', Value.bool s2, Value.slice P2 q2 e2, Value.bool false, Value.slice P2' q2' e2', Value.bool s3, Value.slice P3 q3 e3, Value.bool false, Value.slice P3' q3' e3'] 69)
    have hho := World.ownsRow.alloc (own_later HOWN.out ((b1.trans b2).trans b3)) (Obj.cells #[Value.bool s1, Value.slice P1 q1 e1, Value.bool false, Value.slice P1' q1' e1', Value.bool s2, Value.slice P2 q2 e2, Value.bool false, Value.slice P2' q2' e2', Value.bool s3, Value.slice P3 q3 e3, Value.bool false, Value.slice P3' q3' e3'] 69)
    rcases List.mem_append.1 he with h | h
    ·exact ((HIT.out e h).later hla).kept HG5.out hho (by decide)
    ·obtain rfl := List.mem_singleton.1 h
     refine OwnIt.kept (w := a3.alloc (Obj.cells #[Value.bool s1, Value.slice P1 q1 e1, Value.bool false, Value.slice P1' q1' e1', Value.bool s2, Value.slice P2 q2 e2, Value.bool false, Value.slice P2' q2' e2', Value.bool s3, Value.slice P3 q3 e3, Value.bool false, Value.slice P3' q3' e3'] 69)) ?_ HG5.out hho (by decide)
     exact ⟨(O1.out.weaken (Nat.zero_le _)).later ((b2.trans b3).alloc _), (O2.out.weaken (Nat.zero_le _)).later (b3.alloc _), (O3.out.weaken (Nat.zero_le _)).later ((Later.refl _).alloc _)⟩
   ·have hho := World.ownsRow.alloc (own_later HOWN.out ((b1.trans b2).trans b3)) (Obj.cells #[Value.bool s1, Value.slice P1 q1 e1, Value.bool false, Value.slice P1' q1' e1', Value.bool s2, Value.slice P2 q2 e2, Value.bool false, Value.slice P2' q2' e2', Value.bool s3, Value.slice P3 q3 e3, Value.bool false, Value.slice P3' q3' e3'] 69)
    exact ((HL.out.trans ((b1.trans b2).trans b3)).alloc _).grown HG5.out (fun k hk => (World.ownsRow.lt hho k hk).1)
  ·have t1 : decide (j <= N) = false := by simpa using hjn
   have hjj : j = N + 1 := by omega
   have HJ := hide hjj
   clear hjj hjn
   go_wp2_with fail
   go_ret
   refine ⟨_, _, _, rfl, ?_, HL.out⟩
   have h := items_end hes HOWN.out HIT.out
   unfold itemsN
   rw [show (n % 2).toNat + 1 = j by have h1 := HJ.out; have h2 := HN.out; omega]
   exact h
set_option maxHeartbeats 1000000 in
theorem rows01_calls (w : World) (v v2 : Value) (l : List Int) (h : Sq 1 uCells w v l) (h2 : Sq 1 uCells w v2 l) (hl : l.length <= 1000000) :
 Calls Tryz.prog 22 #[v, v2] w (RetV w (.bool true)) := by
 obtain ⟨A0, nt, ct, rfl, hnt, -, -, hA⟩ := h.form
 obtain ⟨B0, nt2, ct2, rfl, hnt2, -, -, hB⟩ := h2.form
 obtain rfl : nt2 = nt := by omega
 have HNT := hide hnt; have H := hide hA; have H2 := hide hB
 have hn9 : nt2 <= 1000000 := by omega
 clear h h2 hA hB hnt hnt2 hl
 go_enter Tryz.func22, Tryz.ntmps22
 go_wp2_with fail
 go_loopw [5] (fun i wr => ∃ j : Nat, j <= nt2 /\ i = .int .i64 (j : Int) /\ Later w wr) (fun i _ => (nt2 - intOf i).toNat)
 case atStart => exact ⟨0, by omega, rfl, Later.refl w⟩
 case round =>
  obtain ⟨j, hj, rfl, hL⟩ := hrel
  by_cases hjn : j < nt2
  ·obtain ⟨x, hx⟩ : ∃ x, l[j]? = some x := ⟨l[j]'(by have := HNT.out; omega), List.getElem?_eq_getElem _⟩
   obtain ⟨b1, off1, rfl, hx1⟩ := (H.out.later hL).at_ hx
   obtain ⟨b2, off2, rfl, hx2⟩ := (H2.out.later hL).at_ hx
   have x1 := hx1 0 _ rfl; have x2 := hx2 0 _ rfl
   rw [Nat.mul_one, Nat.add_zero] at x1 x2
   have hj0 : (0 : Int) <= (j : Int) := by omega
   have hj1 : (j : Int) < nt2 := by omega
   clear hx hx1 hx2
   go_upto_region 6 with fail
   go_quiet (fail)
   all_goals
    go_wp2_with fail
    exact ⟨⟨j+1, by omega, by go_num, hL.drewN _⟩, by simp [intOf]; omega⟩
  ·obtain rfl : nt2 = j := by omega
   go_wp2_with fail
   go_ret
   exact ⟨rfl, hL⟩
end Go.Proofs.YtncbebfhakcgdaaGreat
