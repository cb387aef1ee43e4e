/- Books: another capacity. -/
import Derived.Test.YtncbebfhakcgdaaGreatC20
import Derived.Test.YtncbebfhakcgdaaGreatC7
import Derived.Laws.OwnMore
import Derived.Lib.Overlaps
import Derived.Lib.AppendZerosOnto
import Derived.Lib.AppendZeros
import Derived.Laws.Externs
set_option linter.unusedVariables false
set_option linter.unusedSimpArgs false
set_option maxRecDepth 100000
namespace Go.Proofs.YtncbebfhakcgdaaGreat
open Go.RowKit Go.Shelf
attribute [local go_sem ↓] Go.wp_at_zero Go.wp_at_succ
theorem grown_trans_alloc {w w' : World} {o : Obj} {r : Option Nat} (h : (w.alloc o).grownBy w' r) : w.grownBy w' r := ⟨h.os, h.tape, h.output, Nat.le_trans (by simp) h.size, fun b hb hne => (h.block b (by simp; omega) hne).trans (Below.heap_alloc w o b hb)⟩
def capLen (w : World) (G : Nat) : Nat := match w.cell? ⟨G, 3, none⟩ with
 | some (.slice _ n _) => n
 | _ => 0
theorem capLen_eq {w : World} {G : Nat} {A : Option Addr} {n c : Nat} (h : w.cell? ⟨G, 3, none⟩ = some (.slice A n c)) : capLen w G = n := by unfold capLen; rw [h]
theorem iCells_map (l : List Int) : l.flatMap iCells = l.map (fun z => Value.int .i64 z) := by
 induction l with
 | nil => rfl
 | cons x l ih => rw [List.flatMap_cons, ih]; rfl
theorem KIn.storeC {w0 w : World} {G g2 : Nat} {A1 A3 A4 : Option Addr} {n1 n2 n3 n4 c1 c2 c3 c4 : Nat} {D : PBook} (h : KIn w0 w G A1 (some ⟨g2, 0, none⟩) A3 A4 n1 n2 n3 n4 c1 c2 c3 c4 D) (p : Nat) (hp : p < n2) (q : Int) (hm : MayP { D with caps := D.caps.set p q }) (r : Except Int PBook) (hr : r = .ok { D with caps := D.caps.set p q }) :
 KeepP w0 G r (.returned (.tuple #[])) (w.setCell ⟨g2, p, none⟩ (.int .i64 q)) := by
 have hb := (World.ownsRow.lt h.own.caps g2 rfl).1
 have lt : Later w0 (w.setCell ⟨g2, p, none⟩ (.int .i64 q)) := h.own.lt.setCell hb _
 have hne : g2 ≠ G := h.bC g2 rfl
 have hl : n2 = D.caps.length := (own_len3 h.own.caps).1
 have hs : (w.setCell ⟨g2, p, none⟩ (.int .i64 q)).ownsRow w0.heap.size 3 1 (.slice (some ⟨g2, 0, none⟩) n2 c2) (D.caps.set p q).length ((D.caps.set p q).flatMap iCells) := by
  rw [List.length_set, iCells_map, List.map_set, <- iCells_map, <- hl]
  have h2 := h.own.caps
  rw [<- hl] at h2
  exact (h2.stored p (.int .i64 q)).1
 obtain ⟨es, h1, h2⟩ := h.own.its
 have o := Only.one g2 w p (.int .i64 q)
 refine ⟨lt, ?_⟩
 rw [hr]
 exact ⟨rfl, hm, _, _, _, _, _, _, _, _, _, _, _, _, ⟨lt, ⟨es, h1, own_only h2 o (fun k hk e => h.own.aIC k hk (by rw [e]; rfl))⟩, hs, own_only h.own.ords o (fun k hk e => h.own.aCO g2 rfl (by rw [hk, e])), own_only h.own.mks o (fun k hk e => h.own.aCM g2 rfl (by rw [hk, e])), h.own.aIC, h.own.aIO, h.own.aIM, h.own.aCO, h.own.aCM, h.own.aOM⟩, h.row.only o (Ne.symm hne), h.lo, h.bI, h.bC, h.bO, h.bM⟩
theorem caps_may {D : PBook} (h : MayP D) {l : List Int} (h1 : l.length <= 40) (h2 : ∀ c ∈ l, 0 <= c /\ c <= 100) : MayP { D with caps := l } := ⟨head_of h.head rfl rfl ⟨h.head.t0, h.head.t40⟩ ⟨h1, h2⟩, h.ol, h.ml, h.ords, h.mks, h.oris, h.mris⟩
set_option maxHeartbeats 2000000 in
theorem capacity_calls (w : World) (w0 : World) (G : Nat) (A1 A2 A3 A4 Aq : Option Addr) (n1 n2 n3 n4 nq c1 c2 c3 c4 cq : Nat) (D : PBook) (o : POp) (hK : KIn w0 w G A1 A2 A3 A4 n1 n2 n3 n4 c1 c2 c3 c4 D) (hmay : MayP D) :
 Calls Tryz.prog 35 #[.pointer (some ⟨G, 0, none⟩), .agg #[.int .i64 o.kind, .int .i64 o.ord.id, .int .i64 o.ord.item, .int .i64 o.ord.due, .int .i64 o.ord.qty, .int .i64 o.id, .int .i64 o.period, .int .i64 o.qty, .slice Aq nq cq]] w (KeepP w0 G (capS D o.period o.qty)) := by
 have HK := hide hK; have HMY := hide hmay
 clear hK hmay
 obtain ⟨W0, hW0⟩ : ∃ W0, W0 = (w.alloc (Obj.cells #[Value.int .i64 o.kind, Value.int .i64 o.ord.id, Value.int .i64 o.ord.item, Value.int .i64 o.ord.due, Value.int .i64 o.ord.qty, Value.int .i64 o.id, Value.int .i64 o.period, Value.int .i64 o.qty, Value.slice Aq nq cq] 31)) := ⟨_, rfl⟩
 have B0 := hide (show Later w W0 by rw [hW0]; exact (Later.refl _).alloc _)
 have HR0 := hide (show Row W0 w.heap.size 31 [.int .i64 o.kind, .int .i64 o.ord.id, .int .i64 o.ord.item, .int .i64 o.ord.due, .int .i64 o.ord.qty, .int .i64 o.id, .int .i64 o.period, .int .i64 o.qty, .slice Aq nq cq] by rw [hW0]; exact Row.new _ _ _)
 have HW0 := hide hW0
 clear hW0
 go_enter Tryz.func35, Tryz.ntmps35
 go_upto_region 1 with fail
 rw [<- HW0.out]
 have hk := HK.out.later B0.out
 have x3 := HR0.out.cell (i := 6) rfl
 have x4 := HR0.out.cell (i := 7) rfl
 obtain ⟨c, hc⟩ : ∃ c, (if (0 <= o.qty /\ o.qty <= 100) then perE D o.period else 1) = c := ⟨_, rfl⟩
 by_cases hne : c ≠ 0
 ·have HV : Hid (capS D o.period o.qty = .error c) := hide (by
   unfold capS
   by_cases g : 0 <= o.qty /\ o.qty <= 100
   ·rw [if_pos g] at hc; rw [if_neg (by omega), hc, if_pos hne]
   ·rw [if_neg g] at hc; rw [if_pos (by omega), hc])
  by_cases g1 : 0 <= o.qty
  ·have t1 : decide (0 <= o.qty) = true := by simpa using g1
   obtain ⟨u, hu⟩ : ∃ u, decide (o.qty <= 100) = u := ⟨_, rfl⟩
   have HC : Hid ((if u = true then perE D o.period else 1) = c) := hide (by
    rw [<- hc, <- hu]
    by_cases g2 : o.qty <= 100
    ·rw [if_pos (by simpa using g2), if_pos ⟨g1, g2⟩]
    ·rw [if_neg (by simpa using g2), if_neg (fun h => g2 h.2)])
   clear hc
   go_wp2_with (go_at_call 79; (with_reducible refine (per_calls _ G A1 A2 A3 A4 n1 n2 n3 n4 c1 c2 c3 c4 D hk.row (Sq.of_own mCells_len hk.own.mks) (by have := HMY.out.ml; omega) o.period _ _ HC.out).mono ?_); rintro e w1 ⟨b1, hh⟩; obtain ⟨-, rfl⟩ := hh.resolve_left (fun h => hne h.1))
   exact ⟨rfl, hk.own.lt.trans b1, by rw [HV.out]⟩
  ·have t1 : decide (0 <= o.qty) = false := by simpa using g1
   have HC : Hid ((if false = true then perE D o.period else 1) = c) := hide (by rw [if_neg (by simp), <- hc, if_neg (fun h => g1 h.1)])
   clear hc
   go_wp2_with (go_at_call 79; (with_reducible refine (per_calls _ G A1 A2 A3 A4 n1 n2 n3 n4 c1 c2 c3 c4 D hk.row (Sq.of_own mCells_len hk.own.mks) (by have := HMY.out.ml; omega) o.period _ _ HC.out).mono ?_); rintro e w1 ⟨b1, hh⟩; obtain ⟨-, rfl⟩ := hh.resolve_left (fun h => hne h.1))
   exact ⟨rfl, hk.own.lt.trans b1, by rw [HV.out]⟩
 ·have hc0 : c = 0 := by omega
  subst hc0
  have hg : 0 <= o.qty /\ o.qty <= 100 := by
   refine Classical.byContradiction fun g => ?_
   rw [if_neg g] at hc; omega
  rw [if_pos hg] at hc
  obtain ⟨p1, p2, p3, p4⟩ := perE_ok hc
  have HV : Hid (capS D o.period o.qty = .ok { D with caps := setC D.caps o.period.toNat o.qty }) := hide (by unfold capS; rw [if_neg (by omega), if_neg (by rw [hc]; simp)])
  have HC : Hid ((if true = true then perE D o.period else 1) = 0) := hide (by rw [if_pos rfl]; exact hc)
  have t1 : decide (0 <= o.qty) = true := by simpa using hg.1
  have t2 : decide (o.qty <= 100) = true := by simpa using hg.2
  have HG := hide hg
  clear hc p3 p4 hne
  go_wp2_with (go_at_call 79; (with_reducible refine (per_calls _ G A1 A2 A3 A4 n1 n2 n3 n4 c1 c2 c3 c4 D hk.row (Sq.of_own mCells_len hk.own.mks) (by have := HMY.out.ml; omega) o.period _ _ HC.out).mono ?_); rintro e w1 ⟨b1, hh⟩; obtain ⟨-, rfl⟩ := hh.resolve_right (fun h => h.1 rfl))
  obtain ⟨N, hN⟩ : ∃ N, N = max D.caps.length (o.period.toNat + 1) := ⟨_, rfl⟩
  have HN := hide hN
  have HPR := hide (show 0 <= o.period /\ o.period <= 39 from ⟨p1, p2⟩)
  have K1 : Hid (KIn w0 w1 G A1 A2 A3 A4 n1 n2 n3 n4 c1 c2 c3 c4 D) := hide (hk.later b1)
  have HR1 := hide (HR0.out.later b1)
  have HGL := hide HK.out.row.lt
  have hlim : N <= 40 := by have := HMY.out.head.cl; omega
  have HQ0 : Hid (∀ k, (Value.slice A2 n2 c2).ownBlock = some k -> k ≠ w.heap.size) := hide (fun k hk => by have := (World.ownsRow.lt HK.out.own.caps k hk).2; omega)
  clear hk hN x3 x4 p1 p2 t1 t2 b1
  go_loopw [] (fun wr => ∃ A2' n2' c2' j, Hid (KIn w0 wr G A1 A2' A3 A4 n1 n2' n3 n4 c1 c2' c3 c4 { D with caps := D.caps ++ List.replicate j 0 }) /\ D.caps.length + j <= N /\ Hid (Row wr w.heap.size 31 [.int .i64 o.kind, .int .i64 o.ord.id, .int .i64 o.ord.item, .int .i64 o.ord.due, .int .i64 o.ord.qty, .int .i64 o.id, .int .i64 o.period, .int .i64 o.qty, .slice Aq nq cq]) /\ Hid (∀ k, (Value.slice A2' n2' c2').ownBlock = some k -> k ≠ w.heap.size)) (fun wr => 41 - capLen wr G)
  case atStart => exact ⟨A2, n2, c2, 0, hide (by rw [List.replicate_zero, List.append_nil]; exact K1.out), by have := HN.out; omega, HR1, HQ0⟩
  case round =>
   obtain ⟨A2', n2', c2', j, HI, hj, HBX, HQ⟩ := hrel
   have HL2 : Hid (n2' = D.caps.length + j) := hide (by have := (own_len3 HI.out.own.caps).1; simpa using this)
   have HT1 : Hid (∀ w', Later wr w' -> w'.cell? ⟨G, 3, none⟩ = some (.slice A2' n2' c2') /\ w'.cell? ⟨w.heap.size, 6, none⟩ = some (.int .i64 o.period)) := hide fun w' hb => ⟨(HI.out.row.later hb).cell rfl, (HBX.out.later hb).cell rfl⟩
   have hmx : Tryz.prog.follows .mixedOrders = true := by kernel_rfl
   by_cases hlt : (n2' : Int) <= o.period
   ·have t5 : decide ((n2' : Int) <= o.period) = true := by simpa using hlt
    go_upto_region 2 with fail
    refine wp_region_N (fun w' => w'.cell? ⟨G, 3, none⟩ = some (.slice A2' n2' c2') /\ w'.cell? ⟨w.heap.size, 6, none⟩ = some (.int .i64 o.period)) [] hmx (HT1.out _ lt_) (fun hHeld => ?_)
    refine tkB 16 0 ?_
    refine tkB 17 1 ?_
    refine tkB 18 2 ?_
    refine tkB 19 3 ?_
    refine tkB 20 4 ?_
    refine tkB 21 5 ?_
    refine tkB 22 6 ?_
    refine tkB 23 7 ?_
    refine tkB 24 8 ?_
    refine wpAnyN_done (by kernel_rfl) ?_ _
    clear hHeld
    have hcell := (HI.out.row.drew).cell (i := 3) rfl
    have HD := hide (HI.out.later (show Later wr wr.drew from (Later.refl _).drew))
    have HBD := hide HBX.out.drew
    have HSRC : Hid (Src ((wr.alloc (Obj.cells #[Value.int .i64 0] 3)).drew) 1 (.slice (some ⟨wr.heap.size, 0, none⟩) 1 1) 1 [.int .i64 0]) := hide ⟨rfl, by simp; rfl, .inr ⟨_, _, rfl, fun j u hj => by rw [addr_add, Nat.zero_add]; exact (Row.new wr 3 [.int .i64 0]).drew.cell hj⟩⟩
    have hn40 : n2' <= 40 := by have := HL2.out; omega
    have HBS : Hid (w0.heap.size <= ((wr.alloc (Obj.cells #[Value.int .i64 0] 3)).drew).heap.size) := hide (by have := HI.out.own.lt.size; simp; omega)
    have HOWN : Hid (((wr.alloc (Obj.cells #[Value.int .i64 0] 3)).drew).ownsRow w0.heap.size 3 1 (.slice A2' n2' c2') n2' ((D.caps ++ List.replicate j 0).flatMap iCells)) := hide (by have h := HI.out.own.caps; have e := (own_len3 h).1; rw [<- e] at h; exact World.ownsRow.drew (World.ownsRow.alloc h _))
    go_wp2_with (at_builtin; (refine wpList_append_src rfl (.tmp 30) (.tmp 31) 23 rfl w0.heap.size 3 (.int .i64 0) 1 8 Tryz.underlying23 info_int rfl (by omega) (by omega) _ n2' _ rfl HOWN.out _ 1 [.int .i64 0] rfl HSRC.out (by omega) HBS.out ?_); intro v' w2 hown hg hblk; obtain ⟨A5, c5, rfl⟩ := own_form hown; have hblk2 : (Value.slice A5 (n2' + 1) c5).ownBlock = (Value.slice A2' n2' c2').ownBlock ∨ ∃ j0, wr.heap.size <= j0 /\ (Value.slice A5 (n2' + 1) c5).ownBlock = some j0 := hblk.imp (fun e => e) (fun e => ⟨_, (by show wr.heap.size <= (wr.alloc _).heap.size; simp), e⟩); have hg2 : wr.drew.grownBy w2 (Value.slice A2' n2' c2').ownBlock := grown_trans_alloc (w := wr.drew) hg; have hne : some G ≠ (Value.slice A2' n2' c2').ownBlock := (fun e => HD.out.bC G e.symm rfl); have rk := HD.out.row.grown hg2 hne; have k3 := rk.cell (i := 3) rfl; have kz3 := rk.frozen 3; clear rk hne)
    go_roundw
    case rel =>
     have hfr : ∀ k, (Value.slice A5 (n2' + 1) c5).ownBlock = some k -> (Value.slice A2' n2' c2').ownBlock = some k ∨ wr.drew.heap.size <= k := fun k hk => by
      rcases hblk2 with e | ⟨j0, e0, e⟩
      ·left; rw [<- e]; exact hk
      ·right; rw [e] at hk; injection hk with hk; subst hk; exact e0
     have hlen : (D.caps ++ List.replicate (j + 1) 0).length = n2' + 1 := by have := HL2.out; simp; omega
     refine ⟨A5, n2' + 1, c5, j + 1, hide ?_, by have := HL2.out; have := HN.out; omega, hide ?_, hide (fun k hk => ?_)⟩
     ·exact HD.out.stepC hg2 (D.caps ++ List.replicate (j + 1) 0) (by
       rw [hlen, List.replicate_succ', <- List.append_assoc, List.flatMap_append]; exact hown) hfr
     ·exact (HBD.out.grown hg2 (fun e => HQ.out _ e.symm rfl)).far (by have h1 := HI.out.row.lt; have h2 := HBX.out.lt; have h3 := HGL.out; show w.heap.size ≠ G; omega) _
     ·rcases hfr k hk with e | e
      ·exact HQ.out k e
      ·have h2 := HBX.out.lt; have e' : wr.heap.size <= k := e; omega
    case measure =>
     have h1 := capLen_eq hcell
     have h2 := capLen_eq (((HD.out.row.grown hg2 (fun e => HD.out.bC G e.symm rfl)).set_ 3 (.slice A5 (n2' + 1) c5)).cell (i := 3) rfl)
     have h3 : capLen wr G = n2' := h1
     rw [h2, h3]; omega
   ·have t5 : decide ((n2' : Int) <= o.period) = false := by simpa using hlt
    go_upto_region 2 with fail
    refine wp_region_N (fun w' => w'.cell? ⟨G, 3, none⟩ = some (.slice A2' n2' c2') /\ w'.cell? ⟨w.heap.size, 6, none⟩ = some (.int .i64 o.period)) [] hmx (HT1.out _ lt_) (fun hHeld => ?_)
    refine tkB 16 0 ?_
    refine tkB 17 1 ?_
    refine tkB 18 2 ?_
    refine tkB 19 3 ?_
    refine tkB 20 4 ?_
    refine tkB 21 5 ?_
    refine tkB 22 6 ?_
    refine tkB 23 7 ?_
    refine tkB 24 8 ?_
    refine wpAnyN_done (by kernel_rfl) ?_ _
    clear hHeld
    have hpn : o.period.toNat < n2' := by have := HPR.out; omega
    obtain ⟨g2, rfl⟩ := own_some HI.out.own.caps (by have := HL2.out; simp; omega)
    have HD := hide (HI.out.later (show Later wr wr.drew from (Later.refl _).drew))
    have HT4 : Hid (∀ w', Later wr.drew w' -> w'.cell? ⟨G, 3, none⟩ = some (.slice (some ⟨g2, 0, none⟩) n2' c2') /\ w'.cell? ⟨w.heap.size, 6, none⟩ = some (.int .i64 o.period) /\ w'.cell? ⟨w.heap.size, 7, none⟩ = some (.int .i64 o.qty)) := hide fun w' hb => ⟨(HD.out.row.later hb).cell rfl, (HBX.out.drew.later hb).cell rfl, (HBX.out.drew.later hb).cell rfl⟩
    have hp0 : 0 <= o.period := HPR.out.1
    have hp1 : o.period < (n2' : Int) := by omega
    have hp2 : o.period.toNat < n2' := hpn
    have HCS : Hid (∀ w', Later wr.drew w' -> w'.cell? ⟨g2, o.period.toNat, none⟩ = some (.int .i64 ((D.caps ++ List.replicate j 0).getD o.period.toNat 0)) /\ w'.frozen? ⟨g2, o.period.toNat, none⟩ = false) := hide fun w' hb => by
     obtain ⟨-, hn, hb0, hnc, hcm, cs, hr, hl, hx⟩ := own_row (own_later HD.out.own.caps hb)
     refine ⟨hr.cell ?_, hr.frozen _⟩
     have hx2 : (cs.take (n2' * 1))[o.period.toNat]? = some (Value.int .i64 ((D.caps ++ List.replicate j 0).getD o.period.toNat 0)) := by
      rw [hx, iCells_map, List.getElem?_map, List.getD_eq_getElem?_getD, List.getElem?_eq_getElem (by omega)]; rfl
     rw [List.getElem?_take] at hx2
     split at hx2
     ·exact hx2
     ·cases hx2
    go_upto_region 4 with fail
    refine wp_region_N (fun w' => w'.cell? ⟨G, 3, none⟩ = some (.slice (some ⟨g2, 0, none⟩) n2' c2') /\ w'.cell? ⟨w.heap.size, 6, none⟩ = some (.int .i64 o.period) /\ w'.cell? ⟨w.heap.size, 7, none⟩ = some (.int .i64 o.qty)) [10] hmx (HT4.out _ lt_) (fun hHeld => ?_)
    refine tkB 36 0 ?_
    refine tkB 37 1 ?_
    refine tkB 38 2 ?_
    refine tkB 39 3 ?_
    refine tkB 40 4 ?_
    refine tkB 41 5 ?_
    refine tkB 42 6 ?_
    refine tkB 43 7 ?_
    refine tkB 44 8 ?_
    refine tkB 45 9 ?_
    refine wpAnyN_ready (rs := [10]) (by kernel_rfl) (by simp) ?_
    refine AllReadyN.free rfl (by rfl) (by kernel_rfl) (fun K hK => ?_) AllReadyN.nil
    have hcs := HCS.out _ (show Later wr.drew _ from lt_)
    obtain ⟨hcs1, hcs2⟩ := hcs
    go_simp
    refine hK.out _ _ ?_
    clear hK K
    try simp only [Act.put, s1_, s2_, s3_]
    refine wpAnyN_done (by kernel_rfl) ?_ _
    clear hHeld
    go_end0
    have hle : setC D.caps o.period.toNat o.qty = (D.caps ++ List.replicate j 0).set o.period.toNat o.qty := by
     unfold setC
     have h1 := HL2.out; have h2 := HN.out
     by_cases hh : o.period.toNat < D.caps.length
     ·rw [show o.period.toNat + 1 - D.caps.length = 0 by omega, show j = 0 by omega]
     ·rw [show o.period.toNat + 1 - D.caps.length = j by omega]
    have hkd := HD.out.later (show Later wr.drew wr.drew.drew from (Later.refl _).drew)
    refine hkd.storeC o.period.toNat hpn o.qty ?_ _ (by rw [HV.out, hle])
    have hm := caps_may HMY.out (l := (D.caps ++ List.replicate j 0).set o.period.toNat o.qty) (by have := HL2.out; rw [List.length_set, List.length_append, List.length_replicate]; omega) (fun c hc => by
     rcases List.mem_or_eq_of_mem_set hc with h | h
     ·rcases List.mem_append.1 h with h | h
      ·exact HMY.out.head.caps c h
      ·rw [List.eq_of_mem_replicate h]; decide
     ·rw [h]; exact HG.out)
    exact hm
end Go.Proofs.YtncbebfhakcgdaaGreat
namespace Go.Proofs.YtncbebfhakcgdaaGreat
open Go.RowKit Go.Shelf
attribute [local go_sem ↓] Go.wp_at_zero Go.wp_at_succ
set_option maxHeartbeats 4000000 in
theorem ord1_calls (w : World) (x : POrd) (t z : Int) (hz : cmpI x.id t = z) :
 Calls Tryz.prog 74 #[.agg #[.int .i64 x.id, .int .i64 x.item, .int .i64 x.due, .int .i64 x.qty], .int .i64 t] w (RetV w (.int .i64 z)) := by
 have HZ := hide hz
 clear hz
 obtain ⟨W0, hW0⟩ : ∃ W0, W0 = (w.alloc (Obj.cells #[Value.int .i64 x.id, Value.int .i64 x.item, Value.int .i64 x.due, Value.int .i64 x.qty] 29)) := ⟨_, rfl⟩
 have B0 := hide (show Later w W0 by rw [hW0]; exact (Later.refl _).alloc _)
 have HR0 := hide (show Row W0 w.heap.size 29 [.int .i64 x.id, .int .i64 x.item, .int .i64 x.due, .int .i64 x.qty] by rw [hW0]; exact Row.new _ _ _)
 have HW0 := hide hW0
 clear hW0
 go_enter Tryz.func74, Tryz.ntmps74
 go_upto_region 1 with fail
 rw [<- HW0.out]
 have d0 := HR0.out.cell (i := 0) rfl
 go_wp2_with (go_at_call 65; (with_reducible refine (icompare_calls _ x.id t _ HZ.out).mono ?_); rintro e w1 ⟨rfl, rfl⟩)
 go_ret
 exact ⟨rfl, B0.out⟩
theorem pw_le {l : List POrd} (hp : l.Pairwise fun a b => a.id < b.id) {k m : Nat} (h : k <= m) {y x : POrd} (hy : l[k]? = some y) (hx : l[m]? = some x) : y.id <= x.id := by
 obtain ⟨k1, e1⟩ := List.getElem?_eq_some_iff.1 hy
 obtain ⟨k2, e2⟩ := List.getElem?_eq_some_iff.1 hx
 by_cases e : k = m
 ·subst e; rw [<- e1, <- e2]; exact Int.le_refl _
 ·have := (List.pairwise_iff_getElem.1 hp) k m k1 k2 (by omega)
  rw [e1, e2] at this; omega
def BsP (w : World) (l : List POrd) (t : Int) (e : Ending) (w' : World) : Prop := Later w w' /\ ∃ i : Nat, e = .returned (.tuple #[.int .i64 i, .bool (l.any fun x => decide (x.id = t))]) /\ i <= l.length /\ (∀ (j : Nat) x, j < i -> l[j]? = some x -> x.id < t) /\ (∀ (j : Nat) x, i <= j -> l[j]? = some x -> t <= x.id)
set_option maxHeartbeats 1000000 in
theorem bs_calls (w : World) (A : Option Addr) (n c : Nat) (l : List POrd) (h : Sq 4 oCells w (.slice A n c) l) (hl : l.length <= 1000) (hp : l.Pairwise fun a b => a.id < b.id) (t : Int) :
 Calls Tryz.prog 73 #[.slice A n c, .int .i64 t, .func (.func 74) #[] #[]] w (BsP w l t) := by
 have hn : n = l.length := by
  obtain ⟨A', n', c', e, e2, -⟩ := h.form
  injection e with _ e _; omega
 have H := hide h; have HP := hide hp; have HN := hide hn
 have hn1 : n <= 1000 := by omega
 clear h hp hn
 go_enter Tryz.func73, Tryz.ntmps73
 go_wp2_with fail
 go_loopw [9, 10] (fun i jv wr => ∃ a b : Nat, i = .int .i64 (a : Int) /\ jv = .int .i64 (b : Int) /\ a <= b /\ b <= n /\ Hid (Later w wr) /\ Hid (∀ (k : Nat) x, k < a -> l[k]? = some x -> x.id < t) /\ Hid (∀ (k : Nat) x, b <= k -> l[k]? = some x -> t <= x.id)) (fun i jv _ => (intOf jv).toNat - (intOf i).toNat)
 case atStart => exact ⟨0, n, rfl, rfl, Nat.zero_le _, Nat.le_refl _, hide (Later.refl _), hide (fun k x hk => by omega), hide (fun k x hk hx => by have := (List.getElem?_eq_some_iff.1 hx).1; have := HN.out; omega)⟩
 case round =>
  obtain ⟨a, b, rfl, rfl, hab, hbn, HL, HA, HB⟩ := hrel
  by_cases hlt : a < b
  ·have t1 : decide ((a : Int) < (b : Int)) = true := by simpa using hlt
   go_upto_region 5 with fail
   obtain ⟨m, hm⟩ : ∃ m : Nat, m = (a + b) / 2 := ⟨_, rfl⟩
   have hme : ((a : Int) + (b : Int)) / 2 = (m : Int) := by omega
   rw [hme]
   have hma : a <= m := by omega
   have hmb : m < b := by omega
   clear hme hm
   obtain ⟨x, hx⟩ : ∃ x, l[m]? = some x := ⟨l[m]'(by have := HN.out; omega), List.getElem?_eq_getElem _⟩
   obtain ⟨b3, off3, rfl, x0, x1, x2, x3⟩ := (H.out.later HL.out).at4 hx
   have hi0 : (0 : Int) <= (m : Int) := by omega
   have hi1 : (m : Int) < (n : Int) := by omega
   obtain ⟨z, hz⟩ : ∃ z, cmpI x.id t = z := ⟨_, rfl⟩
   obtain ⟨u, hu⟩ : ∃ u, decide (z < 0) = u := ⟨_, rfl⟩
   have HZ := hide hz; have HU := hide hu; have HX := hide hx
   clear hz hx
   clear hu
   cases u with
   | true =>
     have hxt : Hid (x.id < t) := hide (by have h1 := HU.out; rw [<- HZ.out] at h1; unfold cmpI at h1; split at h1; assumption; split at h1 <;> simp at h1)
     have HUT : decide (z < 0) = true := HU.out
     go_wp2_with (go_at_call 74; (with_reducible refine (ord1_calls _ x t _ HZ.out).mono ?_); rintro e w1 ⟨rfl, b1⟩)
     exact ⟨⟨m + 1, b, by go_num, rfl, by omega, hbn, hide (HL.out.trans b1), hide (fun k y hk hy => by have := pw_le HP.out (show k <= m by omega) hy HX.out; have := hxt.out; omega), HB⟩, by simp [intOf]; omega⟩
   | false =>
     have hxt : Hid (t <= x.id) := hide (by have h1 := HU.out; rw [<- HZ.out] at h1; unfold cmpI at h1; split at h1; simp at h1; omega)
     have HUT : decide (z < 0) = false := HU.out
     go_wp2_with (go_at_call 74; (with_reducible refine (ord1_calls _ x t _ HZ.out).mono ?_); rintro e w1 ⟨rfl, b1⟩)
     exact ⟨⟨a, m, rfl, rfl, hma, by omega, hide (HL.out.trans b1), HA, hide (fun k y hk hy => by have := pw_le HP.out hk HX.out hy; have := hxt.out; omega)⟩, by simp [intOf]; omega⟩
  ·have hab2 : a = b := by omega
   subst hab2
   have t1 : decide ((a : Int) < (a : Int)) = false := by simp
   by_cases han : a < n
   ·obtain ⟨x, hx⟩ : ∃ x, l[a]? = some x := ⟨l[a]'(by have := HN.out; omega), List.getElem?_eq_getElem _⟩
    obtain ⟨b3, off3, rfl, x0, x1, x2, x3⟩ := (H.out.later HL.out).at4 hx
    have hi0 : (0 : Int) <= (a : Int) := by omega
    have hi1 : (a : Int) < (n : Int) := by omega
    have t2 : decide ((a : Int) < (n : Int)) = true := by simpa using han
    obtain ⟨z, hz⟩ : ∃ z, cmpI x.id t = z := ⟨_, rfl⟩
    have HZ := hide hz
    have HF : Hid ((z == 0) = l.any fun x => decide (x.id = t)) := hide (by
     rw [<- hz]
     by_cases e : x.id = t
     ·rw [List.any_eq_true.2 ⟨x, List.mem_of_getElem? hx, by simpa using e⟩]
      unfold cmpI; rw [if_neg (by omega), if_neg (by omega)]; rfl
     ·rw [List.any_eq_false.2 (fun y hy => by
       intro e2
       have e3 : y.id = t := by simpa using e2
       obtain ⟨k, hk, hk2⟩ := List.getElem_of_mem hy
       have hk3 : l[k]? = some y := by rw [List.getElem?_eq_getElem hk, hk2]
       have h1 := HB.out a x (Nat.le_refl _) hx
       by_cases hka : k < a
       ·have := HA.out k y hka hk3; omega
       ·have := pw_le HP.out (show a <= k by omega) hx hk3; omega)]
      unfold cmpI
      split
      ·rfl
      ·split
       ·rfl
       ·omega)
    clear hz hx
    go_wp2_with (go_at_call 74; (with_reducible refine (ord1_calls _ x t _ HZ.out).mono ?_); rintro e w1 ⟨rfl, b1⟩)
    go_ret2
    exact ⟨HL.out.trans b1, a, by rw [<- HF.out]; rfl, by have := HN.out; omega, HA.out, HB.out⟩
   ·have t2 : decide ((a : Int) < (n : Int)) = false := by simpa using han
    have HF : Hid (false = l.any fun x => decide (x.id = t)) := hide (by
     symm
     refine List.any_eq_false.2 fun y hy e2 => ?_
     have e3 : y.id = t := by simpa using e2
     obtain ⟨k, hk, hk2⟩ := List.getElem_of_mem hy
     have := HA.out k y (by have := HN.out; omega) (by rw [List.getElem?_eq_getElem hk, hk2])
     omega)
    go_wp2_with (go_at_call 74; (with_reducible refine (ord1_calls _ x t _ HZ.out).mono ?_); rintro e w1 ⟨rfl, b1⟩)
    go_ret2
    exact ⟨HL.out, a, by rw [<- HF.out]; rfl, by have := HN.out; omega, HA.out, HB.out⟩
end Go.Proofs.YtncbebfhakcgdaaGreat
namespace Go.Proofs.YtncbebfhakcgdaaGreat
open Go.RowKit Go.Shelf
attribute [local go_sem ↓] Go.wp_at_zero Go.wp_at_succ
def InsP (w : World) (lo : Nat) (A : Option Addr) (n c : Nat) (l : List POrd) (e : Ending) (w' : World) : Prop := ∃ A' c', e = .returned (.slice A' (n + 1) c') /\ w'.ownsRow lo 29 4 (.slice A' (n + 1) c') (n + 1) (l.flatMap oCells) /\ w.grownBy w' (Value.slice A n c).ownBlock /\ ∀ k, (Value.slice A' (n + 1) c').ownBlock = some k -> (Value.slice A n c).ownBlock = some k ∨ w.heap.size <= k
theorem src_one {w : World} {h : Nat} {o : POrd} (hh : Row w h 29 (oCells o)) : Src w 4 (.slice (some ⟨h, 0, none⟩) 1 1) 1 (oCells o) := ⟨rfl, oCells_one o, .inr ⟨_, _, rfl, fun j u hj => by rw [addr_add, Nat.zero_add]; exact hh.cell hj⟩⟩
set_option maxHeartbeats 1000000 in
theorem insEnd_calls (w : World) (lo : Nat) (A : Option Addr) (n c : Nat) (l : List POrd) (hO : w.ownsRow lo 29 4 (.slice A n c) n (l.flatMap oCells)) (hn1 : n <= 1000) (h : Nat) (o : POrd) (hh : Row w h 29 (oCells o)) (hlo : lo <= w.heap.size) :
 Calls Tryz.prog 75 #[.slice A n c, .int .i64 n, .slice (some ⟨h, 0, none⟩) 1 1] w (InsP w lo A n c (l ++ [o])) := by
 have hnc := (own_len3 hO).2.1
 have hcm : c <= 9223372036854775807 := (own_len3 hO).2.2
 have HO := hide hO; have HH := hide (src_one hh)
 clear hO hh
 obtain ⟨av, hav⟩ : ∃ av, (if c = n then A else Option.map (fun x : Addr => x.add (n * 4)) A) = av := ⟨_, rfl⟩
 go_enter Tryz.func75, Tryz.ntmps75
 go_wp2_with (at_builtin; refine wpList_append_src rfl (.tmp 23) (.tmp 24) 24 rfl lo 29 (.agg #[.int .i64 0, .int .i64 0, .int .i64 0, .int .i64 0]) 4 32 Tryz.underlying24 info_o4 rfl (by omega) (by omega) _ n _ rfl HO.out _ 1 _ rfl HH.out (by omega) hlo ?_; intro v' w2 hown hg hblk; obtain ⟨A5, c5, rfl⟩ := own_form hown; have hg2 : w.grownBy w2 (Value.slice A n c).ownBlock := hg; have hblk2 : (Value.slice A5 (n + 1) c5).ownBlock = (Value.slice A n c).ownBlock ∨ (Value.slice A5 (n + 1) c5).ownBlock = some w.heap.size := hblk; clear hg hblk)
 go_ret
 refine ⟨A5, c5, rfl, by rw [List.flatMap_append, List.flatMap_cons, List.flatMap_nil, List.append_nil]; exact hown, hg2, fun k hk => ?_⟩
 rcases hblk2 with e | e
 ·left; rw [<- hk, e]
 ·right; rw [e] at hk; injection hk with hk; omega
set_option maxHeartbeats 1000000 in
theorem insRoom_calls (w : World) (lo g c n : Nat) (l : List POrd) (i : Nat) (hi : i < n) (hO : w.ownsRow lo 29 4 (.slice (some ⟨g, 0, none⟩) n c) n (l.flatMap oCells)) (hn1 : n <= 1000) (hroom : n + 1 <= c) (h : Nat) (o : POrd) (hh : Row w h 29 (oCells o)) (hne : h ≠ g) :
 Calls Tryz.prog 75 #[.slice (some ⟨g, 0, none⟩) n c, .int .i64 i, .slice (some ⟨h, 0, none⟩) 1 1] w (InsP w lo (some ⟨g, 0, none⟩) n c (l.take i ++ o :: l.drop i)) := by
 obtain ⟨-, -, hb, hnc, hcm, cs, hr, hl, hx⟩ := own_row hO
 have hlen : l.length = n := by have := hO.1; rw [flat_len oCells_len] at this; omega
 have HR := hide hr; have HX := hide hx; have HH := hide hh
 have hc2 : c <= 9223372036854775807 := hcm
 clear hO hr hx hh
 have hz2 : ((i : Int) == (n : Int)) = false := by rw [beq_eq_false_iff_ne]; omega
 have hci : ¬ c = i := by omega
 have hic : (i : Int) <= (n : Int) := by omega
 have hrm : decide ((c : Int) < (n : Int) + 1) = false := by simp; omega
 have hci1 : ¬ c = i + 1 := by omega
 have hw1 : IntKind.i64.wrap ((i : Int) + 1) = (i : Int) + 1 := IntWalk.i64_in _ (by omega)
 have hi10 : 0 <= (i : Int) + 1 := by omega
 have hi11 : (i : Int) + 1 <= (n : Int) + 1 := by omega
 have hi12 : (i : Int) <= (n : Int) + 1 := by omega
 have hdl : ((l.drop i).flatMap oCells).length = (n - i) * 4 := by rw [flat_len oCells_len, List.length_drop, hlen]
 obtain ⟨i0, hi0, hz0, hs0, hb0⟩ := info_parts info_o4
 have hsz : ∀ w, (sizeOf 29).run Tryz.prog w = .ok 4 w := fun w => by simp [sizeOf, typeInfo, hi0, hs0, go_sem]
 have hsa : w.shape? h = some (29, 4) := by
  have := HH.out; unfold Row at this; unfold World.shape?; rw [this]; rfl
 have hsb : w.shape? g = some (29, cs.length) := by
  have := HR.out; unfold Row at this; unfold World.shape?; rw [this]; simp
 have hov : ∀ lb cb, (callFunc 107 #[.slice (some ⟨h, 0, none⟩) 1 1, .slice (some ⟨g, (i + 1) * 4, none⟩) lb cb]).run Tryz.prog w = .ok (.value (.bool false)) w := fun lb cb => by
  rw [run_callFunc_extern Tryz.func107 (by kernel_rfl) (by kernel_rfl) (by kernel_rfl) (e := Extern.SlicesOverlaps.overlaps #[24, 24] #[4]) (by kernel_rfl),
   Lib.run_overlaps_apart w 24 4 29 Tryz.underlying24 4 hsz ⟨h, 0, none⟩ ⟨g, (i + 1) * 4, none⟩ 1 1 lb cb hne 29 29 4 cs.length hsa hsb (by omega) (HH.out.frozen 0) (HH.out.frozen 4)]
  rfl
 have HCP1 : Hid (∀ ty dc sc, (Builtin.copy_ #[24, 24] ty #[.slice (some ⟨g, (i + 1) * 4, none⟩) (n + 1 - (i + 1)) dc, .slice (some ⟨g, i * 4, none⟩) (n + 1 - i) sc]).run Tryz.prog w.drew = .ok (goInt ((n - i : Nat) : Int)) (w.drew.setRow g (spl cs ((i + 1) * 4) ((l.drop i).flatMap oCells)).toArray)) := hide (fun ty dc sc => run_copy_rec (o := (i + 1) * 4) (dLen := n + 1 - (i + 1)) 24 24 ty 29 i0 Tryz.underlying24 hi0 HR.out.drew ⟨g, i * 4, none⟩ (n + 1 - i) sc (n - i) ((l.drop i).flatMap oCells) (by simp only [Nat.min_def]; split <;> omega) (by rw [hs0, hdl]) (fun j u hj => by
  rw [addr_add]
  refine HR.out.drew.cell ?_
  rw [<- flat_drop oCells_len, <- HX.out, List.getElem?_drop, List.getElem?_take] at hj
  split at hj
  ·exact hj
  ·cases hj) (fun u hu => by obtain ⟨x, hx, hu⟩ := List.mem_flatMap.1 hu; exact oCells_one x u hu) (by rw [hdl]; omega))
 have hmx : Tryz.prog.follows .mixedOrders = true := by kernel_rfl
 clear hsz hsa hsb hz0 hb0
 go_enter Tryz.func75, Tryz.ntmps75
 go_upto_region 15 with (simp only [hov])
 refine wp_region_N (fun _ => True) [] hmx trivial (fun hHeld => ?_)
 refine tkB 69 0 ?_
 refine tkB 70 1 ?_
 refine tkB 71 2 ?_
 refine tkB 72 3 ?_
 refine tkB 73 4 ?_
 refine tkB 74 5 ?_
 refine tkB 75 6 ?_
 refine tkB 76 7 ?_
 refine wpAnyN_ready (rs := [8]) (by kernel_rfl) (by simp) ?_
 refine AllReadyN.held rfl (by rfl) (fun K hK => ?_) AllReadyN.nil
 refine wp_copy_at (.tmp 73) (.tmp 76) 24 24 rfl (.slice (some ⟨g, (i + 1) * 4, none⟩) (n + 1 - (i + 1)) (c - (i + 1))) (.slice (some ⟨g, i * 4, none⟩) (n + 1 - i) (c - i)) (by first | rfl | simp [Act.eval]) (by first | rfl | simp [Act.eval]) (HCP1.out _ _ _) ?_
 obtain ⟨W1, hW1⟩ : ∃ W1, W1 = (w.drew.setRow g (spl cs ((i + 1) * 4) ((l.drop i).flatMap oCells)).toArray) := ⟨_, rfl⟩
 have HR1 : Hid (Row W1 g 29 (spl cs ((i + 1) * 4) ((l.drop i).flatMap oCells))) := hide (by rw [hW1]; exact row_setRow HR.out.drew)
 have HO1 : Hid (Only g w.drew W1) := hide (by rw [hW1]; exact only_setRow _ _ _)
 rw [<- hW1]
 clear hW1
 refine hK.out _ _ ?_ (fun hHeld => ?_)
 ·trivial
 clear hK K
 try simp only [Act.put, s1_, s2_, s3_]
 refine wpAnyN_done (by kernel_rfl) ?_ _
 clear hHeld
 have HH1 := hide (HH.out.drew.only HO1.out hne)
 have HCP2 : Hid (∀ ty dc, (Builtin.copy_ #[24, 24] ty #[.slice (some ⟨g, i * 4, none⟩) (n + 1 - i) dc, .slice (some ⟨h, 0, none⟩) 1 1]).run Tryz.prog W1 = .ok (goInt 1) (W1.setRow g (spl (spl cs ((i + 1) * 4) ((l.drop i).flatMap oCells)) (i * 4) (oCells o)).toArray)) := hide (fun ty dc => run_copy_rec (o := i * 4) (dLen := n + 1 - i) 24 24 ty 29 i0 Tryz.underlying24 hi0 HR1.out ⟨h, 0, none⟩ 1 1 1 (oCells o) (by simp only [Nat.min_def]; split <;> omega) (by rw [hs0]; rfl) (fun j u hj => by rw [addr_add, Nat.zero_add]; exact HH1.out.cell hj) (oCells_one o) (by rw [spl_len (by rw [hdl]; omega), hl]; show i * 4 + 4 <= _; omega))
 have hcp2 := HCP2.out
 go_wp2_with fail
 go_ret
 have e : cs.take (n * 4) = l.flatMap oCells := HX.out
 have e1 : cs.take (i * 4) = (l.take i).flatMap oCells := by rw [<- flat_take oCells_len, <- e, List.take_take, Nat.min_eq_left (by omega)]
 have e2 := spl_two (cs := cs) (X := oCells o) (S := (l.drop i).flatMap oCells) (a := i * 4) (by show i * 4 + 4 <= _; omega)
 rw [oCells_len, show i * 4 + 4 = (i + 1) * 4 by omega] at e2
 refine ⟨some ⟨g, 0, none⟩, c, rfl, own_mk (row_setRow HR1.out) hb hroom hcm ?_ ?_, ?_, fun k hk => .inl hk⟩
 ·rw [spl_len (by rw [spl_len (by rw [hdl]; omega), hl]; show i * 4 + 4 <= _; omega), spl_len (by rw [hdl]; omega), hl]
 ·rw [e2, List.flatMap_append, List.flatMap_cons, e1, <- List.append_assoc, List.take_append_of_le_length (by simp only [List.length_append, hdl, flat_len oCells_len, oCells_len, List.length_take]; omega), List.take_of_length_le (by simp only [List.length_append, hdl, flat_len oCells_len, oCells_len, List.length_take]; omega), List.append_assoc]
 ·exact grown_only (Later.refl w).drew (HO1.out.trans (only_setRow _ _ _))
set_option maxHeartbeats 2000000 in
theorem insGrow_calls (w : World) (lo g c n : Nat) (l : List POrd) (i : Nat) (hi : i < n) (hO : w.ownsRow lo 29 4 (.slice (some ⟨g, 0, none⟩) n c) n (l.flatMap oCells)) (hn1 : n <= 1000) (hroom : c < n + 1) (h : Nat) (o : POrd) (hh : Row w h 29 (oCells o)) (hlo : lo <= w.heap.size) :
 Calls Tryz.prog 75 #[.slice (some ⟨g, 0, none⟩) n c, .int .i64 i, .slice (some ⟨h, 0, none⟩) 1 1] w (InsP w lo (some ⟨g, 0, none⟩) n c (l.take i ++ o :: l.drop i)) := by
 obtain ⟨-, -, hb, hnc, hcm, cs, hr, hl, hx⟩ := own_row hO
 have hlen : l.length = n := by have := hO.1; rw [flat_len oCells_len] at this; omega
 have HR := hide hr; have HX := hide hx; have HH := hide hh
 have hgw := hr.lt; have hhw := hh.lt
 have hc2 : c <= 9223372036854775807 := hcm
 clear hO hr hx hh
 have hz2 : ((i : Int) == (n : Int)) = false := by rw [beq_eq_false_iff_ne]; omega
 have hci : ¬ c = i := by omega
 have hic : (i : Int) <= (n : Int) := by omega
 have hrm : decide ((c : Int) < (n : Int) + 1) = true := by simp; omega
 have hw1 : IntKind.i64.wrap ((i : Int) + 1) = (i : Int) + 1 := IntWalk.i64_in _ (by omega)
 have hw2 : IntKind.i64.wrap ((n : Int) + 1) = (n : Int) + 1 := IntWalk.i64_in _ (by omega)
 have hw3 : IntKind.i64.wrap ((n : Int) + 1 - (i : Int)) = (n : Int) + 1 - (i : Int) := IntWalk.i64_in _ (by omega)
 have hi10 : 0 <= (i : Int) + 1 := by omega
 have hi11 : (i : Int) + 1 <= (n : Int) + 1 := by omega
 have hi12 : (i : Int) <= (n : Int) + 1 := by omega
 have hic3 : i <= c := by omega
 have hdl : ((l.drop i).flatMap oCells).length = (n - i) * 4 := by rw [flat_len oCells_len, List.length_drop, hlen]
 obtain ⟨i0, hi0, hz0, hs0, hb0⟩ := info_parts info_o4
 have hold : (Builtin.firstCells i0.size i (.slice (some ⟨g, 0, none⟩) i c)).run Tryz.prog w.drew = .ok (cs.take (i * 4)).toArray w.drew := by
  rw [hs0]
  exact run_firstCells_some (P := Tryz.prog) (w := w.drew) 4 i ⟨g, 0, none⟩ i c (cs.take (i * 4)) (by rw [List.length_take, Nat.min_eq_left (by omega)]) (fun j v hj => by
   rw [addr_add, Nat.zero_add, List.getElem?_take] at *
   split at hj
   ·exact HR.out.drew.cell hj
   ·cases hj)
 have hkk : (n : Int) + 1 - (i : Int) = ((n + 1 - i : Nat) : Int) := by omega
 obtain ⟨G', hG⟩ : ∃ G', G' = grownCap w (n + 1) c 29 := ⟨_, rfl⟩
 obtain ⟨ROW, hROW⟩ : ∃ ROW : List Value, ROW = cs.take (i * 4) ++ (Builtin.zeroCells (.agg #[.int .i64 0, .int .i64 0, .int .i64 0, .int .i64 0] : Value).cells (n + 1 - i)).toList ++ (Builtin.zeroCells (.agg #[.int .i64 0, .int .i64 0, .int .i64 0, .int .i64 0] : Value).cells (G' - (n + 1))).toList := ⟨_, rfl⟩
 have hrz : ∀ ty, (Builtin.append_ #[24, 3] ty #[.slice (some ⟨g, 0, none⟩) i c, .int .i64 ((n : Int) + 1 - (i : Int))]).run Tryz.prog w = .ok (.slice (some ⟨w.heap.size, 0, none⟩) (n + 1) G') (w.drew.alloc (.cells ROW.toArray 29)) := fun ty => by
  have h := Lib.run_append_grow_zeros (P := Tryz.prog) w 24 3 ty 29 i0 _ .i64 .i64 Tryz.underlying24 Tryz.underlying3 hi0 hz0 (some ⟨g, 0, none⟩) i c (cs.take (i * 4)) hold (n + 1 - i) (by omega) (by rw [hs0]; omega) (by omega) (by omega) (by rw [hb0]; omega) (by rw [hb0]; exact growslice_fits (by omega) (by omega))
  rw [show i + (n + 1 - i) = n + 1 by omega, <- hG] at h
  rw [hkk]
  have e : (cs.take (i * 4)).toArray ++ Builtin.zeroCells (.agg #[.int .i64 0, .int .i64 0, .int .i64 0, .int .i64 0] : Value).cells (n + 1 - i) ++ Builtin.zeroCells (.agg #[.int .i64 0, .int .i64 0, .int .i64 0, .int .i64 0] : Value).cells (G' - (n + 1)) = ROW.toArray := by rw [hROW]; simp
  rw [e] at h
  exact h
 have HG1 : Hid (n + 1 <= G') := hide (by rw [hG]; exact grownCap_ge _ _ _ _)
 have HGM : Hid (G' <= maxLen) := hide (by rw [hG]; exact grownCap_le_maxLen _ _ _ _ (by unfold maxLen; omega))
 have HRL : Hid (ROW.length = G' * 4) := hide (by have := HG1.out; rw [hROW]; simp [Builtin.zeroCells, Value.cells, hl]; omega)
 have HROW := hide hROW
 have hG1 : n + 1 <= G' := HG1.out
 have hGi : ¬ G' = i := by omega
 have hGi1 : ¬ G' = i + 1 := by omega
 have hG2 : G' <= 9223372036854775807 := HGM.out
 obtain ⟨W1, hW1⟩ : ∃ W1, W1 = w.drew.alloc (.cells ROW.toArray 29) := ⟨_, rfl⟩
 rw [<- hW1] at hrz
 have HL1 : Hid (Later w W1) := hide (by rw [hW1]; exact (Later.refl w).drew.alloc _)
 have HR1 : Hid (Row W1 w.heap.size 29 ROW) := hide (by rw [hW1]; exact Row.new w.drew _ _)
 have HH1 := hide (HH.out.later HL1.out)
 obtain ⟨cs1, hcs1⟩ : ∃ cs1, cs1 = spl ROW (i * 4) (oCells o) := ⟨_, rfl⟩
 have HC1 := hide hcs1
 obtain ⟨W2, hW2⟩ : ∃ W2, W2 = (W1.setRow w.heap.size cs1.toArray) := ⟨_, rfl⟩
 have hcp1 : ∀ ty dc, (Builtin.copy_ #[24, 24] ty #[.slice (some ⟨w.heap.size, i * 4, none⟩) (n + 1 - i) dc, .slice (some ⟨h, 0, none⟩) 1 1]).run Tryz.prog W1 = .ok (goInt 1) W2 := fun ty dc => by
  rw [hW2, hcs1]
  exact run_copy_rec (o := i * 4) (dLen := n + 1 - i) 24 24 ty 29 i0 Tryz.underlying24 hi0 HR1.out ⟨h, 0, none⟩ 1 1 1 (oCells o) (by simp only [Nat.min_def]; split <;> omega) (by rw [hs0]; rfl) (fun j u hj => by rw [addr_add, Nat.zero_add]; exact HH1.out.cell hj) (oCells_one o) (by rw [HRL.out]; show i * 4 + 4 <= _; omega)
 have HR2 : Hid (Row W2 w.heap.size 29 cs1) := hide (by rw [hW2]; exact row_setRow HR1.out)
 have HL2 : Hid (Later w W2) := hide (by rw [hW2]; exact HL1.out.only (only_setRow _ _ _) (Nat.le_refl _))
 have HRO := hide (HR.out.later HL2.out)
 have HCP2 : Hid (∀ ty dc sc, (Builtin.copy_ #[24, 24] ty #[.slice (some ⟨w.heap.size, (i + 1) * 4, none⟩) (n + 1 - (i + 1)) dc, .slice (some ⟨g, i * 4, none⟩) (n - i) sc]).run Tryz.prog W2.drew = .ok (goInt ((n - i : Nat) : Int)) (W2.drew.setRow w.heap.size (spl cs1 ((i + 1) * 4) ((l.drop i).flatMap oCells)).toArray)) := hide (fun ty dc sc => run_copy_rec (o := (i + 1) * 4) (dLen := n + 1 - (i + 1)) 24 24 ty 29 i0 Tryz.underlying24 hi0 HR2.out.drew ⟨g, i * 4, none⟩ (n - i) sc (n - i) ((l.drop i).flatMap oCells) (by simp only [Nat.min_def]; split <;> omega) (by rw [hs0, hdl]) (fun j u hj => by
  rw [addr_add]
  refine HRO.out.drew.cell ?_
  rw [<- flat_drop oCells_len, <- HX.out, List.getElem?_drop, List.getElem?_take] at hj
  split at hj
  ·exact hj
  ·cases hj) (fun u hu => by obtain ⟨x, hx, hu⟩ := List.mem_flatMap.1 hu; exact oCells_one x u hu) (by rw [hdl, HC1.out, spl_len (by rw [HRL.out]; show i * 4 + 4 <= _; omega), HRL.out]; omega))
 have hmx : Tryz.prog.follows .mixedOrders = true := by kernel_rfl
 clear hW1 hW2 hcs1 hROW hG hold hz0 hb0 hkk
 go_enter Tryz.func75, Tryz.ntmps75
 go_upto_region 11 with (at_builtin; refine Lib.wpList_append_run _ rfl (.tmp 34) (.tmp 39) 24 3 rfl _ _ rfl rfl _ _ (hrz _) ?_)
 refine wp_region_N (fun _ => True) [] hmx trivial (fun hHeld => ?_)
 refine tkB 46 0 ?_
 refine tkB 47 1 ?_
 refine tkB 48 2 ?_
 refine tkB 49 3 ?_
 refine tkB 50 4 ?_
 refine tkB 51 5 ?_
 refine tkB 52 6 ?_
 refine tkB 53 7 ?_
 refine wpAnyN_ready (rs := [8]) (by kernel_rfl) (by simp) ?_
 refine AllReadyN.held rfl (by rfl) (fun K hK => ?_) AllReadyN.nil
 refine wp_copy_at (.tmp 50) (.tmp 53) 24 24 rfl (.slice (some ⟨w.heap.size, (i + 1) * 4, none⟩) (n + 1 - (i + 1)) (G' - (i + 1))) (.slice (some ⟨g, i * 4, none⟩) (n - i) (c - i)) (by first | rfl | simp [Act.eval]) (by first | rfl | simp [Act.eval]) (HCP2.out _ _ _) ?_
 obtain ⟨W3, hW3⟩ : ∃ W3, W3 = (W2.drew.setRow w.heap.size (spl cs1 ((i + 1) * 4) ((l.drop i).flatMap oCells)).toArray) := ⟨_, rfl⟩
 have HR3 : Hid (Row W3 w.heap.size 29 (spl cs1 ((i + 1) * 4) ((l.drop i).flatMap oCells))) := hide (by rw [hW3]; exact row_setRow HR2.out.drew)
 have HO3 : Hid (Only w.heap.size W2.drew W3) := hide (by rw [hW3]; exact only_setRow _ _ _)
 rw [<- hW3]
 clear hW3
 refine hK.out _ _ ?_ (fun hHeld => ?_)
 ·trivial
 clear hK K
 try simp only [Act.put, s1_, s2_, s3_]
 refine wpAnyN_done (by kernel_rfl) ?_ _
 clear hHeld
 go_wp2_with fail
 go_ret
 have e : cs.take (n * 4) = l.flatMap oCells := HX.out
 have e1 : ROW.take (i * 4) = (l.take i).flatMap oCells := by
  rw [HROW.out, List.append_assoc, List.take_append_of_le_length (by rw [List.length_take]; omega), List.take_take, Nat.min_self, <- flat_take oCells_len, <- e, List.take_take, Nat.min_eq_left (by omega)]
 have hl1 : cs1.length = G' * 4 := by rw [HC1.out, spl_len (by show i * 4 + 4 <= _; have := HRL.out; omega), HRL.out]
 have e2 : cs1.take ((i + 1) * 4) = (l.take i).flatMap oCells ++ oCells o := by
  rw [HC1.out, show (i + 1) * 4 = i * 4 + (oCells o).length by rw [oCells_len]; omega, spl_take2 (by show i * 4 + 4 <= _; have := HRL.out; omega), e1]
 refine ⟨some ⟨w.heap.size, 0, none⟩, G', rfl, own_mk HR3.out (by omega) (by omega) HGM.out ?_ ?_, ?_, fun k hk => .inr ?_⟩
 ·rw [spl_len (by rw [hdl]; omega), hl1]
 ·rw [show (n + 1) * 4 = (i + 1) * 4 + ((l.drop i).flatMap oCells).length by rw [hdl]; omega, spl_take2 (by rw [hdl]; omega), e2, List.flatMap_append, List.flatMap_cons, List.append_assoc]
 ·have h1 : Later w W2.drew := HL2.out.drew
  exact ⟨HO3.out.os.trans h1.os, HO3.out.tape.trans h1.tape, HO3.out.output.trans h1.output, by rw [HO3.out.size]; exact h1.size, fun b hb _ => (HO3.out.block b (by omega)).trans (h1.block b hb)⟩
 ·have : w.heap.size = k := by injection hk
  omega
end Go.Proofs.YtncbebfhakcgdaaGreat
namespace Go.Proofs.YtncbebfhakcgdaaGreat
open Go.RowKit Go.Shelf
attribute [local go_sem ↓] Go.wp_at_zero Go.wp_at_succ
theorem insO_calls (w : World) (lo : Nat) (A : Option Addr) (n c : Nat) (l : List POrd) (i : Nat) (hi : i <= n) (hO : w.ownsRow lo 29 4 (.slice A n c) n (l.flatMap oCells)) (hn1 : n <= 1000) (h : Nat) (o : POrd) (hh : Row w h 29 (oCells o)) (hlo : lo <= w.heap.size) (hne : ∀ k, (Value.slice A n c).ownBlock = some k -> k ≠ h) :
 Calls Tryz.prog 75 #[.slice A n c, .int .i64 i, .slice (some ⟨h, 0, none⟩) 1 1] w (InsP w lo A n c (l.take i ++ o :: l.drop i)) := by
 have hlen : l.length = n := by have := hO.1; rw [flat_len oCells_len] at this; omega
 by_cases e : i = n
 ·subst e
  rw [List.take_of_length_le (by omega), List.drop_of_length_le (by omega)]
  exact insEnd_calls w lo A i c l hO hn1 h o hh hlo
 ·obtain ⟨g, rfl⟩ := own_some hO (by omega)
  by_cases hr : n + 1 <= c
  ·exact insRoom_calls w lo g c n l i (by omega) hO hn1 hr h o hh (Ne.symm (hne g rfl))
  ·exact insGrow_calls w lo g c n l i (by omega) hO hn1 (by omega) h o hh hlo
theorem may_one {D : PBook} (h : MayP D) (o : POrd) : mayB { D with ords := [o] } = decide (o.okP D.items.length) := by
 by_cases g : o.okP D.items.length
 ·rw [decide_eq_true g]
  refine mayB_iff.2 ⟨head_of h.head rfl rfl ⟨h.head.t0, h.head.t40⟩ ⟨h.head.cl, h.head.caps⟩, by simp, h.ml, fun x hx => ?_, h.mks, fun i a b h1 h2 => by simp at h2, h.mris⟩
  have : x = o := by simpa using hx
  rw [this]; exact g
 ·rw [decide_eq_false g]
  exact mayB_not.2 fun h2 => g (h2.ords o (by simp))
theorem ins_filter {l : List POrd} (hp : l.Pairwise fun a b => a.id < b.id) {o : POrd} {i : Nat} (h1 : ∀ (j : Nat) x, j < i -> l[j]? = some x -> x.id < o.id) (h2 : ∀ (j : Nat) x, i <= j -> l[j]? = some x -> o.id <= x.id) (h3 : ∀ x ∈ l, x.id ≠ o.id) : insO l o = l.take i ++ o :: l.drop i := by
 have e := List.take_append_drop i l
 have a1 : ∀ x ∈ l.take i, x.id < o.id := fun x hx => by
  obtain ⟨k, hk, rfl⟩ := List.getElem_of_mem hx
  rw [List.length_take] at hk
  exact h1 k _ (by omega) (by rw [List.getElem_take]; exact List.getElem?_eq_getElem _)
 have a2 : ∀ x ∈ l.drop i, o.id < x.id := fun x hx => by
  have := h3 x (List.mem_of_mem_drop hx)
  obtain ⟨k, hk, rfl⟩ := List.getElem_of_mem hx
  rw [List.length_drop] at hk
  have := h2 (i + k) ((l.drop i)[k]) (by omega) (by rw [List.getElem_drop]; exact List.getElem?_eq_getElem _)
  omega
 unfold insO
 rw [show l.filter (fun x => decide (x.id < o.id)) = l.take i from by
  conv => lhs; rw [<- e]
  rw [List.filter_append, filt_all (fun x hx => by simpa using a1 x hx), filt_none (fun x hx => by have := a2 x hx; simp; omega), List.append_nil],
  show l.filter (fun x => decide (o.id < x.id)) = l.drop i from by
   conv => lhs; rw [<- e]
   rw [List.filter_append, filt_none (fun x hx => by have := a1 x hx; simp; omega), filt_all (fun x hx => by simpa using a2 x hx), List.nil_append]]
set_option maxHeartbeats 4000000 in
theorem order_calls (w : World) (w0 : World) (G : Nat) (A1 A2 A3 A4 Aq : Option Addr) (n1 n2 n3 n4 nq c1 c2 c3 c4 cq : Nat) (D : PBook) (o : POp) (hK : KIn w0 w G A1 A2 A3 A4 n1 n2 n3 n4 c1 c2 c3 c4 D) (hmay : MayP D) (hfit : o.ord.fit) :
 Calls Tryz.prog 33 #[.pointer (some ⟨G, 0, none⟩), .agg #[.int .i64 o.kind, .int .i64 o.ord.id, .int .i64 o.ord.item, .int .i64 o.ord.due, .int .i64 o.ord.qty, .int .i64 o.id, .int .i64 o.period, .int .i64 o.qty, .slice Aq nq cq]] w (KeepP w0 G (ordV D o.ord)) := by
 have HK := hide hK; have HMY := hide hmay
 clear hK hmay
 obtain ⟨W0, hW0⟩ : ∃ W0, W0 = (w.alloc (Obj.cells #[Value.int .i64 o.kind, Value.int .i64 o.ord.id, Value.int .i64 o.ord.item, Value.int .i64 o.ord.due, Value.int .i64 o.ord.qty, Value.int .i64 o.id, Value.int .i64 o.period, Value.int .i64 o.qty, Value.slice Aq nq cq] 31)) := ⟨_, rfl⟩
 have B0 := hide (show Later w W0 by rw [hW0]; exact (Later.refl _).alloc _)
 have HR0 := hide (show Row W0 w.heap.size 31 [.int .i64 o.kind, .int .i64 o.ord.id, .int .i64 o.ord.item, .int .i64 o.ord.due, .int .i64 o.ord.qty, .int .i64 o.id, .int .i64 o.period, .int .i64 o.qty, .slice Aq nq cq] by rw [hW0]; exact Row.new _ _ _)
 have HW0 := hide hW0
 clear hW0
 go_enter Tryz.func33, Tryz.ntmps33
 go_upto_region 1 with fail
 rw [<- HW0.out]
 have hk := HK.out.later B0.out
 have HGW := hide hk.row.lt
 have k0 := hk.row.cell (i := 0) rfl; have k1 := hk.row.cell (i := 1) rfl; have k2 := hk.row.cell (i := 2) rfl; have k3 := hk.row.cell (i := 3) rfl; have k4 := hk.row.cell (i := 4) rfl; have k5 := hk.row.cell (i := 5) rfl
 have x1 := HR0.out.cell (i := 1) rfl; have x2 := HR0.out.cell (i := 2) rfl; have x3 := HR0.out.cell (i := 3) rfl; have x4 := HR0.out.cell (i := 4) rfl
 go_upto_region 2 with fail
 obtain ⟨W1, hW1⟩ : ∃ W1, W1 = (W0.alloc (Obj.cells #[Value.slice A1 n1 c1, Value.int .i64 D.hor, Value.int .i64 D.now, Value.slice A2 n2 c2, Value.slice A3 n3 c3, Value.slice A4 n4 c4] 27)) := ⟨_, rfl⟩
 have l1 : Later W0 W1 := by rw [hW1]; exact (Later.refl _).alloc _
 have r1 : Row W1 W0.heap.size 27 [.slice A1 n1 c1, .int .i64 D.hor, .int .i64 D.now, .slice A2 n2 c2, .slice A3 n3 c3, .slice A4 n4 c4] := by rw [hW1]; exact Row.new _ _ _
 rw [<- hW1]
 have HL1 := hide l1; have HR1 := hide r1
 clear hW1 k0 k1 k2 k3 k4 k5 x1 x2 x3 x4
 have hb1 := HR0.out.later l1
 have x1 := hb1.cell (i := 1) rfl; have x2 := hb1.cell (i := 2) rfl; have x3 := hb1.cell (i := 3) rfl; have x4 := hb1.cell (i := 4) rfl
 have k0 := r1.cell (i := 0) rfl; have kz0 := r1.frozen 0; have k1 := r1.cell (i := 1) rfl; have kz1 := r1.frozen 1; have k2 := r1.cell (i := 2) rfl; have kz2 := r1.frozen 2; have k3 := r1.cell (i := 3) rfl; have kz3 := r1.frozen 3; have k4 := r1.cell (i := 4) rfl; have kz4 := r1.frozen 4; have k5 := r1.cell (i := 5) rfl; have kz5 := r1.frozen 5
 have ka4 := (HR1.out.alloc (Obj.cells #[Value.int .i64 o.ord.id, Value.int .i64 o.ord.item, Value.int .i64 o.ord.due, Value.int .i64 o.ord.qty] 29)).cell (i := 4) rfl
 have kaz4 := (HR1.out.alloc (Obj.cells #[Value.int .i64 o.ord.id, Value.int .i64 o.ord.item, Value.int .i64 o.ord.due, Value.int .i64 o.ord.qty] 29)).frozen 4
 clear r1 l1 hb1
 go_upto_region 3 with fail
 obtain ⟨W2, hW2⟩ : ∃ W2, W2 = ((W1.alloc (Obj.cells #[Value.int .i64 o.ord.id, Value.int .i64 o.ord.item, Value.int .i64 o.ord.due, Value.int .i64 o.ord.qty] 29)).setCell ⟨W0.heap.size, 4, none⟩ (.slice (some ⟨W1.heap.size, 0, none⟩) 1 1)) := ⟨_, rfl⟩
 have l2 : Later W0 W2 := by rw [hW2]; exact (HL1.out.alloc _).setCell (Nat.le_refl _) _
 have r2 : Row W2 W0.heap.size 27 [.slice A1 n1 c1, .int .i64 D.hor, .int .i64 D.now, .slice A2 n2 c2, .slice (some ⟨W1.heap.size, 0, none⟩) 1 1, .slice A4 n4 c4] := by rw [hW2]; exact (HR1.out.alloc _).set_ 4 _
 have r3 : Row W2 W1.heap.size 29 (oCells o.ord) := by rw [hW2]; exact (Row.new W1 29 (oCells o.ord)).far (by have := HR1.out.lt; show W1.heap.size ≠ W0.heap.size; omega) _
 rw [<- hW2]
 have HL2 := hide l2; have HR3 := hide r3
 clear hW2 k0 kz0 k1 kz1 k2 kz2 k3 kz3 k4 kz4 k5 kz5 x1 x2 x3 x4 ka4 kaz4 hk
 have k0 := r2.cell (i := 0) rfl; have k1 := r2.cell (i := 1) rfl; have k2 := r2.cell (i := 2) rfl; have k3 := r2.cell (i := 3) rfl; have k4 := r2.cell (i := 4) rfl; have k5 := r2.cell (i := 5) rfl
 have K2 := hide ((HK.out.later B0.out).later l2)
 have HOB := hide (HR0.out.later l2)
 have BIN : Hid (BookIn W2 (.slice A1 n1 c1) (.slice A2 n2 c2) (.slice (some ⟨W1.heap.size, 0, none⟩) 1 1) (.slice A4 n4 c4) { D with ords := [o.ord] }) := hide (by
  have hb := K2.out.own.book (fit_of_may HMY.out)
  refine ⟨hb.its, hb.caps, ⟨_, 1, rfl, Nat.le_refl _, by decide, fun i x hx => ?_⟩, hb.mks, hb.il, hb.cl, by simp, hb.ml, hb.hfit, hb.nfit, hb.cfit, fun x hx => ?_, hb.mfit⟩
  ·match i, hx with
   | 0, hx => simp at hx; subst hx; exact ⟨_, 0, rfl, fun j u hj => by simpa using HR3.out.cell hj⟩
   | i+1, hx => simp at hx
  ·have : x = o.ord := by simpa using hx
   rw [this]; exact hfit)
 obtain ⟨u1, hu1⟩ : ∃ u1, decide (o.ord.okP D.items.length) = u1 := ⟨_, rfl⟩
 have HU1 : Hid (mayB { D with ords := [o.ord] } = u1) := hide (by rw [may_one HMY.out, hu1])
 have HLW : Hid (Later w0 W2) := hide (K2.out.own.lt)
 clear r2 r3 l2
 cases u1 with
 | false =>
   have HV : Hid (ordV D o.ord = .error 1) := hide (by unfold ordV; rw [if_pos hu1])
   clear hu1
   go_wp2_with (first | (go_at_call 30; (with_reducible refine (plmay_calls _ A1 A2 (some ⟨W1.heap.size, 0, none⟩) A4 n1 n2 1 n4 c1 c2 1 c4 { D with ords := [o.ord] } BIN.out _ HU1.out).mono ?_); rintro e w3 ⟨rfl, b3⟩) | (go_at_call 29; refine (must_no _ _).mono ?_; rintro e w' ⟨rfl, rfl⟩))
   exact ⟨rfl, HLW.out.trans b3, by rw [HV.out]⟩
 | true =>
 have hok : o.ord.okP D.items.length := by simpa using hu1
 clear hu1
 go_upto_region 4 with (first | (go_at_call 30; (with_reducible refine (plmay_calls _ A1 A2 (some ⟨W1.heap.size, 0, none⟩) A4 n1 n2 1 n4 c1 c2 1 c4 { D with ords := [o.ord] } BIN.out _ HU1.out).mono ?_); rintro e w3 ⟨rfl, b3⟩) | (go_at_call 29; refine (must_yes _ _).mono ?_; rintro e w' ⟨rfl, rfl⟩))
 have K3 := hide (K2.out.later b3)
 have HB3 := hide (HOB.out.later b3)
 have HL3 := hide (HLW.out.trans b3)
 clear k0 k1 k2 k3 k4 k5 b3
 have hmx : Tryz.prog.follows .mixedOrders = true := by kernel_rfl
 have HT1 : Hid (∀ w', Later w3 w' -> w'.cell? ⟨G, 4, none⟩ = some (.slice A3 n3 c3) /\ w'.cell? ⟨w.heap.size, 1, none⟩ = some (.int .i64 o.ord.id)) := hide fun w' hb => ⟨(K3.out.row.later hb).cell rfl, (HB3.out.later hb).cell rfl⟩
 refine wp_region_N (fun w' => w'.cell? ⟨G, 4, none⟩ = some (.slice A3 n3 c3) /\ w'.cell? ⟨w.heap.size, 1, none⟩ = some (.int .i64 o.ord.id)) [] hmx (HT1.out _ lt_) (fun hHeld => ?_)
 refine tkB 19 0 ?_
 refine tkB 20 1 ?_
 refine tkB 21 2 ?_
 refine tkB 22 3 ?_
 refine tkB 23 4 ?_
 refine tkB 24 5 ?_
 refine tkB 25 6 ?_
 refine tkB 26 7 ?_
 refine wpAnyN_ready (rs := [8]) (by kernel_rfl) (by simp) ?_
 refine AllReadyN.held rfl (by rfl) (fun K hK => ?_) AllReadyN.nil
 go_simp
 refine (bs_calls _ A3 n3 c3 D.ords (Sq.of_own oCells_len (K3.out.later lt_).own.ords) (by have := HMY.out.ol; omega) HMY.out.oPw o.ord.id).mono ?_
 rintro e w5 ⟨b5, i, rfl, hin, hia, hib⟩
 have l5 : Later w3 w5 := Later.trans lt_ b5
 clear b5
 refine hK.out _ _ ?_ (fun hHeld => ?_)
 ·exact HT1.out _ lt_
 clear hK K
 try simp only [Act.put, s1_, s2_, s3_]
 refine tkB 18 9 ?_
 refine tkB 28 10 ?_
 refine tkB 29 11 ?_
 refine tkB 5 12 ?_
 refine tkB 6 13 ?_
 refine wpAnyN_done (by kernel_rfl) ?_ _
 clear hHeld
 have HL5 := hide (HL3.out.trans l5); have K5 := hide (K3.out.later l5); have HB5 := hide (HB3.out.later l5)
 clear l5
 obtain ⟨u2, hu2⟩ : ∃ u2, D.ords.any (fun x => decide (x.id = o.ord.id)) = u2 := ⟨_, rfl⟩
 rw [hu2]
 have HU2 := hide hu2
 clear hu2
 cases u2 with
 | true =>
   have HV : Hid (ordV D o.ord = .error 7) := hide (by unfold ordV; rw [if_neg (by simpa using hok), if_pos HU2.out])
   go_wp2_with (go_at_call 29; refine (must_no _ _).mono ?_; rintro e w' ⟨rfl, rfl⟩)
   exact ⟨rfl, HL5.out, by rw [HV.out]⟩
 | false =>
 go_upto_region 6 with (go_at_call 29; refine (must_yes _ _).mono ?_; rintro e w' ⟨rfl, rfl⟩)
 have HT6 : Hid (∀ w', Later w5 w' -> w'.cell? ⟨w.heap.size, 3, none⟩ = some (.int .i64 o.ord.due) /\ w'.cell? ⟨G, 2, none⟩ = some (.int .i64 D.now)) := hide fun w' hb => ⟨(HB5.out.later hb).cell rfl, (K5.out.row.later hb).cell rfl⟩
 by_cases g2 : o.ord.due < D.now
 ·have HV : Hid (ordV D o.ord = .error 13) := hide (by unfold ordV; rw [if_neg (by simpa using hok), if_neg (by rw [HU2.out]; simp), if_pos g2])
  have t6 : decide (D.now <= o.ord.due) = false := by simp; omega
  refine wp_region_N (fun w' => w'.cell? ⟨w.heap.size, 3, none⟩ = some (.int .i64 o.ord.due) /\ w'.cell? ⟨G, 2, none⟩ = some (.int .i64 D.now)) [] hmx (HT6.out _ lt_) (fun hHeld => ?_)
  refine tkB 33 0 ?_
  refine tkB 34 1 ?_
  refine tkB 35 2 ?_
  refine tkB 36 3 ?_
  refine tkB 37 4 ?_
  refine tkB 38 5 ?_
  refine tkB 39 6 ?_
  refine tkB 40 7 ?_
  refine tkB 41 8 ?_
  refine wpAnyN_ready (rs := [9]) (by kernel_rfl) (by simp) ?_
  refine AllReadyN.held rfl (by rfl) (fun K hK => ?_) AllReadyN.nil
  go_simp
  refine (must_no _ _).mono ?_
  rintro e w2 ⟨rfl, rfl⟩
  exact ⟨rfl, HL5.out.drew, by rw [HV.out]⟩
 ·have t6 : decide (D.now <= o.ord.due) = true := by simp; omega
  refine wp_region_N (fun w' => w'.cell? ⟨w.heap.size, 3, none⟩ = some (.int .i64 o.ord.due) /\ w'.cell? ⟨G, 2, none⟩ = some (.int .i64 D.now)) [] hmx (HT6.out _ lt_) (fun hHeld => ?_)
  refine tkB 33 0 ?_
  refine tkB 34 1 ?_
  refine tkB 35 2 ?_
  refine tkB 36 3 ?_
  refine tkB 37 4 ?_
  refine tkB 38 5 ?_
  refine tkB 39 6 ?_
  refine tkB 40 7 ?_
  refine tkB 41 8 ?_
  refine wpAnyN_ready (rs := [9]) (by kernel_rfl) (by simp) ?_
  refine AllReadyN.held rfl (by rfl) (fun K hK => ?_) AllReadyN.nil
  go_simp
  refine (must_yes _ _).mono ?_
  rintro e w2 ⟨rfl, rfl⟩
  refine hK.out _ _ ?_ (fun hHeld => ?_)
  ·exact HT6.out _ lt_
  clear hK K
  try simp only [Act.put, s1_, s2_, s3_]
  refine wpAnyN_done (by kernel_rfl) ?_ _
  clear hHeld
  have r4 := K5.out.row.drew.cell (i := 4) rfl
  by_cases g3 : 30 <= D.ords.length
  ·have HV : Hid (ordV D o.ord = .error 3) := hide (by unfold ordV; rw [if_neg (by simpa using hok), if_neg (by rw [HU2.out]; simp), if_neg g2, if_pos g3])
   have t7 : decide ((n3 : Int) < 30) = false := by have := (own_len3 K5.out.own.ords).1; simp; omega
   go_wp2_with (go_at_call 29; refine (must_no _ _).mono ?_; rintro e w' ⟨rfl, rfl⟩)
   exact ⟨rfl, HL5.out.drew, by rw [HV.out]⟩
  ·have HV : Hid (ordV D o.ord = .ok { D with ords := D.ords.take i ++ o.ord :: D.ords.drop i }) := hide (by
    unfold ordV
    rw [if_neg (by simpa using hok), if_neg (by rw [HU2.out]; simp), if_neg g2, if_neg g3, ins_filter HMY.out.oPw hia hib (fun x hx e => by have := List.any_eq_false.1 HU2.out x hx; simp at this; exact this e)])
   have t7 : decide ((n3 : Int) < 30) = true := by have := (own_len3 K5.out.own.ords).1; simp; omega
   have HT8 : Hid (∀ w', Later w5 w' -> w'.cell? ⟨G, 4, none⟩ = some (.slice A3 n3 c3) /\ w'.cell? ⟨w.heap.size, 1, none⟩ = some (.int .i64 o.ord.id) /\ w'.cell? ⟨w.heap.size, 2, none⟩ = some (.int .i64 o.ord.item) /\ w'.cell? ⟨w.heap.size, 3, none⟩ = some (.int .i64 o.ord.due) /\ w'.cell? ⟨w.heap.size, 4, none⟩ = some (.int .i64 o.ord.qty)) := hide fun w' hb => ⟨(K5.out.row.later hb).cell rfl, (HB5.out.later hb).cell rfl, (HB5.out.later hb).cell rfl, (HB5.out.later hb).cell rfl, (HB5.out.later hb).cell rfl⟩
   go_upto_region 8 with (go_at_call 29; refine (must_yes _ _).mono ?_; rintro e w' ⟨rfl, rfl⟩)
   refine wp_region_M (fun w' => w'.cell? ⟨G, 4, none⟩ = some (.slice A3 n3 c3) /\ w'.cell? ⟨w.heap.size, 1, none⟩ = some (.int .i64 o.ord.id) /\ w'.cell? ⟨w.heap.size, 2, none⟩ = some (.int .i64 o.ord.item) /\ w'.cell? ⟨w.heap.size, 3, none⟩ = some (.int .i64 o.ord.due) /\ w'.cell? ⟨w.heap.size, 4, none⟩ = some (.int .i64 o.ord.qty)) [14] hmx (HT8.out _ lt_) (fun hHeld => ?_)
   refine wpAnyM_takeD (some 51) (by rfl) (i := 0) (oi := _) (v := ?_) rfl (by kernel_rfl) (by kernel_rfl) (by kernel_rfl) (by kernel_rfl) (fun _ _ _ h => h) (Or.inl ⟨by rfl, ?_⟩) (by assumption) ?_
   rotate_left
   ·intro w hSw; (try dsimp only at hSw); go_simp
    first | done | with_reducible rfl
   try simp only [Act.put, s1_, s2_, s3_]
   refine wpAnyM_takeD (some 52) (by rfl) (i := 1) (oi := _) (v := ?_) rfl (by kernel_rfl) (by kernel_rfl) (by kernel_rfl) (by kernel_rfl) (fun _ _ _ h => h) (Or.inl ⟨by rfl, ?_⟩) (by assumption) ?_
   rotate_left
   ·intro w hSw; (try dsimp only at hSw); go_simp
    first | done | with_reducible rfl
   try simp only [Act.put, s1_, s2_, s3_]
   refine wpAnyM_takeD (some 53) (by rfl) (i := 2) (oi := _) (v := ?_) rfl (by kernel_rfl) (by kernel_rfl) (by kernel_rfl) (by kernel_rfl) (fun _ _ _ h => h) (Or.inl ⟨by rfl, ?_⟩) (by assumption) ?_
   rotate_left
   ·intro w hSw; (try dsimp only at hSw); go_simp
    first | done | with_reducible rfl
   try simp only [Act.put, s1_, s2_, s3_]
   refine wpAnyM_takeD (some 54) (by rfl) (i := 3) (oi := _) (v := ?_) rfl (by kernel_rfl) (by kernel_rfl) (by kernel_rfl) (by kernel_rfl) (fun _ _ _ h => h) (Or.inl ⟨by rfl, ?_⟩) (by assumption) ?_
   rotate_left
   ·intro w hSw; (try dsimp only at hSw); go_simp
    first | done | with_reducible rfl
   try simp only [Act.put, s1_, s2_, s3_]
   refine wpAnyM_takeD (some 55) (by rfl) (i := 4) (oi := _) (v := ?_) rfl (by kernel_rfl) (by kernel_rfl) (by kernel_rfl) (by kernel_rfl) (fun _ _ _ h => h) (Or.inl ⟨by rfl, ?_⟩) (by assumption) ?_
   rotate_left
   ·intro w hSw; (try dsimp only at hSw); go_simp
    first | done | with_reducible rfl
   try simp only [Act.put, s1_, s2_, s3_]
   refine wpAnyM_takeD (some 56) (by rfl) (i := 5) (oi := _) (v := ?_) rfl (by kernel_rfl) (by kernel_rfl) (by kernel_rfl) (by kernel_rfl) (fun _ _ _ h => h) (Or.inl ⟨by rfl, ?_⟩) (by assumption) ?_
   rotate_left
   ·intro w hSw; (try dsimp only at hSw); go_simp
    first | done | with_reducible rfl
   try simp only [Act.put, s1_, s2_, s3_]
   refine wpAnyM_takeD (some 57) (by rfl) (i := 6) (oi := _) (v := ?_) rfl (by kernel_rfl) (by kernel_rfl) (by kernel_rfl) (by kernel_rfl) (fun _ _ _ h => h) (Or.inl ⟨by rfl, ?_⟩) (by assumption) ?_
   rotate_left
   ·intro w hSw; (try dsimp only at hSw); go_simp
    first | done | with_reducible rfl
   try simp only [Act.put, s1_, s2_, s3_]
   refine wpAnyM_takeD (some 58) (by rfl) (i := 7) (oi := _) (v := ?_) rfl (by kernel_rfl) (by kernel_rfl) (by kernel_rfl) (by kernel_rfl) (fun _ _ _ h => h) (Or.inl ⟨by rfl, ?_⟩) (by assumption) ?_
   rotate_left
   ·intro w hSw; (try dsimp only at hSw); go_simp
    first | done | with_reducible rfl
   try simp only [Act.put, s1_, s2_, s3_]
   refine wpAnyM_takeD (some 59) (by rfl) (i := 8) (oi := _) (v := ?_) rfl (by kernel_rfl) (by kernel_rfl) (by kernel_rfl) (by kernel_rfl) (fun _ _ _ h => h) (Or.inl ⟨by rfl, ?_⟩) (by assumption) ?_
   rotate_left
   ·intro w hSw; (try dsimp only at hSw); go_simp
    first | done | with_reducible rfl
   try simp only [Act.put, s1_, s2_, s3_]
   refine wpAnyM_ready (rs := [9]) (by kernel_rfl) (by simp) ?_
   refine AllReadyM.held rfl (by rfl) (fun K hK => ?_) AllReadyM.nil
   go_simp
   refine hK.out _ _ ?_ (fun hHeld => ?_)
   ·exact HT8.out _ lt_
   clear hK K
   try simp only [Act.put, s1_, s2_, s3_]
   refine wpAnyM_ready (rs := [10]) (by kernel_rfl) (by simp) ?_
   refine AllReadyM.held rfl (by rfl) (fun K hK => ?_) AllReadyM.nil
   go_simp
   obtain ⟨W8, hW8⟩ : ∃ W8, W8 = ((w5.alloc (Obj.cells #[Value.int .i64 o.ord.id, Value.int .i64 o.ord.item, Value.int .i64 o.ord.due, Value.int .i64 o.ord.qty] 29)).drew.drew) := ⟨_, rfl⟩
   have hl8 : Later w5 W8 := by rw [hW8]; exact ((Later.refl _).alloc _).drew.drew
   have hr8 : Row W8 w5.heap.size 29 (oCells o.ord) := by rw [hW8]; exact (Row.new w5 29 (oCells o.ord)).drew.drew
   rw [<- hW8]
   clear hW8
   have K8 := K5.out.later hl8
   have HN8 := hide (own_len3 K8.own.ords)
   have ho8 : W8.ownsRow w0.heap.size 29 4 (.slice A3 n3 c3) n3 (D.ords.flatMap oCells) := by have h := K8.own.ords; rw [<- HN8.out.1] at h; exact h
   refine (insO_calls _ w0.heap.size A3 n3 c3 D.ords i (by have := HN8.out.1; omega) ho8 (by have := HN8.out.1; omega) w5.heap.size o.ord hr8 (by have := (HL5.out.trans hl8).size; exact this) (fun k hk e => by have := (World.ownsRow.lt K5.out.own.ords k hk).2; omega)).mono ?_
   rintro e w9 ⟨A9, c9, rfl, hown9, hgr9, hfr9⟩
   have rk9 := K8.row.grown hgr9 (fun e => K8.bO G e.symm rfl)
   have k94 := rk9.cell (i := 4) rfl; have kz94 := rk9.frozen 4
   have rb9 := (HB5.out.later hl8).grown hgr9 (fun e => by have h1 := (World.ownsRow.lt HK.out.own.ords _ e.symm).2; omega)
   refine hK.out _ _ ?_ (fun hHeld => ?_)
   ·exact ⟨rk9.cell rfl, rb9.cell rfl, rb9.cell rfl, rb9.cell rfl, rb9.cell rfl⟩
   clear hK K
   try simp only [Act.put, s1_, s2_, s3_]
   refine wpAnyM_takeP (some 62) (by rfl) (i := 11) (oi := _) (v := ?_) rfl (by kernel_rfl) (by kernel_rfl) (by kernel_rfl) (fun _ _ _ h => h) (Or.inl ⟨by rfl, ?_⟩) ?_
   rotate_left
   ·intro w hSw; clear hSw; go_simp
    first | done | with_reducible rfl
   try simp only [Act.put, s1_, s2_, s3_]
   refine wpAnyM_takeP (some 63) (by rfl) (i := 12) (oi := _) (v := ?_) rfl (by kernel_rfl) (by kernel_rfl) (by kernel_rfl) (fun _ _ _ h => h) (Or.inl ⟨by rfl, ?_⟩) ?_
   rotate_left
   ·intro w hSw; clear hSw; go_simp
    first | done | with_reducible rfl
   try simp only [Act.put, s1_, s2_, s3_]
   refine wpAnyM_takeP (some 64) (by rfl) (i := 13) (oi := _) (v := ?_) rfl (by kernel_rfl) (by kernel_rfl) (by kernel_rfl) (fun _ _ _ h => h) (Or.inl ⟨by rfl, ?_⟩) ?_
   rotate_left
   ·intro w hSw; clear hSw; go_simp
    first | done | with_reducible rfl
   try simp only [Act.put, s1_, s2_, s3_]
   refine wpAnyM_ready (rs := [14]) (by kernel_rfl) (by simp) ?_
   refine AllReadyM.free rfl (by rfl) (by kernel_rfl) (fun K hK => ?_) AllReadyM.nil
   go_simp
   refine hK.out _ _ ?_
   clear hK K
   try simp only [Act.put, s1_, s2_, s3_]
   refine wpAnyM_done (by kernel_rfl) ?_ _
   clear hHeld
   go_end0
   have hlen : (D.ords.take i ++ o.ord :: D.ords.drop i).length = n3 + 1 := by have := HN8.out.1; simp; omega
   refine K8.putO hgr9 (D.ords.take i ++ o.ord :: D.ords.drop i) (by rw [hlen]; exact hown9) (fun k hk => ?_) ?_ _ HV.out
   ·exact hfr9 k hk
   ·have h2 : applyV D (mkOrd o.ord) = .ok { D with ords := D.ords.take i ++ o.ord :: D.ords.drop i } := by rw [apply_ord HMY.out]; exact HV.out
    exact apply_may h2
end Go.Proofs.YtncbebfhakcgdaaGreat
