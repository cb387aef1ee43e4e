/- Books: something committed. -/
import Derived.Test.YtncbebfhakcgdaaGreatC22
import Derived.Test.YtncbebfhakcgdaaGreatC7
import Derived.Maps.OwnSet
set_option linter.unusedVariables false
set_option linter.unusedSimpArgs false
set_option maxRecDepth 100000
namespace Go.Proofs.YtncbebfhakcgdaaGreat
open Go.RowKit Go.Shelf
attribute [local go_sem ↓] Go.wp_at_zero Go.wp_at_succ
theorem sorted_put {D : PBook} {p : Int} {qs : List Int} {l' : List PMk} (hm : MayP D) (hp : perE D p = 0) (hl : qs.length = D.items.length) (hx : MayP { D with mks := putM D.mks p qs }) (hperm : l'.Perm (D.mks ++ mksFrom p qs 0)) (hs : l'.Pairwise fun a b => ltOf cmpM b a = false) : l' = putM D.mks p qs := by
 obtain ⟨b1, b2, b3, b4⟩ := perE_ok hp
 have hn := hm.head.n3
 have hi : ∀ x ∈ D.mks ++ mksFrom p qs 0, 0 <= x.item /\ x.item < 3 := fun x hx => by
  rcases List.mem_append.1 hx with h | h
  ·exact whole_items hm x h
  ·have := mksFrom_mem h; omega
 have hd : (D.mks ++ mksFrom p qs 0).Pairwise fun a b => a.key ≠ b.key := by
  rw [List.pairwise_append]
  refine ⟨hm.mPw.imp fun h => by omega, (mksFrom_pw qs 0).imp fun h => by omega, fun a ha b hb => ?_⟩
  have h1 := b4 a ha; have h2 := (mksFrom_mem hb).1
  have h3 := hi a (List.mem_append_left _ ha); have h4 := hi b (List.mem_append_right _ hb)
  unfold PMk.key; omega
 have hd' : l'.Pairwise fun a b => a.key ≠ b.key := (hperm.pairwise_iff (fun {x y} h e => h e.symm)).2 hd
 refine pw_ext (f := PMk.key) ?_ hx.mPw fun x => ?_
 ·refine List.Pairwise.imp_of_mem (fun {a b} ha hb h => ?_) (hs.and hd')
  have h1 := h.1; have h2 := h.2
  rw [cmpM_lt] at h1
  simp only [decide_eq_false_iff_not] at h1
  have h3 := hi a (hperm.mem_iff.1 ha); have h4 := hi b (hperm.mem_iff.1 hb)
  unfold PMk.key at *; omega
 ·rw [hperm.mem_iff, List.mem_append, putM_mem]
  constructor
  ·rintro (h | h)
   ·exact .inl ⟨h, b4 x h⟩
   ·exact .inr h
  ·rintro (h | h)
   ·exact .inl h.1
   ·exact .inr h
theorem notP_put {D : PBook} {p : Int} {qs : List Int} (hp : perE D p = 0) (k : Nat) : notP p (D.mks ++ mksFrom p (qs.take k) 0) = D.mks := by
 obtain ⟨b1, b2, b3, b4⟩ := perE_ok hp
 unfold notP
 rw [List.filter_append, filt_all (fun x hx => by simpa using b4 x hx), filt_none (fun x hx => by simpa using (mksFrom_mem hx).1), List.append_nil]
theorem mksFrom_snoc (p : Int) : ∀ (qs : List Int) (i : Nat) (q : Int), mksFrom p (qs ++ [q]) i = mksFrom p qs i ++ [⟨((i + qs.length : Nat) : Int), p, q⟩]
 | [], i, q => by simp [mksFrom]
 | x :: qs, i, q => by
   rw [List.cons_append]
   unfold mksFrom
   rw [mksFrom_snoc p qs (i+1) q, List.length_cons, show i + 1 + qs.length = i + (qs.length + 1) by omega]; rfl
theorem KIn.sorted {w0 w w' : World} {G : Nat} {A1 A2 A3 A4 : Option Addr} {n1 n2 n3 n4 c1 c2 c3 c4 : Nat} {D : PBook} (h : KIn w0 w G A1 A2 A3 A4 n1 n2 n3 n4 c1 c2 c3 c4 D) (hg : w.grownBy w' (Value.slice A4 n4 c4).ownBlock) (l : List PMk) (ho : w'.ownsRow w0.heap.size 43 3 (.slice A4 n4 c4) l.length (l.flatMap mCells)) (hm : MayP { D with mks := l }) (r : Except Int PBook) (hr : r = .ok { D with mks := l }) : KeepP w0 G r (.returned (.tuple #[])) w' := by
 have lt : Later w0 w' := h.own.lt.grown hg (fun k hk => (World.ownsRow.lt h.own.mks k hk).1)
 have rk := h.row.grown hg (fun e => by have := h.bM G e.symm; omega)
 refine ⟨lt, ?_⟩
 rw [hr]
 obtain ⟨es, h1, h2⟩ := h.own.its
 exact ⟨rfl, hm, A1, A2, A3, A4, n1, n2, n3, n4, c1, c2, c3, c4, ⟨lt, ⟨es, h1, own_kept h2 hg h.own.aIM⟩, own_kept h.own.caps hg h.own.aCM, own_kept h.own.ords hg h.own.aOM, ho, h.own.aIC, h.own.aIO, h.own.aIM, h.own.aCO, h.own.aCM, h.own.aOM⟩, rk, h.lo, h.bI, h.bC, h.bO, h.bM⟩
theorem sumI_small : ∀ (l : List Int), badQ l = false -> 0 <= sumI l /\ sumI l <= 100 * l.length
 | [], _ => by simp [sumI]
 | x :: l, h => by
   have h1 := List.any_eq_false.1 h x (by simp)
   have h2 := sumI_small l (List.any_eq_false.2 fun y hy => List.any_eq_false.1 h y (by simp [hy]))
   simp at h1
   rw [List.length_cons]; unfold sumI; omega
set_option maxHeartbeats 2000000 in
theorem commit_calls (w : World) (w0 : World) (G : Nat) (A1 A2 A3 A4 Aq : Option Addr) (n1 n2 n3 n4 nq c1 c2 c3 c4 cq : Nat) (D : PBook) (o : POp) (hK : KIn w0 w G A1 A2 A3 A4 n1 n2 n3 n4 c1 c2 c3 c4 D) (hmay : MayP D) (hQ : Sq 1 iCells w0 (.slice Aq nq cq) o.qtys) (hql : o.qtys.length <= 1000) :
 Calls Tryz.prog 37 #[.pointer (some ⟨G, 0, none⟩), .agg #[.int .i64 o.kind, .int .i64 o.ord.id, .int .i64 o.ord.item, .int .i64 o.ord.due, .int .i64 o.ord.qty, .int .i64 o.id, .int .i64 o.period, .int .i64 o.qty, .slice Aq nq cq]] w (KeepP w0 G (comV D o.period o.qtys)) := by
 have HK := hide hK; have HMY := hide hmay; have HQ := hide hQ
 have hnq : nq = o.qtys.length := by
  obtain ⟨A', n', c', e, e2, -⟩ := hQ.form
  injection e with _ e _; omega
 have HNQ := hide hnq
 have HGL := hide HK.out.row.lt
 clear hK hmay hQ hnq
 obtain ⟨W0, hW0⟩ : ∃ W0, W0 = (w.alloc (Obj.cells #[Value.int .i64 o.kind, Value.int .i64 o.ord.id, Value.int .i64 o.ord.item, Value.int .i64 o.ord.due, Value.int .i64 o.ord.qty, Value.int .i64 o.id, Value.int .i64 o.period, Value.int .i64 o.qty, Value.slice Aq nq cq] 31)) := ⟨_, rfl⟩
 have B0 := hide (show Later w W0 by rw [hW0]; exact (Later.refl _).alloc _)
 have HR0 := hide (show Row W0 w.heap.size 31 [.int .i64 o.kind, .int .i64 o.ord.id, .int .i64 o.ord.item, .int .i64 o.ord.due, .int .i64 o.ord.qty, .int .i64 o.id, .int .i64 o.period, .int .i64 o.qty, .slice Aq nq cq] by rw [hW0]; exact Row.new _ _ _)
 have HW0 := hide hW0
 clear hW0
 go_enter Tryz.func37, Tryz.ntmps37
 go_upto_region 1 with fail
 rw [<- HW0.out]
 have hk := HK.out.later B0.out
 have x8 := HR0.out.cell (i := 8) rfl
 have hmf := mkF
 obtain ⟨ub, hub⟩ : ∃ ub, o.qtys.any (fun n => decide (n < 0 ∨ 100 < n)) = ub := ⟨_, rfl⟩
 have HB := hide hub
 clear hub
 go_upto_region 2 with (go_at_call 46; (with_reducible refine (contI0_calls _ _ o.qtys (HQ.out.later (hk.own.lt)) (by omega) _ ⟨fun _ _ => by kernel_rfl⟩ (fun n => decide (n < 0 ∨ 100 < n)) (fun W x hW _ => com1_calls W x) _ HB.out).mono ?_); rintro e w1 ⟨rfl, b1⟩)
 have K1 := hide (hk.later b1); have HB1 := hide (HR0.out.later b1); have HL1 := hide (hk.own.lt.trans b1)
 have HN1 := hide (by obtain ⟨es, h1, h2⟩ := hk.own.its; exact (own_len3 h2).1 : n1 = D.items.length)
 clear hk x8 b1
 have hmx : Tryz.prog.follows .mixedOrders = true := by kernel_rfl
 have HT1 : Hid (∀ w', Later w1 w' -> w'.cell? ⟨w.heap.size, 6, none⟩ = some (.int .i64 o.period) /\ w'.cell? ⟨w.heap.size, 8, none⟩ = some (.slice Aq nq cq) /\ w'.cell? ⟨G, 0, none⟩ = some (.slice A1 n1 c1)) := hide fun w' hb => ⟨(HB1.out.later hb).cell rfl, (HB1.out.later hb).cell rfl, (K1.out.row.later hb).cell rfl⟩
 obtain ⟨ul, hul⟩ : ∃ ul, ((nq : Int) == (n1 : Int)) = ul := ⟨_, rfl⟩
 have HUL := hide hul
 have hl9 : (ul = true) = (o.qtys.length = D.items.length) := by
  rw [<- hul, beq_iff_eq]; have h1 := HNQ.out; have h2 := HN1.out; apply propext; omega
 obtain ⟨c, hc⟩ : ∃ c, (if o.qtys.length = D.items.length /\ badQ o.qtys = false then perE D o.period else 1) = c := ⟨_, rfl⟩
 by_cases hne : c ≠ 0
 ·have HV : Hid (comV D o.period o.qtys = .error c) := hide (by
   unfold comV
   by_cases g1 : o.qtys.length = D.items.length
   ·by_cases g2 : badQ o.qtys = false
    ·rw [if_pos ⟨g1, g2⟩] at hc
     rw [if_neg (fun h => h g1), if_neg (by rw [g2]; simp), hc, if_pos hne]
    ·rw [if_neg (fun h => g2 h.2)] at hc
     rw [if_neg (fun h => h g1), if_pos (by simpa using g2), hc]
   ·rw [if_neg (fun h => g1 h.1)] at hc
    rw [if_pos g1, hc])
  cases ul with
  | false =>
    have HC : Hid ((if false = true then perE D o.period else 1) = c) := hide (by
     rw [if_neg (by simp), <- hc, if_neg (fun h => by rw [<- hl9] at h; exact absurd h.1 (by simp))])
    clear hl9 hc
    refine wp_region_N (fun w' => w'.cell? ⟨w.heap.size, 6, none⟩ = some (.int .i64 o.period) /\ w'.cell? ⟨w.heap.size, 8, none⟩ = some (.slice Aq nq cq) /\ w'.cell? ⟨G, 0, none⟩ = some (.slice A1 n1 c1)) [] hmx (HT1.out _ lt_) (fun hHeld => ?_)
    refine tkB 11 0 ?_
    refine tkB 12 1 ?_
    refine tkB 13 2 ?_
    refine tkB 14 3 ?_
    refine tkB 15 4 ?_
    refine tkB 16 5 ?_
    refine tkB 17 6 ?_
    refine tkB 18 7 ?_
    refine tkB 19 8 ?_
    refine tkB 20 9 ?_
    refine tkB 21 10 ?_
    refine tkB 22 11 ?_
    refine tkB 23 12 ?_
    refine tkB 24 13 ?_
    refine tkU 25 14 ?_
    try simp only [Act.put, s1_, s2_, s3_]
    refine tkU 26 15 ?_
    try simp only [Act.put, s1_, s2_, s3_]
    refine tkB 27 16 ?_
    refine wpAnyN_ready (rs := [17]) (by kernel_rfl) (by simp) ?_
    refine AllReadyN.held rfl (by rfl) (fun K hK => ?_) AllReadyN.nil
    go_simp
    (with_reducible refine (per_calls _ G A1 A2 A3 A4 n1 n2 n3 n4 c1 c2 c3 c4 D (K1.out.later lt_).row (Sq.of_own mCells_len (K1.out.later lt_).own.mks) (by have := HMY.out.ml; omega) o.period _ _ HC.out).mono ?_)
    rintro e w2 ⟨b2, hh⟩
    obtain ⟨-, rfl⟩ := hh.resolve_left (fun h => hne h.1)
    exact ⟨rfl, HL1.out.drew.trans b2, by rw [HV.out]⟩
  | true =>
    have HC : Hid ((if (!ub) = true then perE D o.period else 1) = c) := hide (by
     rw [<- hc]
     have hb2 : badQ o.qtys = ub := HB.out
     rw [hb2]
     have h9 : o.qtys.length = D.items.length := hl9.mp rfl
     cases ub <;> simp [h9])
    clear hl9 hc
    refine wp_region_N (fun w' => w'.cell? ⟨w.heap.size, 6, none⟩ = some (.int .i64 o.period) /\ w'.cell? ⟨w.heap.size, 8, none⟩ = some (.slice Aq nq cq) /\ w'.cell? ⟨G, 0, none⟩ = some (.slice A1 n1 c1)) [] hmx (HT1.out _ lt_) (fun hHeld => ?_)
    refine tkB 11 0 ?_
    refine tkB 12 1 ?_
    refine tkB 13 2 ?_
    refine tkB 14 3 ?_
    refine tkB 15 4 ?_
    refine tkB 16 5 ?_
    refine tkB 17 6 ?_
    refine tkB 18 7 ?_
    refine tkB 19 8 ?_
    refine tkB 20 9 ?_
    refine tkB 21 10 ?_
    refine tkB 22 11 ?_
    refine tkB 23 12 ?_
    refine tkB 24 13 ?_
    refine tkB 25 14 ?_
    refine tkB 26 15 ?_
    refine tkB 27 16 ?_
    refine wpAnyN_ready (rs := [17]) (by kernel_rfl) (by simp) ?_
    refine AllReadyN.held rfl (by rfl) (fun K hK => ?_) AllReadyN.nil
    go_simp
    (with_reducible refine (per_calls _ G A1 A2 A3 A4 n1 n2 n3 n4 c1 c2 c3 c4 D (K1.out.later lt_).row (Sq.of_own mCells_len (K1.out.later lt_).own.mks) (by have := HMY.out.ml; omega) o.period _ _ HC.out).mono ?_)
    rintro e w2 ⟨b2, hh⟩
    obtain ⟨-, rfl⟩ := hh.resolve_left (fun h => hne h.1)
    exact ⟨rfl, HL1.out.drew.trans b2, by rw [HV.out]⟩
 ·have hc0 : c = 0 := by omega
  subst hc0
  have hg : o.qtys.length = D.items.length /\ badQ o.qtys = false := by
   refine Classical.byContradiction fun g => ?_
   rw [if_neg g] at hc; omega
  rw [if_pos hg] at hc
  have hul2 : ul = true := by rw [hl9]; exact hg.1
  have hub2 : ub = false := by have h := HB.out; rw [<- h]; exact hg.2
  subst hul2 hub2
  have HPE := hide hc; have HGQ := hide hg
  have HC : Hid ((if true = true then perE D o.period else 1) = 0) := hide (by rw [if_pos rfl]; exact hc)
  clear hc hne hl9
  refine wp_region_N (fun w' => w'.cell? ⟨w.heap.size, 6, none⟩ = some (.int .i64 o.period) /\ w'.cell? ⟨w.heap.size, 8, none⟩ = some (.slice Aq nq cq) /\ w'.cell? ⟨G, 0, none⟩ = some (.slice A1 n1 c1)) [] hmx (HT1.out _ lt_) (fun hHeld => ?_)
  refine tkB 11 0 ?_
  refine tkB 12 1 ?_
  refine tkB 13 2 ?_
  refine tkB 14 3 ?_
  refine tkB 15 4 ?_
  refine tkB 16 5 ?_
  refine tkB 17 6 ?_
  refine tkB 18 7 ?_
  refine tkB 19 8 ?_
  refine tkB 20 9 ?_
  refine tkB 21 10 ?_
  refine tkB 22 11 ?_
  refine tkB 23 12 ?_
  refine tkB 24 13 ?_
  refine tkB 25 14 ?_
  refine tkB 26 15 ?_
  refine tkB 27 16 ?_
  refine wpAnyN_ready (rs := [17]) (by kernel_rfl) (by simp) ?_
  refine AllReadyN.held rfl (by rfl) (fun K hK => ?_) AllReadyN.nil
  go_simp
  (with_reducible refine (per_calls _ G A1 A2 A3 A4 n1 n2 n3 n4 c1 c2 c3 c4 D (K1.out.later lt_).row (Sq.of_own mCells_len (K1.out.later lt_).own.mks) (by have := HMY.out.ml; omega) o.period _ _ HC.out).mono ?_)
  rintro e w2 ⟨b2, hh⟩
  obtain ⟨-, rfl⟩ := hh.resolve_right (fun h => h.1 rfl)
  have l2 : Later w1 w2 := Later.trans lt_ b2
  clear b2
  refine hK.out _ _ ?_ (fun hHeld => ?_)
  ·exact HT1.out _ lt_
  clear hK K
  try simp only [Act.put, s1_, s2_, s3_]
  refine wpAnyN_done (by kernel_rfl) ?_ _
  clear hHeld
  have K2 := hide (K1.out.later l2); have HB2 := hide (HB1.out.later l2); have HL2 := hide (HL1.out.trans l2)
  clear l2
  have hlen3 : o.qtys.length <= 3 := by have := HGQ.out.1; have := HMY.out.head.n3; omega
  have hx8 := HB2.out.cell (i := 8) rfl
  go_wp2_with fail
  have HSM := hide (sumI_small o.qtys HGQ.out.2)
  go_loopw [5, 32] (fun sv iv wr => ∃ (j : Nat) (A4' : Option Addr) (n4' c4' : Nat), sv = .int .i64 (sumI (o.qtys.take j)) /\ iv = .int .i64 (j : Int) /\ j <= nq /\ Hid (KIn w0 wr G A1 A2 A3 A4' n1 n2 n3 n4' c1 c2 c3 c4' { D with mks := D.mks ++ mksFrom o.period (o.qtys.take j) 0 }) /\ Hid (Row wr w.heap.size 31 [.int .i64 o.kind, .int .i64 o.ord.id, .int .i64 o.ord.item, .int .i64 o.ord.due, .int .i64 o.ord.qty, .int .i64 o.id, .int .i64 o.period, .int .i64 o.qty, .slice Aq nq cq]) /\ Hid (∀ k, (Value.slice A4' n4' c4').ownBlock = some k -> k ≠ w.heap.size)) (fun _ iv _ => nq - (intOf iv).toNat)
  case atStart => exact ⟨0, A4, n4, c4, rfl, rfl, Nat.zero_le _, hide (by rw [List.take_zero]; have e : D.mks ++ mksFrom o.period [] 0 = D.mks := List.append_nil _; rw [e]; exact K2.out), HB2, hide (fun k hk => by have := (World.ownsRow.lt HK.out.own.mks k hk).2; omega)⟩
  case round =>
   obtain ⟨j, A4', n4', c4', rfl, rfl, hj, HI, HBX, HQ4⟩ := hrel
   by_cases hlt : j < nq
   ·have t1 : decide ((j : Int) < (nq : Int)) = true := by simpa using hlt
    obtain ⟨q, hq⟩ : ∃ q, o.qtys[j]? = some q := ⟨o.qtys[j]'(by have := HNQ.out; omega), List.getElem?_eq_getElem _⟩
    obtain ⟨bq, offq, rfl, xq⟩ := (HQ.out.later HI.out.own.lt).at1 hq
    have hj0 : (0 : Int) <= (j : Int) := by omega
    have hj1 : (j : Int) < (nq : Int) := by omega
    have hts : sumI (o.qtys.take (j + 1)) = sumI (o.qtys.take j) + q := by rw [List.take_add_one, hq, sumI_append]; simp [sumI]
    have hq2 : 0 <= q /\ q <= 100 := by have := List.any_eq_false.1 HGQ.out.2 q (List.mem_of_getElem? hq); simp at this; omega
    have hsj := sumI_small (o.qtys.take j) (List.any_eq_false.2 fun y hy => List.any_eq_false.1 HGQ.out.2 y (List.mem_of_mem_take hy))
    have hwr : IntKind.i64.wrap (sumI (o.qtys.take j) + q) = sumI (o.qtys.take j) + q := IntWalk.i64_in _ (by have h9 : (o.qtys.take j).length <= 3 := (by rw [List.length_take]; omega); omega)
    have hwj : IntKind.i64.wrap ((j : Int) + 1) = (j : Int) + 1 := IntWalk.i64_in _ (by have := HNQ.out; omega)
    have HTS := hide hts; have HQJ := hide hq
    clear hts hq hsj hq2
    have HT8 : Hid (∀ w', Later wr w' -> w'.cell? ⟨G, 5, none⟩ = some (.slice A4' n4' c4') /\ w'.cell? ⟨w.heap.size, 6, none⟩ = some (.int .i64 o.period)) := hide fun w' hb => ⟨(HI.out.row.later hb).cell rfl, (HBX.out.later hb).cell rfl⟩
    go_upto_region 8 with fail
    refine wp_region_M (fun w' => w'.cell? ⟨G, 5, none⟩ = some (.slice A4' n4' c4') /\ w'.cell? ⟨w.heap.size, 6, none⟩ = some (.int .i64 o.period)) [16] hmx (HT8.out _ lt_) (fun hHeld => ?_)
    refine wpAnyM_takeD (some 40) (by rfl) (i := 0) (oi := _) (v := ?_) rfl (by kernel_rfl) (by kernel_rfl) (by kernel_rfl) (by kernel_rfl) (fun _ _ _ h => h) (Or.inl ⟨by rfl, ?_⟩) (by assumption) ?_
    rotate_left
    ·intro w hSw; (try dsimp only at hSw); go_simp
     first | done | with_reducible rfl
    try simp only [Act.put, s1_, s2_, s3_]
    refine wpAnyM_takeD (some 41) (by rfl) (i := 1) (oi := _) (v := ?_) rfl (by kernel_rfl) (by kernel_rfl) (by kernel_rfl) (by kernel_rfl) (fun _ _ _ h => h) (Or.inl ⟨by rfl, ?_⟩) (by assumption) ?_
    rotate_left
    ·intro w hSw; (try dsimp only at hSw); go_simp
     first | done | with_reducible rfl
    try simp only [Act.put, s1_, s2_, s3_]
    refine wpAnyM_takeD (some 42) (by rfl) (i := 2) (oi := _) (v := ?_) rfl (by kernel_rfl) (by kernel_rfl) (by kernel_rfl) (by kernel_rfl) (fun _ _ _ h => h) (Or.inl ⟨by rfl, ?_⟩) (by assumption) ?_
    rotate_left
    ·intro w hSw; (try dsimp only at hSw); go_simp
     first | done | with_reducible rfl
    try simp only [Act.put, s1_, s2_, s3_]
    refine wpAnyM_takeD (some 43) (by rfl) (i := 3) (oi := _) (v := ?_) rfl (by kernel_rfl) (by kernel_rfl) (by kernel_rfl) (by kernel_rfl) (fun _ _ _ h => h) (Or.inl ⟨by rfl, ?_⟩) (by assumption) ?_
    rotate_left
    ·intro w hSw; (try dsimp only at hSw); go_simp
     first | done | with_reducible rfl
    try simp only [Act.put, s1_, s2_, s3_]
    refine wpAnyM_takeD (some 44) (by rfl) (i := 4) (oi := _) (v := ?_) rfl (by kernel_rfl) (by kernel_rfl) (by kernel_rfl) (by kernel_rfl) (fun _ _ _ h => h) (Or.inl ⟨by rfl, ?_⟩) (by assumption) ?_
    rotate_left
    ·intro w hSw; (try dsimp only at hSw); go_simp
     first | done | with_reducible rfl
    try simp only [Act.put, s1_, s2_, s3_]
    refine wpAnyM_takeD (some 45) (by rfl) (i := 5) (oi := _) (v := ?_) rfl (by kernel_rfl) (by kernel_rfl) (by kernel_rfl) (by kernel_rfl) (fun _ _ _ h => h) (Or.inl ⟨by rfl, ?_⟩) (by assumption) ?_
    rotate_left
    ·intro w hSw; (try dsimp only at hSw); go_simp
     first | done | with_reducible rfl
    try simp only [Act.put, s1_, s2_, s3_]
    refine wpAnyM_takeD (some 46) (by rfl) (i := 6) (oi := _) (v := ?_) rfl (by kernel_rfl) (by kernel_rfl) (by kernel_rfl) (by kernel_rfl) (fun _ _ _ h => h) (Or.inl ⟨by rfl, ?_⟩) (by assumption) ?_
    rotate_left
    ·intro w hSw; (try dsimp only at hSw); go_simp
     first | done | with_reducible rfl
    try simp only [Act.put, s1_, s2_, s3_]
    refine wpAnyM_takeD (some 47) (by rfl) (i := 7) (oi := _) (v := ?_) rfl (by kernel_rfl) (by kernel_rfl) (by kernel_rfl) (by kernel_rfl) (fun _ _ _ h => h) (Or.inl ⟨by rfl, ?_⟩) (by assumption) ?_
    rotate_left
    ·intro w hSw; (try dsimp only at hSw); go_simp
     first | done | with_reducible rfl
    try simp only [Act.put, s1_, s2_, s3_]
    refine wpAnyM_takeD (some 48) (by rfl) (i := 8) (oi := _) (v := ?_) rfl (by kernel_rfl) (by kernel_rfl) (by kernel_rfl) (by kernel_rfl) (fun _ _ _ h => h) (Or.inl ⟨by rfl, ?_⟩) (by assumption) ?_
    rotate_left
    ·intro w hSw; (try dsimp only at hSw); go_simp
     first | done | with_reducible rfl
    try simp only [Act.put, s1_, s2_, s3_]
    refine wpAnyM_takeD (some 49) (by rfl) (i := 9) (oi := _) (v := ?_) rfl (by kernel_rfl) (by kernel_rfl) (by kernel_rfl) (by kernel_rfl) (fun _ _ _ h => h) (Or.inl ⟨by rfl, ?_⟩) (by assumption) ?_
    rotate_left
    ·intro w hSw; (try dsimp only at hSw); go_simp
     first | done | with_reducible rfl
    try simp only [Act.put, s1_, s2_, s3_]
    refine wpAnyM_takeD (some 50) (by rfl) (i := 10) (oi := _) (v := ?_) rfl (by kernel_rfl) (by kernel_rfl) (by kernel_rfl) (by kernel_rfl) (fun _ _ _ h => h) (Or.inl ⟨by rfl, ?_⟩) (by assumption) ?_
    rotate_left
    ·intro w hSw; (try dsimp only at hSw); go_simp
     first | done | with_reducible rfl
    try simp only [Act.put, s1_, s2_, s3_]
    refine wpAnyM_ready (rs := [11]) (by kernel_rfl) (by simp) ?_
    refine AllReadyM.held rfl (by rfl) (fun K hK => ?_) AllReadyM.nil
    go_simp
    refine hK.out _ _ ?_ (fun hHeld => ?_)
    ·exact HT8.out _ lt_
    clear hK K
    try simp only [Act.put, s1_, s2_, s3_]
    refine wpAnyM_ready (rs := [12]) (by kernel_rfl) (by simp) ?_
    refine AllReadyM.held rfl (by rfl) (fun K hK => ?_) AllReadyM.nil
    have hLm : (mksFrom o.period (o.qtys.take j) 0).length <= 3 := by rw [mksFrom_len, List.length_take]; omega
    obtain ⟨L, hL⟩ : ∃ L, L = D.mks ++ mksFrom o.period (o.qtys.take j) 0 := ⟨_, rfl⟩
    have HLL := hide hL
    have HIL : Hid (KIn w0 wr G A1 A2 A3 A4' n1 n2 n3 n4' c1 c2 c3 c4' { D with mks := L }) := hide (by rw [hL]; exact HI.out)
    have hLn : n4' = L.length := (own_len3 HIL.out.own.mks).1
    have hL4 : L.length <= 1010 := by have := HMY.out.ml; rw [hL, List.length_append]; omega
    clear hL hLm
    subst hLn
    have HOWN : Hid (((wr.alloc (Obj.cells #[.int .i64 (j : Int), .int .i64 o.period, .int .i64 q] 43)).drew).ownsRow w0.heap.size 43 3 (.slice A4' L.length c4') L.length (L.flatMap mCells)) := hide (World.ownsRow.drew (World.ownsRow.alloc HIL.out.own.mks _))
    have HNR : Hid (Row ((wr.alloc (Obj.cells #[.int .i64 (j : Int), .int .i64 o.period, .int .i64 q] 43)).drew) wr.heap.size 43 [.int .i64 (j : Int), .int .i64 o.period, .int .i64 q]) := hide (Row.new wr _ _).drew
    have HBS : Hid (w0.heap.size <= (((wr.alloc (Obj.cells #[.int .i64 (j : Int), .int .i64 o.period, .int .i64 q] 43)).drew)).heap.size) := hide (by have := HIL.out.own.lt.size; simp; omega)
    refine wp_append_own_ _ _ 25 rfl w0.heap.size 43 _ 3 24 Tryz.underlying25 info_m3 rfl (by omega) (by omega) (.slice A4' L.length c4') L.length _ (by rfl) HOWN.out ⟨wr.heap.size, 0, none⟩ 1 1 [.int .i64 (j : Int), .int .i64 o.period, .int .i64 q] (by rfl) rfl (fun k u hk => by rw [addr_add, Nat.zero_add]; exact HNR.out.cell hk) (by simp [Value.oneCell']) (by omega) HBS.out ?_
    intro v' w9 hown hg hblk
    obtain ⟨A5, c5, rfl⟩ := own_form hown
    have HOW9 := hide hown
    have HG9 : Hid (wr.drew.grownBy w9 (Value.slice A4' L.length c4').ownBlock) := hide (grown_trans_alloc (w := wr.drew) hg)
    have HBK9 : Hid (∀ k, (Value.slice A5 (L.length + 1) c5).ownBlock = some k -> (Value.slice A4' L.length c4').ownBlock = some k ∨ wr.drew.heap.size <= k) := hide (fun k hk => by
     rcases hblk with e | e
     ·left; rw [<- e]; exact hk
     ·right; rw [e] at hk; injection hk with hk; subst hk; show wr.heap.size <= (wr.alloc _).heap.size; simp)
    have HD := hide (HIL.out.later (show Later wr wr.drew from (Later.refl _).drew))
    have HK9 := hide (HD.out.row.grown HG9.out (fun e => HD.out.bM G e.symm rfl))
    have HX9 := hide (HBX.out.drew.grown HG9.out (fun e => HQ4.out _ e.symm rfl))
    clear hown hg hblk HNR HBS HOWN
    refine hK.out _ _ ?_ (fun hHeld => ?_)
    ·exact ⟨HK9.out.cell rfl, HX9.out.cell rfl⟩
    clear hK K
    try simp only [Act.put, s1_, s2_, s3_]
    refine wpAnyM_takeP (some 53) (by rfl) (i := 13) (oi := _) (v := ?_) rfl (by kernel_rfl) (by kernel_rfl) (by kernel_rfl) (fun _ _ _ h => h) (Or.inl ⟨by rfl, ?_⟩) ?_
    rotate_left
    ·intro w hSw; clear hSw; go_simp
     first | done | with_reducible rfl
    try simp only [Act.put, s1_, s2_, s3_]
    refine wpAnyM_takeP (some 54) (by rfl) (i := 14) (oi := _) (v := ?_) rfl (by kernel_rfl) (by kernel_rfl) (by kernel_rfl) (fun _ _ _ h => h) (Or.inl ⟨by rfl, ?_⟩) ?_
    rotate_left
    ·intro w hSw; clear hSw; go_simp
     first | done | with_reducible rfl
    try simp only [Act.put, s1_, s2_, s3_]
    refine wpAnyM_takeP (some 55) (by rfl) (i := 15) (oi := _) (v := ?_) rfl (by kernel_rfl) (by kernel_rfl) (by kernel_rfl) (fun _ _ _ h => h) (Or.inl ⟨by rfl, ?_⟩) ?_
    rotate_left
    ·intro w hSw; clear hSw; go_simp
     first | done | with_reducible rfl
    try simp only [Act.put, s1_, s2_, s3_]
    refine wpAnyM_ready (rs := [16]) (by kernel_rfl) (by simp) ?_
    refine AllReadyM.free rfl (by rfl) (by kernel_rfl) (fun K hK => ?_) AllReadyM.nil
    have k5 := HK9.out.cell (i := 5) rfl
    have kz5 := HK9.out.frozen 5
    go_simp
    refine hK.out _ _ ?_
    clear hK K
    try simp only [Act.put, s1_, s2_, s3_]
    refine wpAnyM_done (by kernel_rfl) ?_ _
    clear hHeld k5 kz5
    go_wp2_with fail
    go_roundw
    case rel =>
     have hq9 := HQJ.out
     have ht : o.qtys.take (j + 1) = o.qtys.take j ++ [q] := by rw [List.take_add_one, hq9]; rfl
     have hmk : D.mks ++ mksFrom o.period (o.qtys.take (j + 1)) 0 = L ++ [⟨(j : Int), o.period, q⟩] := by
      rw [HLL.out, ht, mksFrom_snoc, List.append_assoc, List.length_take, Nat.min_eq_left (by have := HNQ.out; omega), Nat.zero_add]
     refine ⟨j + 1, A5, L.length + 1, c5, by rw [HTS.out], by simp, by omega, hide ?_, hide ?_, hide (fun k hk => ?_)⟩
     ·exact HD.out.stepM HG9.out (D.mks ++ mksFrom o.period (o.qtys.take (j + 1)) 0) (by
       rw [hmk, List.length_append, List.flatMap_append]; exact HOW9.out) HBK9.out
     ·exact HX9.out.far (by have h1 := HIL.out.row.lt; have h2 := HGL.out; show w.heap.size ≠ G; omega) _
     ·rcases HBK9.out k hk with e | e
      ·exact HQ4.out k e
      ·have h2 := HBX.out.lt; have e' : wr.heap.size <= k := e; omega
    case measure => simp only [intOf]; omega
   ·have t1 : decide ((j : Int) < (nq : Int)) = false := by simpa using hlt
    obtain rfl : j = nq := by omega
    have htk : o.qtys.take j = o.qtys := List.take_of_length_le (by have := HNQ.out; omega)
    rw [htk] at HI
    rw [htk]
    obtain ⟨L, hL⟩ : ∃ L, L = D.mks ++ mksFrom o.period o.qtys 0 := ⟨_, rfl⟩
    have HLL := hide hL
    have HIL : Hid (KIn w0 wr G A1 A2 A3 A4' n1 n2 n3 n4' c1 c2 c3 c4' { D with mks := L }) := hide (by rw [hL]; exact HI.out)
    have HLB : Hid (L.length <= 1000) := hide (by rw [hL, List.length_append, mksFrom_len]; have := HMY.out.ml; omega)
    have HNP : Hid (notP o.period L = D.mks) := hide (by have h := notP_put HPE.out (qs := o.qtys) o.qtys.length; rw [List.take_of_length_le (Nat.le_refl _)] at h; rw [hL]; exact h)
    have HFIT : Hid (BookFit { D with mks := notP o.period L }) := hide (by rw [HNP.out]; exact fit_of_may HMY.out)
    have HT10 : Hid (∀ w', Later wr w' -> w'.cell? ⟨w.heap.size, 6, none⟩ = some (.int .i64 o.period)) := hide fun w' hb => (HBX.out.later hb).cell rfl
    have hj5 := (HIL.out.row).cell (i := 5) rfl
    clear hL htk
    by_cases hcap : sumI o.qtys <= capV D o.period
    ·have t2 : decide (sumI o.qtys <= capV D o.period) = true := by simpa using hcap
     have HV : Hid (comV D o.period o.qtys = .ok { D with mks := putM D.mks o.period o.qtys }) := hide (by
      unfold comV
      rw [if_neg (fun h => h HGQ.out.1), if_neg (by rw [HGQ.out.2]; simp), if_neg (fun h => h HPE.out), if_neg (by omega)])
     go_upto_region 10 with fail
     refine wp_region_N (fun w' => w'.cell? ⟨w.heap.size, 6, none⟩ = some (.int .i64 o.period)) [] hmx (HT10.out _ lt_) (fun hHeld => ?_)
     refine tkB 57 0 ?_
     refine tkB 58 1 ?_
     refine tkB 59 2 ?_
     refine tkB 60 3 ?_
     refine tkB 62 5 ?_
     refine tkB 63 6 ?_
     refine wpAnyN_ready (rs := [4]) (by kernel_rfl) (by simp) ?_
     refine AllReadyN.held rfl (by rfl) (fun K hK => ?_) AllReadyN.nil
     go_simp
     (with_reducible refine (old_calls _ w0 G A1 A2 A3 A4' n1 n2 n3 n4' c1 c2 c3 c4' { D with mks := L } (HIL.out.later lt_) HLB.out o.period HFIT.out).mono ?_)
     rintro e w5 ⟨A, n, c, rfl, hb5, b5⟩
     have l5 : Later wr w5 := Later.trans lt_ b5
     have HB5 : Hid (BookIn w5 (.slice A1 n1 c1) (.slice A2 n2 c2) (.slice A3 n3 c3) (.slice A n c) D) := hide (by
      have h9 : BookIn w5 (.slice A1 n1 c1) (.slice A2 n2 c2) (.slice A3 n3 c3) (.slice A n c) { D with mks := notP o.period L } := hb5
      rw [HNP.out] at h9; exact h9)
     clear hb5 b5
     refine hK.out _ _ ?_ (fun hHeld => ?_)
     ·exact HT10.out _ lt_
     clear hK K
     try simp only [Act.put, s1_, s2_, s3_]
     refine wpAnyN_ready (rs := [7]) (by kernel_rfl) (by simp) ?_
     refine AllReadyN.held rfl (by rfl) (fun K hK => ?_) AllReadyN.nil
     go_simp
     (with_reducible refine (plcap_calls _ A1 A2 A3 A n1 n2 n3 n c1 c2 c3 c D (HB5.out.later lt_) o.period).mono ?_)
     rintro e w6 ⟨rfl, b6⟩
     have l6 : Later wr w6 := Later.trans lt_ b6
     clear b6
     refine hK.out _ _ ?_ (fun hHeld => ?_)
     ·exact HT10.out _ lt_
     clear hK K
     try simp only [Act.put, s1_, s2_, s3_]
     refine tkB 65 8 ?_
     refine wpAnyN_ready (rs := [9]) (by kernel_rfl) (by simp) ?_
     refine AllReadyN.held rfl (by rfl) (fun K hK => ?_) AllReadyN.nil
     go_simp
     (with_reducible refine (must_yes _ _).mono ?_)
     rintro e w7 ⟨rfl, rfl⟩
     refine hK.out _ _ ?_ (fun hHeld => ?_)
     ·exact HT10.out _ lt_
     clear hK K
     try simp only [Act.put, s1_, s2_, s3_]
     refine wpAnyN_done (by kernel_rfl) ?_ _
     clear hHeld
     have hn4 : n4' = L.length := (own_len3 HIL.out.own.mks).1
     subst hn4
     obtain ⟨g, rfl⟩ := own_some HIL.out.own.mks (by have h := HLL.out; have h1 := HMY.out.head.n1; have h2 := HGQ.out.1; show 0 < L.length; rw [h, List.length_append, mksFrom_len]; omega)
     have HK6 := hide (HIL.out.later l6)
     have k5 := HK6.out.row.cell (i := 5) rfl
     go_wp2_with (go_at_call 83; (with_reducible refine (sortM_calls _ w0.heap.size g c4' L HK6.out.own.mks HLB.out).mono ?_); rintro e w8 ⟨rfl, l', hp7, hs7, ho7, hg7⟩)
     go_end0
     have HX : MayP { D with mks := putM D.mks o.period o.qtys } := apply_may (o := mkCom o.period o.qtys) (by rw [apply_com HMY.out]; exact HV.out)
     have hl' : l' = putM D.mks o.period o.qtys := sorted_put HMY.out HPE.out HGQ.out.1 HX (by rw [<- HLL.out]; exact hp7) hs7
     have hll := hp7.length_eq
     rw [hll] at ho7
     exact HK6.out.sorted hg7 (putM D.mks o.period o.qtys) (by rw [<- hl', hll]; exact ho7) HX _ HV.out
    ·have t2 : decide (sumI o.qtys <= capV D o.period) = false := by simpa using hcap
     have HV : Hid (comV D o.period o.qtys = .error 10) := hide (by
      unfold comV
      rw [if_neg (fun h => h HGQ.out.1), if_neg (by rw [HGQ.out.2]; simp), if_neg (fun h => h HPE.out), if_pos (by omega)])
     go_upto_region 10 with fail
     refine wp_region_N (fun w' => w'.cell? ⟨w.heap.size, 6, none⟩ = some (.int .i64 o.period)) [] hmx (HT10.out _ lt_) (fun hHeld => ?_)
     refine tkB 57 0 ?_
     refine tkB 58 1 ?_
     refine tkB 59 2 ?_
     refine tkB 60 3 ?_
     refine tkB 62 5 ?_
     refine tkB 63 6 ?_
     refine wpAnyN_ready (rs := [4]) (by kernel_rfl) (by simp) ?_
     refine AllReadyN.held rfl (by rfl) (fun K hK => ?_) AllReadyN.nil
     go_simp
     (with_reducible refine (old_calls _ w0 G A1 A2 A3 A4' n1 n2 n3 n4' c1 c2 c3 c4' { D with mks := L } (HIL.out.later lt_) HLB.out o.period HFIT.out).mono ?_)
     rintro e w5 ⟨A, n, c, rfl, hb5, b5⟩
     have l5 : Later wr w5 := Later.trans lt_ b5
     have HB5 : Hid (BookIn w5 (.slice A1 n1 c1) (.slice A2 n2 c2) (.slice A3 n3 c3) (.slice A n c) D) := hide (by
      have h9 : BookIn w5 (.slice A1 n1 c1) (.slice A2 n2 c2) (.slice A3 n3 c3) (.slice A n c) { D with mks := notP o.period L } := hb5
      rw [HNP.out] at h9; exact h9)
     clear hb5 b5
     refine hK.out _ _ ?_ (fun hHeld => ?_)
     ·exact HT10.out _ lt_
     clear hK K
     try simp only [Act.put, s1_, s2_, s3_]
     refine wpAnyN_ready (rs := [7]) (by kernel_rfl) (by simp) ?_
     refine AllReadyN.held rfl (by rfl) (fun K hK => ?_) AllReadyN.nil
     go_simp
     (with_reducible refine (plcap_calls _ A1 A2 A3 A n1 n2 n3 n c1 c2 c3 c D (HB5.out.later lt_) o.period).mono ?_)
     rintro e w6 ⟨rfl, b6⟩
     have l6 : Later wr w6 := Later.trans lt_ b6
     clear b6
     refine hK.out _ _ ?_ (fun hHeld => ?_)
     ·exact HT10.out _ lt_
     clear hK K
     try simp only [Act.put, s1_, s2_, s3_]
     refine tkB 65 8 ?_
     refine wpAnyN_ready (rs := [9]) (by kernel_rfl) (by simp) ?_
     refine AllReadyN.held rfl (by rfl) (fun K hK => ?_) AllReadyN.nil
     go_simp
     (with_reducible refine (must_no _ _).mono ?_)
     rintro e w7 ⟨rfl, rfl⟩
     exact ⟨rfl, HIL.out.own.lt.trans lt_, by rw [HV.out]⟩
end Go.Proofs.YtncbebfhakcgdaaGreat
namespace Go.Proofs.YtncbebfhakcgdaaGreat
open Go.RowKit Go.Shelf
attribute [local go_sem ↓] Go.wp_at_zero Go.wp_at_succ
def bareP (o : POp) : POp := if o.kind = 1 then { o with ord := ⟨0, 0, 0, 0⟩ } else if o.kind = 2 then { o with id := 0 } else if o.kind = 3 then { o with period := 0, qty := 0 } else if o.kind = 5 then { o with period := 0, qtys := [] } else o
def bareN (o : POp) (n : Nat) : Nat := if o.kind = 5 then 0 else n
def opV (o : POp) (A : Option Addr) (n c : Nat) : Value := .agg #[.int .i64 o.kind, .int .i64 o.ord.id, .int .i64 o.ord.item, .int .i64 o.ord.due, .int .i64 o.ord.qty, .int .i64 o.id, .int .i64 o.period, .int .i64 o.qty, .slice A n c]
def BareP (w : World) (o : POp) (n : Nat) (e : Ending) (w' : World) : Prop := ∃ A c, e = .returned (opV (bareP o) A (bareN o n) c) /\ Later w w'
set_option maxHeartbeats 4000000 in
theorem bare_calls (w : World) (Aq : Option Addr) (nq cq : Nat) (o : POp) :
 Calls Tryz.prog 69 #[.agg #[.int .i64 o.kind, .int .i64 o.ord.id, .int .i64 o.ord.item, .int .i64 o.ord.due, .int .i64 o.ord.qty, .int .i64 o.id, .int .i64 o.period, .int .i64 o.qty, .slice Aq nq cq]] w (BareP w o nq) := by
 obtain ⟨W0, hW0⟩ : ∃ W0, W0 = ((w.alloc (Obj.cells #[Value.int .i64 o.kind, Value.int .i64 o.ord.id, Value.int .i64 o.ord.item, Value.int .i64 o.ord.due, Value.int .i64 o.ord.qty, Value.int .i64 o.id, Value.int .i64 o.period, Value.int .i64 o.qty, Value.slice Aq nq cq] 31)).alloc (Obj.cells #[Value.int .i64 0, Value.int .i64 0, Value.int .i64 0, Value.int .i64 0, Value.int .i64 0, Value.int .i64 0, Value.int .i64 0, Value.int .i64 0, Value.slice none 0 0] 31)) := ⟨_, rfl⟩
 obtain ⟨hb0, r0, r1, hsz0⟩ := boxes2 w [.int .i64 o.kind, .int .i64 o.ord.id, .int .i64 o.ord.item, .int .i64 o.ord.due, .int .i64 o.ord.qty, .int .i64 o.id, .int .i64 o.period, .int .i64 o.qty, .slice Aq nq cq] [.int .i64 0, .int .i64 0, .int .i64 0, .int .i64 0, .int .i64 0, .int .i64 0, .int .i64 0, .int .i64 0, .slice none 0 0] 31 31 hW0
 have B0 := hide hb0; have HW0 := hide hW0; have HSZ0 := hide hsz0
 have R0 := hide r0; have R1 := hide r1
 clear hb0 hW0 hsz0 r0 r1
 go_enter Tryz.func69, Tryz.ntmps69
 go_upto_region 1 with fail
 rw [<- HW0.out]
 have x0 := R0.out.cell (i := 0) rfl; have x1 := R0.out.cell (i := 1) rfl; have x2 := R0.out.cell (i := 2) rfl; have x3 := R0.out.cell (i := 3) rfl; have x4 := R0.out.cell (i := 4) rfl; have x5 := R0.out.cell (i := 5) rfl; have x6 := R0.out.cell (i := 6) rfl; have x7 := R0.out.cell (i := 7) rfl; have x8 := R0.out.cell (i := 8) rfl
 have xz1 := R0.out.frozen 1; have xz2 := R0.out.frozen 2; have xz3 := R0.out.frozen 3; have xz4 := R0.out.frozen 4; have xz5 := R0.out.frozen 5; have xz6 := R0.out.frozen 6; have xz7 := R0.out.frozen 7; have xz8 := R0.out.frozen 8
 by_cases k1 : o.kind = 1
 ·have t1 : (o.kind == 1) = true := by simpa using k1
  go_upto_region 10 with fail
  obtain ⟨W1, hW1⟩ : ∃ W1, W1 = ((((W0.setCell ⟨w.heap.size, 1, none⟩ (.int .i64 0)).setCell ⟨w.heap.size, 2, none⟩ (.int .i64 0)).setCell ⟨w.heap.size, 3, none⟩ (.int .i64 0)).setCell ⟨w.heap.size, 4, none⟩ (.int .i64 0)) := ⟨_, rfl⟩
  rw [<- hW1]
  have rx : Row W1 w.heap.size 31 [.int .i64 o.kind, .int .i64 0, .int .i64 0, .int .i64 0, .int .i64 0, .int .i64 o.id, .int .i64 o.period, .int .i64 o.qty, .slice Aq nq cq] := by rw [hW1]; exact ((((R0.out.set_ 1 (.int .i64 0)).set_ 2 (.int .i64 0)).set_ 3 (.int .i64 0)).set_ 4 (.int .i64 0))
  have ry : Row W1 (w.heap.size + 1) 31 [.int .i64 0, .int .i64 0, .int .i64 0, .int .i64 0, .int .i64 0, .int .i64 0, .int .i64 0, .int .i64 0, .slice none 0 0] := by rw [hW1]; exact ((((R1.out.far (by show w.heap.size + 1 ≠ w.heap.size; omega) (.int .i64 0)).far (by show w.heap.size + 1 ≠ w.heap.size; omega) (.int .i64 0)).far (by show w.heap.size + 1 ≠ w.heap.size; omega) (.int .i64 0)).far (by show w.heap.size + 1 ≠ w.heap.size; omega) (.int .i64 0))
  have LL : Hid (Later w W1) := hide (by rw [hW1]; exact ((((B0.out.setCell (Nat.le_refl _) (.int .i64 0)).setCell (Nat.le_refl _) (.int .i64 0)).setCell (Nat.le_refl _) (.int .i64 0)).setCell (Nat.le_refl _) (.int .i64 0)))
  have RY := hide ry
  clear hW1 x0 x1 x2 x3 x4 x5 x6 x7 x8 xz1 xz2 xz3 xz4 xz5 xz6 xz7 xz8
  have d0 := rx.cell (i := 0) rfl; have d1 := rx.cell (i := 1) rfl; have d2 := rx.cell (i := 2) rfl; have d3 := rx.cell (i := 3) rfl; have d4 := rx.cell (i := 4) rfl; have d5 := rx.cell (i := 5) rfl; have d6 := rx.cell (i := 6) rfl; have d7 := rx.cell (i := 7) rfl; have d8 := rx.cell (i := 8) rfl
  have y0 := ry.cell (i := 0) rfl; have y1 := ry.cell (i := 1) rfl; have y2 := ry.cell (i := 2) rfl; have y3 := ry.cell (i := 3) rfl; have y4 := ry.cell (i := 4) rfl; have y5 := ry.cell (i := 5) rfl; have y6 := ry.cell (i := 6) rfl; have y7 := ry.cell (i := 7) rfl; have y8 := ry.cell (i := 8) rfl
  have yz0 := ry.frozen 0; have yz1 := ry.frozen 1; have yz2 := ry.frozen 2; have yz3 := ry.frozen 3; have yz4 := ry.frozen 4; have yz5 := ry.frozen 5; have yz6 := ry.frozen 6; have yz7 := ry.frozen 7; have yz8 := ry.frozen 8
  clear rx ry
  go_wp2_with fail
  refine bodyPost_ret (results_op rfl rfl (RY.out.put9 _ _ _ _ _ _ _ _ _)) rfl ?_
  refine ⟨_, _, by simp only [bareP, bareN, opV, k1]; rfl, LL.out.only (only9 _ _ _ _ _ _ _ _ _ _) (by omega)⟩
 ·have t1 : (o.kind == 1) = false := by simpa using k1
  by_cases k2 : o.kind = 2
  ·have t2 : (o.kind == 2) = true := by simpa using k2
   go_upto_region 10 with fail
   obtain ⟨W1, hW1⟩ : ∃ W1, W1 = (W0.setCell ⟨w.heap.size, 5, none⟩ (.int .i64 0)) := ⟨_, rfl⟩
   rw [<- hW1]
   have rx : Row W1 w.heap.size 31 [.int .i64 o.kind, .int .i64 o.ord.id, .int .i64 o.ord.item, .int .i64 o.ord.due, .int .i64 o.ord.qty, .int .i64 0, .int .i64 o.period, .int .i64 o.qty, .slice Aq nq cq] := by rw [hW1]; exact (R0.out.set_ 5 (.int .i64 0))
   have ry : Row W1 (w.heap.size + 1) 31 [.int .i64 0, .int .i64 0, .int .i64 0, .int .i64 0, .int .i64 0, .int .i64 0, .int .i64 0, .int .i64 0, .slice none 0 0] := by rw [hW1]; exact (R1.out.far (by show w.heap.size + 1 ≠ w.heap.size; omega) (.int .i64 0))
   have LL : Hid (Later w W1) := hide (by rw [hW1]; exact (B0.out.setCell (Nat.le_refl _) (.int .i64 0)))
   have RY := hide ry
   clear hW1 x0 x1 x2 x3 x4 x5 x6 x7 x8 xz1 xz2 xz3 xz4 xz5 xz6 xz7 xz8
   have d0 := rx.cell (i := 0) rfl; have d1 := rx.cell (i := 1) rfl; have d2 := rx.cell (i := 2) rfl; have d3 := rx.cell (i := 3) rfl; have d4 := rx.cell (i := 4) rfl; have d5 := rx.cell (i := 5) rfl; have d6 := rx.cell (i := 6) rfl; have d7 := rx.cell (i := 7) rfl; have d8 := rx.cell (i := 8) rfl
   have y0 := ry.cell (i := 0) rfl; have y1 := ry.cell (i := 1) rfl; have y2 := ry.cell (i := 2) rfl; have y3 := ry.cell (i := 3) rfl; have y4 := ry.cell (i := 4) rfl; have y5 := ry.cell (i := 5) rfl; have y6 := ry.cell (i := 6) rfl; have y7 := ry.cell (i := 7) rfl; have y8 := ry.cell (i := 8) rfl
   have yz0 := ry.frozen 0; have yz1 := ry.frozen 1; have yz2 := ry.frozen 2; have yz3 := ry.frozen 3; have yz4 := ry.frozen 4; have yz5 := ry.frozen 5; have yz6 := ry.frozen 6; have yz7 := ry.frozen 7; have yz8 := ry.frozen 8
   clear rx ry
   go_wp2_with fail
   refine bodyPost_ret (results_op rfl rfl (RY.out.put9 _ _ _ _ _ _ _ _ _)) rfl ?_
   refine ⟨_, _, by simp only [bareP, bareN, opV, k2]; rfl, LL.out.only (only9 _ _ _ _ _ _ _ _ _ _) (by omega)⟩
  ·have t2 : (o.kind == 2) = false := by simpa using k2
   by_cases k3 : o.kind = 3
   ·have t3 : (o.kind == 3) = true := by simpa using k3
    go_upto_region 10 with fail
    obtain ⟨W1, hW1⟩ : ∃ W1, W1 = ((W0.setCell ⟨w.heap.size, 6, none⟩ (.int .i64 0)).setCell ⟨w.heap.size, 7, none⟩ (.int .i64 0)) := ⟨_, rfl⟩
    rw [<- hW1]
    have rx : Row W1 w.heap.size 31 [.int .i64 o.kind, .int .i64 o.ord.id, .int .i64 o.ord.item, .int .i64 o.ord.due, .int .i64 o.ord.qty, .int .i64 o.id, .int .i64 0, .int .i64 0, .slice Aq nq cq] := by rw [hW1]; exact ((R0.out.set_ 6 (.int .i64 0)).set_ 7 (.int .i64 0))
    have ry : Row W1 (w.heap.size + 1) 31 [.int .i64 0, .int .i64 0, .int .i64 0, .int .i64 0, .int .i64 0, .int .i64 0, .int .i64 0, .int .i64 0, .slice none 0 0] := by rw [hW1]; exact ((R1.out.far (by show w.heap.size + 1 ≠ w.heap.size; omega) (.int .i64 0)).far (by show w.heap.size + 1 ≠ w.heap.size; omega) (.int .i64 0))
    have LL : Hid (Later w W1) := hide (by rw [hW1]; exact ((B0.out.setCell (Nat.le_refl _) (.int .i64 0)).setCell (Nat.le_refl _) (.int .i64 0)))
    have RY := hide ry
    clear hW1 x0 x1 x2 x3 x4 x5 x6 x7 x8 xz1 xz2 xz3 xz4 xz5 xz6 xz7 xz8
    have d0 := rx.cell (i := 0) rfl; have d1 := rx.cell (i := 1) rfl; have d2 := rx.cell (i := 2) rfl; have d3 := rx.cell (i := 3) rfl; have d4 := rx.cell (i := 4) rfl; have d5 := rx.cell (i := 5) rfl; have d6 := rx.cell (i := 6) rfl; have d7 := rx.cell (i := 7) rfl; have d8 := rx.cell (i := 8) rfl
    have y0 := ry.cell (i := 0) rfl; have y1 := ry.cell (i := 1) rfl; have y2 := ry.cell (i := 2) rfl; have y3 := ry.cell (i := 3) rfl; have y4 := ry.cell (i := 4) rfl; have y5 := ry.cell (i := 5) rfl; have y6 := ry.cell (i := 6) rfl; have y7 := ry.cell (i := 7) rfl; have y8 := ry.cell (i := 8) rfl
    have yz0 := ry.frozen 0; have yz1 := ry.frozen 1; have yz2 := ry.frozen 2; have yz3 := ry.frozen 3; have yz4 := ry.frozen 4; have yz5 := ry.frozen 5; have yz6 := ry.frozen 6; have yz7 := ry.frozen 7; have yz8 := ry.frozen 8
    clear rx ry
    go_wp2_with fail
    refine bodyPost_ret (results_op rfl rfl (RY.out.put9 _ _ _ _ _ _ _ _ _)) rfl ?_
    refine ⟨_, _, by simp only [bareP, bareN, opV, k3]; rfl, LL.out.only (only9 _ _ _ _ _ _ _ _ _ _) (by omega)⟩
   ·have t3 : (o.kind == 3) = false := by simpa using k3
    by_cases k5 : o.kind = 5
    ·have t5 : (o.kind == 5) = true := by simpa using k5
     go_upto_region 10 with fail
     obtain ⟨W1, hW1⟩ : ∃ W1, W1 = ((W0.setCell ⟨w.heap.size, 6, none⟩ (.int .i64 0)).setCell ⟨w.heap.size, 8, none⟩ (.slice none 0 0)) := ⟨_, rfl⟩
     rw [<- hW1]
     have rx : Row W1 w.heap.size 31 [.int .i64 o.kind, .int .i64 o.ord.id, .int .i64 o.ord.item, .int .i64 o.ord.due, .int .i64 o.ord.qty, .int .i64 o.id, .int .i64 0, .int .i64 o.qty, .slice none 0 0] := by rw [hW1]; exact ((R0.out.set_ 6 (.int .i64 0)).set_ 8 (.slice none 0 0))
     have ry : Row W1 (w.heap.size + 1) 31 [.int .i64 0, .int .i64 0, .int .i64 0, .int .i64 0, .int .i64 0, .int .i64 0, .int .i64 0, .int .i64 0, .slice none 0 0] := by rw [hW1]; exact ((R1.out.far (by show w.heap.size + 1 ≠ w.heap.size; omega) (.int .i64 0)).far (by show w.heap.size + 1 ≠ w.heap.size; omega) (.slice none 0 0))
     have LL : Hid (Later w W1) := hide (by rw [hW1]; exact ((B0.out.setCell (Nat.le_refl _) (.int .i64 0)).setCell (Nat.le_refl _) (.slice none 0 0)))
     have RY := hide ry
     clear hW1 x0 x1 x2 x3 x4 x5 x6 x7 x8 xz1 xz2 xz3 xz4 xz5 xz6 xz7 xz8
     have d0 := rx.cell (i := 0) rfl; have d1 := rx.cell (i := 1) rfl; have d2 := rx.cell (i := 2) rfl; have d3 := rx.cell (i := 3) rfl; have d4 := rx.cell (i := 4) rfl; have d5 := rx.cell (i := 5) rfl; have d6 := rx.cell (i := 6) rfl; have d7 := rx.cell (i := 7) rfl; have d8 := rx.cell (i := 8) rfl
     have y0 := ry.cell (i := 0) rfl; have y1 := ry.cell (i := 1) rfl; have y2 := ry.cell (i := 2) rfl; have y3 := ry.cell (i := 3) rfl; have y4 := ry.cell (i := 4) rfl; have y5 := ry.cell (i := 5) rfl; have y6 := ry.cell (i := 6) rfl; have y7 := ry.cell (i := 7) rfl; have y8 := ry.cell (i := 8) rfl
     have yz0 := ry.frozen 0; have yz1 := ry.frozen 1; have yz2 := ry.frozen 2; have yz3 := ry.frozen 3; have yz4 := ry.frozen 4; have yz5 := ry.frozen 5; have yz6 := ry.frozen 6; have yz7 := ry.frozen 7; have yz8 := ry.frozen 8
     clear rx ry
     go_wp2_with fail
     refine bodyPost_ret (results_op rfl rfl (RY.out.put9 _ _ _ _ _ _ _ _ _)) rfl ?_
     refine ⟨none, 0, by simp only [bareP, bareN, opV, k5]; rfl, LL.out.only (only9 _ _ _ _ _ _ _ _ _ _) (by omega)⟩
    ·have t5 : (o.kind == 5) = false := by simpa using k5
     go_upto_region 10 with fail
     obtain ⟨W1, hW1⟩ : ∃ W1, W1 = W0 := ⟨_, rfl⟩
     rw [<- hW1]
     have rx : Row W1 w.heap.size 31 [.int .i64 o.kind, .int .i64 o.ord.id, .int .i64 o.ord.item, .int .i64 o.ord.due, .int .i64 o.ord.qty, .int .i64 o.id, .int .i64 o.period, .int .i64 o.qty, .slice Aq nq cq] := by rw [hW1]; exact R0.out
     have ry : Row W1 (w.heap.size + 1) 31 [.int .i64 0, .int .i64 0, .int .i64 0, .int .i64 0, .int .i64 0, .int .i64 0, .int .i64 0, .int .i64 0, .slice none 0 0] := by rw [hW1]; exact R1.out
     have LL : Hid (Later w W1) := hide (by rw [hW1]; exact B0.out)
     have RY := hide ry
     clear hW1 x0 x1 x2 x3 x4 x5 x6 x7 x8 xz1 xz2 xz3 xz4 xz5 xz6 xz7 xz8
     have d0 := rx.cell (i := 0) rfl; have d1 := rx.cell (i := 1) rfl; have d2 := rx.cell (i := 2) rfl; have d3 := rx.cell (i := 3) rfl; have d4 := rx.cell (i := 4) rfl; have d5 := rx.cell (i := 5) rfl; have d6 := rx.cell (i := 6) rfl; have d7 := rx.cell (i := 7) rfl; have d8 := rx.cell (i := 8) rfl
     have y0 := ry.cell (i := 0) rfl; have y1 := ry.cell (i := 1) rfl; have y2 := ry.cell (i := 2) rfl; have y3 := ry.cell (i := 3) rfl; have y4 := ry.cell (i := 4) rfl; have y5 := ry.cell (i := 5) rfl; have y6 := ry.cell (i := 6) rfl; have y7 := ry.cell (i := 7) rfl; have y8 := ry.cell (i := 8) rfl
     have yz0 := ry.frozen 0; have yz1 := ry.frozen 1; have yz2 := ry.frozen 2; have yz3 := ry.frozen 3; have yz4 := ry.frozen 4; have yz5 := ry.frozen 5; have yz6 := ry.frozen 6; have yz7 := ry.frozen 7; have yz8 := ry.frozen 8
     clear rx ry
     go_wp2_with fail
     refine bodyPost_ret (results_op rfl rfl (RY.out.put9 _ _ _ _ _ _ _ _ _)) rfl ?_
     refine ⟨_, _, by simp only [bareP, bareN, opV, k1, k2, k3, k5]; rfl, LL.out.only (only9 _ _ _ _ _ _ _ _ _ _) (by omega)⟩
end Go.Proofs.YtncbebfhakcgdaaGreat
namespace Go.Proofs.YtncbebfhakcgdaaGreat
open Go.RowKit Go.Shelf
attribute [local go_sem ↓] Go.wp_at_zero Go.wp_at_succ
theorem results_bl {fn : Func} {t : Tmp} {tmps : Array Value} {W : World} {b : Bool} (h : fn.results = #[.tmp t]) (hp : tmps[t]?.getD undef = .bool b) : (results fn tmps).run Tryz.prog W = .ok (.bool b) W := by
 simp [results, h, hp, go_sem]
theorem plainB_bare (o : POp) : plainB o = true ↔ 1 <= o.kind /\ o.kind <= 5 /\ (bareP o).ord.isZ = true /\ (bareP o).id = 0 /\ (bareP o).period = 0 /\ (bareP o).qty = 0 /\ bareN o o.qtys.length = 0 := by
 unfold plainB bareP bareN POrd.isZ
 by_cases k1 : o.kind = 1
 ·simp [k1, and_assoc]
 by_cases k2 : o.kind = 2
 ·simp [k2, and_assoc]
 by_cases k3 : o.kind = 3
 ·simp [k3, and_assoc]
 by_cases k5 : o.kind = 5
 ·simp [k5, and_assoc]
 simp [k1, k2, k3, k5, and_assoc]
set_option maxHeartbeats 4000000 in
theorem bplain_calls (w : World) (Aq : Option Addr) (nq cq : Nat) (o : POp) (hq : nq = o.qtys.length) :
 Calls Tryz.prog 31 #[.agg #[.int .i64 o.kind, .int .i64 o.ord.id, .int .i64 o.ord.item, .int .i64 o.ord.due, .int .i64 o.ord.qty, .int .i64 o.id, .int .i64 o.period, .int .i64 o.qty, .slice Aq nq cq]] w (RetV w (.bool (plainB o))) := by
 obtain ⟨x, hx⟩ : ∃ x, x = bareP o := ⟨_, rfl⟩
 obtain ⟨nx, hnx⟩ : ∃ n, n = bareN o nq := ⟨_, rfl⟩
 have HBC : Hid (∀ W : World, Calls Tryz.prog 69 #[.agg #[.int .i64 o.kind, .int .i64 o.ord.id, .int .i64 o.ord.item, .int .i64 o.ord.due, .int .i64 o.ord.qty, .int .i64 o.id, .int .i64 o.period, .int .i64 o.qty, .slice Aq nq cq]] W (fun e w' => ∃ A c, e = .returned (.agg #[.int .i64 x.kind, .int .i64 x.ord.id, .int .i64 x.ord.item, .int .i64 x.ord.due, .int .i64 x.ord.qty, .int .i64 x.id, .int .i64 x.period, .int .i64 x.qty, .slice A nx c]) /\ Later W w')) := hide fun W => by rw [hx, hnx]; exact bare_calls W Aq nq cq o
 have HPI := hide (plainB_bare o)
 rw [hq] at hnx
 have HBP : Hid (1 <= o.kind -> o.kind <= 5 -> decide ((x.ord.id = 0 /\ x.ord.item = 0 /\ x.ord.due = 0 /\ x.ord.qty = 0) /\ x.id = 0 /\ x.period = 0 /\ x.qty = 0 /\ nx = 0) = plainB o) := hide (by
  intro h1 h2
  have h := plainB_bare o
  rw [<- hx, <- hnx] at h
  rw [Bool.eq_iff_iff, h]
  simp [POrd.isZ, h1, h2])
 clear hq hx hnx
 obtain ⟨W0, hW0⟩ : ∃ W0, W0 = (w.alloc (Obj.cells #[Value.int .i64 o.kind, Value.int .i64 o.ord.id, Value.int .i64 o.ord.item, Value.int .i64 o.ord.due, Value.int .i64 o.ord.qty, Value.int .i64 o.id, Value.int .i64 o.period, Value.int .i64 o.qty, Value.slice Aq nq cq] 31)) := ⟨_, rfl⟩
 have B0 := hide (show Later w W0 by rw [hW0]; exact (Later.refl _).alloc _)
 have HR0 := hide (show Row W0 w.heap.size 31 [.int .i64 o.kind, .int .i64 o.ord.id, .int .i64 o.ord.item, .int .i64 o.ord.due, .int .i64 o.ord.qty, .int .i64 o.id, .int .i64 o.period, .int .i64 o.qty, .slice Aq nq cq] by rw [hW0]; exact Row.new _ _ _)
 have HW0 := hide hW0
 clear hW0
 go_enter Tryz.func31, Tryz.ntmps31
 go_upto_region 1 with fail
 rw [<- HW0.out]
 have x0 := HR0.out.cell (i := 0) rfl; have x1 := HR0.out.cell (i := 1) rfl; have x2 := HR0.out.cell (i := 2) rfl; have x3 := HR0.out.cell (i := 3) rfl; have x4 := HR0.out.cell (i := 4) rfl; have x5 := HR0.out.cell (i := 5) rfl; have x6 := HR0.out.cell (i := 6) rfl; have x7 := HR0.out.cell (i := 7) rfl; have x8 := HR0.out.cell (i := 8) rfl
 go_upto_region 2 with (go_at_call 69; (refine (HBC.out _).mono ?_); rintro e w1 ⟨Ax, cx, rfl, b1⟩)
 obtain ⟨W2, hW2⟩ : ∃ W2, W2 = w1.alloc (Obj.cells #[.int .i64 x.kind, .int .i64 x.ord.id, .int .i64 x.ord.item, .int .i64 x.ord.due, .int .i64 x.ord.qty, .int .i64 x.id, .int .i64 x.period, .int .i64 x.qty, .slice Ax nx cx] 31) := ⟨_, rfl⟩
 obtain ⟨g, hg⟩ : ∃ g, g = w1.heap.size := ⟨_, rfl⟩
 rw [<- hW2, <- hg]
 have l12 : Later w1 W2 := by rw [hW2]; exact (Later.refl _).alloc _
 have rx : Row W2 g 31 [.int .i64 x.kind, .int .i64 x.ord.id, .int .i64 x.ord.item, .int .i64 x.ord.due, .int .i64 x.ord.qty, .int .i64 x.id, .int .i64 x.period, .int .i64 x.qty, .slice Ax nx cx] := by rw [hW2, hg]; exact Row.new _ _ _
 have rk := HR0.out.later (b1.trans l12)
 have LW := hide (B0.out.trans (b1.trans l12))
 clear x0 x1 x2 x3 x4 x5 x6 x7 x8 hW2 hg l12 b1
 have x0 := rk.cell (i := 0) rfl
 have y0 := rx.cell (i := 0) rfl; have y1 := rx.cell (i := 1) rfl; have y2 := rx.cell (i := 2) rfl; have y3 := rx.cell (i := 3) rfl; have y4 := rx.cell (i := 4) rfl; have y5 := rx.cell (i := 5) rfl; have y6 := rx.cell (i := 6) rfl; have y7 := rx.cell (i := 7) rfl; have y8 := rx.cell (i := 8) rfl
 clear rk rx
 by_cases c0 : 1 <= o.kind
 ·have t0 : decide (1 <= o.kind) = true := by simpa using c0
  by_cases c1 : o.kind <= 5
  ·have t1 : decide (o.kind <= 5) = true := by simpa using c1
   go_wp2_with fail
   all_goals (refine bodyPost_ret (results_bl rfl rfl) rfl ⟨?_, LW.out⟩; rw [<- HBP.out c0 c1]; simp [*]; try (rw [Bool.eq_iff_iff, beq_iff_eq, decide_eq_true_iff]; omega))
  ·have t1 : decide (o.kind <= 5) = false := by simpa using c1
   go_wp2_with fail
   refine bodyPost_ret (results_bl rfl rfl) rfl ⟨?_, LW.out⟩
   rw [show plainB o = false from Bool.eq_false_iff.2 fun h => by have := (HPI.out.1 h).2.1; omega]
 ·have t0 : decide (1 <= o.kind) = false := by simpa using c0
  go_wp2_with fail
  refine bodyPost_ret (results_bl rfl rfl) rfl ⟨?_, LW.out⟩
  rw [show plainB o = false from Bool.eq_false_iff.2 fun h => by have := (HPI.out.1 h).1; omega]
end Go.Proofs.YtncbebfhakcgdaaGreat
namespace Go.Proofs.YtncbebfhakcgdaaGreat
open Go.RowKit Go.Shelf
attribute [local go_sem ↓] Go.wp_at_zero Go.wp_at_succ
def bm (n : Nat) (c : Value) : Value := .func (.func n) #[c] #[]
open Classical in
noncomputable def bmR (c : Value) (v : Value) : Option (DataW Unit × List MemPlace) := match v with
 | .func (.func n) f z => if f = #[c] /\ z = #[] then some (.lit (.int .i64 n), []) else none
 | _ => some (.lit (.int .i64 (-1)), [])
theorem bmR_bm (n : Nat) (c : Value) : bmR c (bm n c) = some (.lit (.int .i64 n), []) := by simp [bmR, bm]
theorem bmR_inv {c v : Value} {n : Nat} {ps : List MemPlace} (h : bmR c v = some (.lit (.int .i64 n), ps)) : v = bm n c := by
 unfold bmR at h
 split at h
 ·split at h
  ·rename_i hc
   obtain ⟨rfl, rfl⟩ := hc
   simp only [Option.some.injEq, Prod.mk.injEq, DataW.lit.injEq, Lit.int.injEq, true_and] at h
   have h1 := Int.ofNat.inj h.1
   subst h1; rfl
  ·cases h
 ·simp at h
theorem mapk : Go.Maps.Keyed Tryz.prog 3 := Go.Maps.int_keyed Tryz.underlying3
theorem five (w : World) (c : Value) : ∃ w1 w2 w3 w4 w5,
 (Instr.mapUpdate 77 (.map (some w.heap.size)) (.int .i64 1) (.func (.func 33) #[c] #[])).run Tryz.prog (w.alloc (.map #[] 0)) = .ok () w1 /\ (Instr.mapUpdate 77 (.map (some w.heap.size)) (.int .i64 2) (.func (.func 34) #[c] #[])).run Tryz.prog w1 = .ok () w2 /\ (Instr.mapUpdate 77 (.map (some w.heap.size)) (.int .i64 3) (.func (.func 35) #[c] #[])).run Tryz.prog w2 = .ok () w3 /\ (Instr.mapUpdate 77 (.map (some w.heap.size)) (.int .i64 4) (.func (.func 36) #[c] #[])).run Tryz.prog w3 = .ok () w4 /\ (Instr.mapUpdate 77 (.map (some w.heap.size)) (.int .i64 5) (.func (.func 37) #[c] #[])).run Tryz.prog w4 = .ok () w5 /\ w.grownBy w5 none /\
 (Instr.lookup 77 (.map (some w.heap.size)) (.int .i64 1) false).run Tryz.prog w5 = .ok (.func (.func 33) #[c] #[]) w5 /\ (Instr.lookup 77 (.map (some w.heap.size)) (.int .i64 2) false).run Tryz.prog w5 = .ok (.func (.func 34) #[c] #[]) w5 /\ (Instr.lookup 77 (.map (some w.heap.size)) (.int .i64 3) false).run Tryz.prog w5 = .ok (.func (.func 35) #[c] #[]) w5 /\ (Instr.lookup 77 (.map (some w.heap.size)) (.int .i64 4) false).run Tryz.prog w5 = .ok (.func (.func 36) #[c] #[]) w5 /\ (Instr.lookup 77 (.map (some w.heap.size)) (.int .i64 5) false).run Tryz.prog w5 = .ok (.func (.func 37) #[c] #[]) w5 := by
 have k (i : Int) (h : (Lit.int .i64 i).wf = true) : keyOf Tryz.prog 3 (.int .i64 i) = some (.int .i64 i) := Go.Maps.keyOf_int_mk Tryz.underlying3 h
 have h0 := World.ownsMap_made w Tryz.prog 3 (bmR c)
 obtain ⟨w1, u1, h1, g1⟩ := h0.update mapk Tryz.underlying77 (by decide) (k 1 (by decide)) (bmR_bm 33 c)
 obtain ⟨w2, u2, h2, g2⟩ := h1.update mapk Tryz.underlying77 (by decide) (k 2 (by decide)) (bmR_bm 34 c)
 obtain ⟨w3, u3, h3, g3⟩ := h2.update mapk Tryz.underlying77 (by decide) (k 3 (by decide)) (bmR_bm 35 c)
 obtain ⟨w4, u4, h4, g4⟩ := h3.update mapk Tryz.underlying77 (by decide) (k 4 (by decide)) (bmR_bm 36 c)
 obtain ⟨w5, u5, h5, g5⟩ := h4.update mapk Tryz.underlying77 (by decide) (k 5 (by decide)) (bmR_bm 37 c)
 have hg : w.grownBy w5 none := by
  have g0 : w.grownBy (w.alloc (.map #[] 0)) none := World.grownBy_alloc _ _ _
  have g : (w.alloc (.map #[] 0)).grownBy w5 (some w.heap.size) := (((g1.trans g2).trans g3).trans g4).trans g5
  exact g0.andThen g (fun j hj => by injection hj with hj; exact .inl (by omega))
 refine ⟨w1, w2, w3, w4, w5, u1, u2, u3, u4, u5, hg, ?_⟩
 have hz : (zeroValue 76).run Tryz.prog w5 = .ok .nilFunc w5 := by kernel_rfl
 have hzd : bmR c .nilFunc = some (.lit (.int .i64 (-1)), []) := rfl
 refine ⟨?_, ?_, ?_, ?_, ?_⟩
 ·obtain ⟨v, ps, hr, hv⟩ := h5.lookup mapk Tryz.underlying77 hz hzd (k 1 (by decide))
  have hv' : bmR c v = some (.lit (.int .i64 ((33 : Nat) : Int)), ps) := hv
  rw [bmR_inv hv'] at hr
  exact hr
 ·obtain ⟨v, ps, hr, hv⟩ := h5.lookup mapk Tryz.underlying77 hz hzd (k 2 (by decide))
  have hv' : bmR c v = some (.lit (.int .i64 ((34 : Nat) : Int)), ps) := hv
  rw [bmR_inv hv'] at hr
  exact hr
 ·obtain ⟨v, ps, hr, hv⟩ := h5.lookup mapk Tryz.underlying77 hz hzd (k 3 (by decide))
  have hv' : bmR c v = some (.lit (.int .i64 ((35 : Nat) : Int)), ps) := hv
  rw [bmR_inv hv'] at hr
  exact hr
 ·obtain ⟨v, ps, hr, hv⟩ := h5.lookup mapk Tryz.underlying77 hz hzd (k 4 (by decide))
  have hv' : bmR c v = some (.lit (.int .i64 ((36 : Nat) : Int)), ps) := hv
  rw [bmR_inv hv'] at hr
  exact hr
 ·obtain ⟨v, ps, hr, hv⟩ := h5.lookup mapk Tryz.underlying77 hz hzd (k 5 (by decide))
  have hv' : bmR c v = some (.lit (.int .i64 ((37 : Nat) : Int)), ps) := hv
  rw [bmR_inv hv'] at hr
  exact hr
end Go.Proofs.YtncbebfhakcgdaaGreat
namespace Go.Proofs.YtncbebfhakcgdaaGreat
open Go.RowKit Go.Shelf
attribute [local go_sem ↓] Go.wp_at_zero Go.wp_at_succ
theorem own_box {w : World} {base g : Nat} {e T : TypeId} {size n : Nat} {v : Value} {xs cs : List Value} (h : w.ownsRow base e size v n xs) (hr : Row w g T cs) (hne : e ≠ T) : ∀ k, v.ownBlock = some k -> k ≠ g := by
 intro k hk hkg
 subst hkg
 obtain ⟨-, h⟩ := h
 rcases h with ⟨rfl, -⟩ | ⟨g', cap, cur, rfl, h2, h3, -⟩
 ·cases hk
 ·have hk' : g' = k := by injection hk
  subst hk'
  unfold Row at hr
  rw [hr] at h3
  injection h3 with h3
  injection h3 with h4 h5
  exact hne h5.symm
theorem OwnB.box {w0 w w' : World} {vI vC vO vM : Value} {D : PBook} {g : Nat} {cs : List Value} (h : OwnB w0 w vI vC vO vM D) (hr : Row w g 27 cs) (hg : w0.heap.size <= g) (o : Only g w w') : OwnB w0 w' vI vC vO vM D := by
 obtain ⟨es, h1, h2⟩ := h.its
 exact { h with lt := h.lt.only o hg, its := ⟨es, h1, own_only h2 o (own_box h2 hr (by decide))⟩, caps := own_only h.caps o (own_box h.caps hr (by decide)), ords := own_only h.ords o (own_box h.ords hr (by decide)), mks := own_only h.mks o (own_box h.mks hr (by decide)) }
theorem Cells.box {w w' : World} {g : Nat} {T : TypeId} {cs : List Value} {A : Option Addr} {l : List Nat} (h : Cells w A (nums .u32 l)) (hr : Row w g T cs) (hc : ∀ u ∈ cs, ∀ z, u ≠ .int .u32 z) (o : Only g w w') : Cells w' A (nums .u32 l) := by
 rcases h with h | ⟨b, off, rfl, h⟩
 ·exact .inl h
 ·refine .inr ⟨b, off, rfl, fun j u hj => ?_⟩
  have h1 := h j u hj
  by_cases e : b = g
  ·subst e
   rw [cell_of_row w b (off + j) cs.toArray T (0, 0) hr] at h1
   have h2 : cs[off + j]? = some u := by simpa using h1
   have h3 : ∃ z, u = .int .u32 z := by
    have := List.mem_of_getElem? hj
    simp [nums] at this
    obtain ⟨x, -, e⟩ := this
    exact ⟨_, e.symm⟩
   obtain ⟨z, rfl⟩ := h3
   exact absurd rfl (hc _ (List.mem_of_getElem? h2) z)
  ·exact (World.cell?_of_block (a := ⟨b, off + j, none⟩) (o.block b e)).trans h1
theorem RawI.box {w w' : World} {g : Nat} {T : TypeId} {cs : List Value} {v : Value} {z : Int} {k : Nat} (h : RawI w v z k) (hr : Row w g T cs) (hc : ∀ u ∈ cs, ∀ z, u ≠ .int .u32 z) (o : Only g w w') : RawI w' v z k := by
 obtain ⟨n, A, m, c, l, e, ⟨h1, A', cap, h2, h3, h4, h5, h6⟩, e', hk⟩ := h
 exact ⟨n, A, m, c, l, e, ⟨h1, A', cap, h2, h3, h4, h5, h6.box hr hc o⟩, e', hk⟩
theorem ENum.box {w w' : World} {g : Nat} {T : TypeId} {cs : List Value} {v : Value} {q : Rat} {f : Bool} {k : Nat} (h : ENum k w v q f) (hr : Row w g T cs) (hc : ∀ u ∈ cs, ∀ z, u ≠ .int .u32 z) (o : Only g w w') : ENum k w' v q f := by
 obtain ⟨⟨a, A, n, c, b, A', n', c', x, y, e, h1, h2, h3⟩, ⟨a2, A2, m2, c2, b2, A2', n2', c2', y2, e2, h4, h5⟩⟩ := h
 exact ⟨⟨a, A, n, c, b, A', n', c', x, y, e, h1.box hr hc o, h2.box hr hc o, h3⟩, ⟨a2, A2, m2, c2, b2, A2', n2', c2', y2, e2, h4.box hr hc o, h5⟩⟩
theorem ItsOf.box {w w' : World} {g : Nat} {T : TypeId} {cs : List Value} {k : Nat} {es : List (ICells × ICells × ICells)} {l : List PItem} (h : ItsOf k w es l) (hr : Row w g T cs) (hc : ∀ u ∈ cs, ∀ z, u ≠ .int .u32 z) (o : Only g w w') : ItsOf k w' es l :=
 ⟨h.1, fun i e x h1 h2 => by obtain ⟨a, b, c⟩ := h.2 i e x h1 h2; exact ⟨a.box hr hc o, b.box hr hc o, c.box hr hc o⟩⟩
structure BkN (lo : Nat) (w : World) (vI vC vO vM : Value) (D : PBook) : Prop where
 its : ∃ es, ItsOf 12 w es D.items /\ w.ownsRow lo 69 12 vI D.items.length (es.flatMap cellsI)
 caps : w.ownsRow lo 3 1 vC D.caps.length (D.caps.flatMap iCells)
 ords : w.ownsRow lo 29 4 vO D.ords.length (D.ords.flatMap oCells)
 mks : w.ownsRow lo 43 3 vM D.mks.length (D.mks.flatMap mCells)
theorem OwnB.bkn {w0 w : World} {vI vC vO vM : Value} {D : PBook} (h : OwnB w0 w vI vC vO vM D) {lo : Nat} (hl : lo <= w0.heap.size) : BkN lo w vI vC vO vM D := by
 obtain ⟨es, h1, h2⟩ := h.its
 exact ⟨⟨es, h1.later h.lt, own_weaken h2 hl⟩, own_weaken h.caps hl, own_weaken h.ords hl, own_weaken h.mks hl⟩
theorem BkN.later {lo : Nat} {w w' : World} {vI vC vO vM : Value} {D : PBook} (h : BkN lo w vI vC vO vM D) (hb : Later w w') : BkN lo w' vI vC vO vM D := by
 obtain ⟨es, h1, h2⟩ := h.its
 exact ⟨⟨es, h1.later hb, own_later h2 hb⟩, own_later h.caps hb, own_later h.ords hb, own_later h.mks hb⟩
theorem BkN.weaken {lo lo' : Nat} {w : World} {vI vC vO vM : Value} {D : PBook} (h : BkN lo w vI vC vO vM D) (hl : lo' <= lo) : BkN lo' w vI vC vO vM D := by
 obtain ⟨es, h1, h2⟩ := h.its
 exact ⟨⟨es, h1, own_weaken h2 hl⟩, own_weaken h.caps hl, own_weaken h.ords hl, own_weaken h.mks hl⟩
theorem BkN.book {lo : Nat} {w : World} {vI vC vO vM : Value} {D : PBook} (h : BkN lo w vI vC vO vM D) (f : BookFit D) : BookIn w vI vC vO vM D := by
 obtain ⟨es, h1, h2⟩ := h.its
 exact ⟨Its.of_own h2 h1, Sq.of_own iCells_ln h.caps, Sq.of_own oCells_len h.ords, Sq.of_own mCells_len h.mks, f.il, f.cl, f.ol, f.ml, f.hfit, f.nfit, f.cfit, f.ofit, f.mfit⟩
structure IsBox (w : World) (g : Nat) : Prop where
 ex : ∃ T cs, Row w g T cs /\ (∀ u ∈ cs, ∀ z, u ≠ .int .u32 z) /\ 69 ≠ T /\ 3 ≠ T /\ 29 ≠ T /\ 43 ≠ T
theorem BkN.box {lo : Nat} {w w' : World} {vI vC vO vM : Value} {D : PBook} {g : Nat} (h : BkN lo w vI vC vO vM D) (hr : IsBox w g) (o : Only g w w') : BkN lo w' vI vC vO vM D := by
 obtain ⟨T, cs, hr, hc, t1, t2, t3, t4⟩ := hr.ex
 obtain ⟨es, h1, h2⟩ := h.its
 exact ⟨⟨es, h1.box hr hc o, own_only h2 o (own_box h2 hr t1)⟩, own_only h.caps o (own_box h.caps hr t2), own_only h.ords o (own_box h.ords hr t3), own_only h.mks o (own_box h.mks hr t4)⟩
theorem IsBox.book {w : World} {g : Nat} {x y : Int} {A1 A2 A3 A4 : Option Addr} {n1 n2 n3 n4 c1 c2 c3 c4 : Nat} (hr : Row w g 27 [.slice A1 n1 c1, .int .i64 x, .int .i64 y, .slice A2 n2 c2, .slice A3 n3 c3, .slice A4 n4 c4]) : IsBox w g := ⟨_, _, hr, (by intro u hu z; simp at hu; rcases hu with rfl | rfl | rfl | rfl | rfl | rfl <;> simp), by decide, by decide, by decide, by decide⟩
theorem IsBox.code {w : World} {g : Nat} {x : Int} (hr : Row w g 35 [.int .i64 x]) : IsBox w g := ⟨_, _, hr, (by intro u hu z; simp at hu; subst hu; simp), by decide, by decide, by decide, by decide⟩
end Go.Proofs.YtncbebfhakcgdaaGreat
