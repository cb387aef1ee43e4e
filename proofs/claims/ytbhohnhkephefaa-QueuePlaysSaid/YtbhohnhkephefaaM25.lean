import Derived.Test.YtbhohnhkephefaaM24
import Derived.Test.YtbhohnhkephefaaM19

/- Queues: the reference's queue in memory. -/
set_option linter.unusedVariables false
set_option linter.unusedSimpArgs false
set_option maxRecDepth 100000
namespace Go.Proofs.Ytbhohnhkephefaa
open Go.RowKit Go.Shelf
attribute [local go_sem ↓] Go.wp_at_zero Go.wp_at_succ

def kf (e : Ent) : List Value := [.bool e.s, .slice e.A e.n e.c, .bool false, .slice e.A' e.n' e.c']
def jf (e : Ent) : List Value := [.int .i64 e.id]
set_option linter.unusedSectionVars false
section
variable {α : Type} (f : α → List Value) (k : Nat) (hf : ∀ a, (f a).length = k)
include hf
theorem flatk_len (L : List α) : (L.flatMap f).length = L.length * k := by
  induction L with
  | nil => simp
  | cons a L ih => rw [List.flatMap_cons, List.length_append, ih, List.length_cons, hf a, Nat.succ_mul]; omega
theorem flatk_get (L : List α) (i j : Nat) (hj : j < k) (a : α) (hi : L[i]? = some a) : (L.flatMap f)[i * k + j]? = (f a)[j]? := by
  have h1 : L = L.take i ++ L.drop i := (List.take_append_drop i L).symm
  obtain ⟨hil, ha⟩ := List.getElem?_eq_some_iff.1 hi
  rw [h1, List.flatMap_append, List.getElem?_append_right (by rw [flatk_len f k hf, List.length_take, Nat.min_eq_left (by omega)]; omega), flatk_len f k hf, List.length_take, Nat.min_eq_left (by omega), List.drop_eq_getElem_cons hil, List.flatMap_cons, List.getElem?_append_left (by rw [hf]; omega), ha]
  congr 1; omega
theorem flatk_pre (L : List α) (i j : Nat) (u : Value) (h : ((L.take i).flatMap f)[j]? = some u) : (L.flatMap f)[j]? = some u := by
  have h1 : L = L.take i ++ L.drop i := (List.take_append_drop i L).symm
  rw [h1, List.flatMap_append, List.getElem?_append_left (List.getElem?_eq_some_iff.1 h).1]; exact h
theorem flatk_suf (L : List α) (i j : Nat) (u : Value) (hi : i ≤ L.length) (h : ((L.drop i).flatMap f)[j]? = some u) : (L.flatMap f)[i * k + j]? = some u := by
  have h1 : L = L.take i ++ L.drop i := (List.take_append_drop i L).symm
  have h2 : ((L.take i).flatMap f).length = i * k := by rw [flatk_len f k hf, List.length_take, Nat.min_eq_left hi]
  rw [h1, List.flatMap_append, List.getElem?_append_right (by rw [h2]; omega), h2, Nat.add_sub_cancel_left]; exact h
end
theorem own_read {w : World} {B size n : Nat} {t : TypeId} {v : Value} {xs : List Value} (h : w.ownsRow B t size v n xs) (hn : 0 < n) : ∃ g cap n', v = .slice (some ⟨g, 0, none⟩) n' cap ∧ n' = n ∧ n ≤ cap ∧ cap ≤ maxLen ∧ ∀ j u, xs[j]? = some u → w.cell? ⟨g, j, none⟩ = some u := by
  obtain ⟨h1, h2⟩ := h
  rcases h2 with ⟨rfl, rfl⟩ | ⟨g, cap, cur, rfl, hb, hg, hn', hm, hs, ht⟩
  · omega
  · refine ⟨g, cap, _, rfl, rfl, hn', hm, fun j u hj => ?_⟩
    have hrow : Row w g t cur.toList := by unfold Row; simpa using hg
    refine hrow.cell ?_
    rw [← ht, List.getElem?_take] at hj
    split at hj
    · exact hj
    · cases hj
theorem own_form {w : World} {B size n : Nat} {t : TypeId} {v : Value} {xs : List Value} (h : w.ownsRow B t size v n xs) : ∃ A n' c, v = .slice A n' c ∧ n' = n := by
  obtain ⟨h1, h2⟩ := h
  rcases h2 with ⟨rfl, rfl⟩ | ⟨g, cap, cur, rfl, -⟩
  · exact ⟨_, _, _, rfl, rfl⟩
  · exact ⟨_, _, _, rfl, rfl⟩
theorem own_tch {S : Nat → Prop} {a b : World} {B size n : Nat} {t : TypeId} {v : Value} {xs : List Value} (h : a.ownsRow B t size v n xs) (k : Tch S a b) (hS : ∀ g, v.ownBlock = some g → ¬ S g) : b.ownsRow B t size v n xs := by
  refine ⟨h.1, ?_⟩
  rcases h.2 with h3 | ⟨g, cap, cur, rfl, hb, hg, r⟩
  · exact .inl h3
  · exact .inr ⟨g, cap, cur, rfl, hb, Row.tch (cs := cur.toList) (show Row a g t cur.toList by unfold Row; simpa using hg) k (hS g rfl), r⟩
theorem orow_lt {w : World} {B size n : Nat} {t : TypeId} {v : Value} {xs : List Value} (h : w.ownsRow B t size v n xs) : ∀ g, v.ownBlock = some g → g < w.heap.size := fun g hg => (World.ownsRow.lt h g hg).2
/-- the reference's queue at gr, all that it is made of where R stands: its keys are those of Lk, its numbers those of Lj -/
structure RQ (w : World) (R : Nat → Prop) (gr : Nat) (vk vi : Value) (Lk Lj : List Ent) : Prop where
  sr : R gr
  row : Row w gr 30 [vk, vi]
  ks : w.ownsRow 0 35 4 vk Lk.length (Lk.flatMap kf)
  js : w.ownsRow 0 3 1 vi Lj.length (Lj.flatMap jf)
  ownk : ∀ k, vk.ownBlock = some k → R k ∧ k ≠ gr ∧ some k ≠ vi.ownBlock
  owni : ∀ k, vi.ownBlock = some k → R k ∧ k ≠ gr
  keys : Keys w (fun b => R b ∧ b ≠ gr ∧ some b ≠ vk.ownBlock ∧ some b ≠ vi.ownBlock) Lk
section
variable {a b w w8 : World} {R T : Nat → Prop} {gr : Nat} {vk vi v8 : Value} {Lk Lj L' : List Ent}
theorem RQ.tch (h : RQ a R gr vk vi Lk Lj) (k : Tch T a b) (hS : ∀ x, x < a.heap.size → R x → ¬ T x) : RQ b (fun x => R x ∧ x < a.heap.size) gr vk vi Lk Lj :=
  ⟨⟨h.sr, h.row.lt⟩, h.row.tch k (hS gr h.row.lt h.sr), own_tch h.ks k (fun g hg => hS g (orow_lt h.ks g hg) (h.ownk g hg).1), own_tch h.js k (fun g hg => hS g (orow_lt h.js g hg) (h.owni g hg).1),
   fun g hg => ⟨⟨(h.ownk g hg).1, orow_lt h.ks g hg⟩, (h.ownk g hg).2⟩, fun g hg => ⟨⟨(h.owni g hg).1, orow_lt h.js g hg⟩, (h.owni g hg).2⟩,
   ⟨(h.keys.ok.lt.tch k (fun x hx => hS x hx.2 hx.1.1)).mono (fun x hx _ => ⟨⟨hx.1.1, hx.2⟩, hx.1.2⟩), h.keys.sized⟩⟩
theorem RQ.later (h : RQ a R gr vk vi Lk Lj) (k : Later a b) : RQ b R gr vk vi Lk Lj :=
  ⟨h.sr, h.row.later k, ownsRow_later h.ks k, ownsRow_later h.js k, h.ownk, h.owni, h.keys.later k⟩
theorem RQ.mono (h : RQ a R gr vk vi Lk Lj) (k : ∀ x, R x → T x) : RQ a T gr vk vi Lk Lj :=
  ⟨k _ h.sr, h.row, h.ks, h.js, fun g hg => ⟨k _ (h.ownk g hg).1, (h.ownk g hg).2⟩, fun g hg => ⟨k _ (h.owni g hg).1, (h.owni g hg).2⟩, h.keys.mono (fun b hb _ => ⟨k _ hb.1, hb.2⟩)⟩
/-- other keys -/
theorem RQ.setk (h : RQ w R gr vk vi Lk Lj) (ht : Tch (fun b => some b = vk.ownBlock) w w8) (ho : w8.ownsRow 0 35 4 v8 L'.length (L'.flatMap kf)) (hb : ∀ k, v8.ownBlock = some k → vk.ownBlock = some k ∨ w.heap.size ≤ k)
    (hk : Keys w8 (fun b => (R b ∨ w.heap.size ≤ b) ∧ b ≠ gr ∧ some b ≠ v8.ownBlock ∧ some b ≠ vi.ownBlock) L') : RQ (w8.setCell ⟨gr, 0, none⟩ v8) (fun b => R b ∨ w.heap.size ≤ b) gr v8 vi L' Lj ∧ Tch R w (w8.setCell ⟨gr, 0, none⟩ v8) := by
  have hO := (Only.one gr w8 0 v8).tch (S := fun b => b = gr) rfl
  have hgl := h.row.lt
  have hng : ¬ some gr = vk.ownBlock := fun e => (h.ownk gr e.symm).2.1 rfl
  have h8 : ∀ k, v8.ownBlock = some k → (R k ∨ w.heap.size ≤ k) ∧ k ≠ gr ∧ some k ≠ vi.ownBlock := fun k hk => by
    rcases hb k hk with e | e
    · exact ⟨.inl (h.ownk k e).1, (h.ownk k e).2⟩
    · exact ⟨.inr e, by omega, fun e2 => by have := orow_lt h.js k e2.symm; omega⟩
  refine ⟨⟨.inl h.sr, (h.row.tch ht hng).set_ 0 v8, own_tch ho hO (fun g hg e => (h8 g hg).2.1 e), own_tch (own_tch h.js ht (fun g hg e => (h.ownk g e.symm).2.2 hg.symm)) hO (fun g hg e => (h.owni g hg).2 e), h8, fun g hg => ⟨.inl (h.owni g hg).1, (h.owni g hg).2⟩, ?_⟩, (ht.mono (fun x _ e => (h.ownk x e.symm).1)).trans ((Only.one gr w8 0 v8).tch h.sr)⟩
  exact hk.tch hO (fun x hx e => hx.2.1 e)
/-- other numbers -/
theorem RQ.setj (h : RQ w R gr vk vi Lk Lj) (ht : Tch (fun b => some b = vi.ownBlock) w w8) (ho : w8.ownsRow 0 3 1 v8 L'.length (L'.flatMap jf)) (hb : ∀ k, v8.ownBlock = some k → vi.ownBlock = some k ∨ w.heap.size ≤ k) :
    RQ (w8.setCell ⟨gr, 1, none⟩ v8) (fun b => R b ∨ w.heap.size ≤ b) gr vk v8 Lk L' ∧ Tch R w (w8.setCell ⟨gr, 1, none⟩ v8) := by
  have hO := (Only.one gr w8 1 v8).tch (S := fun b => b = gr) rfl
  have hgl := h.row.lt
  have hng : ¬ some gr = vi.ownBlock := fun e => (h.owni gr e.symm).2 rfl
  have h8 : ∀ k, v8.ownBlock = some k → (R k ∨ w.heap.size ≤ k) ∧ k ≠ gr := fun k hk => by
    rcases hb k hk with e | e
    · exact ⟨.inl (h.owni k e).1, (h.owni k e).2⟩
    · exact ⟨.inr e, by omega⟩
  have h9 : ∀ k, k < w.heap.size → some k ≠ vi.ownBlock → some k ≠ v8.ownBlock := fun k hl hn e => by
    rcases hb k e.symm with e | e
    · exact hn e.symm
    · omega
  refine ⟨⟨.inl h.sr, (h.row.tch ht hng).set_ 1 v8, own_tch (own_tch h.ks ht (fun g hg e => (h.ownk g hg).2.2 e)) hO (fun g hg e => (h.ownk g hg).2.1 e), own_tch ho hO (fun g hg e => (h8 g hg).2 e), fun g hg => ⟨.inl (h.ownk g hg).1, (h.ownk g hg).2.1, h9 g (orow_lt h.ks g hg) (h.ownk g hg).2.2⟩, h8, ?_⟩, (ht.mono (fun x _ e => (h.owni x e.symm).1)).trans ((Only.one gr w8 1 v8).tch h.sr)⟩
  refine ⟨(((h.keys.ok.lt.tch ht (fun x hx e => hx.1.2.2.2 e)).tch hO (fun x hx e => hx.1.2.1 e))).mono (fun x hx _ => ⟨.inl hx.1.1, hx.1.2.1, hx.1.2.2.1, h9 x hx.2 hx.1.2.2.2⟩), h.keys.sized⟩
end
theorem RQ.kcell {w : World} {R : Nat → Prop} {gr g n cap i : Nat} {vi : Value} {L Lj : List Ent} {e : Ent} (h : RQ w R gr (.slice (some ⟨g, 0, none⟩) n cap) vi L Lj) (hi : L[i]? = some e) :
    w.cell? ⟨g, i * 4, none⟩ = some (.bool e.s) ∧ w.cell? ⟨g, i * 4 + 1, none⟩ = some (.slice e.A e.n e.c) ∧ w.cell? ⟨g, i * 4 + 2, none⟩ = some (.bool false) ∧ w.cell? ⟨g, i * 4 + 3, none⟩ = some (.slice e.A' e.n' e.c') := by
  have hl := (List.getElem?_eq_some_iff.1 hi).1
  obtain ⟨g', c', n', e1, e2, -, -, hc⟩ := own_read h.ks (by omega)
  injection e1 with e1; injection e1 with e1; injection e1 with e1
  subst e1
  have hg := flatk_get kf 4 (fun _ => rfl) L i
  exact ⟨hc _ _ (hg 0 (by omega) e hi), hc _ _ (hg 1 (by omega) e hi), hc _ _ (hg 2 (by omega) e hi), hc _ _ (hg 3 (by omega) e hi)⟩
theorem RQ.jcell {w : World} {R : Nat → Prop} {gr g n cap i : Nat} {vk : Value} {Lk L : List Ent} {e : Ent} (h : RQ w R gr vk (.slice (some ⟨g, 0, none⟩) n cap) Lk L) (hi : L[i]? = some e) :
    w.cell? ⟨g, i, none⟩ = some (.int .i64 e.id) := by
  have hl := (List.getElem?_eq_some_iff.1 hi).1
  obtain ⟨g', c', n', e1, e2, -, -, hc⟩ := own_read h.js (by omega)
  injection e1 with e1; injection e1 with e1; injection e1 with e1
  subst e1
  have hg := flatk_get jf 1 (fun _ => rfl) L i 0 (by omega) e hi
  rw [Nat.mul_one, Nat.add_zero] at hg
  exact hc _ _ hg

theorem cmp_neg {a b : Rat} {c : Int} (h : cmpQ a b = c) (hc : c < 0) : a < b := by
  unfold cmpQ at h
  by_cases h1 : a < b
  · exact h1
  · rw [if_neg h1] at h; split at h <;> omega
theorem cmp_not {a b : Rat} {c : Int} (h : cmpQ a b = c) (hc : ¬ c < 0) : b ≤ a := by
  unfold cmpQ at h
  by_cases h1 : a < b
  · rw [if_pos h1] at h; omega
  · grind
theorem upto_new {L : List Ent} {j b : Nat} {e o : Ent} (hj : L[j]? = some e) (hb : L[b]? = some o) (hm : ∀ k x, k < j → L[k]? = some x → o.key ≤ x.key ∧ (k < b → o.key < x.key)) (hlt : e.key < o.key) :
    ∀ k x, k < j + 1 → L[k]? = some x → e.key ≤ x.key ∧ (k < j → e.key < x.key) := fun k x hk hx => by
  by_cases h : k = j
  · subst h; rw [hj] at hx; injection hx with hx; subst hx
    exact ⟨by grind, fun h => by omega⟩
  · have := (hm k x (by omega) hx).1
    exact ⟨by grind, fun _ => by grind⟩
theorem upto_old {L : List Ent} {j b : Nat} {e o : Ent} (hj : L[j]? = some e) (hb : L[b]? = some o) (hbj : b < j) (hm : ∀ k x, k < j → L[k]? = some x → o.key ≤ x.key ∧ (k < b → o.key < x.key)) (hle : o.key ≤ e.key) :
    ∀ k x, k < j + 1 → L[k]? = some x → o.key ≤ x.key ∧ (k < b → o.key < x.key) := fun k x hk hx => by
  by_cases h : k = j
  · subst h; rw [hj] at hx; injection hx with hx; subst hx
    exact ⟨hle, fun h => by omega⟩
  · exact hm k x (by omega) hx
/-- the first one up to a place -/
def UpTo (L : List Ent) (j : Nat) (z : Int) : Prop := (j = 0 ∧ z = -1) ∨ ∃ (b : Nat) (e : Ent), z = b ∧ b < j ∧ L[b]? = some e ∧ ∀ k o, k < j → L[k]? = some o → e.key ≤ o.key ∧ (k < b → e.key < o.key)

set_option maxHeartbeats 8000000 in
theorem rfirst_calls (w : World) (R : Nat → Prop) (gr : Nat) (vk vi : Value) (L : List Ent) (hQ : RQ w R gr vk vi L L) (hl : L.length ≤ 1000) :
    Calls Try.prog 28 #[.pointer (some ⟨gr, 0, none⟩)] w (RetZ w (UpTo L L.length)) := by
  obtain ⟨A, n, c, rfl, hn⟩ := own_form hQ.ks
  obtain ⟨B, m, d, rfl, hm⟩ := own_form hQ.js
  have hn2 : n ≤ 1000 := by omega
  have hmn : m = n := by omega
  have HQ := hide hQ; have HN := hide hn
  have hmx : Try.prog.follows .mixedOrders = true := by kernel_rfl
  subst hmn
  clear hQ hn hm
  go_enter Try.func28, Try.ntmps28
  go_wp2_with fail
  go_loopw [3, 4] (fun bv iv wr => ∃ (j : Nat) (z : Int), j ≤ m ∧ iv = .int .i64 (j : Int) ∧ bv = .int .i64 z ∧ Hid (UpTo L j z) ∧ Hid (Later w wr)) (fun _ iv _ => (m - intOf iv).toNat)
  case atStart => exact ⟨0, -1, by omega, rfl, rfl, hide (.inl ⟨rfl, rfl⟩), hide (Later.refl w)⟩
  case round =>
    obtain ⟨j, z, hj, rfl, rfl, HU, HL⟩ := hrel
    have hq1 := (HQ.out.later HL.out).row.cell (i := 1) rfl
    have hq0 := (HQ.out.later HL.out).row.cell (i := 0) rfl
    by_cases hjn : j < m
    · have hj1 : (j : Int) < (m : Int) := by omega
      have hj0 : (0 : Int) ≤ (j : Int) := by omega
      obtain ⟨e, he⟩ : ∃ e, e = fn L j := ⟨_, rfl⟩
      have hje : L[j]? = some e := by rw [he]; exact fn_at (by have := HN.out; omega)
      obtain ⟨g, cap, n', hv, hn', -, -, -⟩ := own_read HQ.out.ks (by have := HN.out; omega)
      injection hv with v1 v2 v3
      subst v1 v2 v3
      have HJE := hide hje
      have HQR := hide (HQ.out.later HL.out)
      clear he hje hn' hq0 hq1
      rcases HU.out with ⟨rfl, rfl⟩ | ⟨b, o, rfl, hbj, hbo, hmin⟩
      · have HU1 : Hid (UpTo L (0 + 1) ((0 : Nat) : Int)) := hide (.inr ⟨0, e, rfl, by omega, HJE.out, fun k x hk hx => by
          obtain rfl : k = 0 := by omega
          rw [HJE.out] at hx; injection hx with hx; subst hx
          exact ⟨by grind, fun h => by omega⟩⟩)
        have hq1 := HQR.out.row.cell (i := 1) rfl
        go_upto_region 5 with fail
        refine wp_region_N (fun _ => True) [] hmx trivial (fun hHeld => ?_)
        refine wpAnyN_takeD (some 14) (by rfl) (i := 0) (oi := _) (v := ?_) rfl (by kernel_rfl) (by kernel_rfl) (by kernel_rfl) (by kernel_rfl) (fun _ _ _ h => h) (Or.inl ⟨by rfl, ?_⟩) (by assumption) ?_
        rotate_left
        · intro w hSw; (try dsimp only at hSw); go_simp
          first | done | with_reducible rfl
        try simp only [Act.put, List.setIfInBounds_toArray, List.set_cons_zero, List.set_cons_succ]
        refine wpAnyN_takeD (some 15) (by rfl) (i := 1) (oi := _) (v := ?_) rfl (by kernel_rfl) (by kernel_rfl) (by kernel_rfl) (by kernel_rfl) (fun _ _ _ h => h) (Or.inl ⟨by rfl, ?_⟩) (by assumption) ?_
        rotate_left
        · intro w hSw; (try dsimp only at hSw); go_simp
          first | done | with_reducible rfl
        try simp only [Act.put, List.setIfInBounds_toArray, List.set_cons_zero, List.set_cons_succ]
        refine wpAnyN_takeD (some 16) (by rfl) (i := 2) (oi := _) (v := ?_) rfl (by kernel_rfl) (by kernel_rfl) (by kernel_rfl) (by kernel_rfl) (fun _ _ _ h => h) (Or.inl ⟨by rfl, ?_⟩) (by assumption) ?_
        rotate_left
        · intro w hSw; (try dsimp only at hSw); go_simp
          first | done | with_reducible rfl
        try simp only [Act.put, List.setIfInBounds_toArray, List.set_cons_zero, List.set_cons_succ]
        refine wpAnyN_takeD (some 17) (by rfl) (i := 3) (oi := _) (v := undef) rfl (by kernel_rfl) (by kernel_rfl) (by kernel_rfl) (by kernel_rfl) (fun _ _ _ h => h) (Or.inr ⟨by rfl, rfl⟩) (by assumption) ?_
        try simp only [Act.put, List.setIfInBounds_toArray, List.set_cons_zero, List.set_cons_succ]
        refine wpAnyN_takeD (some 18) (by rfl) (i := 4) (oi := _) (v := undef) rfl (by kernel_rfl) (by kernel_rfl) (by kernel_rfl) (by kernel_rfl) (fun _ _ _ h => h) (Or.inr ⟨by rfl, rfl⟩) (by assumption) ?_
        try simp only [Act.put, List.setIfInBounds_toArray, List.set_cons_zero, List.set_cons_succ]
        refine wpAnyN_takeD (some 19) (by rfl) (i := 5) (oi := _) (v := undef) rfl (by kernel_rfl) (by kernel_rfl) (by kernel_rfl) (by kernel_rfl) (fun _ _ _ h => h) (Or.inr ⟨by rfl, rfl⟩) (by assumption) ?_
        try simp only [Act.put, List.setIfInBounds_toArray, List.set_cons_zero, List.set_cons_succ]
        refine wpAnyN_takeD (some 20) (by rfl) (i := 6) (oi := _) (v := undef) rfl (by kernel_rfl) (by kernel_rfl) (by kernel_rfl) (by kernel_rfl) (fun _ _ _ h => h) (Or.inr ⟨by rfl, rfl⟩) (by assumption) ?_
        try simp only [Act.put, List.setIfInBounds_toArray, List.set_cons_zero, List.set_cons_succ]
        refine wpAnyN_takeD (some 21) (by rfl) (i := 7) (oi := _) (v := undef) rfl (by kernel_rfl) (by kernel_rfl) (by kernel_rfl) (by kernel_rfl) (fun _ _ _ h => h) (Or.inr ⟨by rfl, rfl⟩) (by assumption) ?_
        try simp only [Act.put, List.setIfInBounds_toArray, List.set_cons_zero, List.set_cons_succ]
        refine wpAnyN_takeD (some 22) (by rfl) (i := 8) (oi := _) (v := undef) rfl (by kernel_rfl) (by kernel_rfl) (by kernel_rfl) (by kernel_rfl) (fun _ _ _ h => h) (Or.inr ⟨by rfl, rfl⟩) (by assumption) ?_
        try simp only [Act.put, List.setIfInBounds_toArray, List.set_cons_zero, List.set_cons_succ]
        refine wpAnyN_takeD (some 23) (by rfl) (i := 9) (oi := _) (v := undef) rfl (by kernel_rfl) (by kernel_rfl) (by kernel_rfl) (by kernel_rfl) (fun _ _ _ h => h) (Or.inr ⟨by rfl, rfl⟩) (by assumption) ?_
        try simp only [Act.put, List.setIfInBounds_toArray, List.set_cons_zero, List.set_cons_succ]
        refine wpAnyN_takeD (some 24) (by rfl) (i := 10) (oi := _) (v := undef) rfl (by kernel_rfl) (by kernel_rfl) (by kernel_rfl) (by kernel_rfl) (fun _ _ _ h => h) (Or.inr ⟨by rfl, rfl⟩) (by assumption) ?_
        try simp only [Act.put, List.setIfInBounds_toArray, List.set_cons_zero, List.set_cons_succ]
        refine wpAnyN_takeD (some 25) (by rfl) (i := 11) (oi := _) (v := undef) rfl (by kernel_rfl) (by kernel_rfl) (by kernel_rfl) (by kernel_rfl) (fun _ _ _ h => h) (Or.inr ⟨by rfl, rfl⟩) (by assumption) ?_
        try simp only [Act.put, List.setIfInBounds_toArray, List.set_cons_zero, List.set_cons_succ]
        refine wpAnyN_takeD (some 26) (by rfl) (i := 12) (oi := _) (v := undef) rfl (by kernel_rfl) (by kernel_rfl) (by kernel_rfl) (by kernel_rfl) (fun _ _ _ h => h) (Or.inr ⟨by rfl, rfl⟩) (by assumption) ?_
        try simp only [Act.put, List.setIfInBounds_toArray, List.set_cons_zero, List.set_cons_succ]
        refine wpAnyN_takeD (some 27) (by rfl) (i := 13) (oi := _) (v := undef) rfl (by kernel_rfl) (by kernel_rfl) (by kernel_rfl) (by kernel_rfl) (fun _ _ _ h => h) (Or.inr ⟨by rfl, rfl⟩) (by assumption) ?_
        try simp only [Act.put, List.setIfInBounds_toArray, List.set_cons_zero, List.set_cons_succ]
        refine wpAnyN_takeD (some 28) (by rfl) (i := 14) (oi := _) (v := undef) rfl (by kernel_rfl) (by kernel_rfl) (by kernel_rfl) (by kernel_rfl) (fun _ _ _ h => h) (Or.inr ⟨by rfl, rfl⟩) (by assumption) ?_
        try simp only [Act.put, List.setIfInBounds_toArray, List.set_cons_zero, List.set_cons_succ]
        refine wpAnyN_takeD (some 29) (by rfl) (i := 15) (oi := _) (v := undef) rfl (by kernel_rfl) (by kernel_rfl) (by kernel_rfl) (by kernel_rfl) (fun _ _ _ h => h) (Or.inr ⟨by rfl, rfl⟩) (by assumption) ?_
        try simp only [Act.put, List.setIfInBounds_toArray, List.set_cons_zero, List.set_cons_succ]
        refine wpAnyN_takeD (some 30) (by rfl) (i := 16) (oi := _) (v := undef) rfl (by kernel_rfl) (by kernel_rfl) (by kernel_rfl) (by kernel_rfl) (fun _ _ _ h => h) (Or.inr ⟨by rfl, rfl⟩) (by assumption) ?_
        try simp only [Act.put, List.setIfInBounds_toArray, List.set_cons_zero, List.set_cons_succ]
        refine wpAnyN_takeD (some 31) (by rfl) (i := 17) (oi := _) (v := undef) rfl (by kernel_rfl) (by kernel_rfl) (by kernel_rfl) (by kernel_rfl) (fun _ _ _ h => h) (Or.inr ⟨by rfl, rfl⟩) (by assumption) ?_
        try simp only [Act.put, List.setIfInBounds_toArray, List.set_cons_zero, List.set_cons_succ]
        refine wpAnyN_takeD (some 32) (by rfl) (i := 18) (oi := _) (v := undef) rfl (by kernel_rfl) (by kernel_rfl) (by kernel_rfl) (by kernel_rfl) (fun _ _ _ h => h) (Or.inr ⟨by rfl, rfl⟩) (by assumption) ?_
        try simp only [Act.put, List.setIfInBounds_toArray, List.set_cons_zero, List.set_cons_succ]
        refine wpAnyN_takeD (some 33) (by rfl) (i := 19) (oi := _) (v := ?_) rfl (by kernel_rfl) (by kernel_rfl) (by kernel_rfl) (by kernel_rfl) (fun _ _ _ h => h) (Or.inl ⟨by rfl, ?_⟩) (by assumption) ?_
        rotate_left
        · intro w hSw; (try dsimp only at hSw); go_simp
          first | done | with_reducible rfl
        try simp only [Act.put, List.setIfInBounds_toArray, List.set_cons_zero, List.set_cons_succ]
        refine wpAnyN_done (by kernel_rfl) ?_ _
        go_wp2_with fail
        exact ⟨⟨0 + 1, ((0 : Nat) : Int), by omega, by go_num, by go_num, HU1, hide HL.out.drew⟩, by simp [intOf]; omega⟩

      · have HB : Hid (L[b]? = some o) := hide hbo
        have HM := hide hmin
        obtain ⟨f0, f1, f2, f3⟩ := HQR.out.kcell HJE.out
        obtain ⟨g0, g1, g2, g3⟩ := HQR.out.kcell HB.out
        have hq0 := HQR.out.row.cell (i := 0) rfl
        have hq1 := HQR.out.row.cell (i := 1) rfl
        have hb0 : (0 : Int) ≤ (b : Int) := by omega
        have hb1 : (b : Int) < (m : Int) := by omega
        have hbn : decide ((b : Int) < 0) = false := by simp
        have HE1 : Hid (RawR wr (.agg #[.bool e.s, .slice e.A e.n e.c, .bool false, .slice e.A' e.n' e.c']) e.key 100) := hide (OwnR.raw (HQR.out.keys.ok.now e (List.mem_of_getElem? HJE.out)) (HQR.out.keys.sized e (List.mem_of_getElem? HJE.out)))
        have HE2 : Hid (RawR wr (.agg #[.bool o.s, .slice o.A o.n o.c, .bool false, .slice o.A' o.n' o.c']) o.key 100) := hide (OwnR.raw (HQR.out.keys.ok.now o (List.mem_of_getElem? HB.out)) (HQR.out.keys.sized o (List.mem_of_getElem? HB.out)))
        have HD8 : Hid (Later wr wr.drew) := hide (Later.refl wr).drew
        clear hbo hmin
        have HT1 : Hid (∀ w', Later wr.drew w' → w'.cell? ⟨gr, 0, none⟩ = some (.slice (some ⟨g, 0, none⟩) m c) ∧ w'.cell? ⟨g, j * 4, none⟩ = some (.bool e.s) ∧ w'.cell? ⟨g, j * 4 + 1, none⟩ = some (.slice e.A e.n e.c) ∧ w'.cell? ⟨g, j * 4 + 2, none⟩ = some (.bool false) ∧ w'.cell? ⟨g, j * 4 + 3, none⟩ = some (.slice e.A' e.n' e.c') ∧ w'.cell? ⟨g, b * 4, none⟩ = some (.bool o.s) ∧ w'.cell? ⟨g, b * 4 + 1, none⟩ = some (.slice o.A o.n o.c) ∧ w'.cell? ⟨g, b * 4 + 2, none⟩ = some (.bool false) ∧ w'.cell? ⟨g, b * 4 + 3, none⟩ = some (.slice o.A' o.n' o.c')) := hide fun w' hb => ⟨Later.cell hb hq0, Later.cell hb f0, Later.cell hb f1, Later.cell hb f2, Later.cell hb f3, Later.cell hb g0, Later.cell hb g1, Later.cell hb g2, Later.cell hb g3⟩
        obtain ⟨cz, hcz⟩ : ∃ cz, cmpQ e.key o.key = cz := ⟨_, rfl⟩
        have HCZ := hide hcz
        clear hcz
        go_upto_region 5 with fail
        go_region_held3 (fun w' => w'.cell? ⟨gr, 0, none⟩ = some (.slice (some ⟨g, 0, none⟩) m c) ∧ w'.cell? ⟨g, j * 4, none⟩ = some (.bool e.s) ∧ w'.cell? ⟨g, j * 4 + 1, none⟩ = some (.slice e.A e.n e.c) ∧ w'.cell? ⟨g, j * 4 + 2, none⟩ = some (.bool false) ∧ w'.cell? ⟨g, j * 4 + 3, none⟩ = some (.slice e.A' e.n' e.c') ∧ w'.cell? ⟨g, b * 4, none⟩ = some (.bool o.s) ∧ w'.cell? ⟨g, b * 4 + 1, none⟩ = some (.slice o.A o.n o.c) ∧ w'.cell? ⟨g, b * 4 + 2, none⟩ = some (.bool false) ∧ w'.cell? ⟨g, b * 4 + 3, none⟩ = some (.slice o.A' o.n' o.c'))
          (first | exact HT1.out _ (Later.refl _) | exact HT1.out _ b1)
          (first
            | ((with_reducible refine (qcmp_calls _ _ _ e.key o.key 100 100 (RawR.later HE1.out HD8.out) (RawR.later HE2.out HD8.out) (by omega)).mono ?_); rintro e' w1 ⟨rfl, b1⟩; rw [HCZ.out]))
        all_goals
          have HL1 := hide (HL.out.drew.trans b1)
          clear b1
          by_cases hlt : cz < 0
          · have HU2 : Hid (UpTo L (j + 1) (j : Int)) := hide (.inr ⟨j, e, rfl, by omega, HJE.out, upto_new HJE.out HB.out HM.out (cmp_neg HCZ.out hlt)⟩)
            go_wp2_with fail
            exact ⟨⟨j + 1, (j : Int), by omega, by go_num, rfl, HU2, HL1⟩, by simp [intOf]; omega⟩
          · have HU2 : Hid (UpTo L (j + 1) (b : Int)) := hide (.inr ⟨b, o, rfl, by omega, HB.out, upto_old HJE.out HB.out hbj HM.out (cmp_not HCZ.out hlt)⟩)
            go_wp2_with fail
            exact ⟨⟨j + 1, (b : Int), by omega, by go_num, rfl, HU2, HL1⟩, by simp [intOf]; omega⟩
    · obtain rfl : j = m := by omega
      have HF : Hid (UpTo L L.length z) := hide (by rw [← HN.out]; exact HU.out)
      go_wp2_with fail
      go_ret
      exact ⟨z, rfl, HF.out, HL.out⟩
end Go.Proofs.Ytbhohnhkephefaa


/- Queues: the reference's Put. -/
set_option linter.unusedVariables false
set_option linter.unusedSimpArgs false
set_option maxRecDepth 100000
namespace Go.Proofs.Ytbhohnhkephefaa
open Go.RowKit Go.Shelf
attribute [local go_sem ↓] Go.wp_at_zero Go.wp_at_succ

section
variable {w : World} {o : Oper} {a : Act} {K : Act → World → Prop} {Q : Exit → Act → World → Prop}
/-- append to keys -/
theorem wp_append_k (s x : Operand) (ho : o.op = .call { callee := .builtin .append, args := #[s, x], argTypes := #[27, 27] })
    (v : Value) (L M : List Ent) (hs : a.eval s = v) {B0 : Nat} (hB0 : B0 ≤ w.heap.size) (hown : w.ownsRow B0 35 4 v L.length (L.flatMap kf)) (g off : Nat) (m c : Nat) (hx : a.eval x = .slice (some ⟨g, off, none⟩) m c) (hm : m = M.length)
    (hnews : ∀ j u, (M.flatMap kf)[j]? = some u → w.cell? ⟨g, off + j, none⟩ = some u) (hnm : L.length + M.length ≤ 1000000)
    (h : ∀ v' w', w'.ownsRow B0 35 4 v' (L ++ M).length ((L ++ M).flatMap kf) → w.grownBy w' v.ownBlock → (v'.ownBlock = v.ownBlock ∨ v'.ownBlock = some w.heap.size) → K (a.put o.dst v') w') : o.wp Try.prog a w K Q := by
  refine wp_append_own_ s x _ ho B0 35 _ 4 64 Try.underlying27 info_rat rfl (by omega) (by omega) v L.length _ hs hown ⟨g, off, none⟩ m c (M.flatMap kf) hx (by rw [flatk_len kf 4 (fun _ => rfl), hm]) (fun j u hj => by rw [Go.WideShapes.add_plain]; exact hnews j u hj) (fun u hu => by
    obtain ⟨e, -, he⟩ := List.mem_flatMap.1 hu
    simp [kf] at he; rcases he with rfl | rfl | rfl | rfl <;> rfl) (by omega) hB0 ?_
  intro v' w' k1 k2 k3
  refine h v' w' ?_ k2 k3
  rw [List.flatMap_append, List.length_append, ← hm]; exact k1
/-- append to numbers -/
theorem wp_append_j (s x : Operand) (ho : o.op = .call { callee := .builtin .append, args := #[s, x], argTypes := #[28, 28] })
    (v : Value) (L M : List Ent) (hs : a.eval s = v) {B0 : Nat} (hB0 : B0 ≤ w.heap.size) (hown : w.ownsRow B0 3 1 v L.length (L.flatMap jf)) (g off : Nat) (m c : Nat) (hx : a.eval x = .slice (some ⟨g, off, none⟩) m c) (hm : m = M.length)
    (hnews : ∀ j u, (M.flatMap jf)[j]? = some u → w.cell? ⟨g, off + j, none⟩ = some u) (hnm : L.length + M.length ≤ 1000000)
    (h : ∀ v' w', w'.ownsRow B0 3 1 v' (L ++ M).length ((L ++ M).flatMap jf) → w.grownBy w' v.ownBlock → (v'.ownBlock = v.ownBlock ∨ v'.ownBlock = some w.heap.size) → K (a.put o.dst v') w') : o.wp Try.prog a w K Q := by
  refine wp_append_own_ s x _ ho B0 3 _ 1 8 Try.underlying28 info_int rfl (by omega) (by omega) v L.length _ hs hown ⟨g, off, none⟩ m c (M.flatMap jf) hx (by rw [flatk_len jf 1 (fun _ => rfl), hm]) (fun j u hj => by rw [Go.WideShapes.add_plain]; exact hnews j u hj) (fun u hu => by
    obtain ⟨e, -, he⟩ := List.mem_flatMap.1 hu
    simp [jf] at he; subst he; rfl) (by omega) hB0 ?_
  intro v' w' k1 k2 k3
  refine h v' w' ?_ k2 k3
  rw [List.flatMap_append, List.length_append, ← hm]; exact k1
end
theorem wpList_append_k {w : World} {ops : Array Oper} {rest : List Oper} {o : Oper} {a : Act} {Q : Exit → Act → World → Prop} (hgd : o.guard = none) (s x : Operand) (ho : o.op = .call { callee := .builtin .append, args := #[s, x], argTypes := #[27, 27] })
    (v : Value) (L M : List Ent) (hs : a.eval s = v) {B0 : Nat} (hB0 : B0 ≤ w.heap.size) (hown : w.ownsRow B0 35 4 v L.length (L.flatMap kf)) (g off : Nat) (m c : Nat) (hx : a.eval x = .slice (some ⟨g, off, none⟩) m c) (hm : m = M.length)
    (hnews : ∀ j u, (M.flatMap kf)[j]? = some u → w.cell? ⟨g, off + j, none⟩ = some u) (hnm : L.length + M.length ≤ 1000000)
    (h : ∀ v' w', w'.ownsRow B0 35 4 v' (L ++ M).length ((L ++ M).flatMap kf) → w.grownBy w' v.ownBlock → (v'.ownBlock = v.ownBlock ∨ v'.ownBlock = some w.heap.size) → wpList Try.prog ops Q rest (a.put o.dst v') w') : wpList Try.prog ops Q (o :: rest) a w :=
  wpList_plain hgd fun K hK => wp_append_k s x ho v L M hs hB0 hown g off m c hx hm hnews hnm fun v' w' h1 h2 h3 => hK _ _ (h v' w' h1 h2 h3)
theorem wpList_append_j {w : World} {ops : Array Oper} {rest : List Oper} {o : Oper} {a : Act} {Q : Exit → Act → World → Prop} (hgd : o.guard = none) (s x : Operand) (ho : o.op = .call { callee := .builtin .append, args := #[s, x], argTypes := #[28, 28] })
    (v : Value) (L M : List Ent) (hs : a.eval s = v) {B0 : Nat} (hB0 : B0 ≤ w.heap.size) (hown : w.ownsRow B0 3 1 v L.length (L.flatMap jf)) (g off : Nat) (m c : Nat) (hx : a.eval x = .slice (some ⟨g, off, none⟩) m c) (hm : m = M.length)
    (hnews : ∀ j u, (M.flatMap jf)[j]? = some u → w.cell? ⟨g, off + j, none⟩ = some u) (hnm : L.length + M.length ≤ 1000000)
    (h : ∀ v' w', w'.ownsRow B0 3 1 v' (L ++ M).length ((L ++ M).flatMap jf) → w.grownBy w' v.ownBlock → (v'.ownBlock = v.ownBlock ∨ v'.ownBlock = some w.heap.size) → wpList Try.prog ops Q rest (a.put o.dst v') w') : wpList Try.prog ops Q (o :: rest) a w :=
  wpList_plain hgd fun K hK => wp_append_j s x ho v L M hs hB0 hown g off m c hx hm hnews hnm fun v' w' h1 h2 h3 => hK _ _ (h v' w' h1 h2 h3)
/-- keys of one's own, and one more -/
theorem keys_more {w0 w w' : World} {R : Nat → Prop} {gr : Nat} {vk vi v8 : Value} {L : List Ent} {e : Ent} (h : Keys w (fun b => R b ∧ b ≠ gr ∧ some b ≠ vk.ownBlock ∧ some b ≠ vi.ownBlock) L) (he : On w (fun b => w0.heap.size ≤ b) (fun W => e.ok W)) (hes : Sized e.key 100)
    (h0 : w0.heap.size ≤ w.heap.size) (ht : Tch (fun b => some b = vk.ownBlock) w w') (hk : ∀ k, vk.ownBlock = some k → k < w0.heap.size) (hi : ∀ k, vi.ownBlock = some k → k < w0.heap.size) (hg : gr < w0.heap.size) (hb : ∀ k, v8.ownBlock = some k → vk.ownBlock = some k ∨ w.heap.size ≤ k) :
    Keys w' (fun b => (R b ∨ w0.heap.size ≤ b) ∧ b ≠ gr ∧ some b ≠ v8.ownBlock ∧ some b ≠ vi.ownBlock) (L ++ [e]) := by
  have h8 : ∀ b, b < w.heap.size → some b ≠ vk.ownBlock → some b ≠ v8.ownBlock := fun b hb' hn e => by
    rcases hb b e.symm with e | e
    · exact hn e.symm
    · omega
  have h1 : On w (fun b => (R b ∨ w0.heap.size ≤ b) ∧ b ≠ gr ∧ some b ≠ vk.ownBlock ∧ some b ≠ vi.ownBlock) (fun W => ∀ x ∈ L ++ [e], x.ok W) :=
    ((h.ok.mono (fun b hb _ => ⟨.inl hb.1, hb.2⟩)).and (he.mono (fun b hb _ => ⟨.inr hb, by omega, fun e => by have := hk b e.symm; omega, fun e => by have := hi b e.symm; omega⟩))).map fun W hW x hx => by
      rcases List.mem_append.1 hx with hx | hx
      · exact hW.1 x hx
      · simp at hx; subst hx; exact hW.2
  refine ⟨(h1.lt.tch ht (fun x hx e => hx.1.2.2.1 e)).mono (fun b hb _ => ⟨hb.1.1, hb.1.2.1, h8 b hb.2 hb.1.2.2.1, hb.1.2.2.2⟩), fun x hx => ?_⟩
  rcases List.mem_append.1 hx with hx | hx
  · exact h.sized x hx
  · simp at hx; subst hx; exact hes
/-- what it is made of is what it was made of, or new; nothing else has turned -/
def RStep (w : World) (S : Nat → Prop) (w' : World) (S' : Nat → Prop) : Prop := (∀ b, S' b → S b ∨ w.heap.size ≤ b) ∧ Tch S w w'
/-- the reference's queue, wherever its parts lie -/
def RQs (w : World) (R : Nat → Prop) (gr : Nat) (L : List Ent) : Prop := ∃ vk vi, RQ w R gr vk vi L L
def RPutPost (w : World) (R : Nat → Prop) (gr : Nat) (L : List Ent) (q : Rat) (id : Int) (e' : Ending) (w' : World) : Prop := e' = .returned (.tuple #[]) ∧ ∃ R' ent, RStep w R w' R' ∧ ent.key = q ∧ ent.id = id ∧ RQs w' R' gr (L ++ [ent])

set_option maxHeartbeats 8000000 in
theorem rput_calls (w : World) (R : Nat → Prop) (gr : Nat) (L : List Ent) (vk : Value) (q : Rat) (id : Int) (hQ : RQs w R gr L) (hl : L.length ≤ 1000) (hk : RawR w vk q 50) :
    Calls Try.prog 12 #[.pointer (some ⟨gr, 0, none⟩), vk, .int .i64 id] w (RPutPost w R gr L q id) := by
  obtain ⟨vk_, vi_, hQ⟩ := hQ
  obtain ⟨A, n, c, rfl, hn⟩ := own_form hQ.ks
  obtain ⟨B, m, d, rfl, hm⟩ := own_form hQ.js
  obtain ⟨sk, Ak, nk, ck, sk', Bk, mk, dk, rfl⟩ := hk.open_
  have HQS : Hid (Sized q 100) := hide (hk.sized.mono (by omega))
  obtain ⟨W0, hW0⟩ : ∃ W0, W0 = w.alloc (Obj.cells #[Value.bool sk, Value.slice Ak nk ck, Value.bool sk', Value.slice Bk mk dk] 35) := ⟨_, rfl⟩
  obtain ⟨hb0, r1, hsz⟩ := boxes1 w [.bool sk, .slice Ak nk ck, .bool sk', .slice Bk mk dk] 35 hW0
  have HQ : Hid (RQ W0 (fun b => R b ∧ b < w.heap.size) gr (.slice A n c) (.slice B m d) L L) := hide (hQ.tch (T := fun _ => False) hb0.tch (fun _ _ _ h => h))
  have hkw := orow_lt HQ.out.ks
  have hiw := orow_lt HQ.out.js
  have hgw := HQ.out.row.lt
  have hkw' := orow_lt hQ.ks
  have hng : ¬ some gr = (Value.slice A n c).ownBlock := fun e => (hQ.ownk gr e.symm).2.1 rfl
  have HROW := hide HQ.out.row
  have HS : Hid (∀ w', Tch (fun b => some b = (Value.slice A n c).ownBlock) W0 w' → w'.cell? ⟨gr, 0, none⟩ = some (.slice A n c) ∧ w'.cell? ⟨w.heap.size, 0, none⟩ = some (.bool sk) ∧ w'.cell? ⟨w.heap.size, 1, none⟩ = some (.slice Ak nk ck) ∧ w'.cell? ⟨w.heap.size, 2, none⟩ = some (.bool sk') ∧ w'.cell? ⟨w.heap.size, 3, none⟩ = some (.slice Bk mk dk)) := hide fun w' hT => by
    have h1 := HROW.out.tch hT hng
    have h2 := r1.tch hT (fun e => by have := hkw' _ e.symm; omega)
    exact ⟨h1.cell rfl, h2.cell rfl, h2.cell rfl, h2.cell rfl, h2.cell rfl⟩
  have HRAW := hide (hk.later hb0)
  have HB0 := hide hb0; have HW0 := hide hW0
  have hmx : Try.prog.follows .mixedOrders = true := by kernel_rfl
  clear hQ hk hW0 r1 hb0 hn hm
  go_enter Try.func12, Try.ntmps12
  go_upto_region 1 with fail
  rw [← HW0.out]
  refine wp_region_N (fun w' => w'.cell? ⟨gr, 0, none⟩ = some (.slice A n c) ∧ w'.cell? ⟨w.heap.size, 0, none⟩ = some (.bool sk) ∧ w'.cell? ⟨w.heap.size, 1, none⟩ = some (.slice Ak nk ck) ∧ w'.cell? ⟨w.heap.size, 2, none⟩ = some (.bool sk') ∧ w'.cell? ⟨w.heap.size, 3, none⟩ = some (.slice Bk mk dk)) [11] hmx (HS.out _ (Tch.refl _ W0).drew) (fun hHeld => ?_)
  refine wpAnyN_take (i := 0) (oi := _) (v := ?_) rfl (by kernel_rfl) (by kernel_rfl) (by kernel_rfl) (by kernel_rfl) (fun _ _ _ h => h) (Or.inl ⟨by rfl, ?_⟩) (by assumption) ?_
  rotate_left
  · intro w hSw; (try dsimp only at hSw); go_simp
    first | done | with_reducible rfl
  try simp only [Act.put, List.setIfInBounds_toArray, List.set_cons_zero, List.set_cons_succ]
  refine wpAnyN_take (i := 1) (oi := _) (v := ?_) rfl (by kernel_rfl) (by kernel_rfl) (by kernel_rfl) (by kernel_rfl) (fun _ _ _ h => h) (Or.inl ⟨by rfl, ?_⟩) (by assumption) ?_
  rotate_left
  · intro w hSw; (try dsimp only at hSw); go_simp
    first | done | with_reducible rfl
  try simp only [Act.put, List.setIfInBounds_toArray, List.set_cons_zero, List.set_cons_succ]
  refine wpAnyN_take (i := 2) (oi := _) (v := ?_) rfl (by kernel_rfl) (by kernel_rfl) (by kernel_rfl) (by kernel_rfl) (fun _ _ _ h => h) (Or.inl ⟨by rfl, ?_⟩) (by assumption) ?_
  rotate_left
  · intro w hSw; (try dsimp only at hSw); go_simp
    first | done | with_reducible rfl
  try simp only [Act.put, List.setIfInBounds_toArray, List.set_cons_zero, List.set_cons_succ]
  refine wpAnyN_take (i := 3) (oi := _) (v := ?_) rfl (by kernel_rfl) (by kernel_rfl) (by kernel_rfl) (by kernel_rfl) (fun _ _ _ h => h) (Or.inl ⟨by rfl, ?_⟩) (by assumption) ?_
  rotate_left
  · intro w hSw; (try dsimp only at hSw); go_simp
    first | done | with_reducible rfl
  try simp only [Act.put, List.setIfInBounds_toArray, List.set_cons_zero, List.set_cons_succ]
  refine wpAnyN_take (i := 4) (oi := _) (v := ?_) rfl (by kernel_rfl) (by kernel_rfl) (by kernel_rfl) (by kernel_rfl) (fun _ _ _ h => h) (Or.inl ⟨by rfl, ?_⟩) (by assumption) ?_
  rotate_left
  · intro w hSw; (try dsimp only at hSw); go_simp
    first | done | with_reducible rfl
  try simp only [Act.put, List.setIfInBounds_toArray, List.set_cons_zero, List.set_cons_succ]
  refine wpAnyN_take (i := 5) (oi := _) (v := ?_) rfl (by kernel_rfl) (by kernel_rfl) (by kernel_rfl) (by kernel_rfl) (fun _ _ _ h => h) (Or.inl ⟨by rfl, ?_⟩) (by assumption) ?_
  rotate_left
  · intro w hSw; (try dsimp only at hSw); go_simp
    first | done | with_reducible rfl
  try simp only [Act.put, List.setIfInBounds_toArray, List.set_cons_zero, List.set_cons_succ]
  refine wpAnyN_ready (rs := [6]) (by kernel_rfl) (by simp) ?_
  refine AllReadyN.held rfl (by rfl) (fun K hK => ?_) AllReadyN.nil
  go_simp
  ((with_reducible refine (qplain_calls _ _ q 50 (HRAW.out.later (Later.refl W0).drew) (by omega)).mono ?_); rintro e' w5 ⟨v5, rfl, o5, b5⟩)
  obtain ⟨s5, A5, n5, c5, A5', n5', c5', rfl, -⟩ := o5.open_
  have HL5 : Hid (Later W0 w5) := hide (Later.trans (Later.refl W0).drew b5)
  have HT6 : Hid (Tch (fun b => some b = (Value.slice A n c).ownBlock) W0 w5) := hide HL5.out.tch
  obtain ⟨ent, hent⟩ : ∃ ent : Ent, ent = ⟨s5, A5, n5, c5, A5', n5', c5', id, 0, q⟩ := ⟨_, rfl⟩
  have HE5 : Hid (On w5 (fun b => W0.heap.size ≤ b) (fun W => ent.ok W)) := hide (On.ownR (show OwnR w5 W0.heap.size (.agg #[.bool ent.s, .slice ent.A ent.n ent.c, .bool false, .slice ent.A' ent.n' ent.c']) ent.key by rw [hent]; exact o5))
  have HENT := hide hent
  clear o5 b5 hent
  refine hK.out _ _ ?_ (fun hHeld => ?_)
  · exact HS.out _ HT6.out
  clear hK K
  try simp only [Act.put, List.setIfInBounds_toArray, List.set_cons_zero, List.set_cons_succ]
  refine wpAnyN_ready (rs := [7]) (by kernel_rfl) (by simp) ?_
  refine AllReadyN.held rfl (by rfl) (fun K hK => ?_) AllReadyN.nil
  go_simp
  refine hK.out _ _ ?_ (fun hHeld => ?_)
  · exact HS.out _ (HT6.out.alloc _)
  clear hK K
  try simp only [Act.put, List.setIfInBounds_toArray, List.set_cons_zero, List.set_cons_succ]
  refine wpAnyN_ready (rs := [8]) (by kernel_rfl) (by simp) ?_
  refine AllReadyN.held rfl (by rfl) (fun K hK => ?_) AllReadyN.nil
  refine wp_append_k _ _ rfl _ L [ent] (by rfl) (Nat.zero_le _) (ownsRow_later HQ.out.ks (HL5.out.alloc _)) w5.heap.size 0 1 1 (by rfl) rfl (fun j u hj => by rw [HENT.out] at hj; rw [Nat.zero_add]; exact (Row.new w5 35 [.bool s5, .slice A5 n5 c5, .bool false, .slice A5' n5' c5']).cell hj) (by simp; omega) ?_
  intro v8 w8 k1 k2 k3
  obtain ⟨A8, n8, c8, rfl, -⟩ := own_form k1
  have hT8 : Tch (fun b => some b = (Value.slice A n c).ownBlock) w5 w8 := (Later.tch ((Later.refl w5).alloc _)).trans (grown_tch k2 fun k hk => hk.symm)
  have hbk : ∀ k, (Value.slice A8 n8 c8).ownBlock = some k → (Value.slice A n c).ownBlock = some k ∨ w5.heap.size ≤ k := fun k hk => by
    rcases k3 with e | e
    · rw [e] at hk; exact .inl hk
    · rw [e] at hk; injection hk with hk; rw [World.size_alloc] at hk; exact .inr (by omega)
  have HT8 : Hid (Tch (fun b => some b = (Value.slice A n c).ownBlock) W0 w8) := hide (HT6.out.trans hT8)
  have hr8 : Row w8 gr 30 [.slice A n c, .slice B m d] := (HQ.out.later HL5.out).row.tch hT8 (fun e => hng e)
  have p8 := hr8.cell (i := 0) rfl
  have y8 := hr8.frozen 0
  have HSET := hide (HQ.out.setk HT8.out k1 (fun k hk => (hbk k hk).imp (fun h => h) (fun h => Nat.le_trans HL5.out.size h)) (keys_more (w0 := W0) (HQ.out.later HL5.out).keys HE5.out (by rw [HENT.out]; exact HQS.out) HL5.out.size hT8 hkw hiw hgw hbk))
  clear k1 k2 k3 hT8 hbk hr8
  refine hK.out _ _ ?_ (fun hHeld => ?_)
  · exact HS.out _ HT8.out
  clear hK K
  try simp only [Act.put, List.setIfInBounds_toArray, List.set_cons_zero, List.set_cons_succ]
  refine wpAnyN_ready (rs := [9]) (by kernel_rfl) (by simp) ?_
  refine AllReadyN.held rfl (by rfl) (fun K hK => ?_) AllReadyN.nil
  go_simp
  refine hK.out _ _ ?_ (fun hHeld => ?_)
  · exact HS.out _ HT8.out
  clear hK K
  try simp only [Act.put, List.setIfInBounds_toArray, List.set_cons_zero, List.set_cons_succ]
  refine wpAnyN_take (i := 10) (oi := _) (v := ?_) rfl (by kernel_rfl) (by kernel_rfl) (by kernel_rfl) (by kernel_rfl) (fun _ _ _ h => h) (Or.inl ⟨by rfl, ?_⟩) (by assumption) ?_
  rotate_left
  · intro w hSw; (try dsimp only at hSw); go_simp
    first | done | with_reducible rfl
  try simp only [Act.put, List.setIfInBounds_toArray, List.set_cons_zero, List.set_cons_succ]
  refine wpAnyN_ready (rs := [11]) (by kernel_rfl) (by simp) ?_
  refine AllReadyN.free rfl (by rfl) (by kernel_rfl) (fun K hK => ?_) AllReadyN.nil
  go_simp
  refine hK.out _ _ ?_
  clear hK K
  try simp only [Act.put, List.setIfInBounds_toArray, List.set_cons_zero, List.set_cons_succ]
  refine wpAnyN_done (by kernel_rfl) ?_ _
  obtain ⟨w9, hw9⟩ : ∃ w9, w9 = w8.setCell ⟨gr, 0, none⟩ (.slice A8 n8 c8) := ⟨_, rfl⟩
  rw [← hw9]
  have HSET9 : Hid (RQ w9 (fun b => (R b ∧ b < w.heap.size) ∨ W0.heap.size ≤ b) gr (.slice A8 n8 c8) (.slice B m d) (L ++ [ent]) L ∧ Tch (fun b => R b ∧ b < w.heap.size) W0 w9) := hide (by rw [hw9]; exact HSET.out)
  have q9 := HSET9.out.1.row.cell (i := 1) rfl
  clear hw9 HSET p8 y8
  have HJS : Hid (∀ o, (w9.alloc o).ownsRow 0 3 1 (.slice B m d) L.length (L.flatMap jf)) := hide fun o => ownsRow_later HSET9.out.1.js ((Later.refl w9).alloc o)
  have hl2 : L.length + [ent].length ≤ 1000000 := by simp; omega
  have hid : ent.id = id := by rw [HENT.out]
  have HID := hide hid
  clear hid
  go_wp2_with (at_builtin; refine wpList_append_j rfl _ _ rfl _ L [ent] rfl (Nat.zero_le _) (HJS.out _) w9.heap.size 0 1 1 rfl rfl (fun j u hj => by rw [Nat.zero_add]; exact (Row.new w9 3 [.int .i64 id]).cell (by rw [← HID.out]; exact hj)) hl2 ?_; intro vj wj k1 k2 k3; obtain ⟨A9, n9, c9, rfl, -⟩ := own_form k1; have HJ1 := hide k1; have HJ2 := hide k2; have HJ3 := hide k3; have hrj := ((HSET9.out.1.row.alloc (Obj.cells #[.int .i64 id] 3)).grown k2 (fun e => (HSET9.out.1.owni gr e.symm).2 rfl)); have pj := hrj.cell (i := 1) rfl; have yj := hrj.frozen 1; clear k1 k2 k3 hrj)
  go_end0
  have hT8 : Tch (fun b => some b = (Value.slice B m d).ownBlock) w9 wj := (Later.tch ((Later.refl w9).alloc (Obj.cells #[.int .i64 id] 3))).trans (grown_tch HJ2.out fun k hk => hk.symm)
  have hst := HSET9.out.1.setj hT8 HJ1.out (fun k hk => by
    rcases HJ3.out with e | e
    · rw [e] at hk; exact .inl hk
    · rw [e] at hk; injection hk with hk; rw [World.size_alloc] at hk; exact .inr (by omega))
  have hs0 := HB0.out.size
  have hs9 := HSET9.out.2.size
  refine ⟨rfl, _, ent, ⟨fun b hb => ?_, (HB0.out.tch.step HSET9.out.2 (fun b hb => .inl hb.1)).step hst.2 (fun b hb => hb.elim (fun h => .inl h.1) (fun h => .inr (by omega)))⟩, by rw [HENT.out], HID.out, _, _, hst.1⟩
  rcases hb with (h | h) | h
  · exact .inl h.1
  · exact .inr (by omega)
  · exact .inr (by omega)

end Go.Proofs.Ytbhohnhkephefaa
