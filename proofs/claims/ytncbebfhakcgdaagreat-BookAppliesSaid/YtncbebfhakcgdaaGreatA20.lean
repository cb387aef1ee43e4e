/- Books: stories, the plain law. -/
import Derived.Test.YtncbebfhakcgdaaGreatA19
import Derived.Test.YtncbebfhakcgdaaGreatA14
import Derived.Test.YtncbebfhakcgdaaGreatA7
import Derived.WalkLawsBesides
import Derived.Defers
import Derived.Recover
set_option linter.unusedVariables false
set_option linter.unusedSimpArgs false
set_option maxRecDepth 100000
namespace Go.Proofs.YtncbebfhakcgdaaGreat
open Go.RowKit
def madeL (D : PBook) (p : Int) : List Int := (D.mks.filter fun x => decide (x.period = p)).map (·.qty)
def tellCaps : List Int -> Nat -> List POp
 | [], _ => []
 | c :: cs, i => mkCap i c :: tellCaps cs (i+1)
def tellC (D : PBook) (p : Nat) : List POp := if madeL D p = [] then [] else [mkCom p (madeL D p)]
def tellA (D : PBook) (p : Nat) : List POp := if (p : Int) < D.now then [mkAdv] else []
def tellP (D : PBook) (p : Nat) : List POp := tellC D p ++ tellA D p
def tellT (D : PBook) (n : Nat) : List POp := (List.range n).flatMap (tellP D)
def tellV (D : PBook) : List POp := tellCaps D.caps 0 ++ (D.ords.map mkOrd ++ tellT D 40)
noncomputable def runV : PBook -> List POp -> Except Int PBook
 | D, [] => .ok D
 | D, o :: os => match applyV D o with
   | .ok E => runV E os
   | .error c => .error c
theorem runV_cons {D E : PBook} {o : POp} {os : List POp} (h : applyV D o = .ok E) : runV D (o :: os) = runV E os := by
 show (match applyV D o with | .ok E => runV E os | .error c => .error c) = _; rw [h]
theorem runV_append {D E : PBook} : ∀ {a b : List POp}, runV D a = .ok E -> runV D (a ++ b) = runV E b := by
 intro a
 induction a generalizing D with
 | nil => intro b h; injection h with h; subst h; rfl
 | cons o a ih =>
   intro b h
   have h1 : (match applyV D o with | .ok E => runV E a | .error c => .error c) = .ok E := h
   cases e : applyV D o with
   | error c => rw [e] at h1; cases h1
   | ok F => rw [e] at h1; rw [List.cons_append, runV_cons e]; exact ih h1
structure StoB (D : PBook) : Prop where
 may : MayP D
 com : ∀ p : Nat, madeL D p = [] ∨ (D.mks.filter (fun x => decide (x.period = (p : Int))) = mksFrom p (madeL D p) 0 /\ (madeL D p).length = D.items.length /\ sumI (madeL D p) <= D.caps.getD p 0)
theorem whole_new {items : List PItem} {hor : Int} (h : HeadP (newD items hor)) : StoB (newD items hor) := ⟨newD_may h, fun p => .inl rfl⟩
theorem mksFrom_qty (p : Int) : ∀ (qs : List Int) (i : Nat), (mksFrom p qs i).map (·.qty) = qs
 | [], _ => rfl
 | q :: qs, i => by unfold mksFrom; rw [List.map_cons, mksFrom_qty p qs]
theorem filt_none {α : Type} {q : α -> Bool} {l : List α} (h : ∀ x ∈ l, q x = false) : l.filter q = [] := List.filter_eq_nil_iff.2 fun x hx => by rw [h x hx]; simp
theorem filt_all {α : Type} {q : α -> Bool} {l : List α} (h : ∀ x ∈ l, q x = true) : l.filter q = l := List.filter_eq_self.2 h
theorem putM_at {l : List PMk} {p : Int} {qs : List Int} (h : ∀ x ∈ l, x.period ≠ p) (t : Int) : (putM l p qs).filter (fun x => decide (x.period = t)) = if t = p then mksFrom p qs 0 else l.filter (fun x => decide (x.period = t)) := by
 have hmk : ∀ x ∈ mksFrom p qs 0, x.period = p := fun x hx => (mksFrom_mem hx).1
 have g1 : (l.filter fun a => decide (a.period = t) && decide (a.period < p)) = if t < p then l.filter (fun x => decide (x.period = t)) else [] := by
  split
  ·exact List.filter_congr fun x hx => by
    by_cases e3 : x.period = t
    ·have : x.period < p := by omega
     simp [e3]; omega
    ·simp [e3]
  ·exact filt_none fun x hx => by simp; omega
 have g2 : (l.filter fun a => decide (a.period = t) && decide (p < a.period)) = if p < t then l.filter (fun x => decide (x.period = t)) else [] := by
  split
  ·exact List.filter_congr fun x hx => by
    by_cases e3 : x.period = t
    ·simp [e3]; omega
    ·simp [e3]
  ·exact filt_none fun x hx => by simp; omega
 have g3 : ((mksFrom p qs 0).filter fun x => decide (x.period = t)) = if t = p then mksFrom p qs 0 else [] := by
  split
  ·exact filt_all fun x hx => by have := hmk x hx; simp; omega
  ·exact filt_none fun x hx => by have := hmk x hx; simp; omega
 unfold putM
 rw [List.filter_append, List.filter_append, List.filter_filter, List.filter_filter, g1, g2, g3]
 by_cases e : t = p
 ·rw [if_neg (by omega), if_pos e, if_neg (by omega), if_pos e]; simp
 ·rw [if_neg e, if_neg e]
  by_cases e2 : t < p
  ·rw [if_pos e2, if_neg (by omega)]; simp
  ·rw [if_neg e2, if_pos (by omega)]; simp
theorem StoB.apply {D D' : PBook} {o : POp} (h : StoB D) (e : applyV D o = .ok D') : StoB D' := by
 refine ⟨apply_may e, fun t => ?_⟩
 obtain ⟨hm, hp, e⟩ := apply_ok e
 have hc := h.com t
 rcases e with ⟨-, a1, a2, a3, a4, rfl⟩ | ⟨-, -, -, rfl⟩ | ⟨-, a1, a2, rfl⟩ | ⟨-, a1, a2, a3, a4, rfl⟩ | ⟨-, a1, rfl⟩
 ·exact hc
 ·exact hc
 ·obtain ⟨b1, b2, b3, b4⟩ := perE_ok a2
  rcases hc with hc | ⟨c1, c2, c3⟩
  ·exact .inl hc
  ·by_cases e : (t : Int) = o.period
   ·left
    show (D.mks.filter _).map _ = []
    rw [List.filter_eq_nil_iff.2, List.map_nil]
    intro x hx; have := b4 x hx; simp; omega
   ·refine .inr ⟨c1, c2, ?_⟩
    show _ <= (setC D.caps _ _).getD t 0
    rw [setC_get, if_neg (by omega)]; exact c3
 ·obtain ⟨b1, b2, b3, b4⟩ := perE_ok a3
  have hat := putM_at (qs := o.qtys) b4 (t : Int)
  have hml : madeL { D with mks := putM D.mks o.period o.qtys } t = ((putM D.mks o.period o.qtys).filter (fun x => decide (x.period = (t : Int)))).map (·.qty) := rfl
  by_cases e : (t : Int) = o.period
  ·rw [if_pos e] at hat
   have hml2 : madeL { D with mks := putM D.mks o.period o.qtys } t = o.qtys := by rw [hml, hat, mksFrom_qty]
   right
   rw [hml2]
   refine ⟨by rw [e]; rw [e] at hat; exact hat, a1, ?_⟩
   have := capV_may hm o.period
   rw [if_pos b1, <- e] at this
   rw [<- e] at a4; rw [this] at a4; exact a4
  ·rw [if_neg e] at hat
   have hml2 : madeL { D with mks := putM D.mks o.period o.qtys } t = madeL D t := by rw [hml, hat]; rfl
   rw [hml2]
   rcases hc with hc | ⟨c1, c2, c3⟩
   ·exact .inl hc
   ·exact .inr ⟨hat.trans c1, c2, c3⟩
 ·exact hc
theorem setC_end (l : List Int) (q : Int) : setC l l.length q = l ++ [q] := by
 unfold setC
 rw [show l.length + 1 - l.length = 1 by omega]
 simp
theorem run_caps {items : List PItem} {hor : Int} : ∀ (cs pre : List Int), MayP { newD items hor with caps := pre } -> (∀ c ∈ cs, 0 <= c /\ c <= 100) -> pre.length + cs.length <= 40 ->
 runV { newD items hor with caps := pre } (tellCaps cs pre.length) = .ok { newD items hor with caps := pre ++ cs }
 | [], pre, _, _, _ => by rw [List.append_nil]; rfl
 | c :: cs, pre, hm, hc, hl => by
   rw [List.length_cons] at hl
   have e : applyV { newD items hor with caps := pre } (mkCap pre.length c) = .ok { newD items hor with caps := pre ++ [c] } := by
    have hc0 := hc c (by simp)
    have h0 : perE { newD items hor with caps := pre } pre.length = 0 := by
     unfold perE
     rw [if_neg (by omega), if_neg (by show ¬ (pre.length : Int) < 0; omega), if_neg (by show ¬ ([] : List PMk).any _ = true; simp)]
    rw [apply_cap hm]
    unfold capS
    rw [if_neg (by omega), if_neg (by rw [h0]; simp)]
    show Except.ok { newD items hor with caps := setC pre ((pre.length : Int)).toNat c } = _
    rw [Int.toNat_natCast, setC_end]
   show runV _ (mkCap pre.length c :: tellCaps cs (pre.length + 1)) = _
   rw [runV_cons e]
   have := run_caps cs (pre ++ [c]) (apply_may e) (fun x hx => hc x (by simp [hx])) (by simp; omega)
   rw [List.length_append, List.length_singleton] at this
   rw [this, List.append_assoc]; rfl
theorem insO_end {l : List POrd} {o : POrd} (h : ∀ x ∈ l, x.id < o.id) : insO l o = l ++ [o] := by
 unfold insO
 rw [List.filter_eq_self.2 (fun x hx => by simpa using h x hx), List.filter_eq_nil_iff.2 (fun x hx => by have := h x hx; simp; omega)]
theorem run_ords {D0 : PBook} (h0 : D0.now = 0) : ∀ (os pre : List POrd), MayP { D0 with ords := pre } -> (∀ o ∈ os, o.okP D0.items.length) -> (pre ++ os).Pairwise (fun a b => a.id < b.id) -> (pre ++ os).length <= 30 ->
 runV { D0 with ords := pre } (os.map mkOrd) = .ok { D0 with ords := pre ++ os }
 | [], pre, _, _, _, _ => by rw [List.append_nil]; rfl
 | o :: os, pre, hm, ho, hp, hl => by
   have hlt : ∀ x ∈ pre, x.id < o.id := fun x hx => (List.pairwise_append.1 hp).2.2 x hx o (by simp)
   have ho0 := ho o (by simp)
   have e : applyV { D0 with ords := pre } (mkOrd o) = .ok { D0 with ords := pre ++ [o] } := by
    rw [apply_ord hm]
    unfold ordV
    rw [if_neg (by simpa using ho0), if_neg (by
        intro e
        obtain ⟨x, hx, e⟩ := List.any_eq_true.1 e
        have := hlt x hx
        simp only [decide_eq_true_iff] at e; omega), if_neg (by unfold POrd.okP at ho0; show ¬ o.due < D0.now; omega), if_neg (by show ¬ 30 <= pre.length; simp at hl; omega)]
    show Except.ok { D0 with ords := insO pre o } = _
    rw [insO_end hlt]
   rw [List.map_cons, runV_cons e]
   have := run_ords h0 os (pre ++ [o]) (apply_may e) (fun x hx => ho x (by simp [hx])) (by simpa using hp) (by simpa using hl)
   rw [this, List.append_assoc]; rfl
def stD (D : PBook) (n : Int) (p : Int) : PBook := { D with now := n, mks := D.mks.filter fun x => decide (x.period < p) }
theorem stD_may {D : PBook} (h : MayP D) {n : Int} (hn : 0 <= n /\ n <= 40) (p : Int) : MayP (stD D n p) :=
 ⟨head_of h.head rfl rfl hn ⟨h.head.cl, h.head.caps⟩, h.ol, Nat.le_trans (List.length_filter_le _ _) h.ml, h.ords, fun x hx => h.mks x (List.mem_filter.1 hx).1, h.oris, rises_of_pw (f := PMk.key) (h.mPw.filter _)⟩
theorem filter_next {l : List PMk} (h : l.Pairwise fun a b => a.key < b.key) (hi : ∀ x ∈ l, 0 <= x.item /\ x.item < 3) (p : Int) :
 l.filter (fun x => decide (x.period < p + 1)) = l.filter (fun x => decide (x.period < p)) ++ l.filter (fun x => decide (x.period = p)) := by
 refine pw_ext (f := PMk.key) (h.filter _) ?_ fun x => ?_
 ·rw [List.pairwise_append]
  refine ⟨h.filter _, h.filter _, fun a ha b hb => ?_⟩
  have h1 := List.mem_filter.1 ha; have h2 := List.mem_filter.1 hb
  have h3 := hi a h1.1; have h4 := hi b h2.1
  have h5 : a.period < p := by simpa using h1.2
  have h6 : b.period = p := by simpa using h2.2
  unfold PMk.key; omega
 ·rw [List.mem_append, List.mem_filter, List.mem_filter, List.mem_filter, decide_eq_true_iff, decide_eq_true_iff, decide_eq_true_iff]
  constructor
  ·rintro ⟨h1, h2⟩
   by_cases h3 : x.period < p
   ·exact .inl ⟨h1, h3⟩
   ·exact .inr ⟨h1, by omega⟩
  ·rintro (⟨h1, h2⟩ | ⟨h1, h2⟩)
   ·exact ⟨h1, by omega⟩
   ·exact ⟨h1, by omega⟩
theorem whole_items {D : PBook} (h : MayP D) : ∀ x ∈ D.mks, 0 <= x.item /\ x.item < 3 := fun x hx => by have := h.mks x hx; have := h.head.n3; unfold PMk.okP at *; omega
theorem madeL_bad {D : PBook} (h : MayP D) (p : Int) : badQ (madeL D p) = false := List.any_eq_false.2 fun n hn => by
 obtain ⟨x, hx, rfl⟩ := List.mem_map.1 hn
 have := h.mks x (List.mem_filter.1 hx).1
 unfold PMk.okP at this; simp; omega
theorem run_com {D : PBook} (h : StoB D) (p : Nat) (hp : p < 40) {n : Int} (hn : 0 <= n /\ n <= p) : runV (stD D n p) (tellC D p) = .ok (stD D n (p + 1)) := by
 have hm := h.may
 have hnext := filter_next hm.mPw (whole_items hm) p
 unfold tellC
 rcases h.com p with hc | ⟨c1, c2, c3⟩
 ·rw [if_pos hc]
  have : D.mks.filter (fun x => decide (x.period = (p : Int))) = [] := List.map_eq_nil_iff.1 hc
  rw [this, List.append_nil] at hnext
  show Except.ok (stD D n p) = _
  unfold stD
  rw [hnext]
 ·have hne : madeL D p ≠ [] := by
   intro e; rw [e] at c2; have := hm.head.n1; simp at c2; omega
  rw [if_neg hne]
  have hs := stD_may hm (n := n) ⟨hn.1, by omega⟩ p
  have h0 : perE (stD D n p) p = 0 := by
   unfold perE
   rw [if_neg (by omega), if_neg (by show ¬ (p : Int) < n; omega), if_neg]
   intro e
   obtain ⟨x, hx, e⟩ := List.any_eq_true.1 e
   have h1 := (List.mem_filter.1 hx).2
   simp only [decide_eq_true_iff] at h1 e; omega
  have e : applyV (stD D n p) (mkCom p (madeL D p)) = .ok (stD D n (p + 1)) := by
   rw [apply_com hs]
   unfold comV
   rw [if_neg (by show ¬ _ ≠ D.items.length; rw [c2]; simp), if_neg (by rw [madeL_bad hm]; simp), if_neg (by rw [h0]; simp), if_neg (by
    rw [capV_may hs, if_pos (by omega)]; show ¬ D.caps.getD ((p : Int)).toNat 0 < sumI (madeL D p); rw [Int.toNat_natCast]; omega)]
   have e1 : putM (D.mks.filter fun x => decide (x.period < (p : Int))) p (madeL D p) = D.mks.filter fun x => decide (x.period < (p : Int) + 1) := by
    rw [hnext, c1]
    have g1 : (D.mks.filter fun a => decide (a.period < (p : Int)) && decide (a.period < (p : Int))) = D.mks.filter fun x => decide (x.period < (p : Int)) := List.filter_congr fun x hx => by simp
    have g2 : (D.mks.filter fun a => decide ((p : Int) < a.period) && decide (a.period < (p : Int))) = [] := filt_none fun x hx => by simp; omega
    unfold putM
    rw [List.filter_filter, List.filter_filter, g1, g2, List.append_nil]
   show Except.ok ({ D with now := n, mks := putM (D.mks.filter fun x => decide (x.period < (p : Int))) p (madeL D p) } : PBook) = Except.ok (stD D n (p + 1))
   rw [e1]; rfl
  rw [runV_cons e]; rfl
theorem run_adv {D : PBook} (h : StoB D) (p : Nat) (hp : p < 40) : runV (stD D (min p D.now) (p + 1)) (tellA D p) = .ok (stD D (min (p + 1) D.now) (p + 1)) := by
 have hm := h.may
 unfold tellA
 have := hm.head.t0
 by_cases e : (p : Int) < D.now
 ·rw [if_pos e]
  have hs := stD_may hm (n := min (p : Int) D.now) ⟨by omega, by omega⟩ (p + 1)
  have e1 : applyV (stD D (min (p : Int) D.now) (p + 1)) mkAdv = .ok (stD D (min ((p : Int) + 1) D.now) (p + 1)) := by
   rw [apply_adv hs]
   unfold advV
   rw [if_neg (by show ¬ 40 <= min (p : Int) D.now; omega)]
   show Except.ok { D with now := min (p : Int) D.now + 1, mks := _ } = _
   rw [show min (p : Int) D.now + 1 = min ((p : Int) + 1) D.now by omega]; rfl
  rw [runV_cons e1]; rfl
 ·rw [if_neg e, show min ((p : Int) + 1) D.now = min (p : Int) D.now by omega]; rfl
theorem run_tellT {D : PBook} (h : StoB D) : ∀ n : Nat, n <= 40 -> runV (stD D 0 0) (tellT D n) = .ok (stD D (min n D.now) n)
 | 0, _ => by
   have := h.may.head.t0
   show Except.ok _ = _
   rw [show min ((0 : Nat) : Int) D.now = 0 by omega]; rfl
 | n + 1, hn => by
   have ih := run_tellT h n (by omega)
   have := h.may.head.t0
   have e : tellT D (n + 1) = tellT D n ++ tellP D n := by
    unfold tellT
    rw [List.range_succ, List.flatMap_append]; simp
   rw [e, runV_append (E := stD D (min n D.now) n) ih]
   unfold tellP
   rw [runV_append (run_com h n (by omega) (by omega)), run_adv h n (by omega), show ((n : Int) + 1) = ((n + 1 : Nat) : Int) by omega]
theorem tell_run {D : PBook} (h : StoB D) : runV (newD D.items D.hor) (tellV D) = .ok D := by
 have hm := h.may
 have hh : HeadP (newD D.items D.hor) := head_of hm.head rfl rfl (by show (0 : Int) <= 0 /\ (0 : Int) <= 40; omega) ⟨by simp [newD], fun c hc => by simp [newD] at hc⟩
 have h1 : runV (newD D.items D.hor) (tellCaps D.caps 0) = .ok (⟨D.items, D.hor, 0, D.caps, [], []⟩ : PBook) := run_caps (items := D.items) (hor := D.hor) D.caps [] (newD_may hh) hm.head.caps (by have := hm.head.cl; simpa using this)
 have hmc : MayP (⟨D.items, D.hor, 0, D.caps, [], []⟩ : PBook) := ⟨head_of hm.head rfl rfl (by show (0 : Int) <= 0 /\ (0 : Int) <= 40; omega) ⟨hm.head.cl, hm.head.caps⟩, (by simp), (by simp), (fun _ h => by cases h), (fun _ h => by cases h), (fun i a b h => by simp at h), (fun i a b h => by simp at h)⟩
 have h2 : runV (⟨D.items, D.hor, 0, D.caps, [], []⟩ : PBook) (D.ords.map mkOrd) = .ok (⟨D.items, D.hor, 0, D.caps, D.ords, []⟩ : PBook) := run_ords (D0 := ⟨D.items, D.hor, 0, D.caps, [], []⟩) rfl D.ords [] hmc hm.ords (by simpa using hm.oPw) (by simpa using hm.ol)
 have e0 : (⟨D.items, D.hor, 0, D.caps, D.ords, []⟩ : PBook) = stD D 0 0 := by
  unfold stD
  rw [List.filter_eq_nil_iff.2 fun x hx => by have := hm.mks x hx; unfold PMk.okP at this; simp; omega]
 have h3 := run_tellT h 40 (by omega)
 have e1 : stD D (min ((40 : Nat) : Int) D.now) (40 : Nat) = D := by
  have := hm.head.t40
  unfold stD
  rw [List.filter_eq_self.2 fun x hx => by have := hm.mks x hx; unfold PMk.okP at this; simp; omega, show min ((40 : Nat) : Int) D.now = D.now by omega]
 unfold tellV
 rw [runV_append h1, runV_append h2, e0, h3, e1]
theorem tellCaps_len : ∀ (cs : List Int) (i : Nat), (tellCaps cs i).length = cs.length
 | [], _ => rfl
 | c :: cs, i => by unfold tellCaps; rw [List.length_cons, List.length_cons, tellCaps_len]
theorem tellT_len (D : PBook) : ∀ n : Nat, (tellT D n).length <= 2 * n
 | 0 => by simp [tellT]
 | n + 1 => by
   have ih := tellT_len D n
   unfold tellT at ih ⊢
   rw [List.range_succ, List.flatMap_append, List.length_append]
   have : ([n].flatMap (tellP D)).length <= 2 := by
    show (tellP D n ++ []).length <= 2
    unfold tellP tellC tellA
    split <;> split <;> simp
   omega
end Go.Proofs.YtncbebfhakcgdaaGreat
namespace Go.Proofs.YtncbebfhakcgdaaGreat
open Go.RowKit
def numOk (n : Int) : Bool := decide (0 <= n /\ n <= 2147483647)
def numsOf (o : POp) : List Int :=
 if o.kind = 1 then [o.ord.id, o.ord.item, o.ord.due, o.ord.qty] else if o.kind = 2 then [o.id] else if o.kind = 3 then [o.period, o.qty] else if o.kind = 5 then o.period :: o.qtys else []
def num4 (n : Int) : List Int := [n % 256, n / 256 % 256, n / 65536 % 256, n / 16777216 % 256]
def encB (o : POp) : List Int :=
 if o.kind = 5 then 5 :: (num4 o.period ++ (o.qtys.length : Int) :: o.qtys.flatMap num4) else o.kind :: (numsOf o).flatMap num4
def encOk (o : POp) : Bool := plainB o && decide (o.qtys.length <= 3) && (numsOf o).all numOk
def encV (o : POp) : Option (List Int) := if encOk o = true then some (encB o) else none
theorem plainB_iff {o : POp} : plainB o = true ↔ (1 <= o.kind /\ o.kind <= 5) /\ (o.kind = 1 ∨ o.ord.isZ = true) /\ (o.kind = 2 ∨ o.id = 0) /\ (o.kind = 3 ∨ o.kind = 5 ∨ o.period = 0) /\ (o.kind = 3 ∨ o.qty = 0) /\ (o.kind = 5 ∨ o.qtys = []) := by
 unfold plainB
 simp only [Bool.and_eq_true, Bool.or_eq_true, decide_eq_true_iff, List.length_eq_zero_iff, and_assoc, or_assoc]
theorem num4_len (n : Int) : (num4 n).length = 4 := rfl
theorem nums_len (l : List Int) : (l.flatMap num4).length = 4 * l.length := by
 induction l with
 | nil => rfl
 | cons x l ih => rw [List.flatMap_cons, List.length_append, ih, num4_len, List.length_cons]; omega
def Bytes (b : List Int) : Prop := ∀ x ∈ b, 0 <= x /\ x < 256
def le4 (b : List Int) (i : Nat) : Int := b.getD i 0 + 256 * b.getD (i+1) 0 + 65536 * b.getD (i+2) 0 + 16777216 * b.getD (i+3) 0
def getR (b : List Int) (i : Nat) : Int := if b.length < i + 4 then 0 else le4 b i
def qsR (b : List Int) : Nat -> Nat -> List Int
 | 0, _ => []
 | f + 1, i => if i + 4 <= b.length then le4 b i :: qsR b f (i + 4) else []
def z0 : POrd := ⟨0, 0, 0, 0⟩
def parse (b : List Int) : POp :=
 let k := b.getD 0 0
 if k = 1 then ⟨1, ⟨getR b 1, getR b 5, getR b 9, getR b 13⟩, 0, 0, 0, []⟩
 else if k = 2 then ⟨2, z0, getR b 1, 0, 0, []⟩
 else if k = 3 then ⟨3, z0, 0, getR b 1, getR b 5, []⟩
 else if k = 5 then ⟨5, z0, 0, getR b 1, 0, qsR b 10 6⟩
 else ⟨k, z0, 0, 0, 0, []⟩
def decV (b : List Int) : Option POp := if 1 <= b.length /\ b.length <= 40 /\ encV (parse b) = some b then some (parse b) else none
theorem getD_drop (b : List Int) (i j : Nat) : (b.drop i).getD j 0 = b.getD (i + j) 0 := by
 rw [List.getD_eq_getElem?_getD, List.getD_eq_getElem?_getD, List.getElem?_drop]
theorem Bytes.at_ {b : List Int} (h : Bytes b) (i : Nat) : 0 <= b.getD i 0 /\ b.getD i 0 < 256 := by
 rw [List.getD_eq_getElem?_getD]
 cases e : b[i]? with
 | none => simp
 | some x => exact h x (List.mem_of_getElem? e)
theorem num4_le4 {b : List Int} (h : Bytes b) {i : Nat} (hi : i + 4 <= b.length) : num4 (le4 b i) ++ b.drop (i + 4) = b.drop i := by
 have e : b.drop i = b.getD i 0 :: b.getD (i+1) 0 :: b.getD (i+2) 0 :: b.getD (i+3) 0 :: b.drop (i + 4) := by
  have d : ∀ j, j < b.length -> b.drop j = b.getD j 0 :: b.drop (j + 1) := fun j hj => by
   rw [List.drop_eq_getElem_cons hj, List.getD_eq_getElem?_getD, List.getElem?_eq_getElem hj]; try rfl
  rw [d i (by omega), d (i+1) (by omega), d (i+2) (by omega), d (i+3) (by omega)]
 rw [e]
 have h0 := h.at_ i; have h1 := h.at_ (i+1); have h2 := h.at_ (i+2); have h3 := h.at_ (i+3)
 unfold num4 le4
 generalize b.getD i 0 = a0 at *
 generalize b.getD (i+1) 0 = a1 at *
 generalize b.getD (i+2) 0 = a2 at *
 generalize b.getD (i+3) 0 = a3 at *
 rw [show (a0 + 256 * a1 + 65536 * a2 + 16777216 * a3) % 256 = a0 by omega, show (a0 + 256 * a1 + 65536 * a2 + 16777216 * a3) / 256 % 256 = a1 by omega, show (a0 + 256 * a1 + 65536 * a2 + 16777216 * a3) / 65536 % 256 = a2 by omega, show (a0 + 256 * a1 + 65536 * a2 + 16777216 * a3) / 16777216 % 256 = a3 by omega]
 rfl
theorem le4_nonneg {b : List Int} (h : Bytes b) (i : Nat) : 0 <= le4 b i := by
 have h0 := h.at_ i; have h1 := h.at_ (i+1); have h2 := h.at_ (i+2); have h3 := h.at_ (i+3)
 unfold le4; omega
theorem drop_all {b : List Int} {i : Nat} (h : b.length = i) : b.drop i = [] := List.drop_eq_nil_of_le (by omega)
theorem drop_one {b : List Int} (h : 1 <= b.length) : b = b.getD 0 0 :: b.drop 1 := by
 cases b with
 | nil => simp at h
 | cons x b => simp
theorem getR_pos {b : List Int} {i : Nat} (h : i + 4 <= b.length) : getR b i = le4 b i := by unfold getR; rw [if_neg (by omega)]
theorem qsR_len (b : List Int) : ∀ (f i n : Nat), b.length = i + 4 * n -> n < f -> (qsR b f i).length = n
 | 0, _, _, _, h => by omega
 | f + 1, i, n, h, hf => by
   unfold qsR
   cases n with
   | zero => rw [if_neg (by omega)]; rfl
   | succ n => rw [if_pos (by omega), List.length_cons, qsR_len b f (i+4) n (by omega) (by omega)]
theorem qsR_back {b : List Int} (hb : Bytes b) : ∀ (f i n : Nat), b.length = i + 4 * n -> n < f -> (qsR b f i).flatMap num4 = b.drop i
 | 0, _, _, _, h => by omega
 | f + 1, i, n, h, hf => by
   unfold qsR
   cases n with
   | zero => rw [if_neg (by omega), drop_all (by omega)]; rfl
   | succ n => rw [if_pos (by omega), List.flatMap_cons, qsR_back hb f (i+4) n (by omega) (by omega), num4_le4 hb (by omega)]
def okAt (b : List Int) (i : Nat) : Prop := le4 b i <= 2147483647
theorem decV_some {b : List Int} (h1 : 1 <= b.length) (h2 : b.length <= 40) (h3 : encOk (parse b) = true) (h4 : encB (parse b) = b) : decV b = some (parse b) := by
 unfold decV encV
 rw [if_pos ⟨h1, h2, by rw [if_pos h3, h4]⟩]
theorem encV_eq {o : POp} {x : List Int} (h : encV o = some x) : encOk o = true /\ encB o = x := by
 unfold encV at h
 split at h
 ·rename_i g; exact ⟨g, by injection h⟩
 ·cases h
theorem encOk_iff {o : POp} : encOk o = true ↔ plainB o = true /\ o.qtys.length <= 3 /\ ∀ n ∈ numsOf o, 0 <= n /\ n <= 2147483647 := by
 unfold encOk numOk
 simp only [Bool.and_eq_true, decide_eq_true_iff, List.all_eq_true, and_assoc]
theorem dec1 {b : List Int} (hb : Bytes b) (hk : b.getD 0 0 = 1) (hl : b.length = 17) (h1 : okAt b 1) (h2 : okAt b 5) (h3 : okAt b 9) (h4 : okAt b 13) : decV b = some (mkOrd ⟨le4 b 1, le4 b 5, le4 b 9, le4 b 13⟩) := by
 have e : parse b = mkOrd ⟨le4 b 1, le4 b 5, le4 b 9, le4 b 13⟩ := by
  unfold parse mkOrd
  dsimp only
  rw [if_pos hk, getR_pos (by omega), getR_pos (by omega), getR_pos (by omega), getR_pos (by omega)]
 rw [decV_some (by omega) (by omega) (by
  rw [e]
  refine encOk_iff.2 ⟨mkOrd_plain _, by simp [mkOrd], fun n hn => ?_⟩
  have a1 := le4_nonneg hb 1; have a2 := le4_nonneg hb 5; have a3 := le4_nonneg hb 9; have a4 := le4_nonneg hb 13
  unfold okAt at h1 h2 h3 h4
  simp [numsOf, mkOrd] at hn
  rcases hn with rfl | rfl | rfl | rfl <;> omega) (by
  rw [e]
  show (1 : Int) :: (num4 (le4 b 1) ++ (num4 (le4 b 5) ++ (num4 (le4 b 9) ++ (num4 (le4 b 13) ++ [])))) = b
  have d4 := num4_le4 hb (i := 13) (by omega); rw [drop_all (by omega)] at d4
  rw [d4, num4_le4 hb (i := 9) (by omega), num4_le4 hb (i := 5) (by omega), num4_le4 hb (i := 1) (by omega), <- hk]
  exact (drop_one (by omega)).symm), e]
theorem dec2 {b : List Int} (hb : Bytes b) (hk : b.getD 0 0 = 2) (hl : b.length = 5) (h1 : okAt b 1) : decV b = some (mkCan (le4 b 1)) := by
 have e : parse b = mkCan (le4 b 1) := by
  unfold parse mkCan z0
  dsimp only
  rw [if_neg (by omega), if_pos hk, getR_pos (by omega)]
 rw [decV_some (by omega) (by omega) (by
  rw [e]
  refine encOk_iff.2 ⟨mkCan_plain _, by simp [mkCan], fun n hn => ?_⟩
  have a1 := le4_nonneg hb 1
  unfold okAt at h1
  simp [numsOf, mkCan] at hn
  subst hn; omega) (by
  rw [e]
  show (2 : Int) :: (num4 (le4 b 1) ++ []) = b
  have d4 := num4_le4 hb (i := 1) (by omega); rw [drop_all (by omega)] at d4
  rw [d4, <- hk]
  exact (drop_one (by omega)).symm), e]
theorem dec3 {b : List Int} (hb : Bytes b) (hk : b.getD 0 0 = 3) (hl : b.length = 9) (h1 : okAt b 1) (h2 : okAt b 5) : decV b = some (mkCap (le4 b 1) (le4 b 5)) := by
 have e : parse b = mkCap (le4 b 1) (le4 b 5) := by
  unfold parse mkCap z0
  dsimp only
  rw [if_neg (by omega), if_neg (by omega), if_pos hk, getR_pos (by omega), getR_pos (by omega)]
 rw [decV_some (by omega) (by omega) (by
  rw [e]
  refine encOk_iff.2 ⟨mkCap_plain _ _, by simp [mkCap], fun n hn => ?_⟩
  have a1 := le4_nonneg hb 1; have a2 := le4_nonneg hb 5
  unfold okAt at h1 h2
  simp [numsOf, mkCap] at hn
  rcases hn with rfl | rfl <;> omega) (by
  rw [e]
  show (3 : Int) :: (num4 (le4 b 1) ++ (num4 (le4 b 5) ++ [])) = b
  have d4 := num4_le4 hb (i := 5) (by omega); rw [drop_all (by omega)] at d4
  rw [d4, num4_le4 hb (i := 1) (by omega), <- hk]
  exact (drop_one (by omega)).symm), e]
theorem dec4 {b : List Int} (hk : b.getD 0 0 = 4) (hl : b.length = 1) : decV b = some mkAdv := by
 have e : parse b = mkAdv := by
  unfold parse mkAdv z0
  dsimp only
  rw [if_neg (by omega), if_neg (by omega), if_neg (by omega), if_neg (by omega), hk]
 rw [decV_some (by omega) (by omega) (by rw [e]; decide) (by
  rw [e]
  show [(4 : Int)] = b
  rw [<- hk]
  have := drop_one (b := b) (by omega)
  rw [drop_all (by omega)] at this
  exact this.symm), e]
theorem dec5 {b : List Int} (hb : Bytes b) (hk : b.getD 0 0 = 5) (n : Nat) (hn : n <= 3) (h5 : b.getD 5 0 = n) (hl : b.length = 6 + 4 * n) (h1 : okAt b 1) (h2 : ∀ q ∈ qsR b 10 6, q <= 2147483647) : decV b = some (mkCom (le4 b 1) (qsR b 10 6)) := by
 have e : parse b = mkCom (le4 b 1) (qsR b 10 6) := by
  unfold parse mkCom z0
  dsimp only
  rw [if_neg (by omega), if_neg (by omega), if_neg (by omega), if_pos hk, getR_pos (by omega)]
 have hql := qsR_len b 10 6 n hl (by omega)
 rw [decV_some (by omega) (by omega) (by
  rw [e]
  refine encOk_iff.2 ⟨mkCom_plain _ _, by show (qsR b 10 6).length <= 3; omega, fun m hm => ?_⟩
  have a1 := le4_nonneg hb 1
  unfold okAt at h1
  have hm' : m ∈ le4 b 1 :: qsR b 10 6 := hm
  rcases List.mem_cons.1 hm' with rfl | hm
  ·omega
  ·refine ⟨?_, h2 m hm⟩
   have : ∀ f i, ∀ m ∈ qsR b f i, 0 <= m := by
    intro f
    induction f with
    | zero => intro i m hm; cases hm
    | succ f ih =>
      intro i m hm
      unfold qsR at hm
      split at hm
      ·rcases List.mem_cons.1 hm with rfl | hm
       ·exact le4_nonneg hb i
       ·exact ih _ _ hm
      ·cases hm
   exact this _ _ _ hm) (by
  rw [e]
  show (5 : Int) :: (num4 (le4 b 1) ++ ((qsR b 10 6).length : Int) :: (qsR b 10 6).flatMap num4) = b
  rw [qsR_back hb 10 6 n hl (by omega), hql, <- h5]
  have d5 : b.drop 5 = b.getD 5 0 :: b.drop 6 := by
   rw [List.drop_eq_getElem_cons (show 5 < b.length by omega), List.getD_eq_getElem?_getD, List.getElem?_eq_getElem (show 5 < b.length by omega)]; rfl
  rw [<- d5, num4_le4 hb (i := 1) (by omega), <- hk]
  exact (drop_one (by omega)).symm), e]
theorem decV_inv {b : List Int} {o : POp} (h : decV b = some o) : o = parse b /\ encOk (parse b) = true /\ encB (parse b) = b /\ 1 <= b.length := by
 unfold decV at h
 split at h
 ·rename_i g
  injection h with h
  have := encV_eq g.2.2
  exact ⟨h.symm, this.1, this.2, g.1⟩
 ·cases h
theorem dec1_inv {b : List Int} {o : POp} (hk : b.getD 0 0 = 1) (h : decV b = some o) : b.length = 17 /\ okAt b 1 /\ okAt b 5 /\ okAt b 9 /\ okAt b 13 := by
 obtain ⟨-, h1, h2, h3⟩ := decV_inv h
 have e : parse b = mkOrd ⟨getR b 1, getR b 5, getR b 9, getR b 13⟩ := by unfold parse mkOrd; dsimp only; rw [if_pos hk]
 have hl : b.length = 17 := by rw [<- h2, e]; rfl
 rw [e, getR_pos (by omega), getR_pos (by omega), getR_pos (by omega), getR_pos (by omega)] at h1
 have h4 := (encOk_iff.1 h1).2.2
 simp [numsOf, mkOrd] at h4
 unfold okAt
 exact ⟨hl, h4.1.2, h4.2.1.2, h4.2.2.1.2, h4.2.2.2.2⟩
theorem dec2_inv {b : List Int} {o : POp} (hk : b.getD 0 0 = 2) (h : decV b = some o) : b.length = 5 /\ okAt b 1 := by
 obtain ⟨-, h1, h2, h3⟩ := decV_inv h
 have e : parse b = mkCan (getR b 1) := by unfold parse mkCan z0; dsimp only; rw [if_neg (by omega), if_pos hk]
 have hl : b.length = 5 := by rw [<- h2, e]; rfl
 rw [e, getR_pos (by omega)] at h1
 have h4 := (encOk_iff.1 h1).2.2
 simp [numsOf, mkCan] at h4
 unfold okAt
 exact ⟨hl, h4.2⟩
theorem dec3_inv {b : List Int} {o : POp} (hk : b.getD 0 0 = 3) (h : decV b = some o) : b.length = 9 /\ okAt b 1 /\ okAt b 5 := by
 obtain ⟨-, h1, h2, h3⟩ := decV_inv h
 have e : parse b = mkCap (getR b 1) (getR b 5) := by unfold parse mkCap z0; dsimp only; rw [if_neg (by omega), if_neg (by omega), if_pos hk]
 have hl : b.length = 9 := by rw [<- h2, e]; rfl
 rw [e, getR_pos (by omega), getR_pos (by omega)] at h1
 have h4 := (encOk_iff.1 h1).2.2
 simp [numsOf, mkCap] at h4
 unfold okAt
 exact ⟨hl, h4.1.2, h4.2.2⟩
theorem dec4_inv {b : List Int} {o : POp} (hk : b.getD 0 0 = 4) (h : decV b = some o) : b.length = 1 := by
 obtain ⟨-, h1, h2, h3⟩ := decV_inv h
 have e : parse b = mkAdv := by unfold parse mkAdv z0; dsimp only; rw [if_neg (by omega), if_neg (by omega), if_neg (by omega), if_neg (by omega), hk]
 rw [<- h2, e]; rfl
theorem dec5_inv {b : List Int} {o : POp} (hk : b.getD 0 0 = 5) (h : decV b = some o) : ∃ n : Nat, n <= 3 /\ b.getD 5 0 = n /\ b.length = 6 + 4 * n /\ okAt b 1 /\ ∀ q ∈ qsR b 10 6, q <= 2147483647 := by
 obtain ⟨-, h1, h2, h3⟩ := decV_inv h
 have e : parse b = mkCom (getR b 1) (qsR b 10 6) := by unfold parse mkCom z0; dsimp only; rw [if_neg (by omega), if_neg (by omega), if_neg (by omega), if_pos hk]
 rw [e] at h1 h2
 have h4 := (encOk_iff.1 h1).2
 have hl : b.length = 6 + 4 * (qsR b 10 6).length := by
  have := congrArg List.length h2
  rw [<- this]
  show ((5 : Int) :: (num4 (getR b 1) ++ ((qsR b 10 6).length : Int) :: (qsR b 10 6).flatMap num4)).length = _
  rw [List.length_cons, List.length_append, List.length_cons, nums_len, num4_len]; omega
 refine ⟨(qsR b 10 6).length, h4.1, ?_, hl, ?_, fun q hq => (h4.2 q (List.mem_cons_of_mem _ hq)).2⟩
 ·have h5 : ((5 : Int) :: (num4 (getR b 1) ++ ((qsR b 10 6).length : Int) :: (qsR b 10 6).flatMap num4)).getD 5 0 = b.getD 5 0 := by rw [show (5 : Int) :: (num4 (getR b 1) ++ ((qsR b 10 6).length : Int) :: (qsR b 10 6).flatMap num4) = b from h2]
  rw [<- h5]; rfl
 ·have := (h4.2 (getR b 1) (List.mem_cons_self)).2
  rw [getR_pos (by omega)] at this; exact this
theorem dec_other {b : List Int} (h : b.getD 0 0 < 1 ∨ 5 < b.getD 0 0) : decV b = none := by
 cases e : decV b with
 | none => rfl
 | some o =>
   obtain ⟨-, h1, h2, h3⟩ := decV_inv e
   have e : parse b = ⟨b.getD 0 0, z0, 0, 0, 0, []⟩ := by unfold parse; dsimp only; rw [if_neg (by omega), if_neg (by omega), if_neg (by omega), if_neg (by omega)]
   rw [e] at h1
   have := (plainB_iff.1 (encOk_iff.1 h1).1).1
   dsimp only at this; omega
theorem le4_num4 {n : Int} (h : 0 <= n /\ n <= 2147483647) (b c : List Int) : le4 (b ++ (num4 n ++ c)) b.length = n := by
 have d : ∀ j : Nat, j < 4 -> (b ++ (num4 n ++ c)).getD (b.length + j) 0 = (num4 n).getD j 0 := fun j hj => by
  rw [List.getD_eq_getElem?_getD, List.getD_eq_getElem?_getD, List.getElem?_append_right (by omega), List.getElem?_append_left (by rw [num4_len]; omega), show b.length + j - b.length = j by omega]
 have d0 := d 0 (by omega); have d1 := d 1 (by omega); have d2 := d 2 (by omega); have d3 := d 3 (by omega)
 unfold le4
 rw [Nat.add_zero] at d0
 rw [d0, d1, d2, d3]
 show n % 256 + 256 * (n / 256 % 256) + 65536 * (n / 65536 % 256) + 16777216 * (n / 16777216 % 256) = n
 omega
theorem Bytes.append {a b : List Int} (h : Bytes a) (k : Bytes b) : Bytes (a ++ b) := fun x hx => (List.mem_append.1 hx).elim (h x) (k x)
theorem qsR_enc (pre : List Int) : ∀ (qs : List Int) (f : Nat), qs.length < f -> (∀ q ∈ qs, 0 <= q /\ q <= 2147483647) -> ∀ pre, qsR (pre ++ qs.flatMap num4) f pre.length = qs
 | [], f + 1, _, _, pre => by unfold qsR; rw [if_neg (by simp)]
 | q :: qs, f + 1, h, hq, pre => by
   unfold qsR
   rw [List.length_cons] at h
   rw [if_pos (by rw [List.length_append, nums_len, List.length_cons]; omega), List.flatMap_cons, le4_num4 (hq q (by simp))]
   have := qsR_enc pre qs f (by omega) (fun x hx => hq x (by simp [hx])) (pre ++ num4 q)
   rw [List.append_assoc, List.length_append, num4_len] at this
   rw [this]
 | _, 0, h, _, _ => by omega
theorem enc_dec {o : POp} {x : List Int} (h : encV o = some x) : decV x = some o := by
 obtain ⟨h1, h2⟩ := encV_eq h
 obtain ⟨hp, hl, hn⟩ := encOk_iff.1 h1
 obtain ⟨k0, k1, k2, k3, k4, k5⟩ := plainB_iff.1 hp
 have e : parse x = o := by
  obtain ⟨ki, ⟨oi, om, od, oq⟩, id, pe, qt, qs⟩ := o
  have hz : ¬ ki = 1 -> (⟨oi, om, od, oq⟩ : POrd) = z0 := fun hk => by
   have := k1.resolve_left hk
   unfold POrd.isZ at this
   simp only [decide_eq_true_iff] at this
   obtain ⟨rfl, rfl, rfl, rfl⟩ := this; rfl
  dsimp only at *
  by_cases e1 : ki = 1
  ·subst e1
   rw [k2.resolve_left (by omega), (k3.resolve_left (by omega)).resolve_left (by omega), k4.resolve_left (by omega), k5.resolve_left (by omega)] at *
   simp [numsOf] at hn
   have hx : x = [(1 : Int)] ++ (num4 oi ++ (num4 om ++ (num4 od ++ (num4 oq ++ [])))) := h2.symm
   have a1 := le4_num4 hn.1 [(1 : Int)] (num4 om ++ (num4 od ++ (num4 oq ++ [])))
   have a2 := le4_num4 hn.2.1 ([(1 : Int)] ++ num4 oi) (num4 od ++ (num4 oq ++ []))
   have a3 := le4_num4 hn.2.2.1 ([(1 : Int)] ++ (num4 oi ++ num4 om)) (num4 oq ++ [])
   have a4 := le4_num4 hn.2.2.2 ([(1 : Int)] ++ (num4 oi ++ (num4 om ++ num4 od))) []
   have hlx : x.length = 17 := by rw [hx]; rfl
   simp only [List.append_assoc] at a2 a3 a4
   rw [<- hx] at a1 a2 a3 a4
   have hk : x.getD 0 0 = 1 := by rw [hx]; rfl
   unfold parse; dsimp only
   rw [if_pos hk, getR_pos (by omega), getR_pos (by omega), getR_pos (by omega), getR_pos (by omega)]
   rw [show le4 x 1 = oi from a1, show le4 x 5 = om from a2, show le4 x 9 = od from a3, show le4 x 13 = oq from a4]
  ·rw [hz e1] at *
   by_cases e2 : ki = 2
   ·subst e2
    rw [(k3.resolve_left (by omega)).resolve_left (by omega), k4.resolve_left (by omega), k5.resolve_left (by omega)] at *
    simp [numsOf] at hn
    have hx : x = [(2 : Int)] ++ (num4 id ++ []) := h2.symm
    have a1 := le4_num4 hn [(2 : Int)] []
    have hlx : x.length = 5 := by rw [hx]; rfl
    rw [<- hx] at a1
    have hk : x.getD 0 0 = 2 := by rw [hx]; rfl
    unfold parse; dsimp only
    rw [if_neg (by omega), if_pos hk, getR_pos (by omega), show le4 x 1 = id from a1]
   ·rw [k2.resolve_left e2] at *
    by_cases e3 : ki = 3
    ·subst e3
     rw [k5.resolve_left (by omega)] at *
     simp [numsOf] at hn
     have hx : x = [(3 : Int)] ++ (num4 pe ++ (num4 qt ++ [])) := h2.symm
     have a1 := le4_num4 hn.1 [(3 : Int)] (num4 qt ++ [])
     have a2 := le4_num4 hn.2 ([(3 : Int)] ++ num4 pe) []
     have hlx : x.length = 9 := by rw [hx]; rfl
     simp only [List.append_assoc] at a2
     rw [<- hx] at a1 a2
     have hk : x.getD 0 0 = 3 := by rw [hx]; rfl
     unfold parse; dsimp only
     rw [if_neg (by omega), if_neg (by omega), if_pos hk, getR_pos (by omega), getR_pos (by omega), show le4 x 1 = pe from a1, show le4 x 5 = qt from a2]
    ·rw [k4.resolve_left e3] at *
     by_cases e5 : ki = 5
     ·subst e5
      have hn1 : 0 <= pe /\ pe <= 2147483647 := hn pe (by simp [numsOf])
      have hn2 : ∀ q ∈ qs, 0 <= q /\ q <= 2147483647 := fun q hq => hn q (by simp [numsOf, hq])
      have hx : x = [(5 : Int)] ++ (num4 pe ++ ((qs.length : Int) :: qs.flatMap num4)) := h2.symm
      have a1 := le4_num4 hn1 [(5 : Int)] ((qs.length : Int) :: qs.flatMap num4)
      have a2 := qsR_enc [] qs 10 (by omega) hn2 ([(5 : Int)] ++ (num4 pe ++ [(qs.length : Int)]))
      have hlx : x.length = 6 + 4 * qs.length := by rw [hx, List.length_append, List.length_append, List.length_singleton, List.length_cons, nums_len, num4_len]; omega
      simp only [List.append_assoc, List.singleton_append, List.cons_append, List.nil_append] at a1 a2 hx
      rw [<- hx] at a1 a2
      have hk : x.getD 0 0 = 5 := by rw [hx]; rfl
      unfold parse; dsimp only
      rw [if_neg (by omega), if_neg (by omega), if_neg (by omega), if_pos hk, getR_pos (by omega), show le4 x 1 = pe from a1, show qsR x 10 6 = qs from a2]
     ·rw [(k3.resolve_left e3).resolve_left e5, k5.resolve_left e5] at *
      have hx : x = [ki] := by rw [<- h2]; unfold encB numsOf; dsimp only; rw [if_neg e5, if_neg e1, if_neg e2, if_neg e3, if_neg e5]; rfl
      unfold parse; dsimp only
      have hg : x.getD 0 0 = ki := by rw [hx]; rfl
      rw [hg, if_neg e1, if_neg e2, if_neg e3, if_neg e5]
 have hlen : 1 <= x.length /\ x.length <= 40 := by
  rw [<- h2]; unfold encB
  split
  ·rw [List.length_cons, List.length_append, List.length_cons, nums_len, num4_len]; omega
  ·rename_i h5
   rw [List.length_cons, nums_len]
   have : (numsOf o).length <= 4 := by
    unfold numsOf
    split
    ·simp
    ·split
     ·simp
     ·split
      ·simp
      ·first | done | simp
   omega
 rw [decV_some hlen.1 hlen.2 (by rw [e]; exact h1) (by rw [e]; exact h2), e]
end Go.Proofs.YtncbebfhakcgdaaGreat
namespace Go.Proofs.YtncbebfhakcgdaaGreat
open Go.RowKit Go.Shelf
attribute [local go_sem ↓] Go.wp_at_zero Go.wp_at_succ
def Pan (c : Int) : List PanicEntry := [{ v := .iface 97 (.agg #[.int .i64 c]), recovered := false }]
theorem must_yes (w : World) (c : Int) : Calls Tryz.prog 29 #[.bool true, .int .i64 c] w (fun e w' => e = .returned (.tuple #[]) /\ w = w') := by
 go_enter Tryz.func29, Tryz.ntmps29
 go_wp2_with fail
 go_end0
 exact ⟨rfl, rfl⟩
theorem must_no (w : World) (c : Int) : Calls Tryz.prog 29 #[.bool false, .int .i64 c] w (fun e w' => e = .panicked (Pan c) /\ w = w') := by
 go_enter Tryz.func29, Tryz.ntmps29
 go_wp2_with fail
 exact ⟨rfl, rfl, rfl⟩
theorem run_ta_ok (v : Value) (w : World) : (Instr.typeAssert (.iface 97 v) 20 97 true).run Tryz.prog w = .ok (.tuple #[v, .bool true]) w := by
 simp [Instr.typeAssert, go_sem, Tryz.underlying97]
theorem new_at {w : World} {t : TypeId} {cs : List Value} {g : Nat} (hg : w.heap.size = g) : Row (w.alloc (.cells cs.toArray t)) g t cs := by subst hg; exact Row.new _ _ _
theorem onlys_drew {L : List Nat} {a b : World} (h : Onlys L a b) : Onlys L a b.drew := ⟨h.os, h.tape, h.output, h.size, h.block⟩
theorem mkF (fn : Fn) (first cap : Array Value) (w : World) : (Instr.makeFunc fn first cap).run Tryz.prog w = .ok (.func fn first cap) w := rfl
theorem Row.put6 {W : World} {g : Nat} {t : TypeId} {a0 a1 a2 a3 a4 a5 : Value} (h : Row W g t [a0, a1, a2, a3, a4, a5]) (x0 x1 x2 x3 x4 x5 : Value) : Row ((((((W.setCell ⟨g, 0, none⟩ x0).setCell ⟨g, 1, none⟩ x1).setCell ⟨g, 2, none⟩ x2).setCell ⟨g, 3, none⟩ x3).setCell ⟨g, 4, none⟩ x4).setCell ⟨g, 5, none⟩ x5) g t [x0, x1, x2, x3, x4, x5] := ((((((h.set_ 0 x0).set_ 1 x1).set_ 2 x2).set_ 3 x3).set_ 4 x4).set_ 5 x5)
theorem Row.off6 {W : World} {g : Nat} {t : TypeId} {k : Nat} {cs : List Value} (h : Row W k t cs) (hg : k ≠ g) (x0 x1 x2 x3 x4 x5 : Value) : Row ((((((W.setCell ⟨g, 0, none⟩ x0).setCell ⟨g, 1, none⟩ x1).setCell ⟨g, 2, none⟩ x2).setCell ⟨g, 3, none⟩ x3).setCell ⟨g, 4, none⟩ x4).setCell ⟨g, 5, none⟩ x5) k t cs := ((((((h.far hg x0).far hg x1).far hg x2).far hg x3).far hg x4).far hg x5)
theorem only6 {W : World} (g : Nat) (x0 x1 x2 x3 x4 x5 : Value) : Only g W ((((((W.setCell ⟨g, 0, none⟩ x0).setCell ⟨g, 1, none⟩ x1).setCell ⟨g, 2, none⟩ x2).setCell ⟨g, 3, none⟩ x3).setCell ⟨g, 4, none⟩ x4).setCell ⟨g, 5, none⟩ x5) := (((((((Only.refl g W).set 0 x0).set 1 x1).set 2 x2).set 3 x3).set 4 x4).set 5 x5)
theorem Row.put9 {W : World} {g : Nat} {t : TypeId} {a0 a1 a2 a3 a4 a5 a6 a7 a8 : Value} (h : Row W g t [a0, a1, a2, a3, a4, a5, a6, a7, a8]) (x0 x1 x2 x3 x4 x5 x6 x7 x8 : Value) : Row (((((((((W.setCell ⟨g, 0, none⟩ x0).setCell ⟨g, 1, none⟩ x1).setCell ⟨g, 2, none⟩ x2).setCell ⟨g, 3, none⟩ x3).setCell ⟨g, 4, none⟩ x4).setCell ⟨g, 5, none⟩ x5).setCell ⟨g, 6, none⟩ x6).setCell ⟨g, 7, none⟩ x7).setCell ⟨g, 8, none⟩ x8) g t [x0, x1, x2, x3, x4, x5, x6, x7, x8] := (((((((((h.set_ 0 x0).set_ 1 x1).set_ 2 x2).set_ 3 x3).set_ 4 x4).set_ 5 x5).set_ 6 x6).set_ 7 x7).set_ 8 x8)
theorem Row.off9 {W : World} {g : Nat} {t : TypeId} {k : Nat} {cs : List Value} (h : Row W k t cs) (hg : k ≠ g) (x0 x1 x2 x3 x4 x5 x6 x7 x8 : Value) : Row (((((((((W.setCell ⟨g, 0, none⟩ x0).setCell ⟨g, 1, none⟩ x1).setCell ⟨g, 2, none⟩ x2).setCell ⟨g, 3, none⟩ x3).setCell ⟨g, 4, none⟩ x4).setCell ⟨g, 5, none⟩ x5).setCell ⟨g, 6, none⟩ x6).setCell ⟨g, 7, none⟩ x7).setCell ⟨g, 8, none⟩ x8) k t cs := (((((((((h.far hg x0).far hg x1).far hg x2).far hg x3).far hg x4).far hg x5).far hg x6).far hg x7).far hg x8)
theorem only9 {W : World} (g : Nat) (x0 x1 x2 x3 x4 x5 x6 x7 x8 : Value) : Only g W (((((((((W.setCell ⟨g, 0, none⟩ x0).setCell ⟨g, 1, none⟩ x1).setCell ⟨g, 2, none⟩ x2).setCell ⟨g, 3, none⟩ x3).setCell ⟨g, 4, none⟩ x4).setCell ⟨g, 5, none⟩ x5).setCell ⟨g, 6, none⟩ x6).setCell ⟨g, 7, none⟩ x7).setCell ⟨g, 8, none⟩ x8) := ((((((((((Only.refl g W).set 0 x0).set 1 x1).set 2 x2).set 3 x3).set 4 x4).set 5 x5).set 6 x6).set 7 x7).set 8 x8)
theorem results_bk {fn : Func} {t : Tmp} {tmps : Array Value} {W : World} {b : Nat} {v0 v1 v2 v3 v4 v5 : Value} (h : fn.results = #[.cell t 27]) (hp : tmps[t]?.getD undef = .pointer (some ⟨b, 0, none⟩)) (hr : Row W b 27 [v0, v1, v2, v3, v4, v5]) :
 (results fn tmps).run Tryz.prog W = .ok (.agg #[v0, v1, v2, v3, v4, v5]) W := by
 have c0 := hr.cell (i := 0) rfl; have c1 := hr.cell (i := 1) rfl; have c2 := hr.cell (i := 2) rfl; have c3 := hr.cell (i := 3) rfl; have c4 := hr.cell (i := 4) rfl; have c5 := hr.cell (i := 5) rfl
 simp [results, h, hp, go_sem, c0, c1, c2, c3, c4, c5]
theorem results_bkc {fn : Func} {t s : Tmp} {tmps : Array Value} {W : World} {b g : Nat} {v0 v1 v2 v3 v4 v5 x : Value} (h : fn.results = #[.cell t 27, .cell s 35]) (hp : tmps[t]?.getD undef = .pointer (some ⟨b, 0, none⟩)) (hq : tmps[s]?.getD undef = .pointer (some ⟨g, 0, none⟩)) (hr : Row W b 27 [v0, v1, v2, v3, v4, v5]) (hx : Row W g 35 [x]) :
 (results fn tmps).run Tryz.prog W = .ok (.tuple #[.agg #[v0, v1, v2, v3, v4, v5], x]) W := by
 have c0 := hr.cell (i := 0) rfl; have c1 := hr.cell (i := 1) rfl; have c2 := hr.cell (i := 2) rfl; have c3 := hr.cell (i := 3) rfl; have c4 := hr.cell (i := 4) rfl; have c5 := hr.cell (i := 5) rfl
 have e0 := hx.cell (i := 0) rfl
 simp [results, h, hp, hq, go_sem, c0, c1, c2, c3, c4, c5, e0]
theorem results_op {fn : Func} {t : Tmp} {tmps : Array Value} {W : World} {b : Nat} {v0 v1 v2 v3 v4 v5 v6 v7 v8 : Value} (h : fn.results = #[.cell t 31]) (hp : tmps[t]?.getD undef = .pointer (some ⟨b, 0, none⟩)) (hr : Row W b 31 [v0, v1, v2, v3, v4, v5, v6, v7, v8]) :
 (results fn tmps).run Tryz.prog W = .ok (.agg #[v0, v1, v2, v3, v4, v5, v6, v7, v8]) W := by
 have c0 := hr.cell (i := 0) rfl; have c1 := hr.cell (i := 1) rfl; have c2 := hr.cell (i := 2) rfl; have c3 := hr.cell (i := 3) rfl; have c4 := hr.cell (i := 4) rfl; have c5 := hr.cell (i := 5) rfl; have c6 := hr.cell (i := 6) rfl; have c7 := hr.cell (i := 7) rfl; have c8 := hr.cell (i := 8) rfl
 simp [results, h, hp, go_sem, c0, c1, c2, c3, c4, c5, c6, c7, c8]
theorem results_opc {fn : Func} {t s : Tmp} {tmps : Array Value} {W : World} {b g : Nat} {v0 v1 v2 v3 v4 v5 v6 v7 v8 x : Value} (h : fn.results = #[.cell t 31, .cell s 35]) (hp : tmps[t]?.getD undef = .pointer (some ⟨b, 0, none⟩)) (hq : tmps[s]?.getD undef = .pointer (some ⟨g, 0, none⟩)) (hr : Row W b 31 [v0, v1, v2, v3, v4, v5, v6, v7, v8]) (hx : Row W g 35 [x]) :
 (results fn tmps).run Tryz.prog W = .ok (.tuple #[.agg #[v0, v1, v2, v3, v4, v5, v6, v7, v8], x]) W := by
 have c0 := hr.cell (i := 0) rfl; have c1 := hr.cell (i := 1) rfl; have c2 := hr.cell (i := 2) rfl; have c3 := hr.cell (i := 3) rfl; have c4 := hr.cell (i := 4) rfl; have c5 := hr.cell (i := 5) rfl; have c6 := hr.cell (i := 6) rfl; have c7 := hr.cell (i := 7) rfl; have c8 := hr.cell (i := 8) rfl
 have e0 := hx.cell (i := 0) rfl
 simp [results, h, hp, hq, go_sem, c0, c1, c2, c3, c4, c5, c6, c7, c8, e0]
set_option maxHeartbeats 4000000 in
theorem catchB_pan (w : World) (gp gq : Nat) (v0 v1 v2 v3 v4 v5 : Value) (z c : Int) (hp : Row w gp 27 [v0, v1, v2, v3, v4, v5]) (hq : Row w gq 35 [.int .i64 z]) (hne : gp ≠ gq) :
 CallsD Tryz.prog 56 #[.pointer (some ⟨gp, 0, none⟩), .pointer (some ⟨gq, 0, none⟩)] (.panicking (Pan c)) w (fun e u' w' => e = .returned (.tuple #[]) /\ u' = .panicking [{ v := .iface 97 (.agg #[.int .i64 c]), recovered := true }] /\
  Row w' gp 27 [.slice none 0 0, .int .i64 0, .int .i64 0, .slice none 0 0, .slice none 0 0, .slice none 0 0] /\ Row w' gq 35 [.int .i64 c] /\ ∃ w2, Later w w2 /\ Onlys [gp, gq] w2 w') := by
 refine callsD_of_wpS Tryz.func56 rfl fun c₀ cs hu => ?_
 apply wpS_seq
 apply wpS_region
 simp [wpOpsS, go_sem, recoverD, hu, Tryz.ntmps56, Exit.thenS, Pan]
 have hta := run_ta_ok
 have HP := hide hp; have HQ := hide hq
 clear hp hq
 refine wpS_of_wp ?_
 change Code.wp _ _ _ { tmps := #[.pointer (some ⟨gp, 0, none⟩), .pointer (some ⟨gq, 0, none⟩), undef, undef, undef, undef, .iface 97 (.agg #[.int .i64 c]), undef, undef, undef, undef, undef, undef, undef, undef], defers := [] } w
 go_upto_region 8 with fail
 obtain ⟨W, hW⟩ : ∃ W, W = ((w.alloc (Obj.cells #[Value.int .i64 c] 97)).alloc (Obj.cells #[Value.slice none 0 0, Value.int .i64 0, Value.int .i64 0, Value.slice none 0 0, Value.slice none 0 0, Value.slice none 0 0] 27)) := ⟨_, rfl⟩
 rw [<- hW]
 obtain ⟨g1, hg1⟩ : ∃ g1, g1 = w.heap.size := ⟨_, rfl⟩
 obtain ⟨g2, hg2⟩ : ∃ g2, g2 = g1 + 1 := ⟨_, rfl⟩
 rw [<- hg1, <- hg2]
 have r1 : Row W g1 97 [.int .i64 c] := by rw [hW, hg1]; exact (Row.new _ _ _).alloc _
 have r2 : Row W g2 27 [.slice none 0 0, .int .i64 0, .int .i64 0, .slice none 0 0, .slice none 0 0, .slice none 0 0] := by rw [hW, hg2, hg1]; exact new_at (World.size_alloc _ _)
 have lW : Later w W := by rw [hW]; exact ((Later.refl _).alloc _).alloc _
 have rp := HP.out.later lW; have rq := HQ.out.later lW
 have HLW := hide lW
 have hlp := HP.out.lt; have hlq := HQ.out.lt
 have np1 : gp ≠ g1 := by omega
 have np2 : gp ≠ g2 := by omega
 have nq1 : gq ≠ g1 := by omega
 have nq2 : gq ≠ g2 := by omega
 have HT : Hid (W.cell? ⟨g2, 0, none⟩ = some (.slice none 0 0) /\ W.cell? ⟨g2, 1, none⟩ = some (.int .i64 0) /\ W.cell? ⟨g2, 2, none⟩ = some (.int .i64 0) /\ W.cell? ⟨g2, 3, none⟩ = some (.slice none 0 0) /\ W.cell? ⟨g2, 4, none⟩ = some (.slice none 0 0) /\ W.cell? ⟨g2, 5, none⟩ = some (.slice none 0 0) /\ W.cell? ⟨g1, 0, none⟩ = some (.int .i64 c)) := hide ⟨r2.cell rfl, r2.cell rfl, r2.cell rfl, r2.cell rfl, r2.cell rfl, r2.cell rfl, r1.cell rfl⟩
 have p0 := rp.cell (i := 0) rfl; have p1 := rp.cell (i := 1) rfl; have p2 := rp.cell (i := 2) rfl; have p3 := rp.cell (i := 3) rfl; have p4 := rp.cell (i := 4) rfl; have p5 := rp.cell (i := 5) rfl
 have pz0 := rp.frozen 0; have pz1 := rp.frozen 1; have pz2 := rp.frozen 2; have pz3 := rp.frozen 3; have pz4 := rp.frozen 4; have pz5 := rp.frozen 5
 have q0 := rq.cell (i := 0) rfl; have qz0 := rq.frozen 0
 have HRP := hide rp; have HRQ := hide rq
 have HT2 : Hid (∀ x0 x1 x2 x3 x4 x5 : Value, ((((((W.setCell ⟨gp, 0, none⟩ x0).setCell ⟨gp, 1, none⟩ x1).setCell ⟨gp, 2, none⟩ x2).setCell ⟨gp, 3, none⟩ x3).setCell ⟨gp, 4, none⟩ x4).setCell ⟨gp, 5, none⟩ x5).drew.cell? ⟨g2, 0, none⟩ = some (.slice none 0 0) /\ ((((((W.setCell ⟨gp, 0, none⟩ x0).setCell ⟨gp, 1, none⟩ x1).setCell ⟨gp, 2, none⟩ x2).setCell ⟨gp, 3, none⟩ x3).setCell ⟨gp, 4, none⟩ x4).setCell ⟨gp, 5, none⟩ x5).drew.cell? ⟨g2, 1, none⟩ = some (.int .i64 0) /\ ((((((W.setCell ⟨gp, 0, none⟩ x0).setCell ⟨gp, 1, none⟩ x1).setCell ⟨gp, 2, none⟩ x2).setCell ⟨gp, 3, none⟩ x3).setCell ⟨gp, 4, none⟩ x4).setCell ⟨gp, 5, none⟩ x5).drew.cell? ⟨g2, 2, none⟩ = some (.int .i64 0) /\ ((((((W.setCell ⟨gp, 0, none⟩ x0).setCell ⟨gp, 1, none⟩ x1).setCell ⟨gp, 2, none⟩ x2).setCell ⟨gp, 3, none⟩ x3).setCell ⟨gp, 4, none⟩ x4).setCell ⟨gp, 5, none⟩ x5).drew.cell? ⟨g2, 3, none⟩ = some (.slice none 0 0) /\ ((((((W.setCell ⟨gp, 0, none⟩ x0).setCell ⟨gp, 1, none⟩ x1).setCell ⟨gp, 2, none⟩ x2).setCell ⟨gp, 3, none⟩ x3).setCell ⟨gp, 4, none⟩ x4).setCell ⟨gp, 5, none⟩ x5).drew.cell? ⟨g2, 4, none⟩ = some (.slice none 0 0) /\ ((((((W.setCell ⟨gp, 0, none⟩ x0).setCell ⟨gp, 1, none⟩ x1).setCell ⟨gp, 2, none⟩ x2).setCell ⟨gp, 3, none⟩ x3).setCell ⟨gp, 4, none⟩ x4).setCell ⟨gp, 5, none⟩ x5).drew.cell? ⟨g2, 5, none⟩ = some (.slice none 0 0) /\ ((((((W.setCell ⟨gp, 0, none⟩ x0).setCell ⟨gp, 1, none⟩ x1).setCell ⟨gp, 2, none⟩ x2).setCell ⟨gp, 3, none⟩ x3).setCell ⟨gp, 4, none⟩ x4).setCell ⟨gp, 5, none⟩ x5).drew.cell? ⟨g1, 0, none⟩ = some (.int .i64 c)) := hide fun x0 x1 x2 x3 x4 x5 => ⟨(r2.off6 (Ne.symm np2) x0 x1 x2 x3 x4 x5).drew.cell rfl, (r2.off6 (Ne.symm np2) x0 x1 x2 x3 x4 x5).drew.cell rfl, (r2.off6 (Ne.symm np2) x0 x1 x2 x3 x4 x5).drew.cell rfl, (r2.off6 (Ne.symm np2) x0 x1 x2 x3 x4 x5).drew.cell rfl, (r2.off6 (Ne.symm np2) x0 x1 x2 x3 x4 x5).drew.cell rfl, (r2.off6 (Ne.symm np2) x0 x1 x2 x3 x4 x5).drew.cell rfl, (r1.off6 (Ne.symm np1) x0 x1 x2 x3 x4 x5).drew.cell rfl⟩
 clear hW hg1 hg2 r1 r2 lW rp rq hlp hlq np1 np2 nq1 nq2
 have hmx : Tryz.prog.follows .mixedOrders = true := by kernel_rfl
 refine wp_region_N (fun w' => w'.cell? ⟨g2, 0, none⟩ = some (.slice none 0 0) /\ w'.cell? ⟨g2, 1, none⟩ = some (.int .i64 0) /\ w'.cell? ⟨g2, 2, none⟩ = some (.int .i64 0) /\ w'.cell? ⟨g2, 3, none⟩ = some (.slice none 0 0) /\ w'.cell? ⟨g2, 4, none⟩ = some (.slice none 0 0) /\ w'.cell? ⟨g2, 5, none⟩ = some (.slice none 0 0) /\ w'.cell? ⟨g1, 0, none⟩ = some (.int .i64 c)) [4] hmx HT.out (fun hHeld => ?_)
 refine tkB 12 0 ?_
 refine tkB 13 1 ?_
 refine tkB 14 2 ?_
 refine wpAnyN_ready (rs := [3]) (by kernel_rfl) (by simp) ?_
 refine AllReadyN.held rfl (by rfl) (fun K hK => ?_) AllReadyN.nil
 go_simp
 refine hK.out _ _ ?_ (fun hHeld => ?_)
 ·exact HT2.out _ _ _ _ _ _
 clear hK K
 try simp only [Act.put, s1_, s2_, s3_]
 refine wpAnyN_ready (rs := [4]) (by kernel_rfl) (by simp) ?_
 refine AllReadyN.free rfl (by rfl) (by kernel_rfl) (fun K hK => ?_) AllReadyN.nil
 go_simp
 refine hK.out _ _ ?_
 clear hK K
 try simp only [Act.put, s1_, s2_, s3_]
 refine wpAnyN_done (by kernel_rfl) ?_ _
 clear hHeld
 go_wp2_with fail
 refine ⟨rfl, _, rfl, .tuple #[], results_none rfl _ _ _, rfl, rfl, ?_, ?_, _, HLW.out, ?_⟩
 ·exact ((HRP.out.put6 _ _ _ _ _ _).far hne _).drew
 ·exact ((HRQ.out.off6 (Ne.symm hne) _ _ _ _ _ _).set_ 0 _).drew
 ·exact onlys_drew ((Onlys.of (only6 gp _ _ _ _ _ _) (by simp)).then_ (Only.one gq _ 0 _) (by simp))
set_option maxHeartbeats 4000000 in
theorem catchO_pan (w : World) (gp gq : Nat) (v0 v1 v2 v3 v4 v5 v6 v7 v8 : Value) (z c : Int) (hp : Row w gp 31 [v0, v1, v2, v3, v4, v5, v6, v7, v8]) (hq : Row w gq 35 [.int .i64 z]) (hne : gp ≠ gq) :
 CallsD Tryz.prog 89 #[.pointer (some ⟨gp, 0, none⟩), .pointer (some ⟨gq, 0, none⟩)] (.panicking (Pan c)) w (fun e u' w' => e = .returned (.tuple #[]) /\ u' = .panicking [{ v := .iface 97 (.agg #[.int .i64 c]), recovered := true }] /\
  Row w' gp 31 [.int .i64 0, .int .i64 0, .int .i64 0, .int .i64 0, .int .i64 0, .int .i64 0, .int .i64 0, .int .i64 0, .slice none 0 0] /\ Row w' gq 35 [.int .i64 c] /\ ∃ w2, Later w w2 /\ Onlys [gp, gq] w2 w') := by
 refine callsD_of_wpS Tryz.func89 rfl fun c₀ cs hu => ?_
 apply wpS_seq
 apply wpS_region
 simp [wpOpsS, go_sem, recoverD, hu, Tryz.ntmps89, Exit.thenS, Pan]
 have hta := run_ta_ok
 have HP := hide hp; have HQ := hide hq
 clear hp hq
 refine wpS_of_wp ?_
 change Code.wp _ _ _ { tmps := #[.pointer (some ⟨gp, 0, none⟩), .pointer (some ⟨gq, 0, none⟩), undef, undef, undef, undef, .iface 97 (.agg #[.int .i64 c]), undef, undef, undef, undef, undef, undef, undef, undef], defers := [] } w
 go_upto_region 8 with fail
 obtain ⟨W, hW⟩ : ∃ W, W = ((w.alloc (Obj.cells #[Value.int .i64 c] 97)).alloc (Obj.cells #[Value.int .i64 0, Value.int .i64 0, Value.int .i64 0, Value.int .i64 0, Value.int .i64 0, Value.int .i64 0, Value.int .i64 0, Value.int .i64 0, Value.slice none 0 0] 31)) := ⟨_, rfl⟩
 rw [<- hW]
 obtain ⟨g1, hg1⟩ : ∃ g1, g1 = w.heap.size := ⟨_, rfl⟩
 obtain ⟨g2, hg2⟩ : ∃ g2, g2 = g1 + 1 := ⟨_, rfl⟩
 rw [<- hg1, <- hg2]
 have r1 : Row W g1 97 [.int .i64 c] := by rw [hW, hg1]; exact (Row.new _ _ _).alloc _
 have r2 : Row W g2 31 [.int .i64 0, .int .i64 0, .int .i64 0, .int .i64 0, .int .i64 0, .int .i64 0, .int .i64 0, .int .i64 0, .slice none 0 0] := by rw [hW, hg2, hg1]; exact new_at (World.size_alloc _ _)
 have lW : Later w W := by rw [hW]; exact ((Later.refl _).alloc _).alloc _
 have rp := HP.out.later lW; have rq := HQ.out.later lW
 have HLW := hide lW
 have hlp := HP.out.lt; have hlq := HQ.out.lt
 have np1 : gp ≠ g1 := by omega
 have np2 : gp ≠ g2 := by omega
 have nq1 : gq ≠ g1 := by omega
 have nq2 : gq ≠ g2 := by omega
 have HT : Hid (W.cell? ⟨g2, 0, none⟩ = some (.int .i64 0) /\ W.cell? ⟨g2, 1, none⟩ = some (.int .i64 0) /\ W.cell? ⟨g2, 2, none⟩ = some (.int .i64 0) /\ W.cell? ⟨g2, 3, none⟩ = some (.int .i64 0) /\ W.cell? ⟨g2, 4, none⟩ = some (.int .i64 0) /\ W.cell? ⟨g2, 5, none⟩ = some (.int .i64 0) /\ W.cell? ⟨g2, 6, none⟩ = some (.int .i64 0) /\ W.cell? ⟨g2, 7, none⟩ = some (.int .i64 0) /\ W.cell? ⟨g2, 8, none⟩ = some (.slice none 0 0) /\ W.cell? ⟨g1, 0, none⟩ = some (.int .i64 c)) := hide ⟨r2.cell rfl, r2.cell rfl, r2.cell rfl, r2.cell rfl, r2.cell rfl, r2.cell rfl, r2.cell rfl, r2.cell rfl, r2.cell rfl, r1.cell rfl⟩
 have p0 := rp.cell (i := 0) rfl; have p1 := rp.cell (i := 1) rfl; have p2 := rp.cell (i := 2) rfl; have p3 := rp.cell (i := 3) rfl; have p4 := rp.cell (i := 4) rfl; have p5 := rp.cell (i := 5) rfl; have p6 := rp.cell (i := 6) rfl; have p7 := rp.cell (i := 7) rfl; have p8 := rp.cell (i := 8) rfl
 have pz0 := rp.frozen 0; have pz1 := rp.frozen 1; have pz2 := rp.frozen 2; have pz3 := rp.frozen 3; have pz4 := rp.frozen 4; have pz5 := rp.frozen 5; have pz6 := rp.frozen 6; have pz7 := rp.frozen 7; have pz8 := rp.frozen 8
 have q0 := rq.cell (i := 0) rfl; have qz0 := rq.frozen 0
 have HRP := hide rp; have HRQ := hide rq
 have HT2 : Hid (∀ x0 x1 x2 x3 x4 x5 x6 x7 x8 : Value, (((((((((W.setCell ⟨gp, 0, none⟩ x0).setCell ⟨gp, 1, none⟩ x1).setCell ⟨gp, 2, none⟩ x2).setCell ⟨gp, 3, none⟩ x3).setCell ⟨gp, 4, none⟩ x4).setCell ⟨gp, 5, none⟩ x5).setCell ⟨gp, 6, none⟩ x6).setCell ⟨gp, 7, none⟩ x7).setCell ⟨gp, 8, none⟩ x8).drew.cell? ⟨g2, 0, none⟩ = some (.int .i64 0) /\ (((((((((W.setCell ⟨gp, 0, none⟩ x0).setCell ⟨gp, 1, none⟩ x1).setCell ⟨gp, 2, none⟩ x2).setCell ⟨gp, 3, none⟩ x3).setCell ⟨gp, 4, none⟩ x4).setCell ⟨gp, 5, none⟩ x5).setCell ⟨gp, 6, none⟩ x6).setCell ⟨gp, 7, none⟩ x7).setCell ⟨gp, 8, none⟩ x8).drew.cell? ⟨g2, 1, none⟩ = some (.int .i64 0) /\ (((((((((W.setCell ⟨gp, 0, none⟩ x0).setCell ⟨gp, 1, none⟩ x1).setCell ⟨gp, 2, none⟩ x2).setCell ⟨gp, 3, none⟩ x3).setCell ⟨gp, 4, none⟩ x4).setCell ⟨gp, 5, none⟩ x5).setCell ⟨gp, 6, none⟩ x6).setCell ⟨gp, 7, none⟩ x7).setCell ⟨gp, 8, none⟩ x8).drew.cell? ⟨g2, 2, none⟩ = some (.int .i64 0) /\ (((((((((W.setCell ⟨gp, 0, none⟩ x0).setCell ⟨gp, 1, none⟩ x1).setCell ⟨gp, 2, none⟩ x2).setCell ⟨gp, 3, none⟩ x3).setCell ⟨gp, 4, none⟩ x4).setCell ⟨gp, 5, none⟩ x5).setCell ⟨gp, 6, none⟩ x6).setCell ⟨gp, 7, none⟩ x7).setCell ⟨gp, 8, none⟩ x8).drew.cell? ⟨g2, 3, none⟩ = some (.int .i64 0) /\ (((((((((W.setCell ⟨gp, 0, none⟩ x0).setCell ⟨gp, 1, none⟩ x1).setCell ⟨gp, 2, none⟩ x2).setCell ⟨gp, 3, none⟩ x3).setCell ⟨gp, 4, none⟩ x4).setCell ⟨gp, 5, none⟩ x5).setCell ⟨gp, 6, none⟩ x6).setCell ⟨gp, 7, none⟩ x7).setCell ⟨gp, 8, none⟩ x8).drew.cell? ⟨g2, 4, none⟩ = some (.int .i64 0) /\ (((((((((W.setCell ⟨gp, 0, none⟩ x0).setCell ⟨gp, 1, none⟩ x1).setCell ⟨gp, 2, none⟩ x2).setCell ⟨gp, 3, none⟩ x3).setCell ⟨gp, 4, none⟩ x4).setCell ⟨gp, 5, none⟩ x5).setCell ⟨gp, 6, none⟩ x6).setCell ⟨gp, 7, none⟩ x7).setCell ⟨gp, 8, none⟩ x8).drew.cell? ⟨g2, 5, none⟩ = some (.int .i64 0) /\ (((((((((W.setCell ⟨gp, 0, none⟩ x0).setCell ⟨gp, 1, none⟩ x1).setCell ⟨gp, 2, none⟩ x2).setCell ⟨gp, 3, none⟩ x3).setCell ⟨gp, 4, none⟩ x4).setCell ⟨gp, 5, none⟩ x5).setCell ⟨gp, 6, none⟩ x6).setCell ⟨gp, 7, none⟩ x7).setCell ⟨gp, 8, none⟩ x8).drew.cell? ⟨g2, 6, none⟩ = some (.int .i64 0) /\ (((((((((W.setCell ⟨gp, 0, none⟩ x0).setCell ⟨gp, 1, none⟩ x1).setCell ⟨gp, 2, none⟩ x2).setCell ⟨gp, 3, none⟩ x3).setCell ⟨gp, 4, none⟩ x4).setCell ⟨gp, 5, none⟩ x5).setCell ⟨gp, 6, none⟩ x6).setCell ⟨gp, 7, none⟩ x7).setCell ⟨gp, 8, none⟩ x8).drew.cell? ⟨g2, 7, none⟩ = some (.int .i64 0) /\ (((((((((W.setCell ⟨gp, 0, none⟩ x0).setCell ⟨gp, 1, none⟩ x1).setCell ⟨gp, 2, none⟩ x2).setCell ⟨gp, 3, none⟩ x3).setCell ⟨gp, 4, none⟩ x4).setCell ⟨gp, 5, none⟩ x5).setCell ⟨gp, 6, none⟩ x6).setCell ⟨gp, 7, none⟩ x7).setCell ⟨gp, 8, none⟩ x8).drew.cell? ⟨g2, 8, none⟩ = some (.slice none 0 0) /\ (((((((((W.setCell ⟨gp, 0, none⟩ x0).setCell ⟨gp, 1, none⟩ x1).setCell ⟨gp, 2, none⟩ x2).setCell ⟨gp, 3, none⟩ x3).setCell ⟨gp, 4, none⟩ x4).setCell ⟨gp, 5, none⟩ x5).setCell ⟨gp, 6, none⟩ x6).setCell ⟨gp, 7, none⟩ x7).setCell ⟨gp, 8, none⟩ x8).drew.cell? ⟨g1, 0, none⟩ = some (.int .i64 c)) := hide fun x0 x1 x2 x3 x4 x5 x6 x7 x8 => ⟨(r2.off9 (Ne.symm np2) x0 x1 x2 x3 x4 x5 x6 x7 x8).drew.cell rfl, (r2.off9 (Ne.symm np2) x0 x1 x2 x3 x4 x5 x6 x7 x8).drew.cell rfl, (r2.off9 (Ne.symm np2) x0 x1 x2 x3 x4 x5 x6 x7 x8).drew.cell rfl, (r2.off9 (Ne.symm np2) x0 x1 x2 x3 x4 x5 x6 x7 x8).drew.cell rfl, (r2.off9 (Ne.symm np2) x0 x1 x2 x3 x4 x5 x6 x7 x8).drew.cell rfl, (r2.off9 (Ne.symm np2) x0 x1 x2 x3 x4 x5 x6 x7 x8).drew.cell rfl, (r2.off9 (Ne.symm np2) x0 x1 x2 x3 x4 x5 x6 x7 x8).drew.cell rfl, (r2.off9 (Ne.symm np2) x0 x1 x2 x3 x4 x5 x6 x7 x8).drew.cell rfl, (r2.off9 (Ne.symm np2) x0 x1 x2 x3 x4 x5 x6 x7 x8).drew.cell rfl, (r1.off9 (Ne.symm np1) x0 x1 x2 x3 x4 x5 x6 x7 x8).drew.cell rfl⟩
 clear hW hg1 hg2 r1 r2 lW rp rq hlp hlq np1 np2 nq1 nq2
 have hmx : Tryz.prog.follows .mixedOrders = true := by kernel_rfl
 refine wp_region_N (fun w' => w'.cell? ⟨g2, 0, none⟩ = some (.int .i64 0) /\ w'.cell? ⟨g2, 1, none⟩ = some (.int .i64 0) /\ w'.cell? ⟨g2, 2, none⟩ = some (.int .i64 0) /\ w'.cell? ⟨g2, 3, none⟩ = some (.int .i64 0) /\ w'.cell? ⟨g2, 4, none⟩ = some (.int .i64 0) /\ w'.cell? ⟨g2, 5, none⟩ = some (.int .i64 0) /\ w'.cell? ⟨g2, 6, none⟩ = some (.int .i64 0) /\ w'.cell? ⟨g2, 7, none⟩ = some (.int .i64 0) /\ w'.cell? ⟨g2, 8, none⟩ = some (.slice none 0 0) /\ w'.cell? ⟨g1, 0, none⟩ = some (.int .i64 c)) [4] hmx HT.out (fun hHeld => ?_)
 refine tkB 12 0 ?_
 refine tkB 13 1 ?_
 refine tkB 14 2 ?_
 refine wpAnyN_ready (rs := [3]) (by kernel_rfl) (by simp) ?_
 refine AllReadyN.held rfl (by rfl) (fun K hK => ?_) AllReadyN.nil
 go_simp
 refine hK.out _ _ ?_ (fun hHeld => ?_)
 ·exact HT2.out _ _ _ _ _ _ _ _ _
 clear hK K
 try simp only [Act.put, s1_, s2_, s3_]
 refine wpAnyN_ready (rs := [4]) (by kernel_rfl) (by simp) ?_
 refine AllReadyN.free rfl (by rfl) (by kernel_rfl) (fun K hK => ?_) AllReadyN.nil
 go_simp
 refine hK.out _ _ ?_
 clear hK K
 try simp only [Act.put, s1_, s2_, s3_]
 refine wpAnyN_done (by kernel_rfl) ?_ _
 clear hHeld
 go_wp2_with fail
 refine ⟨rfl, _, rfl, .tuple #[], results_none rfl _ _ _, rfl, rfl, ?_, ?_, _, HLW.out, ?_⟩
 ·exact ((HRP.out.put9 _ _ _ _ _ _ _ _ _).far hne _).drew
 ·exact ((HRQ.out.off9 (Ne.symm hne) _ _ _ _ _ _ _ _ _).set_ 0 _).drew
 ·exact onlys_drew ((Onlys.of (only9 gp _ _ _ _ _ _ _ _ _) (by simp)).then_ (Only.one gq _ 0 _) (by simp))
set_option maxHeartbeats 4000000 in
theorem catchB_idle (w : World) (gp gq : Nat) :
 CallsD Tryz.prog 56 #[.pointer (some ⟨gp, 0, none⟩), .pointer (some ⟨gq, 0, none⟩)] .returning w (fun e u' w' => e = .returned (.tuple #[]) /\ u' = .returning /\ w' = w) := by
 refine callsD_of_wpS Tryz.func56 rfl fun c₀ cs hu => ?_
 apply wpS_seq
 apply wpS_region
 simp [wpOpsS, go_sem, recoverD, hu, Tryz.ntmps56, Exit.thenS]
 refine wpS_of_wp ?_
 change Code.wp _ _ _ { tmps := #[.pointer (some ⟨gp, 0, none⟩), .pointer (some ⟨gq, 0, none⟩), undef, undef, undef, undef, .nilIface, undef, undef, undef, undef, undef, undef, undef, undef], defers := [] } w
 go_wp2_with fail
 refine ⟨rfl, _, rfl, .tuple #[], results_none rfl _ _ _, rfl, ?_, rfl⟩
 first | exact hu | rfl
set_option maxHeartbeats 4000000 in
theorem catchO_idle (w : World) (gp gq : Nat) :
 CallsD Tryz.prog 89 #[.pointer (some ⟨gp, 0, none⟩), .pointer (some ⟨gq, 0, none⟩)] .returning w (fun e u' w' => e = .returned (.tuple #[]) /\ u' = .returning /\ w' = w) := by
 refine callsD_of_wpS Tryz.func89 rfl fun c₀ cs hu => ?_
 apply wpS_seq
 apply wpS_region
 simp [wpOpsS, go_sem, recoverD, hu, Tryz.ntmps89, Exit.thenS]
 refine wpS_of_wp ?_
 change Code.wp _ _ _ { tmps := #[.pointer (some ⟨gp, 0, none⟩), .pointer (some ⟨gq, 0, none⟩), undef, undef, undef, undef, .nilIface, undef, undef, undef, undef, undef, undef, undef, undef], defers := [] } w
 go_wp2_with fail
 refine ⟨rfl, _, rfl, .tuple #[], results_none rfl _ _ _, rfl, ?_, rfl⟩
 first | exact hu | rfl
end Go.Proofs.YtncbebfhakcgdaaGreat
