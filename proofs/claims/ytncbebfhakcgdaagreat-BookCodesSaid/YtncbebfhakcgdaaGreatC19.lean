/- Books: operations as bytes, the plain law. -/
import Derived.Test.YtncbebfhakcgdaaGreatC18
import Derived.Test.YtncbebfhakcgdaaGreatC13
import Derived.Test.YtncbebfhakcgdaaGreatC7
import Derived.WalkLawsBesides
import Derived.Defers
import Derived.Recover
import Derived.Test.YtncbebfhakcgdaaGreatC15
import Derived.Test.YtncbebfhakcgdaaGreatC16
import Derived.Test.YtncbebfhakcgdaaGreatC8
set_option linter.unusedVariables false
set_option linter.unusedSimpArgs false
set_option maxRecDepth 100000
namespace Go.Proofs.YtncbebfhakcgdaaGreat
open Go.RowKit
def numOk (n : Int) : Bool := decide (0 <= n /\ n <= 2147483647)
def numsOf (o : POp) : List Int :=
 if o.kind = 1 then [o.ord.id, o.ord.item, o.ord.due, o.ord.qty] else if o.kind = 2 then [o.id] else if o.kind = 3 then [o.period, o.qty] else if o.kind = 5 then o.period :: o.qtys else []
def allNums (o : POp) : List Int := [o.ord.id, o.ord.item, o.ord.due, o.ord.qty, o.id, o.period, o.qty] ++ o.qtys
def num4 (n : Int) : List Int := [n % 256, n / 256 % 256, n / 65536 % 256, n / 16777216 % 256]
def encB (o : POp) : List Int :=
 if o.kind = 5 then 5 :: (num4 o.period ++ (o.qtys.length : Int) :: o.qtys.flatMap num4) else o.kind :: (numsOf o).flatMap num4
def encOk (o : POp) : Bool := plainB o && decide (o.qtys.length <= 3) && (numsOf o).all numOk
def encV (o : POp) : Option (List Int) := if encOk o = true then some (encB o) else none
theorem plainB_iff {o : POp} : plainB o = true ↔ (1 <= o.kind /\ o.kind <= 5) /\ (o.kind = 1 ∨ o.ord.isZ = true) /\ (o.kind = 2 ∨ o.id = 0) /\ (o.kind = 3 ∨ o.kind = 5 ∨ o.period = 0) /\ (o.kind = 3 ∨ o.qty = 0) /\ (o.kind = 5 ∨ o.qtys = []) := by
 unfold plainB
 simp only [Bool.and_eq_true, Bool.or_eq_true, decide_eq_true_iff, List.length_eq_zero_iff, and_assoc, or_assoc]
theorem allNums_ok {o : POp} (h : plainB o = true) : (allNums o).all numOk = (numsOf o).all numOk := by
 obtain ⟨h0, h1, h2, h3, h4, h5⟩ := plainB_iff.1 h
 have z : numOk 0 = true := by decide
 have hz : o.ord.isZ = true -> o.ord.id = 0 /\ o.ord.item = 0 /\ o.ord.due = 0 /\ o.ord.qty = 0 := fun h => by unfold POrd.isZ at h; simpa using h
 unfold allNums numsOf
 by_cases k1 : o.kind = 1
 ·rw [if_pos k1, h2.resolve_left (by omega), (h3.resolve_left (by omega)).resolve_left (by omega), h4.resolve_left (by omega), h5.resolve_left (by omega)]
  simp [z]
 ·obtain ⟨e1, e2, e3, e4⟩ := hz (h1.resolve_left k1)
  rw [if_neg k1, e1, e2, e3, e4]
  by_cases k2 : o.kind = 2
  ·rw [if_pos k2, (h3.resolve_left (by omega)).resolve_left (by omega), h4.resolve_left (by omega), h5.resolve_left (by omega)]
   simp [z]
  ·rw [if_neg k2, h2.resolve_left k2]
   by_cases k3 : o.kind = 3
   ·rw [if_pos k3, h5.resolve_left (by omega)]; simp [z]
   ·rw [if_neg k3, h4.resolve_left k3]
    by_cases k5 : o.kind = 5
    ·rw [if_pos k5]; simp [z]
    ·rw [if_neg k5, (h3.resolve_left (by omega)).resolve_left (by omega), h5.resolve_left (by omega)]; simp [z]
theorem num4_len (n : Int) : (num4 n).length = 4 := rfl
theorem nums_len (l : List Int) : (l.flatMap num4).length = 4 * l.length := by
 induction l with
 | nil => rfl
 | cons x l ih => rw [List.flatMap_cons, List.length_append, ih, num4_len, List.length_cons]; omega
def Bytes (b : List Int) : Prop := ∀ x ∈ b, 0 <= x /\ x < 256
def le4 (b : List Int) (i : Nat) : Int := b.getD i 0 + 256 * b.getD (i+1) 0 + 65536 * b.getD (i+2) 0 + 16777216 * b.getD (i+3) 0
def getR (b : List Int) (i : Nat) : Int := if b.length < i + 4 then 0 else le4 b i
def qsR (b : List Int) : Nat -> Nat -> List Int
 | 0, _ => []
 | f + 1, i => if i + 4 <= b.length then le4 b i :: qsR b f (i + 4) else []
def z0 : POrd := ⟨0, 0, 0, 0⟩
def parse (b : List Int) : POp :=
 let k := b.getD 0 0
 if k = 1 then ⟨1, ⟨getR b 1, getR b 5, getR b 9, getR b 13⟩, 0, 0, 0, []⟩
 else if k = 2 then ⟨2, z0, getR b 1, 0, 0, []⟩
 else if k = 3 then ⟨3, z0, 0, getR b 1, getR b 5, []⟩
 else if k = 5 then ⟨5, z0, 0, getR b 1, 0, qsR b 10 6⟩
 else ⟨k, z0, 0, 0, 0, []⟩
def decV (b : List Int) : Option POp := if 1 <= b.length /\ b.length <= 40 /\ encV (parse b) = some b then some (parse b) else none
theorem getD_drop (b : List Int) (i j : Nat) : (b.drop i).getD j 0 = b.getD (i + j) 0 := by
 rw [List.getD_eq_getElem?_getD, List.getD_eq_getElem?_getD, List.getElem?_drop]
theorem Bytes.at_ {b : List Int} (h : Bytes b) (i : Nat) : 0 <= b.getD i 0 /\ b.getD i 0 < 256 := by
 rw [List.getD_eq_getElem?_getD]
 cases e : b[i]? with
 | none => simp
 | some x => exact h x (List.mem_of_getElem? e)
theorem num4_le4 {b : List Int} (h : Bytes b) {i : Nat} (hi : i + 4 <= b.length) : num4 (le4 b i) ++ b.drop (i + 4) = b.drop i := by
 have e : b.drop i = b.getD i 0 :: b.getD (i+1) 0 :: b.getD (i+2) 0 :: b.getD (i+3) 0 :: b.drop (i + 4) := by
  have d : ∀ j, j < b.length -> b.drop j = b.getD j 0 :: b.drop (j + 1) := fun j hj => by
   rw [List.drop_eq_getElem_cons hj, List.getD_eq_getElem?_getD, List.getElem?_eq_getElem hj]; try rfl
  rw [d i (by omega), d (i+1) (by omega), d (i+2) (by omega), d (i+3) (by omega)]
 rw [e]
 have h0 := h.at_ i; have h1 := h.at_ (i+1); have h2 := h.at_ (i+2); have h3 := h.at_ (i+3)
 unfold num4 le4
 generalize b.getD i 0 = a0 at *
 generalize b.getD (i+1) 0 = a1 at *
 generalize b.getD (i+2) 0 = a2 at *
 generalize b.getD (i+3) 0 = a3 at *
 rw [show (a0 + 256 * a1 + 65536 * a2 + 16777216 * a3) % 256 = a0 by omega, show (a0 + 256 * a1 + 65536 * a2 + 16777216 * a3) / 256 % 256 = a1 by omega, show (a0 + 256 * a1 + 65536 * a2 + 16777216 * a3) / 65536 % 256 = a2 by omega, show (a0 + 256 * a1 + 65536 * a2 + 16777216 * a3) / 16777216 % 256 = a3 by omega]
 rfl
theorem le4_nonneg {b : List Int} (h : Bytes b) (i : Nat) : 0 <= le4 b i := by
 have h0 := h.at_ i; have h1 := h.at_ (i+1); have h2 := h.at_ (i+2); have h3 := h.at_ (i+3)
 unfold le4; omega
theorem drop_all {b : List Int} {i : Nat} (h : b.length = i) : b.drop i = [] := List.drop_eq_nil_of_le (by omega)
theorem drop_one {b : List Int} (h : 1 <= b.length) : b = b.getD 0 0 :: b.drop 1 := by
 cases b with
 | nil => simp at h
 | cons x b => simp
theorem getR_pos {b : List Int} {i : Nat} (h : i + 4 <= b.length) : getR b i = le4 b i := by unfold getR; rw [if_neg (by omega)]
theorem qsR_len (b : List Int) : ∀ (f i n : Nat), b.length = i + 4 * n -> n < f -> (qsR b f i).length = n
 | 0, _, _, _, h => by omega
 | f + 1, i, n, h, hf => by
   unfold qsR
   cases n with
   | zero => rw [if_neg (by omega)]; rfl
   | succ n => rw [if_pos (by omega), List.length_cons, qsR_len b f (i+4) n (by omega) (by omega)]
theorem qsR_back {b : List Int} (hb : Bytes b) : ∀ (f i n : Nat), b.length = i + 4 * n -> n < f -> (qsR b f i).flatMap num4 = b.drop i
 | 0, _, _, _, h => by omega
 | f + 1, i, n, h, hf => by
   unfold qsR
   cases n with
   | zero => rw [if_neg (by omega), drop_all (by omega)]; rfl
   | succ n => rw [if_pos (by omega), List.flatMap_cons, qsR_back hb f (i+4) n (by omega) (by omega), num4_le4 hb (by omega)]
def okAt (b : List Int) (i : Nat) : Prop := le4 b i <= 2147483647
theorem decV_some {b : List Int} (h1 : 1 <= b.length) (h2 : b.length <= 40) (h3 : encOk (parse b) = true) (h4 : encB (parse b) = b) : decV b = some (parse b) := by
 unfold decV encV
 rw [if_pos ⟨h1, h2, by rw [if_pos h3, h4]⟩]
theorem encV_eq {o : POp} {x : List Int} (h : encV o = some x) : encOk o = true /\ encB o = x := by
 unfold encV at h
 split at h
 ·rename_i g; exact ⟨g, by injection h⟩
 ·cases h
theorem encOk_iff {o : POp} : encOk o = true ↔ plainB o = true /\ o.qtys.length <= 3 /\ ∀ n ∈ numsOf o, 0 <= n /\ n <= 2147483647 := by
 unfold encOk numOk
 simp only [Bool.and_eq_true, decide_eq_true_iff, List.all_eq_true, and_assoc]
theorem dec1 {b : List Int} (hb : Bytes b) (hk : b.getD 0 0 = 1) (hl : b.length = 17) (h1 : okAt b 1) (h2 : okAt b 5) (h3 : okAt b 9) (h4 : okAt b 13) : decV b = some (mkOrd ⟨le4 b 1, le4 b 5, le4 b 9, le4 b 13⟩) := by
 have e : parse b = mkOrd ⟨le4 b 1, le4 b 5, le4 b 9, le4 b 13⟩ := by
  unfold parse mkOrd
  dsimp only
  rw [if_pos hk, getR_pos (by omega), getR_pos (by omega), getR_pos (by omega), getR_pos (by omega)]
 rw [decV_some (by omega) (by omega) (by
  rw [e]
  refine encOk_iff.2 ⟨mkOrd_plain _, by simp [mkOrd], fun n hn => ?_⟩
  have a1 := le4_nonneg hb 1; have a2 := le4_nonneg hb 5; have a3 := le4_nonneg hb 9; have a4 := le4_nonneg hb 13
  unfold okAt at h1 h2 h3 h4
  simp [numsOf, mkOrd] at hn
  rcases hn with rfl | rfl | rfl | rfl <;> omega) (by
  rw [e]
  show (1 : Int) :: (num4 (le4 b 1) ++ (num4 (le4 b 5) ++ (num4 (le4 b 9) ++ (num4 (le4 b 13) ++ [])))) = b
  have d4 := num4_le4 hb (i := 13) (by omega); rw [drop_all (by omega)] at d4
  rw [d4, num4_le4 hb (i := 9) (by omega), num4_le4 hb (i := 5) (by omega), num4_le4 hb (i := 1) (by omega), <- hk]
  exact (drop_one (by omega)).symm), e]
theorem dec2 {b : List Int} (hb : Bytes b) (hk : b.getD 0 0 = 2) (hl : b.length = 5) (h1 : okAt b 1) : decV b = some (mkCan (le4 b 1)) := by
 have e : parse b = mkCan (le4 b 1) := by
  unfold parse mkCan z0
  dsimp only
  rw [if_neg (by omega), if_pos hk, getR_pos (by omega)]
 rw [decV_some (by omega) (by omega) (by
  rw [e]
  refine encOk_iff.2 ⟨mkCan_plain _, by simp [mkCan], fun n hn => ?_⟩
  have a1 := le4_nonneg hb 1
  unfold okAt at h1
  simp [numsOf, mkCan] at hn
  subst hn; omega) (by
  rw [e]
  show (2 : Int) :: (num4 (le4 b 1) ++ []) = b
  have d4 := num4_le4 hb (i := 1) (by omega); rw [drop_all (by omega)] at d4
  rw [d4, <- hk]
  exact (drop_one (by omega)).symm), e]
theorem dec3 {b : List Int} (hb : Bytes b) (hk : b.getD 0 0 = 3) (hl : b.length = 9) (h1 : okAt b 1) (h2 : okAt b 5) : decV b = some (mkCap (le4 b 1) (le4 b 5)) := by
 have e : parse b = mkCap (le4 b 1) (le4 b 5) := by
  unfold parse mkCap z0
  dsimp only
  rw [if_neg (by omega), if_neg (by omega), if_pos hk, getR_pos (by omega), getR_pos (by omega)]
 rw [decV_some (by omega) (by omega) (by
  rw [e]
  refine encOk_iff.2 ⟨mkCap_plain _ _, by simp [mkCap], fun n hn => ?_⟩
  have a1 := le4_nonneg hb 1; have a2 := le4_nonneg hb 5
  unfold okAt at h1 h2
  simp [numsOf, mkCap] at hn
  rcases hn with rfl | rfl <;> omega) (by
  rw [e]
  show (3 : Int) :: (num4 (le4 b 1) ++ (num4 (le4 b 5) ++ [])) = b
  have d4 := num4_le4 hb (i := 5) (by omega); rw [drop_all (by omega)] at d4
  rw [d4, num4_le4 hb (i := 1) (by omega), <- hk]
  exact (drop_one (by omega)).symm), e]
theorem dec4 {b : List Int} (hk : b.getD 0 0 = 4) (hl : b.length = 1) : decV b = some mkAdv := by
 have e : parse b = mkAdv := by
  unfold parse mkAdv z0
  dsimp only
  rw [if_neg (by omega), if_neg (by omega), if_neg (by omega), if_neg (by omega), hk]
 rw [decV_some (by omega) (by omega) (by rw [e]; decide) (by
  rw [e]
  show [(4 : Int)] = b
  rw [<- hk]
  have := drop_one (b := b) (by omega)
  rw [drop_all (by omega)] at this
  exact this.symm), e]
theorem dec5 {b : List Int} (hb : Bytes b) (hk : b.getD 0 0 = 5) (n : Nat) (hn : n <= 3) (h5 : b.getD 5 0 = n) (hl : b.length = 6 + 4 * n) (h1 : okAt b 1) (h2 : ∀ q ∈ qsR b 10 6, q <= 2147483647) : decV b = some (mkCom (le4 b 1) (qsR b 10 6)) := by
 have e : parse b = mkCom (le4 b 1) (qsR b 10 6) := by
  unfold parse mkCom z0
  dsimp only
  rw [if_neg (by omega), if_neg (by omega), if_neg (by omega), if_pos hk, getR_pos (by omega)]
 have hql := qsR_len b 10 6 n hl (by omega)
 rw [decV_some (by omega) (by omega) (by
  rw [e]
  refine encOk_iff.2 ⟨mkCom_plain _ _, by show (qsR b 10 6).length <= 3; omega, fun m hm => ?_⟩
  have a1 := le4_nonneg hb 1
  unfold okAt at h1
  have hm' : m ∈ le4 b 1 :: qsR b 10 6 := hm
  rcases List.mem_cons.1 hm' with rfl | hm
  ·omega
  ·refine ⟨?_, h2 m hm⟩
   have : ∀ f i, ∀ m ∈ qsR b f i, 0 <= m := by
    intro f
    induction f with
    | zero => intro i m hm; cases hm
    | succ f ih =>
      intro i m hm
      unfold qsR at hm
      split at hm
      ·rcases List.mem_cons.1 hm with rfl | hm
       ·exact le4_nonneg hb i
       ·exact ih _ _ hm
      ·cases hm
   exact this _ _ _ hm) (by
  rw [e]
  show (5 : Int) :: (num4 (le4 b 1) ++ ((qsR b 10 6).length : Int) :: (qsR b 10 6).flatMap num4) = b
  rw [qsR_back hb 10 6 n hl (by omega), hql, <- h5]
  have d5 : b.drop 5 = b.getD 5 0 :: b.drop 6 := by
   rw [List.drop_eq_getElem_cons (show 5 < b.length by omega), List.getD_eq_getElem?_getD, List.getElem?_eq_getElem (show 5 < b.length by omega)]; rfl
  rw [<- d5, num4_le4 hb (i := 1) (by omega), <- hk]
  exact (drop_one (by omega)).symm), e]
theorem decV_inv {b : List Int} {o : POp} (h : decV b = some o) : o = parse b /\ encOk (parse b) = true /\ encB (parse b) = b /\ 1 <= b.length := by
 unfold decV at h
 split at h
 ·rename_i g
  injection h with h
  have := encV_eq g.2.2
  exact ⟨h.symm, this.1, this.2, g.1⟩
 ·cases h
theorem dec1_inv {b : List Int} {o : POp} (hk : b.getD 0 0 = 1) (h : decV b = some o) : b.length = 17 /\ okAt b 1 /\ okAt b 5 /\ okAt b 9 /\ okAt b 13 := by
 obtain ⟨-, h1, h2, h3⟩ := decV_inv h
 have e : parse b = mkOrd ⟨getR b 1, getR b 5, getR b 9, getR b 13⟩ := by unfold parse mkOrd; dsimp only; rw [if_pos hk]
 have hl : b.length = 17 := by rw [<- h2, e]; rfl
 rw [e, getR_pos (by omega), getR_pos (by omega), getR_pos (by omega), getR_pos (by omega)] at h1
 have h4 := (encOk_iff.1 h1).2.2
 simp [numsOf, mkOrd] at h4
 unfold okAt
 exact ⟨hl, h4.1.2, h4.2.1.2, h4.2.2.1.2, h4.2.2.2.2⟩
theorem dec2_inv {b : List Int} {o : POp} (hk : b.getD 0 0 = 2) (h : decV b = some o) : b.length = 5 /\ okAt b 1 := by
 obtain ⟨-, h1, h2, h3⟩ := decV_inv h
 have e : parse b = mkCan (getR b 1) := by unfold parse mkCan z0; dsimp only; rw [if_neg (by omega), if_pos hk]
 have hl : b.length = 5 := by rw [<- h2, e]; rfl
 rw [e, getR_pos (by omega)] at h1
 have h4 := (encOk_iff.1 h1).2.2
 simp [numsOf, mkCan] at h4
 unfold okAt
 exact ⟨hl, h4.2⟩
theorem dec3_inv {b : List Int} {o : POp} (hk : b.getD 0 0 = 3) (h : decV b = some o) : b.length = 9 /\ okAt b 1 /\ okAt b 5 := by
 obtain ⟨-, h1, h2, h3⟩ := decV_inv h
 have e : parse b = mkCap (getR b 1) (getR b 5) := by unfold parse mkCap z0; dsimp only; rw [if_neg (by omega), if_neg (by omega), if_pos hk]
 have hl : b.length = 9 := by rw [<- h2, e]; rfl
 rw [e, getR_pos (by omega), getR_pos (by omega)] at h1
 have h4 := (encOk_iff.1 h1).2.2
 simp [numsOf, mkCap] at h4
 unfold okAt
 exact ⟨hl, h4.1.2, h4.2.2⟩
theorem dec4_inv {b : List Int} {o : POp} (hk : b.getD 0 0 = 4) (h : decV b = some o) : b.length = 1 := by
 obtain ⟨-, h1, h2, h3⟩ := decV_inv h
 have e : parse b = mkAdv := by unfold parse mkAdv z0; dsimp only; rw [if_neg (by omega), if_neg (by omega), if_neg (by omega), if_neg (by omega), hk]
 rw [<- h2, e]; rfl
theorem dec5_inv {b : List Int} {o : POp} (hk : b.getD 0 0 = 5) (h : decV b = some o) : ∃ n : Nat, n <= 3 /\ b.getD 5 0 = n /\ b.length = 6 + 4 * n /\ okAt b 1 /\ ∀ q ∈ qsR b 10 6, q <= 2147483647 := by
 obtain ⟨-, h1, h2, h3⟩ := decV_inv h
 have e : parse b = mkCom (getR b 1) (qsR b 10 6) := by unfold parse mkCom z0; dsimp only; rw [if_neg (by omega), if_neg (by omega), if_neg (by omega), if_pos hk]
 rw [e] at h1 h2
 have h4 := (encOk_iff.1 h1).2
 have hl : b.length = 6 + 4 * (qsR b 10 6).length := by
  have := congrArg List.length h2
  rw [<- this]
  show ((5 : Int) :: (num4 (getR b 1) ++ ((qsR b 10 6).length : Int) :: (qsR b 10 6).flatMap num4)).length = _
  rw [List.length_cons, List.length_append, List.length_cons, nums_len, num4_len]; omega
 refine ⟨(qsR b 10 6).length, h4.1, ?_, hl, ?_, fun q hq => (h4.2 q (List.mem_cons_of_mem _ hq)).2⟩
 ·have h5 : ((5 : Int) :: (num4 (getR b 1) ++ ((qsR b 10 6).length : Int) :: (qsR b 10 6).flatMap num4)).getD 5 0 = b.getD 5 0 := by rw [show (5 : Int) :: (num4 (getR b 1) ++ ((qsR b 10 6).length : Int) :: (qsR b 10 6).flatMap num4) = b from h2]
  rw [<- h5]; rfl
 ·have := (h4.2 (getR b 1) (List.mem_cons_self)).2
  rw [getR_pos (by omega)] at this; exact this
theorem dec_other {b : List Int} (h : b.getD 0 0 < 1 ∨ 5 < b.getD 0 0) : decV b = none := by
 cases e : decV b with
 | none => rfl
 | some o =>
   obtain ⟨-, h1, h2, h3⟩ := decV_inv e
   have e : parse b = ⟨b.getD 0 0, z0, 0, 0, 0, []⟩ := by unfold parse; dsimp only; rw [if_neg (by omega), if_neg (by omega), if_neg (by omega), if_neg (by omega)]
   rw [e] at h1
   have := (plainB_iff.1 (encOk_iff.1 h1).1).1
   dsimp only at this; omega
theorem le4_num4 {n : Int} (h : 0 <= n /\ n <= 2147483647) (b c : List Int) : le4 (b ++ (num4 n ++ c)) b.length = n := by
 have d : ∀ j : Nat, j < 4 -> (b ++ (num4 n ++ c)).getD (b.length + j) 0 = (num4 n).getD j 0 := fun j hj => by
  rw [List.getD_eq_getElem?_getD, List.getD_eq_getElem?_getD, List.getElem?_append_right (by omega), List.getElem?_append_left (by rw [num4_len]; omega), show b.length + j - b.length = j by omega]
 have d0 := d 0 (by omega); have d1 := d 1 (by omega); have d2 := d 2 (by omega); have d3 := d 3 (by omega)
 unfold le4
 rw [Nat.add_zero] at d0
 rw [d0, d1, d2, d3]
 show n % 256 + 256 * (n / 256 % 256) + 65536 * (n / 65536 % 256) + 16777216 * (n / 16777216 % 256) = n
 omega
theorem num4_bytes (n : Int) : Bytes (num4 n) := by
 intro x hx
 simp [num4] at hx
 rcases hx with rfl | rfl | rfl | rfl <;> omega
theorem Bytes.append {a b : List Int} (h : Bytes a) (k : Bytes b) : Bytes (a ++ b) := fun x hx => (List.mem_append.1 hx).elim (h x) (k x)
theorem nums_bytes (l : List Int) : Bytes (l.flatMap num4) := by
 induction l with
 | nil => intro x hx; cases hx
 | cons a l ih => rw [List.flatMap_cons]; exact (num4_bytes a).append ih
theorem qsR_enc (pre : List Int) : ∀ (qs : List Int) (f : Nat), qs.length < f -> (∀ q ∈ qs, 0 <= q /\ q <= 2147483647) -> ∀ pre, qsR (pre ++ qs.flatMap num4) f pre.length = qs
 | [], f + 1, _, _, pre => by unfold qsR; rw [if_neg (by simp)]
 | q :: qs, f + 1, h, hq, pre => by
   unfold qsR
   rw [List.length_cons] at h
   rw [if_pos (by rw [List.length_append, nums_len, List.length_cons]; omega), List.flatMap_cons, le4_num4 (hq q (by simp))]
   have := qsR_enc pre qs f (by omega) (fun x hx => hq x (by simp [hx])) (pre ++ num4 q)
   rw [List.append_assoc, List.length_append, num4_len] at this
   rw [this]
 | _, 0, h, _, _ => by omega
theorem enc_dec {o : POp} {x : List Int} (h : encV o = some x) : decV x = some o := by
 obtain ⟨h1, h2⟩ := encV_eq h
 obtain ⟨hp, hl, hn⟩ := encOk_iff.1 h1
 obtain ⟨k0, k1, k2, k3, k4, k5⟩ := plainB_iff.1 hp
 have e : parse x = o := by
  obtain ⟨ki, ⟨oi, om, od, oq⟩, id, pe, qt, qs⟩ := o
  have hz : ¬ ki = 1 -> (⟨oi, om, od, oq⟩ : POrd) = z0 := fun hk => by
   have := k1.resolve_left hk
   unfold POrd.isZ at this
   simp only [decide_eq_true_iff] at this
   obtain ⟨rfl, rfl, rfl, rfl⟩ := this; rfl
  dsimp only at *
  by_cases e1 : ki = 1
  ·subst e1
   rw [k2.resolve_left (by omega), (k3.resolve_left (by omega)).resolve_left (by omega), k4.resolve_left (by omega), k5.resolve_left (by omega)] at *
   simp [numsOf] at hn
   have hx : x = [(1 : Int)] ++ (num4 oi ++ (num4 om ++ (num4 od ++ (num4 oq ++ [])))) := h2.symm
   have a1 := le4_num4 hn.1 [(1 : Int)] (num4 om ++ (num4 od ++ (num4 oq ++ [])))
   have a2 := le4_num4 hn.2.1 ([(1 : Int)] ++ num4 oi) (num4 od ++ (num4 oq ++ []))
   have a3 := le4_num4 hn.2.2.1 ([(1 : Int)] ++ (num4 oi ++ num4 om)) (num4 oq ++ [])
   have a4 := le4_num4 hn.2.2.2 ([(1 : Int)] ++ (num4 oi ++ (num4 om ++ num4 od))) []
   have hlx : x.length = 17 := by rw [hx]; rfl
   simp only [List.append_assoc] at a2 a3 a4
   rw [<- hx] at a1 a2 a3 a4
   have hk : x.getD 0 0 = 1 := by rw [hx]; rfl
   unfold parse; dsimp only
   rw [if_pos hk, getR_pos (by omega), getR_pos (by omega), getR_pos (by omega), getR_pos (by omega)]
   rw [show le4 x 1 = oi from a1, show le4 x 5 = om from a2, show le4 x 9 = od from a3, show le4 x 13 = oq from a4]
  ·rw [hz e1] at *
   by_cases e2 : ki = 2
   ·subst e2
    rw [(k3.resolve_left (by omega)).resolve_left (by omega), k4.resolve_left (by omega), k5.resolve_left (by omega)] at *
    simp [numsOf] at hn
    have hx : x = [(2 : Int)] ++ (num4 id ++ []) := h2.symm
    have a1 := le4_num4 hn [(2 : Int)] []
    have hlx : x.length = 5 := by rw [hx]; rfl
    rw [<- hx] at a1
    have hk : x.getD 0 0 = 2 := by rw [hx]; rfl
    unfold parse; dsimp only
    rw [if_neg (by omega), if_pos hk, getR_pos (by omega), show le4 x 1 = id from a1]
   ·rw [k2.resolve_left e2] at *
    by_cases e3 : ki = 3
    ·subst e3
     rw [k5.resolve_left (by omega)] at *
     simp [numsOf] at hn
     have hx : x = [(3 : Int)] ++ (num4 pe ++ (num4 qt ++ [])) := h2.symm
     have a1 := le4_num4 hn.1 [(3 : Int)] (num4 qt ++ [])
     have a2 := le4_num4 hn.2 ([(3 : Int)] ++ num4 pe) []
     have hlx : x.length = 9 := by rw [hx]; rfl
     simp only [List.append_assoc] at a2
     rw [<- hx] at a1 a2
     have hk : x.getD 0 0 = 3 := by rw [hx]; rfl
     unfold parse; dsimp only
     rw [if_neg (by omega), if_neg (by omega), if_pos hk, getR_pos (by omega), getR_pos (by omega), show le4 x 1 = pe from a1, show le4 x 5 = qt from a2]
    ·rw [k4.resolve_left e3] at *
     by_cases e5 : ki = 5
     ·subst e5
      have hn1 : 0 <= pe /\ pe <= 2147483647 := hn pe (by simp [numsOf])
      have hn2 : ∀ q ∈ qs, 0 <= q /\ q <= 2147483647 := fun q hq => hn q (by simp [numsOf, hq])
      have hx : x = [(5 : Int)] ++ (num4 pe ++ ((qs.length : Int) :: qs.flatMap num4)) := h2.symm
      have a1 := le4_num4 hn1 [(5 : Int)] ((qs.length : Int) :: qs.flatMap num4)
      have a2 := qsR_enc [] qs 10 (by omega) hn2 ([(5 : Int)] ++ (num4 pe ++ [(qs.length : Int)]))
      have hlx : x.length = 6 + 4 * qs.length := by rw [hx, List.length_append, List.length_append, List.length_singleton, List.length_cons, nums_len, num4_len]; omega
      simp only [List.append_assoc, List.singleton_append, List.cons_append, List.nil_append] at a1 a2 hx
      rw [<- hx] at a1 a2
      have hk : x.getD 0 0 = 5 := by rw [hx]; rfl
      unfold parse; dsimp only
      rw [if_neg (by omega), if_neg (by omega), if_neg (by omega), if_pos hk, getR_pos (by omega), show le4 x 1 = pe from a1, show qsR x 10 6 = qs from a2]
     ·rw [(k3.resolve_left e3).resolve_left e5, k5.resolve_left e5] at *
      have hx : x = [ki] := by rw [<- h2]; unfold encB numsOf; dsimp only; rw [if_neg e5, if_neg e1, if_neg e2, if_neg e3, if_neg e5]; rfl
      unfold parse; dsimp only
      have hg : x.getD 0 0 = ki := by rw [hx]; rfl
      rw [hg, if_neg e1, if_neg e2, if_neg e3, if_neg e5]
 have hlen : 1 <= x.length /\ x.length <= 40 := by
  rw [<- h2]; unfold encB
  split
  ·rw [List.length_cons, List.length_append, List.length_cons, nums_len, num4_len]; omega
  ·rename_i h5
   rw [List.length_cons, nums_len]
   have : (numsOf o).length <= 4 := by
    unfold numsOf
    split
    ·simp
    ·split
     ·simp
     ·split
      ·simp
      ·first | done | simp
   omega
 rw [decV_some hlen.1 hlen.2 (by rw [e]; exact h1) (by rw [e]; exact h2), e]
end Go.Proofs.YtncbebfhakcgdaaGreat
namespace Go.Proofs.YtncbebfhakcgdaaGreat
open Go.RowKit Go.Shelf
attribute [local go_sem ↓] Go.wp_at_zero Go.wp_at_succ
def Pan (c : Int) : List PanicEntry := [{ v := .iface 97 (.agg #[.int .i64 c]), recovered := false }]
theorem must_yes (w : World) (c : Int) : Calls Tryz.prog 29 #[.bool true, .int .i64 c] w (fun e w' => e = .returned (.tuple #[]) /\ w = w') := by
 go_enter Tryz.func29, Tryz.ntmps29
 go_wp2_with fail
 go_end0
 exact ⟨rfl, rfl⟩
theorem must_no (w : World) (c : Int) : Calls Tryz.prog 29 #[.bool false, .int .i64 c] w (fun e w' => e = .panicked (Pan c) /\ w = w') := by
 go_enter Tryz.func29, Tryz.ntmps29
 go_wp2_with fail
 exact ⟨rfl, rfl, rfl⟩
theorem run_ta_ok (v : Value) (w : World) : (Instr.typeAssert (.iface 97 v) 20 97 true).run Tryz.prog w = .ok (.tuple #[v, .bool true]) w := by
 simp [Instr.typeAssert, go_sem, Tryz.underlying97]
theorem new_at {w : World} {t : TypeId} {cs : List Value} {g : Nat} (hg : w.heap.size = g) : Row (w.alloc (.cells cs.toArray t)) g t cs := by subst hg; exact Row.new _ _ _
theorem onlys_drew {L : List Nat} {a b : World} (h : Onlys L a b) : Onlys L a b.drew := ⟨h.os, h.tape, h.output, h.size, h.block⟩
theorem mkF (fn : Fn) (first cap : Array Value) (w : World) : (Instr.makeFunc fn first cap).run Tryz.prog w = .ok (.func fn first cap) w := rfl
theorem Row.put6 {W : World} {g : Nat} {t : TypeId} {a0 a1 a2 a3 a4 a5 : Value} (h : Row W g t [a0, a1, a2, a3, a4, a5]) (x0 x1 x2 x3 x4 x5 : Value) : Row ((((((W.setCell ⟨g, 0, none⟩ x0).setCell ⟨g, 1, none⟩ x1).setCell ⟨g, 2, none⟩ x2).setCell ⟨g, 3, none⟩ x3).setCell ⟨g, 4, none⟩ x4).setCell ⟨g, 5, none⟩ x5) g t [x0, x1, x2, x3, x4, x5] := ((((((h.set_ 0 x0).set_ 1 x1).set_ 2 x2).set_ 3 x3).set_ 4 x4).set_ 5 x5)
theorem Row.off6 {W : World} {g : Nat} {t : TypeId} {k : Nat} {cs : List Value} (h : Row W k t cs) (hg : k ≠ g) (x0 x1 x2 x3 x4 x5 : Value) : Row ((((((W.setCell ⟨g, 0, none⟩ x0).setCell ⟨g, 1, none⟩ x1).setCell ⟨g, 2, none⟩ x2).setCell ⟨g, 3, none⟩ x3).setCell ⟨g, 4, none⟩ x4).setCell ⟨g, 5, none⟩ x5) k t cs := ((((((h.far hg x0).far hg x1).far hg x2).far hg x3).far hg x4).far hg x5)
theorem only6 {W : World} (g : Nat) (x0 x1 x2 x3 x4 x5 : Value) : Only g W ((((((W.setCell ⟨g, 0, none⟩ x0).setCell ⟨g, 1, none⟩ x1).setCell ⟨g, 2, none⟩ x2).setCell ⟨g, 3, none⟩ x3).setCell ⟨g, 4, none⟩ x4).setCell ⟨g, 5, none⟩ x5) := (((((((Only.refl g W).set 0 x0).set 1 x1).set 2 x2).set 3 x3).set 4 x4).set 5 x5)
theorem Row.put9 {W : World} {g : Nat} {t : TypeId} {a0 a1 a2 a3 a4 a5 a6 a7 a8 : Value} (h : Row W g t [a0, a1, a2, a3, a4, a5, a6, a7, a8]) (x0 x1 x2 x3 x4 x5 x6 x7 x8 : Value) : Row (((((((((W.setCell ⟨g, 0, none⟩ x0).setCell ⟨g, 1, none⟩ x1).setCell ⟨g, 2, none⟩ x2).setCell ⟨g, 3, none⟩ x3).setCell ⟨g, 4, none⟩ x4).setCell ⟨g, 5, none⟩ x5).setCell ⟨g, 6, none⟩ x6).setCell ⟨g, 7, none⟩ x7).setCell ⟨g, 8, none⟩ x8) g t [x0, x1, x2, x3, x4, x5, x6, x7, x8] := (((((((((h.set_ 0 x0).set_ 1 x1).set_ 2 x2).set_ 3 x3).set_ 4 x4).set_ 5 x5).set_ 6 x6).set_ 7 x7).set_ 8 x8)
theorem Row.off9 {W : World} {g : Nat} {t : TypeId} {k : Nat} {cs : List Value} (h : Row W k t cs) (hg : k ≠ g) (x0 x1 x2 x3 x4 x5 x6 x7 x8 : Value) : Row (((((((((W.setCell ⟨g, 0, none⟩ x0).setCell ⟨g, 1, none⟩ x1).setCell ⟨g, 2, none⟩ x2).setCell ⟨g, 3, none⟩ x3).setCell ⟨g, 4, none⟩ x4).setCell ⟨g, 5, none⟩ x5).setCell ⟨g, 6, none⟩ x6).setCell ⟨g, 7, none⟩ x7).setCell ⟨g, 8, none⟩ x8) k t cs := (((((((((h.far hg x0).far hg x1).far hg x2).far hg x3).far hg x4).far hg x5).far hg x6).far hg x7).far hg x8)
theorem only9 {W : World} (g : Nat) (x0 x1 x2 x3 x4 x5 x6 x7 x8 : Value) : Only g W (((((((((W.setCell ⟨g, 0, none⟩ x0).setCell ⟨g, 1, none⟩ x1).setCell ⟨g, 2, none⟩ x2).setCell ⟨g, 3, none⟩ x3).setCell ⟨g, 4, none⟩ x4).setCell ⟨g, 5, none⟩ x5).setCell ⟨g, 6, none⟩ x6).setCell ⟨g, 7, none⟩ x7).setCell ⟨g, 8, none⟩ x8) := ((((((((((Only.refl g W).set 0 x0).set 1 x1).set 2 x2).set 3 x3).set 4 x4).set 5 x5).set 6 x6).set 7 x7).set 8 x8)
theorem results_bk {fn : Func} {t : Tmp} {tmps : Array Value} {W : World} {b : Nat} {v0 v1 v2 v3 v4 v5 : Value} (h : fn.results = #[.cell t 27]) (hp : tmps[t]?.getD undef = .pointer (some ⟨b, 0, none⟩)) (hr : Row W b 27 [v0, v1, v2, v3, v4, v5]) :
 (results fn tmps).run Tryz.prog W = .ok (.agg #[v0, v1, v2, v3, v4, v5]) W := by
 have c0 := hr.cell (i := 0) rfl; have c1 := hr.cell (i := 1) rfl; have c2 := hr.cell (i := 2) rfl; have c3 := hr.cell (i := 3) rfl; have c4 := hr.cell (i := 4) rfl; have c5 := hr.cell (i := 5) rfl
 simp [results, h, hp, go_sem, c0, c1, c2, c3, c4, c5]
theorem results_bkc {fn : Func} {t s : Tmp} {tmps : Array Value} {W : World} {b g : Nat} {v0 v1 v2 v3 v4 v5 x : Value} (h : fn.results = #[.cell t 27, .cell s 35]) (hp : tmps[t]?.getD undef = .pointer (some ⟨b, 0, none⟩)) (hq : tmps[s]?.getD undef = .pointer (some ⟨g, 0, none⟩)) (hr : Row W b 27 [v0, v1, v2, v3, v4, v5]) (hx : Row W g 35 [x]) :
 (results fn tmps).run Tryz.prog W = .ok (.tuple #[.agg #[v0, v1, v2, v3, v4, v5], x]) W := by
 have c0 := hr.cell (i := 0) rfl; have c1 := hr.cell (i := 1) rfl; have c2 := hr.cell (i := 2) rfl; have c3 := hr.cell (i := 3) rfl; have c4 := hr.cell (i := 4) rfl; have c5 := hr.cell (i := 5) rfl
 have e0 := hx.cell (i := 0) rfl
 simp [results, h, hp, hq, go_sem, c0, c1, c2, c3, c4, c5, e0]
theorem results_op {fn : Func} {t : Tmp} {tmps : Array Value} {W : World} {b : Nat} {v0 v1 v2 v3 v4 v5 v6 v7 v8 : Value} (h : fn.results = #[.cell t 31]) (hp : tmps[t]?.getD undef = .pointer (some ⟨b, 0, none⟩)) (hr : Row W b 31 [v0, v1, v2, v3, v4, v5, v6, v7, v8]) :
 (results fn tmps).run Tryz.prog W = .ok (.agg #[v0, v1, v2, v3, v4, v5, v6, v7, v8]) W := by
 have c0 := hr.cell (i := 0) rfl; have c1 := hr.cell (i := 1) rfl; have c2 := hr.cell (i := 2) rfl; have c3 := hr.cell (i := 3) rfl; have c4 := hr.cell (i := 4) rfl; have c5 := hr.cell (i := 5) rfl; have c6 := hr.cell (i := 6) rfl; have c7 := hr.cell (i := 7) rfl; have c8 := hr.cell (i := 8) rfl
 simp [results, h, hp, go_sem, c0, c1, c2, c3, c4, c5, c6, c7, c8]
theorem results_opc {fn : Func} {t s : Tmp} {tmps : Array Value} {W : World} {b g : Nat} {v0 v1 v2 v3 v4 v5 v6 v7 v8 x : Value} (h : fn.results = #[.cell t 31, .cell s 35]) (hp : tmps[t]?.getD undef = .pointer (some ⟨b, 0, none⟩)) (hq : tmps[s]?.getD undef = .pointer (some ⟨g, 0, none⟩)) (hr : Row W b 31 [v0, v1, v2, v3, v4, v5, v6, v7, v8]) (hx : Row W g 35 [x]) :
 (results fn tmps).run Tryz.prog W = .ok (.tuple #[.agg #[v0, v1, v2, v3, v4, v5, v6, v7, v8], x]) W := by
 have c0 := hr.cell (i := 0) rfl; have c1 := hr.cell (i := 1) rfl; have c2 := hr.cell (i := 2) rfl; have c3 := hr.cell (i := 3) rfl; have c4 := hr.cell (i := 4) rfl; have c5 := hr.cell (i := 5) rfl; have c6 := hr.cell (i := 6) rfl; have c7 := hr.cell (i := 7) rfl; have c8 := hr.cell (i := 8) rfl
 have e0 := hx.cell (i := 0) rfl
 simp [results, h, hp, hq, go_sem, c0, c1, c2, c3, c4, c5, c6, c7, c8, e0]
set_option maxHeartbeats 4000000 in
theorem catchB_pan (w : World) (gp gq : Nat) (v0 v1 v2 v3 v4 v5 : Value) (z c : Int) (hp : Row w gp 27 [v0, v1, v2, v3, v4, v5]) (hq : Row w gq 35 [.int .i64 z]) (hne : gp ≠ gq) :
 CallsD Tryz.prog 56 #[.pointer (some ⟨gp, 0, none⟩), .pointer (some ⟨gq, 0, none⟩)] (.panicking (Pan c)) w (fun e u' w' => e = .returned (.tuple #[]) /\ u' = .panicking [{ v := .iface 97 (.agg #[.int .i64 c]), recovered := true }] /\
  Row w' gp 27 [.slice none 0 0, .int .i64 0, .int .i64 0, .slice none 0 0, .slice none 0 0, .slice none 0 0] /\ Row w' gq 35 [.int .i64 c] /\ ∃ w2, Later w w2 /\ Onlys [gp, gq] w2 w') := by
 refine callsD_of_wpS Tryz.func56 rfl fun c₀ cs hu => ?_
 apply wpS_seq
 apply wpS_region
 simp [wpOpsS, go_sem, recoverD, hu, Tryz.ntmps56, Exit.thenS, Pan]
 have hta := run_ta_ok
 have HP := hide hp; have HQ := hide hq
 clear hp hq
 refine wpS_of_wp ?_
 change Code.wp _ _ _ { tmps := #[.pointer (some ⟨gp, 0, none⟩), .pointer (some ⟨gq, 0, none⟩), undef, undef, undef, undef, .iface 97 (.agg #[.int .i64 c]), undef, undef, undef, undef, undef, undef, undef, undef], defers := [] } w
 go_upto_region 8 with fail
 obtain ⟨W, hW⟩ : ∃ W, W = ((w.alloc (Obj.cells #[Value.int .i64 c] 97)).alloc (Obj.cells #[Value.slice none 0 0, Value.int .i64 0, Value.int .i64 0, Value.slice none 0 0, Value.slice none 0 0, Value.slice none 0 0] 27)) := ⟨_, rfl⟩
 rw [<- hW]
 obtain ⟨g1, hg1⟩ : ∃ g1, g1 = w.heap.size := ⟨_, rfl⟩
 obtain ⟨g2, hg2⟩ : ∃ g2, g2 = g1 + 1 := ⟨_, rfl⟩
 rw [<- hg1, <- hg2]
 have r1 : Row W g1 97 [.int .i64 c] := by rw [hW, hg1]; exact (Row.new _ _ _).alloc _
 have r2 : Row W g2 27 [.slice none 0 0, .int .i64 0, .int .i64 0, .slice none 0 0, .slice none 0 0, .slice none 0 0] := by rw [hW, hg2, hg1]; exact new_at (World.size_alloc _ _)
 have lW : Later w W := by rw [hW]; exact ((Later.refl _).alloc _).alloc _
 have rp := HP.out.later lW; have rq := HQ.out.later lW
 have HLW := hide lW
 have hlp := HP.out.lt; have hlq := HQ.out.lt
 have np1 : gp ≠ g1 := by omega
 have np2 : gp ≠ g2 := by omega
 have nq1 : gq ≠ g1 := by omega
 have nq2 : gq ≠ g2 := by omega
 have HT : Hid (W.cell? ⟨g2, 0, none⟩ = some (.slice none 0 0) /\ W.cell? ⟨g2, 1, none⟩ = some (.int .i64 0) /\ W.cell? ⟨g2, 2, none⟩ = some (.int .i64 0) /\ W.cell? ⟨g2, 3, none⟩ = some (.slice none 0 0) /\ W.cell? ⟨g2, 4, none⟩ = some (.slice none 0 0) /\ W.cell? ⟨g2, 5, none⟩ = some (.slice none 0 0) /\ W.cell? ⟨g1, 0, none⟩ = some (.int .i64 c)) := hide ⟨r2.cell rfl, r2.cell rfl, r2.cell rfl, r2.cell rfl, r2.cell rfl, r2.cell rfl, r1.cell rfl⟩
 have p0 := rp.cell (i := 0) rfl; have p1 := rp.cell (i := 1) rfl; have p2 := rp.cell (i := 2) rfl; have p3 := rp.cell (i := 3) rfl; have p4 := rp.cell (i := 4) rfl; have p5 := rp.cell (i := 5) rfl
 have pz0 := rp.frozen 0; have pz1 := rp.frozen 1; have pz2 := rp.frozen 2; have pz3 := rp.frozen 3; have pz4 := rp.frozen 4; have pz5 := rp.frozen 5
 have q0 := rq.cell (i := 0) rfl; have qz0 := rq.frozen 0
 have HRP := hide rp; have HRQ := hide rq
 have HT2 : Hid (∀ x0 x1 x2 x3 x4 x5 : Value, ((((((W.setCell ⟨gp, 0, none⟩ x0).setCell ⟨gp, 1, none⟩ x1).setCell ⟨gp, 2, none⟩ x2).setCell ⟨gp, 3, none⟩ x3).setCell ⟨gp, 4, none⟩ x4).setCell ⟨gp, 5, none⟩ x5).drew.cell? ⟨g2, 0, none⟩ = some (.slice none 0 0) /\ ((((((W.setCell ⟨gp, 0, none⟩ x0).setCell ⟨gp, 1, none⟩ x1).setCell ⟨gp, 2, none⟩ x2).setCell ⟨gp, 3, none⟩ x3).setCell ⟨gp, 4, none⟩ x4).setCell ⟨gp, 5, none⟩ x5).drew.cell? ⟨g2, 1, none⟩ = some (.int .i64 0) /\ ((((((W.setCell ⟨gp, 0, none⟩ x0).setCell ⟨gp, 1, none⟩ x1).setCell ⟨gp, 2, none⟩ x2).setCell ⟨gp, 3, none⟩ x3).setCell ⟨gp, 4, none⟩ x4).setCell ⟨gp, 5, none⟩ x5).drew.cell? ⟨g2, 2, none⟩ = some (.int .i64 0) /\ ((((((W.setCell ⟨gp, 0, none⟩ x0).setCell ⟨gp, 1, none⟩ x1).setCell ⟨gp, 2, none⟩ x2).setCell ⟨gp, 3, none⟩ x3).setCell ⟨gp, 4, none⟩ x4).setCell ⟨gp, 5, none⟩ x5).drew.cell? ⟨g2, 3, none⟩ = some (.slice none 0 0) /\ ((((((W.setCell ⟨gp, 0, none⟩ x0).setCell ⟨gp, 1, none⟩ x1).setCell ⟨gp, 2, none⟩ x2).setCell ⟨gp, 3, none⟩ x3).setCell ⟨gp, 4, none⟩ x4).setCell ⟨gp, 5, none⟩ x5).drew.cell? ⟨g2, 4, none⟩ = some (.slice none 0 0) /\ ((((((W.setCell ⟨gp, 0, none⟩ x0).setCell ⟨gp, 1, none⟩ x1).setCell ⟨gp, 2, none⟩ x2).setCell ⟨gp, 3, none⟩ x3).setCell ⟨gp, 4, none⟩ x4).setCell ⟨gp, 5, none⟩ x5).drew.cell? ⟨g2, 5, none⟩ = some (.slice none 0 0) /\ ((((((W.setCell ⟨gp, 0, none⟩ x0).setCell ⟨gp, 1, none⟩ x1).setCell ⟨gp, 2, none⟩ x2).setCell ⟨gp, 3, none⟩ x3).setCell ⟨gp, 4, none⟩ x4).setCell ⟨gp, 5, none⟩ x5).drew.cell? ⟨g1, 0, none⟩ = some (.int .i64 c)) := hide fun x0 x1 x2 x3 x4 x5 => ⟨(r2.off6 (Ne.symm np2) x0 x1 x2 x3 x4 x5).drew.cell rfl, (r2.off6 (Ne.symm np2) x0 x1 x2 x3 x4 x5).drew.cell rfl, (r2.off6 (Ne.symm np2) x0 x1 x2 x3 x4 x5).drew.cell rfl, (r2.off6 (Ne.symm np2) x0 x1 x2 x3 x4 x5).drew.cell rfl, (r2.off6 (Ne.symm np2) x0 x1 x2 x3 x4 x5).drew.cell rfl, (r2.off6 (Ne.symm np2) x0 x1 x2 x3 x4 x5).drew.cell rfl, (r1.off6 (Ne.symm np1) x0 x1 x2 x3 x4 x5).drew.cell rfl⟩
 clear hW hg1 hg2 r1 r2 lW rp rq hlp hlq np1 np2 nq1 nq2
 have hmx : Tryz.prog.follows .mixedOrders = true := by kernel_rfl
 refine wp_region_N (fun w' => w'.cell? ⟨g2, 0, none⟩ = some (.slice none 0 0) /\ w'.cell? ⟨g2, 1, none⟩ = some (.int .i64 0) /\ w'.cell? ⟨g2, 2, none⟩ = some (.int .i64 0) /\ w'.cell? ⟨g2, 3, none⟩ = some (.slice none 0 0) /\ w'.cell? ⟨g2, 4, none⟩ = some (.slice none 0 0) /\ w'.cell? ⟨g2, 5, none⟩ = some (.slice none 0 0) /\ w'.cell? ⟨g1, 0, none⟩ = some (.int .i64 c)) [4] hmx HT.out (fun hHeld => ?_)
 refine tkB 12 0 ?_
 refine tkB 13 1 ?_
 refine tkB 14 2 ?_
 refine wpAnyN_ready (rs := [3]) (by kernel_rfl) (by simp) ?_
 refine AllReadyN.held rfl (by rfl) (fun K hK => ?_) AllReadyN.nil
 go_simp
 refine hK.out _ _ ?_ (fun hHeld => ?_)
 ·exact HT2.out _ _ _ _ _ _
 clear hK K
 try simp only [Act.put, s1_, s2_, s3_]
 refine wpAnyN_ready (rs := [4]) (by kernel_rfl) (by simp) ?_
 refine AllReadyN.free rfl (by rfl) (by kernel_rfl) (fun K hK => ?_) AllReadyN.nil
 go_simp
 refine hK.out _ _ ?_
 clear hK K
 try simp only [Act.put, s1_, s2_, s3_]
 refine wpAnyN_done (by kernel_rfl) ?_ _
 clear hHeld
 go_wp2_with fail
 refine ⟨rfl, _, rfl, .tuple #[], results_none rfl _ _ _, rfl, rfl, ?_, ?_, _, HLW.out, ?_⟩
 ·exact ((HRP.out.put6 _ _ _ _ _ _).far hne _).drew
 ·exact ((HRQ.out.off6 (Ne.symm hne) _ _ _ _ _ _).set_ 0 _).drew
 ·exact onlys_drew ((Onlys.of (only6 gp _ _ _ _ _ _) (by simp)).then_ (Only.one gq _ 0 _) (by simp))
set_option maxHeartbeats 4000000 in
theorem catchO_pan (w : World) (gp gq : Nat) (v0 v1 v2 v3 v4 v5 v6 v7 v8 : Value) (z c : Int) (hp : Row w gp 31 [v0, v1, v2, v3, v4, v5, v6, v7, v8]) (hq : Row w gq 35 [.int .i64 z]) (hne : gp ≠ gq) :
 CallsD Tryz.prog 89 #[.pointer (some ⟨gp, 0, none⟩), .pointer (some ⟨gq, 0, none⟩)] (.panicking (Pan c)) w (fun e u' w' => e = .returned (.tuple #[]) /\ u' = .panicking [{ v := .iface 97 (.agg #[.int .i64 c]), recovered := true }] /\
  Row w' gp 31 [.int .i64 0, .int .i64 0, .int .i64 0, .int .i64 0, .int .i64 0, .int .i64 0, .int .i64 0, .int .i64 0, .slice none 0 0] /\ Row w' gq 35 [.int .i64 c] /\ ∃ w2, Later w w2 /\ Onlys [gp, gq] w2 w') := by
 refine callsD_of_wpS Tryz.func89 rfl fun c₀ cs hu => ?_
 apply wpS_seq
 apply wpS_region
 simp [wpOpsS, go_sem, recoverD, hu, Tryz.ntmps89, Exit.thenS, Pan]
 have hta := run_ta_ok
 have HP := hide hp; have HQ := hide hq
 clear hp hq
 refine wpS_of_wp ?_
 change Code.wp _ _ _ { tmps := #[.pointer (some ⟨gp, 0, none⟩), .pointer (some ⟨gq, 0, none⟩), undef, undef, undef, undef, .iface 97 (.agg #[.int .i64 c]), undef, undef, undef, undef, undef, undef, undef, undef], defers := [] } w
 go_upto_region 8 with fail
 obtain ⟨W, hW⟩ : ∃ W, W = ((w.alloc (Obj.cells #[Value.int .i64 c] 97)).alloc (Obj.cells #[Value.int .i64 0, Value.int .i64 0, Value.int .i64 0, Value.int .i64 0, Value.int .i64 0, Value.int .i64 0, Value.int .i64 0, Value.int .i64 0, Value.slice none 0 0] 31)) := ⟨_, rfl⟩
 rw [<- hW]
 obtain ⟨g1, hg1⟩ : ∃ g1, g1 = w.heap.size := ⟨_, rfl⟩
 obtain ⟨g2, hg2⟩ : ∃ g2, g2 = g1 + 1 := ⟨_, rfl⟩
 rw [<- hg1, <- hg2]
 have r1 : Row W g1 97 [.int .i64 c] := by rw [hW, hg1]; exact (Row.new _ _ _).alloc _
 have r2 : Row W g2 31 [.int .i64 0, .int .i64 0, .int .i64 0, .int .i64 0, .int .i64 0, .int .i64 0, .int .i64 0, .int .i64 0, .slice none 0 0] := by rw [hW, hg2, hg1]; exact new_at (World.size_alloc _ _)
 have lW : Later w W := by rw [hW]; exact ((Later.refl _).alloc _).alloc _
 have rp := HP.out.later lW; have rq := HQ.out.later lW
 have HLW := hide lW
 have hlp := HP.out.lt; have hlq := HQ.out.lt
 have np1 : gp ≠ g1 := by omega
 have np2 : gp ≠ g2 := by omega
 have nq1 : gq ≠ g1 := by omega
 have nq2 : gq ≠ g2 := by omega
 have HT : Hid (W.cell? ⟨g2, 0, none⟩ = some (.int .i64 0) /\ W.cell? ⟨g2, 1, none⟩ = some (.int .i64 0) /\ W.cell? ⟨g2, 2, none⟩ = some (.int .i64 0) /\ W.cell? ⟨g2, 3, none⟩ = some (.int .i64 0) /\ W.cell? ⟨g2, 4, none⟩ = some (.int .i64 0) /\ W.cell? ⟨g2, 5, none⟩ = some (.int .i64 0) /\ W.cell? ⟨g2, 6, none⟩ = some (.int .i64 0) /\ W.cell? ⟨g2, 7, none⟩ = some (.int .i64 0) /\ W.cell? ⟨g2, 8, none⟩ = some (.slice none 0 0) /\ W.cell? ⟨g1, 0, none⟩ = some (.int .i64 c)) := hide ⟨r2.cell rfl, r2.cell rfl, r2.cell rfl, r2.cell rfl, r2.cell rfl, r2.cell rfl, r2.cell rfl, r2.cell rfl, r2.cell rfl, r1.cell rfl⟩
 have p0 := rp.cell (i := 0) rfl; have p1 := rp.cell (i := 1) rfl; have p2 := rp.cell (i := 2) rfl; have p3 := rp.cell (i := 3) rfl; have p4 := rp.cell (i := 4) rfl; have p5 := rp.cell (i := 5) rfl; have p6 := rp.cell (i := 6) rfl; have p7 := rp.cell (i := 7) rfl; have p8 := rp.cell (i := 8) rfl
 have pz0 := rp.frozen 0; have pz1 := rp.frozen 1; have pz2 := rp.frozen 2; have pz3 := rp.frozen 3; have pz4 := rp.frozen 4; have pz5 := rp.frozen 5; have pz6 := rp.frozen 6; have pz7 := rp.frozen 7; have pz8 := rp.frozen 8
 have q0 := rq.cell (i := 0) rfl; have qz0 := rq.frozen 0
 have HRP := hide rp; have HRQ := hide rq
 have HT2 : Hid (∀ x0 x1 x2 x3 x4 x5 x6 x7 x8 : Value, (((((((((W.setCell ⟨gp, 0, none⟩ x0).setCell ⟨gp, 1, none⟩ x1).setCell ⟨gp, 2, none⟩ x2).setCell ⟨gp, 3, none⟩ x3).setCell ⟨gp, 4, none⟩ x4).setCell ⟨gp, 5, none⟩ x5).setCell ⟨gp, 6, none⟩ x6).setCell ⟨gp, 7, none⟩ x7).setCell ⟨gp, 8, none⟩ x8).drew.cell? ⟨g2, 0, none⟩ = some (.int .i64 0) /\ (((((((((W.setCell ⟨gp, 0, none⟩ x0).setCell ⟨gp, 1, none⟩ x1).setCell ⟨gp, 2, none⟩ x2).setCell ⟨gp, 3, none⟩ x3).setCell ⟨gp, 4, none⟩ x4).setCell ⟨gp, 5, none⟩ x5).setCell ⟨gp, 6, none⟩ x6).setCell ⟨gp, 7, none⟩ x7).setCell ⟨gp, 8, none⟩ x8).drew.cell? ⟨g2, 1, none⟩ = some (.int .i64 0) /\ (((((((((W.setCell ⟨gp, 0, none⟩ x0).setCell ⟨gp, 1, none⟩ x1).setCell ⟨gp, 2, none⟩ x2).setCell ⟨gp, 3, none⟩ x3).setCell ⟨gp, 4, none⟩ x4).setCell ⟨gp, 5, none⟩ x5).setCell ⟨gp, 6, none⟩ x6).setCell ⟨gp, 7, none⟩ x7).setCell ⟨gp, 8, none⟩ x8).drew.cell? ⟨g2, 2, none⟩ = some (.int .i64 0) /\ (((((((((W.setCell ⟨gp, 0, none⟩ x0).setCell ⟨gp, 1, none⟩ x1).setCell ⟨gp, 2, none⟩ x2).setCell ⟨gp, 3, none⟩ x3).setCell ⟨gp, 4, none⟩ x4).setCell ⟨gp, 5, none⟩ x5).setCell ⟨gp, 6, none⟩ x6).setCell ⟨gp, 7, none⟩ x7).setCell ⟨gp, 8, none⟩ x8).drew.cell? ⟨g2, 3, none⟩ = some (.int .i64 0) /\ (((((((((W.setCell ⟨gp, 0, none⟩ x0).setCell ⟨gp, 1, none⟩ x1).setCell ⟨gp, 2, none⟩ x2).setCell ⟨gp, 3, none⟩ x3).setCell ⟨gp, 4, none⟩ x4).setCell ⟨gp, 5, none⟩ x5).setCell ⟨gp, 6, none⟩ x6).setCell ⟨gp, 7, none⟩ x7).setCell ⟨gp, 8, none⟩ x8).drew.cell? ⟨g2, 4, none⟩ = some (.int .i64 0) /\ (((((((((W.setCell ⟨gp, 0, none⟩ x0).setCell ⟨gp, 1, none⟩ x1).setCell ⟨gp, 2, none⟩ x2).setCell ⟨gp, 3, none⟩ x3).setCell ⟨gp, 4, none⟩ x4).setCell ⟨gp, 5, none⟩ x5).setCell ⟨gp, 6, none⟩ x6).setCell ⟨gp, 7, none⟩ x7).setCell ⟨gp, 8, none⟩ x8).drew.cell? ⟨g2, 5, none⟩ = some (.int .i64 0) /\ (((((((((W.setCell ⟨gp, 0, none⟩ x0).setCell ⟨gp, 1, none⟩ x1).setCell ⟨gp, 2, none⟩ x2).setCell ⟨gp, 3, none⟩ x3).setCell ⟨gp, 4, none⟩ x4).setCell ⟨gp, 5, none⟩ x5).setCell ⟨gp, 6, none⟩ x6).setCell ⟨gp, 7, none⟩ x7).setCell ⟨gp, 8, none⟩ x8).drew.cell? ⟨g2, 6, none⟩ = some (.int .i64 0) /\ (((((((((W.setCell ⟨gp, 0, none⟩ x0).setCell ⟨gp, 1, none⟩ x1).setCell ⟨gp, 2, none⟩ x2).setCell ⟨gp, 3, none⟩ x3).setCell ⟨gp, 4, none⟩ x4).setCell ⟨gp, 5, none⟩ x5).setCell ⟨gp, 6, none⟩ x6).setCell ⟨gp, 7, none⟩ x7).setCell ⟨gp, 8, none⟩ x8).drew.cell? ⟨g2, 7, none⟩ = some (.int .i64 0) /\ (((((((((W.setCell ⟨gp, 0, none⟩ x0).setCell ⟨gp, 1, none⟩ x1).setCell ⟨gp, 2, none⟩ x2).setCell ⟨gp, 3, none⟩ x3).setCell ⟨gp, 4, none⟩ x4).setCell ⟨gp, 5, none⟩ x5).setCell ⟨gp, 6, none⟩ x6).setCell ⟨gp, 7, none⟩ x7).setCell ⟨gp, 8, none⟩ x8).drew.cell? ⟨g2, 8, none⟩ = some (.slice none 0 0) /\ (((((((((W.setCell ⟨gp, 0, none⟩ x0).setCell ⟨gp, 1, none⟩ x1).setCell ⟨gp, 2, none⟩ x2).setCell ⟨gp, 3, none⟩ x3).setCell ⟨gp, 4, none⟩ x4).setCell ⟨gp, 5, none⟩ x5).setCell ⟨gp, 6, none⟩ x6).setCell ⟨gp, 7, none⟩ x7).setCell ⟨gp, 8, none⟩ x8).drew.cell? ⟨g1, 0, none⟩ = some (.int .i64 c)) := hide fun x0 x1 x2 x3 x4 x5 x6 x7 x8 => ⟨(r2.off9 (Ne.symm np2) x0 x1 x2 x3 x4 x5 x6 x7 x8).drew.cell rfl, (r2.off9 (Ne.symm np2) x0 x1 x2 x3 x4 x5 x6 x7 x8).drew.cell rfl, (r2.off9 (Ne.symm np2) x0 x1 x2 x3 x4 x5 x6 x7 x8).drew.cell rfl, (r2.off9 (Ne.symm np2) x0 x1 x2 x3 x4 x5 x6 x7 x8).drew.cell rfl, (r2.off9 (Ne.symm np2) x0 x1 x2 x3 x4 x5 x6 x7 x8).drew.cell rfl, (r2.off9 (Ne.symm np2) x0 x1 x2 x3 x4 x5 x6 x7 x8).drew.cell rfl, (r2.off9 (Ne.symm np2) x0 x1 x2 x3 x4 x5 x6 x7 x8).drew.cell rfl, (r2.off9 (Ne.symm np2) x0 x1 x2 x3 x4 x5 x6 x7 x8).drew.cell rfl, (r2.off9 (Ne.symm np2) x0 x1 x2 x3 x4 x5 x6 x7 x8).drew.cell rfl, (r1.off9 (Ne.symm np1) x0 x1 x2 x3 x4 x5 x6 x7 x8).drew.cell rfl⟩
 clear hW hg1 hg2 r1 r2 lW rp rq hlp hlq np1 np2 nq1 nq2
 have hmx : Tryz.prog.follows .mixedOrders = true := by kernel_rfl
 refine wp_region_N (fun w' => w'.cell? ⟨g2, 0, none⟩ = some (.int .i64 0) /\ w'.cell? ⟨g2, 1, none⟩ = some (.int .i64 0) /\ w'.cell? ⟨g2, 2, none⟩ = some (.int .i64 0) /\ w'.cell? ⟨g2, 3, none⟩ = some (.int .i64 0) /\ w'.cell? ⟨g2, 4, none⟩ = some (.int .i64 0) /\ w'.cell? ⟨g2, 5, none⟩ = some (.int .i64 0) /\ w'.cell? ⟨g2, 6, none⟩ = some (.int .i64 0) /\ w'.cell? ⟨g2, 7, none⟩ = some (.int .i64 0) /\ w'.cell? ⟨g2, 8, none⟩ = some (.slice none 0 0) /\ w'.cell? ⟨g1, 0, none⟩ = some (.int .i64 c)) [4] hmx HT.out (fun hHeld => ?_)
 refine tkB 12 0 ?_
 refine tkB 13 1 ?_
 refine tkB 14 2 ?_
 refine wpAnyN_ready (rs := [3]) (by kernel_rfl) (by simp) ?_
 refine AllReadyN.held rfl (by rfl) (fun K hK => ?_) AllReadyN.nil
 go_simp
 refine hK.out _ _ ?_ (fun hHeld => ?_)
 ·exact HT2.out _ _ _ _ _ _ _ _ _
 clear hK K
 try simp only [Act.put, s1_, s2_, s3_]
 refine wpAnyN_ready (rs := [4]) (by kernel_rfl) (by simp) ?_
 refine AllReadyN.free rfl (by rfl) (by kernel_rfl) (fun K hK => ?_) AllReadyN.nil
 go_simp
 refine hK.out _ _ ?_
 clear hK K
 try simp only [Act.put, s1_, s2_, s3_]
 refine wpAnyN_done (by kernel_rfl) ?_ _
 clear hHeld
 go_wp2_with fail
 refine ⟨rfl, _, rfl, .tuple #[], results_none rfl _ _ _, rfl, rfl, ?_, ?_, _, HLW.out, ?_⟩
 ·exact ((HRP.out.put9 _ _ _ _ _ _ _ _ _).far hne _).drew
 ·exact ((HRQ.out.off9 (Ne.symm hne) _ _ _ _ _ _ _ _ _).set_ 0 _).drew
 ·exact onlys_drew ((Onlys.of (only9 gp _ _ _ _ _ _ _ _ _) (by simp)).then_ (Only.one gq _ 0 _) (by simp))
set_option maxHeartbeats 4000000 in
theorem catchB_idle (w : World) (gp gq : Nat) :
 CallsD Tryz.prog 56 #[.pointer (some ⟨gp, 0, none⟩), .pointer (some ⟨gq, 0, none⟩)] .returning w (fun e u' w' => e = .returned (.tuple #[]) /\ u' = .returning /\ w' = w) := by
 refine callsD_of_wpS Tryz.func56 rfl fun c₀ cs hu => ?_
 apply wpS_seq
 apply wpS_region
 simp [wpOpsS, go_sem, recoverD, hu, Tryz.ntmps56, Exit.thenS]
 refine wpS_of_wp ?_
 change Code.wp _ _ _ { tmps := #[.pointer (some ⟨gp, 0, none⟩), .pointer (some ⟨gq, 0, none⟩), undef, undef, undef, undef, .nilIface, undef, undef, undef, undef, undef, undef, undef, undef], defers := [] } w
 go_wp2_with fail
 refine ⟨rfl, _, rfl, .tuple #[], results_none rfl _ _ _, rfl, ?_, rfl⟩
 first | exact hu | rfl
set_option maxHeartbeats 4000000 in
theorem catchO_idle (w : World) (gp gq : Nat) :
 CallsD Tryz.prog 89 #[.pointer (some ⟨gp, 0, none⟩), .pointer (some ⟨gq, 0, none⟩)] .returning w (fun e u' w' => e = .returned (.tuple #[]) /\ u' = .returning /\ w' = w) := by
 refine callsD_of_wpS Tryz.func89 rfl fun c₀ cs hu => ?_
 apply wpS_seq
 apply wpS_region
 simp [wpOpsS, go_sem, recoverD, hu, Tryz.ntmps89, Exit.thenS]
 refine wpS_of_wp ?_
 change Code.wp _ _ _ { tmps := #[.pointer (some ⟨gp, 0, none⟩), .pointer (some ⟨gq, 0, none⟩), undef, undef, undef, undef, .nilIface, undef, undef, undef, undef, undef, undef, undef, undef], defers := [] } w
 go_wp2_with fail
 refine ⟨rfl, _, rfl, .tuple #[], results_none rfl _ _ _, rfl, ?_, rfl⟩
 first | exact hu | rfl
end Go.Proofs.YtncbebfhakcgdaaGreat
namespace Go.Proofs.YtncbebfhakcgdaaGreat
open Go.RowKit Go.Shelf
attribute [local go_sem ↓] Go.wp_at_zero Go.wp_at_succ
theorem info_o4 : (Tryz.prog.info? 29).map (fun i => (i.zero, i.size, i.bytes)) = some (some (.agg #[.int .i64 0, .int .i64 0, .int .i64 0, .int .i64 0]), 4, 32) := by kernel_rfl
theorem info_m3 : (Tryz.prog.info? 43).map (fun i => (i.zero, i.size, i.bytes)) = some (some (.agg #[.int .i64 0, .int .i64 0, .int .i64 0]), 3, 24) := by kernel_rfl
theorem info_it : (Tryz.prog.info? 69).map (fun i => (i.zero, i.size, i.bytes)) = some (some (.agg #[.bool false, .slice none 0 0, .bool false, .slice none 0 0, .bool false, .slice none 0 0, .bool false, .slice none 0 0, .bool false, .slice none 0 0, .bool false, .slice none 0 0]), 12, 192) := by kernel_rfl
def ApartV (u v : Value) : Prop := ∀ k, u.ownBlock = some k -> v.ownBlock ≠ some k
theorem ApartV.symm {u v : Value} (h : ApartV u v) : ApartV v u := fun k h1 h2 => h k h2 h1
theorem own_kept {w w' : World} {base : Nat} {e : TypeId} {size n : Nat} {v u : Value} {xs : List Value} (h : w.ownsRow base e size v n xs) (hg : w.grownBy w' u.ownBlock) (ha : ApartV v u) : w'.ownsRow base e size v n xs :=
 h.kept hg (by
  cases e1 : v.ownBlock with
  | none => exact .inl rfl
  | some k => exact .inr fun e2 => ha k e1 e2.symm)
theorem own_later {w w' : World} {base : Nat} {e : TypeId} {size n : Nat} {v : Value} {xs : List Value} (h : w.ownsRow base e size v n xs) (hb : Later w w') : w'.ownsRow base e size v n xs :=
 h.kept (row := none) ⟨hb.os, hb.tape, hb.output, hb.size, fun b hb2 _ => hb.block b hb2⟩ (by
  cases e1 : v.ownBlock with
  | none => exact .inl rfl
  | some k => exact .inr (by simp))
theorem own_only {w w' : World} {base g : Nat} {e : TypeId} {size n : Nat} {v : Value} {xs : List Value} (h : w.ownsRow base e size v n xs) (o : Only g w w') (hg : ∀ k, v.ownBlock = some k -> k ≠ g) : w'.ownsRow base e size v n xs :=
 h.kept (row := some g) ⟨o.os, o.tape, o.output, by rw [o.size]; exact Nat.le_refl _, fun b hb hne => o.block b (fun e => hne (by rw [e]))⟩ (by
  cases e1 : v.ownBlock with
  | none => exact .inl rfl
  | some k => exact .inr (fun e2 => hg k e1 (by injection e2)))
theorem own_weaken {w : World} {base base' : Nat} {e : TypeId} {size n : Nat} {v : Value} {xs : List Value} (h : w.ownsRow base e size v n xs) (hb : base' <= base) : w.ownsRow base' e size v n xs := by
 obtain ⟨h1, h2⟩ := h
 refine ⟨h1, ?_⟩
 rcases h2 with h2 | ⟨g, cap, cur, a1, a2, a3⟩
 ·exact .inl h2
 ·exact .inr ⟨g, cap, cur, a1, Nat.le_trans hb a2, a3⟩
theorem own_apart {w w' : World} {base base' : Nat} {e e' : TypeId} {size size' n n' : Nat} {v v' : Value} {xs xs' : List Value} (h : w.ownsRow base e size v n xs) (k : w'.ownsRow base' e' size' v' n' xs') (hb : w.heap.size <= base') : ApartV v v' := fun j h1 h2 => by
 have a := (World.ownsRow.lt h j h1).2; have b := (World.ownsRow.lt k j h2).1; omega
theorem flat_len {α : Type} {m : Nat} {enc : α -> List Value} (hm : ∀ x, (enc x).length = m) (l : List α) : (l.flatMap enc).length = l.length * m := by
 induction l with
 | nil => simp
 | cons x l ih => rw [List.flatMap_cons, List.length_append, ih, hm, List.length_cons, Nat.succ_mul]; omega
theorem flat_at {α : Type} {m : Nat} {enc : α -> List Value} (hm : ∀ x, (enc x).length = m) (h0 : 0 < m) (l : List α) {j : Nat} {u : Value} (h : (l.flatMap enc)[j]? = some u) : ∃ i x k, l[i]? = some x /\ k < m /\ j = i * m + k /\ (enc x)[k]? = some u := by
 have hl := (List.getElem?_eq_some_iff.1 h).1
 rw [flat_len hm] at hl
 have hi : j / m < l.length := Nat.div_lt_of_lt_mul (by rw [Nat.mul_comm]; exact hl)
 have hj : j = j / m * m + j % m := by rw [Nat.mul_comm]; exact (Nat.div_add_mod j m).symm
 refine ⟨j / m, l[j / m], j % m, List.getElem?_eq_getElem hi, Nat.mod_lt _ h0, hj, ?_⟩
 rw [<- flatMap_get enc m hm l (j / m) (j % m) _ (List.getElem?_eq_getElem hi) (Nat.mod_lt _ h0), <- hj]; exact h
theorem addr_add (b off j : Nat) : (⟨b, off, none⟩ : Addr).add j = ⟨b, off + j, none⟩ := by
 unfold Addr.add; split <;> simp_all
theorem Sq.src {α : Type} {m : Nat} {enc : α -> List Value} {w : World} {ad : Addr} {n c : Nat} {l : List α} (hm : ∀ x, (enc x).length = m) (h0 : 0 < m) (h1 : ∀ x, ∀ u ∈ enc x, u.oneCell' = true) (h : Sq m enc w (.slice (some ad) n c) l) : Src w m (.slice (some ad) n c) n (l.flatMap enc) := by
 have hn : n = l.length := by
  obtain ⟨A', c', e, -⟩ := h
  injection e with e1 e2 e3
 refine ⟨by rw [flat_len hm, hn], fun u hu => ?_, .inr ⟨ad, c, rfl, fun j u hj => ?_⟩⟩
 ·obtain ⟨x, hx, hu⟩ := List.mem_flatMap.1 hu; exact h1 x u hu
 ·obtain ⟨i, x, k, hi, hk, rfl, hu⟩ := flat_at hm h0 l hj
  obtain ⟨b, off, ha, hx⟩ := h.at_ hi
  injection ha with ha; subst ha
  have := hx k u hu
  rw [Nat.add_assoc] at this
  rw [addr_add]; exact this
theorem iCells_ln (z : Int) : (iCells z).length = 1 := rfl
theorem oCells_len (o : POrd) : (oCells o).length = 4 := rfl
theorem mCells_len (o : PMk) : (mCells o).length = 3 := rfl
theorem iCells_one (z : Int) : ∀ u ∈ iCells z, u.oneCell' = true := by intro u hu; simp [iCells] at hu; subst hu; rfl
theorem oCells_one (z : POrd) : ∀ u ∈ oCells z, u.oneCell' = true := by intro u hu; simp [oCells] at hu; rcases hu with rfl | rfl | rfl | rfl <;> rfl
theorem mCells_one (z : PMk) : ∀ u ∈ mCells z, u.oneCell' = true := by intro u hu; simp [mCells] at hu; rcases hu with rfl | rfl | rfl <;> rfl
def cellsI (e : ICells × ICells × ICells) : List Value := e.1.cells ++ e.2.1.cells ++ e.2.2.cells
theorem cellsI_len (e : ICells × ICells × ICells) : (cellsI e).length = 12 := rfl
theorem cellsI_one (e : ICells × ICells × ICells) : ∀ u ∈ cellsI e, u.oneCell' = true := by
 intro u hu; simp [cellsI, ICells.cells] at hu
 rcases hu with rfl | rfl | rfl | rfl | rfl | rfl | rfl | rfl | rfl | rfl | rfl | rfl <;> rfl
def ItE (k : Nat) (w : World) (e : ICells × ICells × ICells) (x : PItem) : Prop := ENum k w (.agg e.1.cells.toArray) x.s x.sf /\ ENum k w (.agg e.2.1.cells.toArray) x.h x.hf /\ ENum k w (.agg e.2.2.cells.toArray) x.b x.bf
def ItsOf (k : Nat) (w : World) (es : List (ICells × ICells × ICells)) (l : List PItem) : Prop := es.length = l.length /\ ∀ (i : Nat) e x, es[i]? = some e -> l[i]? = some x -> ItE k w e x
theorem ItsOf.later {k : Nat} {w w' : World} {es : List (ICells × ICells × ICells)} {l : List PItem} (h : ItsOf k w es l) (hb : Later w w') : ItsOf k w' es l :=
 ⟨h.1, fun i e x h1 h2 => by obtain ⟨a, b, c⟩ := h.2 i e x h1 h2; exact ⟨a.later hb, b.later hb, c.later hb⟩⟩
theorem Its.of_own {k : Nat} {w : World} {lo : Nat} {T : TypeId} {v : Value} {es : List (ICells × ICells × ICells)} {l : List PItem} (h : w.ownsRow lo T 12 v l.length (es.flatMap cellsI)) (hE : ItsOf k w es l) : Its k w v l := by
 have hq : Sq 12 cellsI w v es := Sq.of_own (lo := lo) (T := T) cellsI_len (by rw [hE.1]; exact h)
 obtain ⟨A, c, e, h1, h2, h3⟩ := hq
 rw [hE.1] at e h1
 refine ⟨A, c, e, h1, h2, fun i x hi => ?_⟩
 have hil := (List.getElem?_eq_some_iff.1 hi).1
 have he : es[i]? = some (es[i]'(by rw [hE.1]; exact hil)) := List.getElem?_eq_getElem _
 obtain ⟨b, off, ha, hx⟩ := h3 i _ he
 obtain ⟨a1, a2, a3⟩ := hE.2 i _ x he hi
 exact ⟨b, off, ha, _, _, _, hx, a1, a2, a3⟩
theorem list_ofI {α : Type} {Q : Nat -> α -> Prop} : ∀ (n : Nat), (∀ i, i < n -> ∃ x, Q i x) -> ∃ l : List α, l.length = n /\ ∀ (i : Nat) x, l[i]? = some x -> Q i x := by
 intro n
 induction n with
 | zero => intro _; exact ⟨[], rfl, fun i x h => by simp at h⟩
 | succ n ih =>
   intro h
   obtain ⟨l, h1, h2⟩ := ih fun i hi => h i (by omega)
   obtain ⟨x, hx⟩ := h n (by omega)
   refine ⟨l ++ [x], by simp [h1], fun i y hy => ?_⟩
   by_cases hi : i < l.length
   ·rw [List.getElem?_append_left hi] at hy; exact h2 i y hy
   ·rw [List.getElem?_append_right (by omega)] at hy
    have : i - l.length = 0 := by have := (List.getElem?_eq_some_iff.1 hy).1; simp at this; omega
    rw [this] at hy
    simp at hy; subst hy
    rwa [show i = n by omega]
theorem Its.src {k : Nat} {w : World} {ad : Addr} {n c : Nat} {l : List PItem} (h : Its k w (.slice (some ad) n c) l) : ∃ es, ItsOf k w es l /\ Src w 12 (.slice (some ad) n c) n (es.flatMap cellsI) := by
 obtain ⟨es, h1, h2⟩ := list_ofI (Q := fun i (e : ICells × ICells × ICells) => ∀ x, l[i]? = some x -> ItE k w e x /\ ∃ b off, ad = ⟨b, off, none⟩ /\ ∀ (j : Nat) u, (cellsI e)[j]? = some u -> w.cell? ⟨b, off + i * 12 + j, none⟩ = some u) l.length (fun i hi => by
  obtain ⟨b, off, ha, e1, e2, e3, hx, a1, a2, a3⟩ := h.at_ (i := i) (List.getElem?_eq_getElem hi)
  injection ha with ha
  refine ⟨(e1, e2, e3), fun x hx' => ?_⟩
  rw [List.getElem?_eq_getElem hi] at hx'; injection hx' with hx'; subst hx'
  exact ⟨⟨a1, a2, a3⟩, b, off, ha, hx⟩)
 have hn : n = l.length := by
  obtain ⟨A', n', c', e, e2, -⟩ := h.form
  injection e with _ e _; omega
 refine ⟨es, ⟨h1, fun i e x he hx => (h2 i e he x hx).1⟩, by rw [flat_len cellsI_len, h1, hn], fun u hu => ?_, .inr ⟨ad, c, rfl, fun j u hj => ?_⟩⟩
 ·obtain ⟨x, hx, hu⟩ := List.mem_flatMap.1 hu; exact cellsI_one x u hu
 ·obtain ⟨i, e, q, hi, hk, rfl, hu⟩ := flat_at cellsI_len (by omega) es hj
  have hil := (List.getElem?_eq_some_iff.1 hi).1
  obtain ⟨-, b, off, ha, hx⟩ := h2 i e hi _ (List.getElem?_eq_getElem (by omega))
  subst ha
  have := hx q u hu
  rw [Nat.add_assoc] at this
  rw [addr_add]; exact this
set_option maxHeartbeats 2000000 in
theorem cloneI_calls (w : World) (v : Value) (l : List Int) (h : Sq 1 iCells w v l) (hl : l.length <= 1000) :
 Calls Tryz.prog 70 #[v] w (fun e w' => ∃ v', e = .returned v' /\ w'.ownsRow w.heap.size 3 1 v' l.length (l.flatMap iCells) /\ Later w w') := by
 obtain ⟨A0, n, c, rfl, hn, hc, hcm, h'⟩ := h.form
 cases A0 with
 | none =>
   have hl0 : l = [] := by
    cases l with
    | nil => rfl
    | cons x l => obtain ⟨b, off, ha, -⟩ := h'.at_ (i := 0) (x := x) rfl; cases ha
   subst hl0
   have he := Lib.run_eql_slice_nil (P := Tryz.prog) w 23 3 none n c 0 0 Tryz.underlying23
   clear h h' hn
   go_enter Tryz.func70, Tryz.ntmps70
   go_wp2_with fail
   go_ret
   exact ⟨_, rfl, World.ownsRow_nil _ _ _ _, Later.refl w⟩
 | some ad =>
   have he := Lib.run_eql_slice_nil (P := Tryz.prog) w 23 3 (some ad) n c 0 0 Tryz.underlying23
   have hsrc := h'.src iCells_ln (by omega) iCells_one
   have hSRC : ∀ o, Src (w.alloc o) 1 (.slice (some ad) n c) n (l.flatMap iCells) := fun o => hsrc.later ((Later.refl w).alloc o)
   have HSRC := hide hSRC
   have hn9 : 0 + n <= 4000000000 := by omega
   have HN := hide hn
   clear h h' hsrc hSRC hn hl
   go_enter Tryz.func70, Tryz.ntmps70
   go_wp2_with (at_builtin; refine wpList_append_src rfl (.tmp 5) _ 23 rfl w.heap.size 3 (.int .i64 0) 1 8 Tryz.underlying23 info_int rfl (by omega) (by omega) _ 0 [] rfl (own_empty _ _ _) _ n _ rfl (HSRC.out _) hn9 (by simp) ?_; intro v' w1 hown hg hblk)
   have hb2 : Later w w1 := ((Later.refl w).alloc _).grown hg (fun j hj => by have hj2 : some w.heap.size = some j := hj; injection hj2 with hj2; omega)
   have HOWN := hide hown
   clear hown hg hblk
   go_wp2_with fail
   go_ret
   exact ⟨_, rfl, by have := HOWN.out; rw [Nat.zero_add, List.nil_append] at this; rw [<- HN.out]; exact this, hb2⟩
set_option maxHeartbeats 2000000 in
theorem cloneO_calls (w : World) (v : Value) (l : List POrd) (h : Sq 4 oCells w v l) (hl : l.length <= 1000) :
 Calls Tryz.prog 71 #[v] w (fun e w' => ∃ v', e = .returned v' /\ w'.ownsRow w.heap.size 29 4 v' l.length (l.flatMap oCells) /\ Later w w') := by
 obtain ⟨A0, n, c, rfl, hn, hc, hcm, h'⟩ := h.form
 cases A0 with
 | none =>
   have hl0 : l = [] := by
    cases l with
    | nil => rfl
    | cons x l => obtain ⟨b, off, ha, -⟩ := h'.at_ (i := 0) (x := x) rfl; cases ha
   subst hl0
   have he := Lib.run_eql_slice_nil (P := Tryz.prog) w 24 29 none n c 0 0 Tryz.underlying24
   clear h h' hn
   go_enter Tryz.func71, Tryz.ntmps71
   go_wp2_with fail
   go_ret
   exact ⟨_, rfl, World.ownsRow_nil _ _ _ _, Later.refl w⟩
 | some ad =>
   have he := Lib.run_eql_slice_nil (P := Tryz.prog) w 24 29 (some ad) n c 0 0 Tryz.underlying24
   have hsrc := h'.src oCells_len (by omega) oCells_one
   have hSRC : ∀ o, Src (w.alloc o) 4 (.slice (some ad) n c) n (l.flatMap oCells) := fun o => hsrc.later ((Later.refl w).alloc o)
   have HSRC := hide hSRC
   have hn9 : 0 + n <= 4000000000 := by omega
   have HN := hide hn
   clear h h' hsrc hSRC hn hl
   go_enter Tryz.func71, Tryz.ntmps71
   go_wp2_with (at_builtin; refine wpList_append_src rfl (.tmp 5) _ 24 rfl w.heap.size 29 (.agg #[.int .i64 0, .int .i64 0, .int .i64 0, .int .i64 0]) 4 32 Tryz.underlying24 info_o4 rfl (by omega) (by omega) _ 0 [] rfl (own_empty _ _ _) _ n _ rfl (HSRC.out _) hn9 (by simp) ?_; intro v' w1 hown hg hblk)
   have hb2 : Later w w1 := ((Later.refl w).alloc _).grown hg (fun j hj => by have hj2 : some w.heap.size = some j := hj; injection hj2 with hj2; omega)
   have HOWN := hide hown
   clear hown hg hblk
   go_wp2_with fail
   go_ret
   exact ⟨_, rfl, by have := HOWN.out; rw [Nat.zero_add, List.nil_append] at this; rw [<- HN.out]; exact this, hb2⟩
set_option maxHeartbeats 2000000 in
theorem cloneM_calls (w : World) (v : Value) (l : List PMk) (h : Sq 3 mCells w v l) (hl : l.length <= 1000) :
 Calls Tryz.prog 72 #[v] w (fun e w' => ∃ v', e = .returned v' /\ w'.ownsRow w.heap.size 43 3 v' l.length (l.flatMap mCells) /\ Later w w') := by
 obtain ⟨A0, n, c, rfl, hn, hc, hcm, h'⟩ := h.form
 cases A0 with
 | none =>
   have hl0 : l = [] := by
    cases l with
    | nil => rfl
    | cons x l => obtain ⟨b, off, ha, -⟩ := h'.at_ (i := 0) (x := x) rfl; cases ha
   subst hl0
   have he := Lib.run_eql_slice_nil (P := Tryz.prog) w 25 43 none n c 0 0 Tryz.underlying25
   clear h h' hn
   go_enter Tryz.func72, Tryz.ntmps72
   go_wp2_with fail
   go_ret
   exact ⟨_, rfl, World.ownsRow_nil _ _ _ _, Later.refl w⟩
 | some ad =>
   have he := Lib.run_eql_slice_nil (P := Tryz.prog) w 25 43 (some ad) n c 0 0 Tryz.underlying25
   have hsrc := h'.src mCells_len (by omega) mCells_one
   have hSRC : ∀ o, Src (w.alloc o) 3 (.slice (some ad) n c) n (l.flatMap mCells) := fun o => hsrc.later ((Later.refl w).alloc o)
   have HSRC := hide hSRC
   have hn9 : 0 + n <= 4000000000 := by omega
   have HN := hide hn
   clear h h' hsrc hSRC hn hl
   go_enter Tryz.func72, Tryz.ntmps72
   go_wp2_with (at_builtin; refine wpList_append_src rfl (.tmp 5) _ 25 rfl w.heap.size 43 (.agg #[.int .i64 0, .int .i64 0, .int .i64 0]) 3 24 Tryz.underlying25 info_m3 rfl (by omega) (by omega) _ 0 [] rfl (own_empty _ _ _) _ n _ rfl (HSRC.out _) hn9 (by simp) ?_; intro v' w1 hown hg hblk)
   have hb2 : Later w w1 := ((Later.refl w).alloc _).grown hg (fun j hj => by have hj2 : some w.heap.size = some j := hj; injection hj2 with hj2; omega)
   have HOWN := hide hown
   clear hown hg hblk
   go_wp2_with fail
   go_ret
   exact ⟨_, rfl, by have := HOWN.out; rw [Nat.zero_add, List.nil_append] at this; rw [<- HN.out]; exact this, hb2⟩
set_option maxHeartbeats 2000000 in
theorem cloneT_calls (w : World) (w0 : World) (hb : Later w0 w) (k : Nat) (v : Value) (l : List PItem) (h : Its k w0 v l) (hl : l.length <= 1000) :
 Calls Tryz.prog 43 #[v] w (fun e w' => ∃ v', e = .returned v' /\ (∃ es, ItsOf k w0 es l /\ w'.ownsRow w.heap.size 69 12 v' l.length (es.flatMap cellsI)) /\ Later w w') := by
 obtain ⟨A0, n, c, rfl, hn, hc, hcm, h'⟩ := h.form
 cases A0 with
 | none =>
   have hl0 : l = [] := by
    cases l with
    | nil => rfl
    | cons x l => obtain ⟨b, off, ha, -⟩ := h'.at_ (i := 0) (x := x) rfl; cases ha
   subst hl0
   have he := Lib.run_eql_slice_nil (P := Tryz.prog) w 22 69 none n c 0 0 Tryz.underlying22
   clear h h' hn
   go_enter Tryz.func43, Tryz.ntmps43
   go_wp2_with fail
   go_ret
   exact ⟨_, rfl, ⟨[], ⟨rfl, fun i e x h => by simp at h⟩, World.ownsRow_nil _ _ _ _⟩, Later.refl w⟩
 | some ad =>
   have he := Lib.run_eql_slice_nil (P := Tryz.prog) w 22 69 (some ad) n c 0 0 Tryz.underlying22
   obtain ⟨es, hes, hsrc⟩ := h'.src
   have HES := hide hes
   have hSRC : ∀ o, Src (w.alloc o) 12 (.slice (some ad) n c) n (es.flatMap cellsI) := fun o => hsrc.later (hb.alloc o)
   have HSRC := hide hSRC
   clear hes
   have hn9 : 0 + n <= 4000000000 := by omega
   have HN := hide hn
   clear h h' hsrc hSRC hn hl
   go_enter Tryz.func43, Tryz.ntmps43
   go_wp2_with (at_builtin; refine wpList_append_src rfl (.tmp 5) _ 22 rfl w.heap.size 69 (.agg #[.bool false, .slice none 0 0, .bool false, .slice none 0 0, .bool false, .slice none 0 0, .bool false, .slice none 0 0, .bool false, .slice none 0 0, .bool false, .slice none 0 0]) 12 192 Tryz.underlying22 info_it rfl (by omega) (by omega) _ 0 [] rfl (own_empty _ _ _) _ n _ rfl (HSRC.out _) hn9 (by simp) ?_; intro v' w1 hown hg hblk)
   have hb2 : Later w w1 := ((Later.refl w).alloc _).grown hg (fun j hj => by have hj2 : some w.heap.size = some j := hj; injection hj2 with hj2; omega)
   have HOWN := hide hown
   clear hown hg hblk
   go_wp2_with fail
   go_ret
   exact ⟨_, rfl, ⟨es, HES.out, by have := HOWN.out; rw [Nat.zero_add, List.nil_append] at this; rw [<- HN.out]; exact this⟩, hb2⟩
end Go.Proofs.YtncbebfhakcgdaaGreat
