import Derived.Test.YtbhohnhkephefaaM1

/- The plain law of a heap: an element that goes up, or down; the first one is at the top. No program is in sight here. -/
set_option linter.unusedVariables false
set_option linter.unusedSimpArgs false
namespace Go.Proofs.Ytbhohnhkephefaa
namespace Hp
section
variable {α : Type} {lt : α → α → Prop}
/-- a strict order by which some may be alike -/
structure Ord (lt : α → α → Prop) : Prop where
  irr : ∀ a, ¬ lt a a
  trans : ∀ a b c, lt a b → lt b c → lt a c
  neg : ∀ a b c, ¬ lt b a → ¬ lt c b → ¬ lt c a
theorem Ord.le {lt : α → α → Prop} (o : Ord lt) {a b : α} (h : lt a b) : ¬ lt b a := fun k => o.irr a (o.trans a b a h k)

def sw (f : Nat → α) (i j : Nat) : Nat → α := fun k => if k = i then f j else if k = j then f i else f k
theorem sw_i (f : Nat → α) (i j : Nat) : sw f i j i = f j := by simp [sw]
theorem sw_j (f : Nat → α) (i j : Nat) : sw f i j j = f i := by unfold sw; by_cases h : j = i <;> simp [h]
theorem sw_o (f : Nat → α) (i j k : Nat) (h1 : k ≠ i) (h2 : k ≠ j) : sw f i j k = f k := by simp [sw, h1, h2]

/-- no element from s on is ahead of the one above it -/
def Hf (lt : α → α → Prop) (f : Nat → α) (n s : Nat) : Prop := ∀ c, 0 < c → c < n → s ≤ (c - 1) / 2 → ¬ lt (f c) (f ((c - 1) / 2))
def Up (lt : α → α → Prop) (f : Nat → α) (n j : Nat) : Prop :=
  j < n ∧ (∀ c, 0 < c → c < n → c ≠ j → ¬ lt (f c) (f ((c - 1) / 2))) ∧ (0 < j → ∀ c, 0 < c → c < n → (c - 1) / 2 = j → ¬ lt (f c) (f ((j - 1) / 2)))
theorem Up.start {f : Nat → α} {n : Nat} (h : Hf lt f n 0) : Up lt f (n + 1) n :=
  ⟨by omega, fun c h1 h2 h3 => h c h1 (by omega) (by omega), fun h1 c h2 h3 h4 => by omega⟩
theorem Up.done {f : Nat → α} {n j : Nat} (h : Up lt f n j) (hs : j = 0 ∨ ¬ lt (f j) (f ((j - 1) / 2))) : Hf lt f n 0 := fun c h1 h2 _ => by
  by_cases e : c = j
  · subst e
    rcases hs with hs | hs
    · omega
    · exact hs
  · exact h.2.1 c h1 h2 e
theorem Up.step (o : Ord lt) {f : Nat → α} {n j p : Nat} (h : Up lt f n j) (h0 : 0 < j) (hp : p = (j - 1) / 2) (hs : lt (f j) (f p)) : Up lt (sw f p j) n p := by
  obtain ⟨h1, h2, h3⟩ := h
  have hpj : p ≠ j := by omega
  refine ⟨by omega, fun c c1 c2 c3 => ?_, fun p0 c c1 c2 c3 => ?_⟩
  · by_cases e : c = j
    · subst e
      rw [← hp, sw_i, sw_j]; exact o.le hs
    · have k := h2 c c1 c2 e
      rw [sw_o f p j c c3 e]
      by_cases e1 : (c - 1) / 2 = p
      · rw [e1, sw_i]; rw [e1] at k
        exact fun q => k (o.trans _ _ _ q hs)
      · by_cases e2 : (c - 1) / 2 = j
        · rw [e2, sw_j]
          have := h3 h0 c c1 c2 e2
          rwa [← hp] at this
        · rw [sw_o f p j _ e1 e2]; exact k
  · have kp := h2 p p0 (by omega) hpj
    rw [sw_o f p j ((p - 1) / 2) (by omega) (by omega)]
    by_cases e : c = j
    · subst e; rw [sw_j]; exact kp
    · rw [sw_o f p j c (by omega) e]
      have k := h2 c c1 c2 e
      rw [c3] at k
      exact o.neg _ _ _ kp k

def Down (lt : α → α → Prop) (f : Nat → α) (n s i : Nat) : Prop :=
  s ≤ i ∧ (∀ c, 0 < c → c < n → s ≤ (c - 1) / 2 → (c - 1) / 2 ≠ i → ¬ lt (f c) (f ((c - 1) / 2))) ∧ (0 < i → s ≤ (i - 1) / 2 → ∀ c, 0 < c → c < n → (c - 1) / 2 = i → ¬ lt (f c) (f ((i - 1) / 2)))
theorem Down.start {f : Nat → α} {n s : Nat} (h : Hf lt f n (s + 1)) : Down lt f n s s :=
  ⟨Nat.le_refl _, fun c h1 h2 h3 h4 => h c h1 h2 (by omega), fun h1 h2 c h3 h4 h5 => by omega⟩
theorem Down.leaf {f : Nat → α} {n s i : Nat} (h : Down lt f n s i) (hs : n ≤ 2 * i + 1) : Hf lt f n s := fun c h1 h2 h3 => h.2.1 c h1 h2 h3 (by omega)
/-- the child that is ahead, or alike -/
def Kid (lt : α → α → Prop) (f : Nat → α) (n i j : Nat) : Prop := (j = 2 * i + 1 ∨ j = 2 * i + 2) ∧ j < n ∧ (∀ c, 0 < c → c < n → (c - 1) / 2 = i → ¬ lt (f c) (f j))
theorem Kid.left (o : Ord lt) {f : Nat → α} {n i : Nat} (h1 : 2 * i + 1 < n) (h2 : 2 * i + 2 < n → ¬ lt (f (2 * i + 2)) (f (2 * i + 1))) : Kid lt f n i (2 * i + 1) :=
  ⟨.inl rfl, h1, fun c c1 c2 c3 => by
    have : c = 2 * i + 1 ∨ c = 2 * i + 2 := by omega
    rcases this with rfl | rfl
    · exact o.irr _
    · exact h2 c2⟩
theorem Kid.right (o : Ord lt) {f : Nat → α} {n i : Nat} (h1 : 2 * i + 2 < n) (h2 : lt (f (2 * i + 2)) (f (2 * i + 1))) : Kid lt f n i (2 * i + 2) :=
  ⟨.inr rfl, h1, fun c c1 c2 c3 => by
    have : c = 2 * i + 1 ∨ c = 2 * i + 2 := by omega
    rcases this with rfl | rfl
    · exact o.le h2
    · exact o.irr _⟩
theorem Down.done (o : Ord lt) {f : Nat → α} {n s i j : Nat} (h : Down lt f n s i) (k : Kid lt f n i j) (hs : ¬ lt (f j) (f i)) : Hf lt f n s := fun c h1 h2 h3 => by
  by_cases e : (c - 1) / 2 = i
  · rw [e]; exact o.neg _ _ _ hs (k.2.2 c h1 h2 e)
  · exact h.2.1 c h1 h2 h3 e
theorem Down.step (o : Ord lt) {f : Nat → α} {n s i j : Nat} (h : Down lt f n s i) (k : Kid lt f n i j) (hs : lt (f j) (f i)) : Down lt (sw f i j) n s j := by
  obtain ⟨h1, h2, h3⟩ := h
  obtain ⟨k1, k2, k3⟩ := k
  have hij : i ≠ j := by omega
  have hpj : (j - 1) / 2 = i := by omega
  refine ⟨by omega, fun c c1 c2 c3 c4 => ?_, fun j0 j1 c c1 c2 c3 => ?_⟩
  · by_cases e : (c - 1) / 2 = i
    · rw [e, sw_i]
      by_cases e2 : c = j
      · subst e2; rw [sw_j]; exact o.le hs
      · rw [sw_o f i j c (by omega) e2]; exact k3 c c1 c2 e
    · have g := h2 c c1 c2 c3 e
      rw [sw_o f i j _ e c4]
      by_cases e1 : c = i
      · subst e1
        rw [sw_i]
        exact h3 c1 c3 j (by omega) k2 hpj
      · rw [sw_o f i j c e1 (by omega)]; exact g
  · rw [hpj, sw_i, sw_o f i j c (by omega) (by omega)]
    have g := h2 c c1 c2 (by omega) (by omega)
    rwa [c3] at g
/-- the first of all is at the top -/
theorem top (o : Ord lt) {f : Nat → α} {n : Nat} (h : Hf lt f n 0) : ∀ k, k < n → ¬ lt (f k) (f 0) := by
  intro k
  induction k using Nat.strongRecOn with
  | _ k ih =>
    intro hk
    by_cases e : k = 0
    · subst e; exact o.irr _
    · exact o.neg _ _ _ (ih ((k - 1) / 2) (by omega) (by omega)) (h k (by omega) hk (by omega))
theorem Hf.less {f : Nat → α} {n m s : Nat} (h : Hf lt f n s) (hm : m ≤ n) : Hf lt f m s := fun c h1 h2 h3 => h c h1 (by omega) h3
theorem Hf.tail {f : Nat → α} {n s : Nat} (h : n ≤ 2 * s + 1) : Hf lt f n s := fun c h1 h2 h3 => by omega
theorem Hf.same {f g : Nat → α} {n s : Nat} (h : Hf lt f n s) (e : ∀ k, k < n → g k = f k) : Hf lt g n s := fun c h1 h2 h3 => by
  rw [e c h2, e ((c - 1) / 2) (by omega)]; exact h c h1 h2 h3
theorem Hf.weaken {f : Nat → α} {n s t : Nat} (h : Hf lt f n s) (e : s ≤ t) : Hf lt f n t := fun c h1 h2 h3 => h c h1 h2 (by omega)
end
end Hp
end Go.Proofs.Ytbhohnhkephefaa
