/- Plain laws of the steps of an arm towards a point: a step leads nowhere farther, changes one joint by one at most and keeps the angles valid; following goes on by steps. -/
import Derived.Test.YtmainffjekjlnaaDoorTip
namespace Go.Proofs.YtmainffjekjlnaaDoor
open Go.ChangeShapes Go.WideShapes Go.ChangeAt Go.RowKit
set_option linter.unusedVariables false
/-- how far the tip is from a point, squared -/
def M.score (l j : List Int) (X Y : Int) : Int := M.sq (M.pxT l j j.length) (M.pyT l j j.length) X Y
def M.cand (j : List Int) (k : Nat) (d : Int) : List Int := j.set k (j.getD k 0 + d)
theorem M.cand_len (j : List Int) (k : Nat) (d : Int) : (M.cand j k d).length = j.length := by simp [M.cand]
def M.pickJ (l lo hi j : List Int) (X Y : Int) (b : List Int) (k : Nat) (d : Int) : List Int :=
  if M.jointsB l lo hi (M.cand j k d) = true ∧ M.score l (M.cand j k d) X Y < M.score l b X Y then M.cand j k d else b
def M.stepI (l lo hi j : List Int) (X Y : Int) (b : List Int) (k : Nat) : Nat → List Int
  | 0 => b
  | i + 1 => M.pickJ l lo hi j X Y (M.stepI l lo hi j X Y b k i) k (2 * (i : Int) - 1)
def M.stepK (l lo hi j : List Int) (X Y : Int) : Nat → List Int
  | 0 => j
  | k + 1 => M.stepI l lo hi j X Y (M.stepK l lo hi j X Y k) k 2
def M.stepJ (l lo hi j : List Int) (X Y : Int) : List Int := M.stepK l lo hi j X Y j.length
def M.step (l lo hi j : List Int) (X Y : Int) : List Int := if M.jointsB l lo hi j = true ∧ M.pvB X Y = true then M.stepJ l lo hi j X Y else []
theorem M.step_no1 {l lo hi j : List Int} {X Y : Int} (h : M.jointsB l lo hi j = false) : [] = M.step l lo hi j X Y := by unfold M.step; rw [if_neg (by simp [h])]
theorem M.step_no2 {l lo hi j : List Int} {X Y : Int} (h : M.pvB X Y = false) : [] = M.step l lo hi j X Y := by unfold M.step; rw [if_neg (by simp [h])]
theorem M.step_yes {l lo hi j : List Int} {X Y : Int} (h : M.jointsB l lo hi j = true) (h2 : M.pvB X Y = true) : M.stepJ l lo hi j X Y = M.step l lo hi j X Y := by unfold M.step; rw [if_pos ⟨h, h2⟩]
/-- what holds of the start and of every better candidate holds of a step -/
theorem M.stepI_ind {l lo hi j : List Int} {X Y : Int} {P : List Int → Prop} {k : Nat} (hc : ∀ (b : List Int) (i : Nat), i < 2 → P b → M.jointsB l lo hi (M.cand j k (2 * (i : Int) - 1)) = true → M.score l (M.cand j k (2 * (i : Int) - 1)) X Y < M.score l b X Y → P (M.cand j k (2 * (i : Int) - 1))) {b : List Int} (hb : P b) : ∀ {i : Nat}, i ≤ 2 → P (M.stepI l lo hi j X Y b k i) := by
  intro i
  induction i with
  | zero => intro _; exact hb
  | succ i ih =>
    intro hle
    have h1 := ih (by omega)
    show P (M.pickJ l lo hi j X Y (M.stepI l lo hi j X Y b k i) k (2 * (i : Int) - 1))
    unfold M.pickJ
    split
    · rename_i h
      exact hc _ i (by omega) h1 h.1 h.2
    · exact h1
theorem M.stepK_ind {l lo hi j : List Int} {X Y : Int} {P : List Int → Prop} {n : Nat} (h0 : P j) (hc : ∀ (b : List Int) (k i : Nat), k < n → i < 2 → P b → M.jointsB l lo hi (M.cand j k (2 * (i : Int) - 1)) = true → M.score l (M.cand j k (2 * (i : Int) - 1)) X Y < M.score l b X Y → P (M.cand j k (2 * (i : Int) - 1))) : ∀ {k : Nat}, k ≤ n → P (M.stepK l lo hi j X Y k) := by
  intro k
  induction k with
  | zero => intro _; exact h0
  | succ k ih =>
    intro hk
    exact M.stepI_ind (fun b i hi hb h1 h2 => hc b k i (by omega) hi hb h1 h2) (ih (by omega)) (Nat.le_refl 2)
/-- the best angles so far: as many, valid, not farther, and but one joint is changed, by one -/
def M.Near (l lo hi j : List Int) (X Y : Int) (b : List Int) : Prop :=
  b.length = j.length ∧ M.jointsB l lo hi b = true ∧ M.score l b X Y ≤ M.score l j X Y ∧ (b = j ∨ ∃ k d, k < j.length ∧ (d = 1 ∨ d = -1) ∧ b = M.cand j k d)
theorem M.Near.start {l lo hi j : List Int} {X Y : Int} (h : M.jointsB l lo hi j = true) : M.Near l lo hi j X Y j := ⟨rfl, h, Int.le_refl _, .inl rfl⟩
theorem M.near_cand {l lo hi j : List Int} {X Y : Int} {b : List Int} {k i : Nat} (hk : k < j.length) (hi2 : i < 2) (hb : M.Near l lo hi j X Y b) (h1 : M.jointsB l lo hi (M.cand j k (2 * (i : Int) - 1)) = true) (h2 : M.score l (M.cand j k (2 * (i : Int) - 1)) X Y < M.score l b X Y) : M.Near l lo hi j X Y (M.cand j k (2 * (i : Int) - 1)) := by
  obtain ⟨_, _, h3, _⟩ := hb
  exact ⟨M.cand_len _ _ _, h1, by omega, .inr ⟨k, _, hk, by omega, rfl⟩⟩
theorem M.near_K {l lo hi j : List Int} {X Y : Int} (h : M.jointsB l lo hi j = true) {k : Nat} (hk : k ≤ j.length) : M.Near l lo hi j X Y (M.stepK l lo hi j X Y k) :=
  M.stepK_ind (n := j.length) (M.Near.start h) (fun b k i hk hi hb h1 h2 => M.near_cand hk hi hb h1 h2) hk
theorem M.near_I {l lo hi j : List Int} {X Y : Int} (h : M.jointsB l lo hi j = true) {k : Nat} (hk : k < j.length) {i : Nat} (hi2 : i ≤ 2) : M.Near l lo hi j X Y (M.stepI l lo hi j X Y (M.stepK l lo hi j X Y k) k i) :=
  M.stepI_ind (fun b i hi hb h1 h2 => M.near_cand hk hi hb h1 h2) (M.near_K h (by omega)) hi2
theorem M.near_step {l lo hi j : List Int} {X Y : Int} (h : M.jointsB l lo hi j = true) : M.Near l lo hi j X Y (M.stepJ l lo hi j X Y) := M.near_K h (Nat.le_refl _)
theorem M.step_len (l lo hi j : List Int) (X Y : Int) : (M.step l lo hi j X Y).length ≤ j.length := by
  unfold M.step
  split
  · rename_i h; rw [(M.near_step h.1).1]; exact Nat.le_refl _
  · exact Nat.zero_le _
/-- how far two lists of angles are apart -/
def M.diffT (x j : List Int) : Nat → Int
  | 0 => 0
  | k + 1 => M.diffT x j k + max (x.getD k 0 - j.getD k 0) (-(x.getD k 0 - j.getD k 0))
theorem M.diff_same (j : List Int) : ∀ k, M.diffT j j k = 0 := by
  intro k
  induction k with
  | zero => rfl
  | succ k ih => unfold M.diffT; rw [ih]; omega
theorem M.cand_at (j : List Int) (k i : Nat) (d : Int) (hk : k < j.length) : (M.cand j k d).getD i 0 = j.getD i 0 + (if i = k then d else 0) := by
  unfold M.cand
  rw [List.getD_eq_getElem?_getD, List.getElem?_set]
  by_cases e : k = i
  · subst e; simp [hk]
  · rw [if_neg e, if_neg (fun h => e h.symm), ← List.getD_eq_getElem?_getD]; omega
theorem M.diff_cand {j : List Int} {k : Nat} {d : Int} (hk : k < j.length) (hd : d = 1 ∨ d = -1) : ∀ n, M.diffT (M.cand j k d) j n = if k < n then 1 else 0 := by
  intro n
  induction n with
  | zero => rfl
  | succ n ih =>
    unfold M.diffT
    rw [ih, M.cand_at j k n d hk]
    by_cases e : n = k
    · subst e
      rw [if_neg (Nat.lt_irrefl _), if_pos rfl, if_pos (Nat.lt_succ_self _)]
      omega
    · rw [if_neg e]
      by_cases h : k < n
      · rw [if_pos h, if_pos (by omega)]; omega
      · rw [if_neg h, if_neg (by omega)]; omega
theorem M.near_diff {l lo hi j : List Int} {X Y : Int} {b : List Int} (h : M.Near l lo hi j X Y b) : ∀ n, 0 ≤ M.diffT b j n ∧ M.diffT b j n ≤ 1 := by
  intro n
  obtain ⟨_, _, _, h4⟩ := h
  rcases h4 with rfl | ⟨k, d, hk, hd, rfl⟩
  · rw [M.diff_same]; omega
  · rw [M.diff_cand hk hd]; split <;> omega
/-- angles behind n steps -/
def M.folT (l lo hi j : List Int) (X Y : Int) : Nat → List Int
  | 0 => j
  | n + 1 => M.stepJ l lo hi (M.folT l lo hi j X Y n) X Y
theorem M.fol_good {l lo hi j : List Int} {X Y : Int} (h : M.jointsB l lo hi j = true) : ∀ n, (M.folT l lo hi j X Y n).length = j.length ∧ M.jointsB l lo hi (M.folT l lo hi j X Y n) = true ∧ M.score l (M.folT l lo hi j X Y n) X Y ≤ M.score l j X Y := by
  intro n
  induction n with
  | zero => exact ⟨rfl, h, Int.le_refl _⟩
  | succ n ih =>
    obtain ⟨a, b, c⟩ := ih
    obtain ⟨d, e, f, _⟩ := M.near_step (X := X) (Y := Y) b
    exact ⟨d.trans a, e, Int.le_trans f c⟩
/-- where a step changes nothing, nothing changes any more -/
theorem M.fol_stop {l lo hi j : List Int} {X Y : Int} {n : Nat} (h : M.stepJ l lo hi (M.folT l lo hi j X Y n) X Y = M.folT l lo hi j X Y n) : ∀ m, n ≤ m → M.folT l lo hi j X Y m = M.folT l lo hi j X Y n := by
  intro m
  induction m with
  | zero => intro hm; obtain rfl : n = 0 := (by omega); rfl
  | succ m ih =>
    intro hm
    by_cases e : n = m + 1
    · rw [e]
    · show M.stepJ l lo hi (M.folT l lo hi j X Y m) X Y = _
      rw [ih (by omega)]; exact h
theorem M.fol_add (l lo hi j : List Int) (X Y : Int) (a : Nat) : ∀ b, M.folT l lo hi (M.folT l lo hi j X Y a) X Y b = M.folT l lo hi j X Y (a + b) := by
  intro b
  induction b with
  | zero => rfl
  | succ b ih =>
    show M.stepJ l lo hi (M.folT l lo hi (M.folT l lo hi j X Y a) X Y b) X Y = M.stepJ l lo hi (M.folT l lo hi j X Y (a + b)) X Y
    rw [ih]
def M.fol (l lo hi j : List Int) (X Y n : Int) : List Int := if M.jointsB l lo hi j = true ∧ M.pvB X Y = true ∧ (0 ≤ n ∧ n ≤ 500) then M.folT l lo hi j X Y n.toNat else []
theorem M.fol_no1 {l lo hi j : List Int} {X Y n : Int} (h : M.jointsB l lo hi j = false) : [] = M.fol l lo hi j X Y n := by unfold M.fol; rw [if_neg (by simp [h])]
theorem M.fol_no2 {l lo hi j : List Int} {X Y n : Int} (h : M.pvB X Y = false) : [] = M.fol l lo hi j X Y n := by unfold M.fol; rw [if_neg (by simp [h])]
theorem M.fol_no3 {l lo hi j : List Int} {X Y n : Int} (h : ¬ (0 ≤ n ∧ n ≤ 500)) : [] = M.fol l lo hi j X Y n := by unfold M.fol; rw [if_neg (fun e => h e.2.2)]
theorem M.fol_yes {l lo hi j : List Int} {X Y n : Int} (h : M.jointsB l lo hi j = true) (h2 : M.pvB X Y = true) (h3 : 0 ≤ n ∧ n ≤ 500) : M.folT l lo hi j X Y n.toNat = M.fol l lo hi j X Y n := by unfold M.fol; rw [if_pos ⟨h, h2, h3⟩]
theorem M.fol_len (l lo hi j : List Int) (X Y n : Int) : (M.fol l lo hi j X Y n).length ≤ j.length := by
  unfold M.fol
  split
  · rename_i h; rw [(M.fol_good h.1 _).1]; exact Nat.le_refl _
  · exact Nat.zero_le _
end Go.Proofs.YtmainffjekjlnaaDoor
