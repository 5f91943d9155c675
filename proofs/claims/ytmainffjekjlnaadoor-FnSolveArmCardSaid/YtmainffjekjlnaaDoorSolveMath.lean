/- Plain laws of the search over pairs of angles: what is found is the best of all pairs of the ranges. -/
import Derived.Test.YtmainffjekjlnaaDoorStepMath
namespace Go.Proofs.YtmainffjekjlnaaDoor
open Go.ChangeShapes Go.WideShapes Go.ChangeAt Go.RowKit
set_option linter.unusedVariables false
def M.absS (x y : Int) : Int := max x (-x) + max y (-y)
def M.Better (l : List Int) (X Y x y u v : Int) : Prop := M.score l [x, y] X Y < M.score l [u, v] X Y ∨ (M.score l [x, y] X Y = M.score l [u, v] X Y ∧ M.absS x y < M.absS u v)
instance (l : List Int) (X Y x y u v : Int) : Decidable (M.Better l X Y x y u v) := by unfold M.Better; infer_instance
/-- the best pair so far (none as yet: the empty list) against one more -/
def M.slv (l : List Int) (X Y : Int) (b : List Int) (x y : Int) : List Int := if b = [] ∨ M.Better l X Y x y (b.getD 0 0) (b.getD 1 0) then [x, y] else b
def M.slvY (l : List Int) (X Y y0 x : Int) (b : List Int) : Nat → List Int
  | 0 => b
  | k + 1 => M.slv l X Y (M.slvY l X Y y0 x b k) x (y0 + k)
def M.slvX (l : List Int) (X Y x0 y0 : Int) (m : Nat) : Nat → List Int
  | 0 => []
  | k + 1 => M.slvY l X Y y0 (x0 + k) (M.slvX l X Y x0 y0 m k) m
/-- a list of pairs has been gone through: p says which -/
def M.Best (l : List Int) (X Y : Int) (p : Int → Int → Prop) (b : List Int) : Prop :=
  (b = [] ∧ ∀ x y, ¬ p x y) ∨ ∃ u v, b = [u, v] ∧ p u v ∧ ∀ x y, p x y → M.score l [u, v] X Y ≤ M.score l [x, y] X Y
theorem M.best_congr {l : List Int} {X Y : Int} {p q : Int → Int → Prop} {b : List Int} (h : M.Best l X Y p b) (e : ∀ x y, p x y ↔ q x y) : M.Best l X Y q b := by
  rcases h with ⟨h1, h2⟩ | ⟨u, v, h1, h2, h3⟩
  · exact .inl ⟨h1, fun x y hq => h2 x y ((e x y).2 hq)⟩
  · exact .inr ⟨u, v, h1, (e u v).1 h2, fun x y hq => h3 x y ((e x y).2 hq)⟩
theorem M.best_one {l : List Int} {X Y : Int} {p : Int → Int → Prop} {b : List Int} (h : M.Best l X Y p b) (a c : Int) : M.Best l X Y (fun x y => p x y ∨ (x = a ∧ y = c)) (M.slv l X Y b a c) := by
  unfold M.slv
  split
  · rename_i hc
    refine .inr ⟨a, c, rfl, .inr ⟨rfl, rfl⟩, ?_⟩
    intro x y hp
    rcases hp with hp | ⟨rfl, rfl⟩
    · rcases h with ⟨h1, h2⟩ | ⟨u, v, h1, h2, h3⟩
      · exact absurd hp (h2 x y)
      · rcases hc with hc | hc
        · rw [h1] at hc; cases hc
        · rw [h1] at hc
          have h4 := h3 x y hp
          have h5 : M.Better l X Y a c u v := hc
          unfold M.Better at h5
          omega
    · exact Int.le_refl _
  · rename_i hc
    rcases h with ⟨h1, h2⟩ | ⟨u, v, h1, h2, h3⟩
    · exact absurd (.inl h1) hc
    · refine .inr ⟨u, v, h1, .inl h2, ?_⟩
      intro x y hp
      rcases hp with hp | ⟨rfl, rfl⟩
      · exact h3 x y hp
      · have h5 : ¬ M.Better l X Y x y u v := fun e => hc (.inr (by rw [h1]; exact e))
        unfold M.Better at h5
        omega
theorem M.best_Y {l : List Int} {X Y : Int} {p : Int → Int → Prop} {b : List Int} (h : M.Best l X Y p b) (y0 a : Int) : ∀ k : Nat, M.Best l X Y (fun x y => p x y ∨ (x = a ∧ y0 ≤ y ∧ y < y0 + k)) (M.slvY l X Y y0 a b k) := by
  intro k
  induction k with
  | zero => exact M.best_congr h (fun x y => by constructor; exact .inl; intro e; rcases e with e | e; exact e; omega)
  | succ k ih =>
    refine M.best_congr (M.best_one ih a (y0 + k)) (fun x y => ?_)
    constructor
    · rintro ((e | e) | e)
      · exact .inl e
      · right; omega
      · right; omega
    · rintro (e | e)
      · exact .inl (.inl e)
      · by_cases e2 : y = y0 + k
        · exact .inr ⟨e.1, e2⟩
        · left; right; omega
theorem M.best_X (l : List Int) (X Y x0 y0 : Int) (m : Nat) : ∀ k : Nat, M.Best l X Y (fun x y => (x0 ≤ x ∧ x < x0 + k) ∧ (y0 ≤ y ∧ y < y0 + m)) (M.slvX l X Y x0 y0 m k) := by
  intro k
  induction k with
  | zero => exact .inl ⟨rfl, fun x y h => by omega⟩
  | succ k ih =>
    refine M.best_congr (M.best_Y ih y0 (x0 + k) m) (fun x y => ?_)
    constructor
    · rintro (e | e)
      · omega
      · omega
    · intro e
      by_cases e2 : x = x0 + k
      · right; omega
      · left; omega
theorem M.slv_form {l : List Int} {X Y : Int} {b : List Int} {x y : Int} (h : b = [] ∨ ∃ u v, b = [u, v]) : ∃ u v, M.slv l X Y b x y = [u, v] := by
  unfold M.slv
  split
  · exact ⟨x, y, rfl⟩
  · rename_i hc
    rcases h with h | h
    · exact absurd (.inl h) hc
    · exact h
def M.fits (l lo hi : List Int) (X Y : Int) : Prop := M.armB l lo hi = true ∧ l.length = 2 ∧ M.pvB X Y = true ∧ (hi.getD 0 0 - lo.getD 0 0 + 1) * (hi.getD 1 0 - lo.getD 1 0 + 1) ≤ 40000
instance (l lo hi : List Int) (X Y : Int) : Decidable (M.fits l lo hi X Y) := by unfold M.fits; infer_instance
def M.found (l lo hi : List Int) (X Y : Int) : List Int := M.slvX l X Y (lo.getD 0 0) (lo.getD 1 0) (hi.getD 1 0 - lo.getD 1 0 + 1).toNat (hi.getD 0 0 - lo.getD 0 0 + 1).toNat
def M.solve (l lo hi : List Int) (X Y : Int) : List Int := if M.fits l lo hi X Y then M.found l lo hi X Y else []
theorem M.solve_no {l lo hi : List Int} {X Y : Int} (h : ¬ M.fits l lo hi X Y) : [] = M.solve l lo hi X Y := by unfold M.solve; rw [if_neg h]
theorem M.solve_yes {l lo hi : List Int} {X Y : Int} (h : M.fits l lo hi X Y) : M.found l lo hi X Y = M.solve l lo hi X Y := by unfold M.solve; rw [if_pos h]
/-- two angles in the ranges are valid -/
theorem M.joints_two {l lo hi : List Int} {x y : Int} (h : M.armB l lo hi = true) (h2 : l.length = 2) (hx : lo.getD 0 0 ≤ x ∧ x ≤ hi.getD 0 0) (hy : lo.getD 1 0 ≤ y ∧ y ≤ hi.getD 1 0) : M.jointsB l lo hi [x, y] = true := by
  refine (M.joints_ok h (by rw [h2]; rfl) (fun k hk => ?_)).symm
  have hk2 : k < 2 := hk
  have : k = 0 ∨ k = 1 := by omega
  rcases this with rfl | rfl
  · exact M.inB_iff.2 hx
  · exact M.inB_iff.2 hy
/-- the search finds a pair of the ranges, and no pair of them is nearer -/
theorem M.found_best {l lo hi : List Int} {X Y : Int} (h : M.armB l lo hi = true) (h2 : l.length = 2) : ∃ u v, M.found l lo hi X Y = [u, v] ∧ M.jointsB l lo hi [u, v] = true ∧ ∀ j, M.jointsB l lo hi j = true → M.score l [u, v] X Y ≤ M.score l j X Y := by
  obtain ⟨⟨_, e3, e4⟩, hv⟩ := M.armB_true h
  have v0 := (hv 0 (by omega)).2.2
  have v1 := (hv 1 (by omega)).2.2
  rcases M.best_X l X Y (lo.getD 0 0) (lo.getD 1 0) (hi.getD 1 0 - lo.getD 1 0 + 1).toNat (hi.getD 0 0 - lo.getD 0 0 + 1).toNat with ⟨h1, h3⟩ | ⟨u, v, h1, h3, h4⟩
  · exact absurd (by omega) (h3 (lo.getD 0 0) (lo.getD 1 0))
  · refine ⟨u, v, h1, M.joints_two h h2 (by omega) (by omega), ?_⟩
    intro j hj
    obtain ⟨_, jl, jv⟩ := M.joints_true hj
    have j0 := jv 0 (by omega)
    have j1 := jv 1 (by omega)
    have ej : j = [j.getD 0 0, j.getD 1 0] := by
      rw [h2] at jl
      match j, jl with
      | [a, b], _ => rfl
    have := h4 (j.getD 0 0) (j.getD 1 0) (by omega)
    rw [← ej] at this
    exact this
end Go.Proofs.YtmainffjekjlnaaDoor
