/- The plain laws of profiles: stop distance, next speed. No program in sight. -/
import Derived.Test.YtnkjnphmpembaaaRead
namespace Go.Proofs.Ytnkjnphmpembaaa
namespace M
def sd : Nat → Int → Int → Int
  | 0, _, _ => 0
  | n + 1, v, r => if r < v then (v - r) + sd n (v - r) r else 0
theorem sd_fuel (n : Nat) : ∀ (m : Nat) (v r : Int), 1 ≤ r → v ≤ n → v ≤ m → sd n v r = sd m v r := by
  induction n with
  | zero =>
    intro m v r hr hn hm
    cases m with
    | zero => rfl
    | succ m => simp only [sd]; rw [if_neg (by omega)]
  | succ n ih =>
    intro m v r hr hn hm
    cases m with
    | zero => simp only [sd]; rw [if_neg (by omega)]
    | succ m =>
      simp only [sd]
      by_cases h : r < v
      · rw [if_pos h, if_pos h, ih m (v - r) r hr (by omega) (by omega)]
      · rw [if_neg h, if_neg h]
theorem sd_mono (n : Nat) : ∀ (v v' r r' : Int), v ≤ v' → r' ≤ r → sd n v r ≤ sd n v' r' := by
  induction n with
  | zero => intros; simp [sd]
  | succ n ih =>
    intro v v' r r' hv hr
    have := ih (v - r) (v' - r') r r' (by omega) hr
    have h0 : ∀ (n : Nat) (v r : Int), 0 ≤ sd n v r := by
      intro n; induction n with
      | zero => intros; simp [sd]
      | succ n ih => intro v r; simp only [sd]; have := ih (v - r) r; split <;> omega
    have h1 := h0 n (v' - r') r'
    simp only [sd]
    split <;> split <;> omega
theorem sd_nonneg (n : Nat) : ∀ (v r : Int), 0 ≤ sd n v r := by
  induction n with
  | zero => intros; simp [sd]
  | succ n ih => intro v r; simp only [sd]; have := ih (v - r) r; split <;> omega
theorem sd_le (n : Nat) : ∀ (v r : Int), 0 ≤ r → v ≤ 200 → sd n v r ≤ 200 * n := by
  induction n with
  | zero => intros; simp [sd]
  | succ n ih => intro v r hr hv; simp only [sd]; have := ih (v - r) r hr (by omega); split <;> omega
def SD (v r : Int) : Int := sd 200 v r
theorem SD_step (v r : Int) (hr : 1 ≤ r) (hv : v ≤ 200) : SD v r = if r < v then (v - r) + SD (v - r) r else 0 := by
  unfold SD
  by_cases h : r < v
  · rw [if_pos h]
    have : sd 200 v r = sd 201 v r := sd_fuel 200 201 v r hr (by omega) (by omega)
    rw [this]
    show (if r < v then (v - r) + sd 200 (v - r) r else 0) = _
    rw [if_pos h]
  · rw [if_neg h]
    show (if r < v then (v - r) + sd 199 (v - r) r else 0) = _
    rw [if_neg h]
theorem SD_pos (v r : Int) (hr : 1 ≤ r) (hv : v ≤ 200) (h : r < v) : SD v r = (v - r) + SD (v - r) r := by rw [SD_step v r hr hv, if_pos h]
theorem SD_neg (v r : Int) (hr : 1 ≤ r) (hv : v ≤ 200) (h : v ≤ r) : SD v r = 0 := by rw [SD_step v r hr hv, if_neg (by omega)]
theorem SD_bd (v r : Int) (hr : 0 ≤ r) (hv : v ≤ 200) : 0 ≤ SD v r ∧ SD v r ≤ 40000 := ⟨sd_nonneg _ _ _, sd_le 200 v r hr hv⟩
theorem SD_mono (v v' r r' : Int) (h : v ≤ v') (h' : r' ≤ r) : SD v r ≤ SD v' r' := sd_mono _ _ _ _ _ h h'
/-- the greatest speed from v down that fits -/
def nsd : Nat → Int → Int → Int → Int
  | 0, v, _, _ => v
  | n + 1, v, d, r => if d < v + SD v r then nsd n (v - 1) d r else v
def NS (s d t r : Int) : Int := nsd 200 (min t (s + r)) d r
theorem nsd_fuel (n : Nat) : ∀ (m : Nat) (v d r : Int), 1 ≤ r → v ≤ 200 → 0 ≤ d → v ≤ n → v ≤ m → 0 ≤ v → nsd n v d r = nsd m v d r := by
  induction n with
  | zero =>
    intro m v d r hr hv hd hn hm h0
    have e : v = 0 := by omega
    subst e
    cases m with
    | zero => rfl
    | succ m => simp only [nsd]; rw [SD_neg 0 r hr (by omega) (by omega), if_neg (by omega)]
  | succ n ih =>
    intro m v d r hr hv hd hn hm h0
    cases m with
    | zero =>
      have e : v = 0 := by omega
      subst e
      simp only [nsd]; rw [SD_neg 0 r hr (by omega) (by omega), if_neg (by omega)]
    | succ m =>
      simp only [nsd]
      by_cases h : d < v + SD v r
      · have hv1 : 1 ≤ v := by
          rcases Int.lt_or_le 0 v with h1 | h1
          · omega
          · have e : v = 0 := by omega
            subst e
            rw [SD_neg 0 r hr (by omega) (by omega)] at h; omega
        rw [if_pos h, if_pos h]; exact ih m _ _ _ hr (by omega) hd (by omega) (by omega) (by omega)
      · rw [if_neg h, if_neg h]
/-- what NS is: the greatest that fits -/
theorem nsd_spec (n : Nat) : ∀ (v d r : Int), 1 ≤ r → v ≤ 200 → 0 ≤ d → v ≤ n → 0 ≤ v →
    0 ≤ nsd n v d r ∧ nsd n v d r ≤ v ∧ nsd n v d r + SD (nsd n v d r) r ≤ d ∧ (∀ u, nsd n v d r < u → u ≤ v → d < u + SD u r) := by
  induction n with
  | zero =>
    intro v d r hr hv hd hn h0
    have e : v = 0 := by omega
    subst e
    refine ⟨by simp [nsd], by simp [nsd], ?_, ?_⟩
    · simp only [nsd]; rw [SD_neg 0 r hr (by omega) (by omega)]; omega
    · intro u h1 h2; simp only [nsd] at h1; omega
  | succ n ih =>
    intro v d r hr hv hd hn h0
    simp only [nsd]
    by_cases h : d < v + SD v r
    · have hv1 : 1 ≤ v := by
        rcases Int.lt_or_le 0 v with h1 | h1
        · omega
        · have e : v = 0 := by omega
          subst e
          rw [SD_neg 0 r hr (by omega) (by omega)] at h; omega
      rw [if_pos h]
      obtain ⟨a, b, c, e⟩ := ih (v - 1) d r hr (by omega) hd (by omega) (by omega)
      refine ⟨a, by omega, c, ?_⟩
      intro u h1 h2
      by_cases hu : u = v
      · rw [hu]; exact h
      · exact e u h1 (by omega)
    · rw [if_neg h]
      exact ⟨h0, by omega, by omega, fun u h1 h2 => by omega⟩
end M
end Go.Proofs.Ytnkjnphmpembaaa
