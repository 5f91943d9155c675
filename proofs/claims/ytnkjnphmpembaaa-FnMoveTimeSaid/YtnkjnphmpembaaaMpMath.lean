/- The plain laws of whole profiles: their sum, their bounds, that they are valid, and the reversal of a valid one. No program in sight. -/
import Derived.Test.YtnkjnphmpembaaaNext
namespace Go.Proofs.Ytnkjnphmpembaaa
set_option linter.unusedVariables false
namespace M
theorem NS_spec {s d t r : Int} (h : okIn s d t r) : 0 ≤ NS s d t r ∧ NS s d t r ≤ min t (s + r) ∧ NS s d t r + SD (NS s d t r) r ≤ d ∧ (∀ u, NS s d t r < u → u ≤ min t (s + r) → d < u + SD u r) := by
  obtain ⟨⟨⟨a1, a2⟩, ⟨b1, b2⟩⟩, ⟨⟨a3, a4⟩, ⟨a5, a6⟩⟩⟩ := h
  exact nsd_spec 200 (min t (s + r)) d r a5 (by omega) b1 (by omega) (by omega)
theorem NS_pos {s d t r : Int} (h : okIn s d t r) (hd : 1 ≤ d) : 1 ≤ NS s d t r := by
  obtain ⟨h0, _, _, h4⟩ := NS_spec h
  obtain ⟨⟨⟨a1, a2⟩, ⟨b1, b2⟩⟩, ⟨⟨a3, a4⟩, ⟨a5, a6⟩⟩⟩ := h
  rcases Int.lt_or_le 0 (NS s d t r) with h5 | h5
  · omega
  · have := h4 1 (by omega) (by omega)
    rw [SD_neg 1 r a5 (by omega) a5] at this
    omega
theorem NS_bd {s d t r : Int} (h : okIn s d t r) : 0 ≤ NS s d t r ∧ NS s d t r ≤ t ∧ NS s d t r ≤ d := by
  obtain ⟨h0, h1, h2, _⟩ := NS_spec h
  obtain ⟨_, ⟨⟨a3, a4⟩, ⟨a5, a6⟩⟩⟩ := h
  have := (SD_bd (NS s d t r) r (by omega) (by omega)).1
  omega
theorem okIn_step {s d t r : Int} (h : okIn s d t r) : okIn (NS s d t r) (d - NS s d t r) t r := by
  obtain ⟨h0, h1, h2⟩ := NS_bd h
  obtain ⟨⟨⟨a1, a2⟩, ⟨b1, b2⟩⟩, ⟨⟨a3, a4⟩, ⟨a5, a6⟩⟩⟩ := h
  exact ⟨⟨⟨h0, by omega⟩, ⟨by omega, by omega⟩⟩, ⟨⟨a3, a4⟩, ⟨a5, a6⟩⟩⟩
/-- the speeds from speed s on over the distance d -/
def mp : Nat → Int → Int → Int → Int → List Int
  | 0, _, _, _, _ => []
  | n + 1, s, d, t, r => if 0 < d then NS s d t r :: mp n (NS s d t r) (d - NS s d t r) t r else []
theorem mp_zero (n : Nat) (s d t r : Int) (h : d ≤ 0) : mp n s d t r = [] := by
  cases n with
  | zero => rfl
  | succ n => show (if 0 < d then _ else _) = _; rw [if_neg (by omega)]
theorem mp_fuel (n : Nat) : ∀ (m : Nat) (s d t r : Int), okIn s d t r → d ≤ n → d ≤ m → mp n s d t r = mp m s d t r := by
  induction n with
  | zero => intro m s d t r ho hn hm; rw [mp_zero m s d t r (by omega)]; rfl
  | succ n ih =>
    intro m s d t r ho hn hm
    by_cases h : 0 < d
    · cases m with
      | zero => omega
      | succ m =>
        have := NS_pos ho h
        show (if 0 < d then _ else _) = (if 0 < d then _ else _)
        rw [if_pos h, if_pos h, ih m _ _ t r (okIn_step ho) (by omega) (by omega)]
    · rw [mp_zero _ _ _ _ _ (by omega), mp_zero _ _ _ _ _ (by omega)]
theorem mp_pos {s d t r : Int} (ho : okIn s d t r) (h : 0 < d) : mp 5000 s d t r = NS s d t r :: mp 5000 (NS s d t r) (d - NS s d t r) t r := by
  have hp := NS_pos ho h
  obtain ⟨⟨_, ⟨b1, b2⟩⟩, _⟩ := id ho
  show (if 0 < d then NS s d t r :: mp 4999 (NS s d t r) (d - NS s d t r) t r else []) = _
  rw [if_pos h, mp_fuel 4999 5000 _ _ t r (okIn_step ho) (by omega) (by omega)]
theorem mp_sum (n : Nat) : ∀ (s d t r : Int), okIn s d t r → d ≤ n → (mp n s d t r).sum = d ∧ (∀ x ∈ mp n s d t r, 1 ≤ x ∧ x ≤ t) := by
  induction n with
  | zero => intro s d t r ho hn; obtain ⟨⟨_, ⟨b1, b2⟩⟩, _⟩ := ho; refine ⟨?_, ?_⟩ <;> simp [mp]; omega
  | succ n ih =>
    intro s d t r ho hn
    show (if 0 < d then NS s d t r :: mp n (NS s d t r) (d - NS s d t r) t r else []).sum = d ∧ (∀ x ∈ (if 0 < d then NS s d t r :: mp n (NS s d t r) (d - NS s d t r) t r else []), 1 ≤ x ∧ x ≤ t)
    by_cases h : 0 < d
    · have hp := NS_pos ho h
      have hb := NS_bd ho
      obtain ⟨i1, i2⟩ := ih _ _ t r (okIn_step ho) (by omega)
      rw [if_pos h]
      refine ⟨by rw [List.sum_cons, i1]; omega, ?_⟩
      intro x hx
      rcases List.mem_cons.1 hx with rfl | hx
      · omega
      · exact i2 x hx
    · obtain ⟨⟨_, ⟨b1, b2⟩⟩, _⟩ := ho
      rw [if_neg h]; refine ⟨by simp; omega, by simp⟩
theorem len_sum (l : List Int) (t : Int) (h : ∀ x ∈ l, 1 ≤ x ∧ x ≤ t) : (l.length : Int) ≤ l.sum ∧ l.sum ≤ l.length * t := by
  induction l with
  | nil => simp
  | cons a l ih =>
    obtain ⟨i1, i2⟩ := ih (fun x hx => h x (List.mem_cons_of_mem _ hx))
    obtain ⟨h1, h2⟩ := h a List.mem_cons_self
    rw [List.sum_cons, List.length_cons]
    have e : ((l.length + 1 : Nat) : Int) * t = l.length * t + t := by rw [show ((l.length + 1 : Nat) : Int) = (l.length : Int) + 1 by omega, Int.add_mul, Int.one_mul]
    omega
def okProf (d t r : Int) : Prop := (0 ≤ d ∧ d ≤ 5000) ∧ ((1 ≤ t ∧ t ≤ 200) ∧ (1 ≤ r ∧ r ≤ 50))
theorem okProf.first {d t r : Int} (h : okProf d t r) : okIn 0 d t r := ⟨⟨⟨by omega, by omega⟩, h.1⟩, h.2⟩
/-- the profile, with its refusal -/
def prof (d t r : Int) : List Int := if (0 ≤ d ∧ d ≤ 5000) ∧ ((1 ≤ t ∧ t ≤ 200) ∧ (1 ≤ r ∧ r ≤ 50)) then mp 5000 0 d t r else []
theorem prof_yes {d t r : Int} (h : okProf d t r) : prof d t r = mp 5000 0 d t r := by unfold prof; exact if_pos h
theorem prof_no {d t r : Int} (h : ¬ okProf d t r) : prof d t r = [] := by unfold prof; exact if_neg h
theorem prof_facts {d t r : Int} (h : okProf d t r) : (prof d t r).sum = d ∧ (∀ x ∈ prof d t r, 1 ≤ x ∧ x ≤ t) ∧ ((prof d t r).length : Int) ≤ d ∧ d ≤ (prof d t r).length * t := by
  rw [prof_yes h]
  obtain ⟨h1, h2⟩ := mp_sum 5000 0 d t r h.first (by have := h.1; omega)
  obtain ⟨h3, h4⟩ := len_sum _ t h2
  exact ⟨h1, h2, by omega, by omega⟩
theorem prof_len (d t r : Int) : (prof d t r).length ≤ 5000 := by
  by_cases h : okProf d t r
  · have := (prof_facts h).2.2.1; have := h.1; omega
  · rw [prof_no h]; simp
theorem prof_bd (d t r : Int) : ∀ x ∈ prof d t r, 1 ≤ x ∧ x ≤ 200 := by
  by_cases h : okProf d t r
  · intro x hx; have := (prof_facts h).2.1 x hx; have := h.2.1; omega
  · rw [prof_no h]; simp
/-- the steps of a valid motion -/
def pv (t r : Int) : Int → List Int → Bool
  | b, [] => decide (b ≤ r)
  | b, v :: l => decide ((1 ≤ v ∧ v ≤ t) ∧ (v ≤ b + r ∧ b - r ≤ v)) && pv t r v l
theorem pv_mp (t r : Int) (n : Nat) : ∀ (s d : Int), okIn s d t r → s ≤ t → SD s r ≤ d → d ≤ n → pv t r s (mp n s d t r) = true := by
  induction n with
  | zero =>
    intro s d ho hs hd hn
    obtain ⟨⟨⟨a1, a2⟩, ⟨b1, b2⟩⟩, ⟨⟨a3, a4⟩, ⟨a5, a6⟩⟩⟩ := ho
    simp only [mp, pv, decide_eq_true_eq]
    by_cases h : r < s
    · rw [SD_pos s r a5 a2 h] at hd; have := (SD_bd (s - r) r (by omega) (by omega)).1; omega
    · omega
  | succ n ih =>
    intro s d ho hs hd hn
    show pv t r s (if 0 < d then NS s d t r :: mp n (NS s d t r) (d - NS s d t r) t r else []) = true
    by_cases h : 0 < d
    · rw [if_pos h]
      have hp := NS_pos ho h
      obtain ⟨h0, h1, h2, h3⟩ := NS_spec ho
      have hi := ih (NS s d t r) (d - NS s d t r) (okIn_step ho) (by omega) (by omega) (by omega)
      simp only [pv, hi, Bool.and_true, decide_eq_true_eq]
      refine ⟨⟨hp, by omega⟩, by omega, ?_⟩
      obtain ⟨⟨⟨a1, a2⟩, ⟨b1, b2⟩⟩, ⟨⟨a3, a4⟩, ⟨a5, a6⟩⟩⟩ := ho
      rcases Int.lt_or_le (NS s d t r) (s - r) with h4 | h4
      · have h5 := h3 (s - r) h4 (by omega)
        rw [SD_pos s r a5 a2 (by omega)] at hd; omega
      · exact h4
    · obtain ⟨⟨⟨a1, a2⟩, ⟨b1, b2⟩⟩, ⟨⟨a3, a4⟩, ⟨a5, a6⟩⟩⟩ := ho
      rw [if_neg h]
      simp only [pv, decide_eq_true_eq]
      by_cases h : r < s
      · rw [SD_pos s r a5 a2 h] at hd; have := (SD_bd (s - r) r (by omega) (by omega)).1; omega
      · omega
def okLim (t r : Int) : Prop := (1 ≤ t ∧ t ≤ 200) ∧ (1 ≤ r ∧ r ≤ 50)
/-- a valid motion, with its refusal -/
def pok (l : List Int) (t r : Int) : Bool := if ((1 ≤ t ∧ t ≤ 200) ∧ (1 ≤ r ∧ r ≤ 50)) ∧ l.length ≤ 5000 then pv t r 0 l else false
theorem pok_yes {l : List Int} {t r : Int} (h : okLim t r) (h2 : l.length ≤ 5000) : pok l t r = pv t r 0 l := by unfold pok; exact if_pos ⟨h, h2⟩
theorem pok_no {l : List Int} {t r : Int} (h : ¬ okLim t r) : pok l t r = false := by unfold pok; exact if_neg (fun h2 => h h2.1)
theorem pok_long {l : List Int} {t r : Int} (h : 5000 < l.length) : pok l t r = false := by unfold pok; exact if_neg (fun h2 => by omega)
theorem pok_prof {d t r : Int} (h : okProf d t r) : pok (prof d t r) t r = true := by
  rw [pok_yes h.2 (prof_len d t r), prof_yes h]
  have h0 : SD 0 r = 0 := SD_neg 0 r h.2.2.1 (by omega) (by have := h.2.2.1; omega)
  exact pv_mp t r 5000 0 d h.first (by have := h.2.1; omega) (by have := h.1; omega) (by have := h.1; omega)
/-- in every step the speed and its stop distance fit -/
def safe (r : Int) : Int → List Int → Prop
  | _, [] => True
  | d, v :: l => ((1 ≤ v ∧ v ≤ 200) ∧ v + SD v r ≤ d) ∧ safe r (d - v) l
theorem safe_mp (t r : Int) (n : Nat) : ∀ (s d : Int), okIn s d t r → d ≤ n → safe r d (mp n s d t r) := by
  induction n with
  | zero => intro s d ho hn; trivial
  | succ n ih =>
    intro s d ho hn
    show safe r d (if 0 < d then NS s d t r :: mp n (NS s d t r) (d - NS s d t r) t r else [])
    by_cases h : 0 < d
    · rw [if_pos h]
      have hp := NS_pos ho h
      have hb := NS_bd ho
      obtain ⟨h0, h1, h2, h3⟩ := NS_spec ho
      have := ho.2.1
      exact ⟨⟨⟨hp, by omega⟩, h2⟩, ih _ _ (okIn_step ho) (by omega)⟩
    · rw [if_neg h]; trivial
/-- neighbours differ by at most r -/
def ch (r : Int) : List Int → Prop
  | a :: b :: l => (a - b ≤ r ∧ b - a ≤ r) ∧ ch r (b :: l)
  | _ => True
theorem ch_append (r : Int) (a : Int) (l2 : List Int) : ∀ l1 : List Int, ch r (l1 ++ a :: l2) ↔ ch r (l1 ++ [a]) ∧ ch r (a :: l2) := by
  intro l1
  induction l1 with
  | nil => simp [ch]
  | cons b l ih =>
    cases l with
    | nil => simp [ch]
    | cons c l =>
      simp only [List.cons_append] at ih ⊢
      simp only [ch]
      rw [ih]
      exact and_assoc.symm
theorem ch_reverse (r : Int) : ∀ l : List Int, ch r l → ch r l.reverse := by
  intro l
  induction l with
  | nil => intro _; simp [ch]
  | cons a l ih =>
    cases l with
    | nil => intro _; simp [ch]
    | cons b l =>
      intro h
      have h2 := ih h.2
      simp only [List.reverse_cons, List.append_assoc, List.cons_append, List.nil_append] at h2 ⊢
      rw [ch_append]
      exact ⟨h2, ⟨⟨by have := h.1; omega, by have := h.1; omega⟩, trivial⟩⟩
theorem pv_iff (t r : Int) (hr : 0 ≤ r) : ∀ (l : List Int) (b : Int), 0 ≤ b → (pv t r b l = true ↔ (∀ x ∈ l, 1 ≤ x ∧ x ≤ t) ∧ ch r (b :: (l ++ [0]))) := by
  intro l
  induction l with
  | nil => intro b hb; simp [pv, ch]; omega
  | cons v l ih =>
    intro b hb
    simp only [pv, List.cons_append, ch, Bool.and_eq_true, decide_eq_true_eq, List.mem_cons, forall_eq_or_imp]
    constructor
    · rintro ⟨⟨h1, h2⟩, h3⟩
      have := (ih v (by omega)).1 h3
      exact ⟨⟨h1, this.1⟩, ⟨by omega, by omega⟩, this.2⟩
    · rintro ⟨⟨h1, h2⟩, ⟨h3, h4⟩, h5⟩
      exact ⟨⟨h1, by omega, by omega⟩, (ih v (by omega)).2 ⟨h2, h5⟩⟩
theorem pok_reverse {l : List Int} {t r : Int} (h : pok l t r = true) : pok l.reverse t r = true := by
  by_cases h1 : okLim t r
  · by_cases h2 : l.length ≤ 5000
    · rw [pok_yes h1 h2] at h
      rw [pok_yes h1 (by simpa using h2)]
      have hr : 0 ≤ r := by have := h1.2; omega
      rw [pv_iff t r hr _ 0 (Int.le_refl _)] at h ⊢
      refine ⟨fun x hx => h.1 x (by simpa using hx), ?_⟩
      have := ch_reverse r _ h.2
      simpa using this
    · rw [pok_long (by omega)] at h; cases h
  · rw [pok_no h1] at h; cases h
theorem pok_over (l : List Int) (t r : Int) : pok (l ++ [t + 1]) t r = false := by
  by_cases h1 : okLim t r
  · by_cases h2 : (l ++ [t + 1]).length ≤ 5000
    · rw [pok_yes h1 h2]
      have hr : 0 ≤ r := by have := h1.2; omega
      cases h : pv t r 0 (l ++ [t + 1])
      · rfl
      · rw [pv_iff t r hr _ 0 (Int.le_refl _)] at h
        have := h.1 (t + 1) (by simp)
        omega
    · exact pok_long (by omega)
  · exact pok_no h1
end M
end Go.Proofs.Ytnkjnphmpembaaa
