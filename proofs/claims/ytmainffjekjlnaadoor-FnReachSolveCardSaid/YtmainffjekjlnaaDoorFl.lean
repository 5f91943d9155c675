/- Plain bounds on the model's square root of a whole number. No program in sight. -/
import Derived.Test.YtmainffjekjlnaaDoorRead
import Derived.Laws.FloatArith
namespace Go.Proofs.YtmainffjekjlnaaDoor
set_option linter.unusedVariables false
namespace M
open Ieee
theorem rootFrom_lt (n : Nat) : ∀ (todo root : Nat), Datum.rootFrom n todo root < root + 2 ^ todo := by
  intro todo
  induction todo with
  | zero => intro root; simp [Datum.rootFrom]
  | succ t ih =>
    intro root
    unfold Datum.rootFrom
    have e : (1 <<< t : Nat) = 2 ^ t := by rw [Nat.shiftLeft_eq, Nat.one_mul]
    have e2 : 2 ^ (t + 1) = 2 ^ t + 2 ^ t := by rw [Nat.pow_succ]; omega
    simp only [e]
    split
    · have := ih (root + 2 ^ t); omega
    · have := ih root; have := Nat.two_pow_pos t; omega
/-- what is kept of a magnitude: 53 digits, or one more unit -/
theorem kept_bd (m : Nat) (hm : m ≠ 0) (p last : Int) (hl : last = p + m.log2 - 52) :
    2 ^ 52 ≤ Toward.even.cut false (m <<< (p - last).toNat) (last - p).toNat ∧ Toward.even.cut false (m <<< (p - last).toNat) (last - p).toNat ≤ 2 ^ 53 := by
  have h1 := Nat.log2_self_le hm
  have h2 : m < 2 ^ (m.log2 + 1) := Nat.lt_log2_self
  generalize hL : m.log2 = L at *
  by_cases hc : L ≤ 52
  · obtain ⟨s, hs⟩ : ∃ s, s = 52 - L := ⟨_, rfl⟩
    have e1 : (p - last).toNat = s := by omega
    have e2 : (last - p).toNat = 0 := by omega
    rw [e1, e2]
    unfold Toward.cut
    simp only [Nat.shiftLeft_zero, Nat.min_eq_left (Nat.zero_le _)]
    have e3 : m <<< s = m * 2 ^ s := Nat.shiftLeft_eq _ _
    have e4 : 2 ^ L * 2 ^ s = 2 ^ 52 := by rw [← Nat.pow_add]; congr 1; omega
    have e5 : 2 ^ (L + 1) * 2 ^ s = 2 ^ 53 := by rw [← Nat.pow_add]; congr 1; omega
    have a1 : 2 ^ 52 ≤ m <<< s := by rw [e3, ← e4]; exact Nat.mul_le_mul_right _ h1
    have a2 : m <<< s < 2 ^ 53 := by rw [e3, ← e5]; exact Nat.mul_lt_mul_of_pos_right h2 (Nat.two_pow_pos _)
    simp only [Nat.div_one, Nat.mod_one]
    simp
    omega
  · obtain ⟨s, hs⟩ : ∃ s, s = L - 52 := ⟨_, rfl⟩
    have e1 : (p - last).toNat = 0 := by omega
    have e2 : (last - p).toNat = s := by omega
    rw [e1, e2]
    unfold Toward.cut
    simp only [Nat.shiftLeft_zero, hL]
    have e3 : min s (L + 2) = s := by omega
    have e4 : (1 <<< s : Nat) = 2 ^ s := by rw [Nat.shiftLeft_eq, Nat.one_mul]
    rw [e3, e4]
    have e5 : 2 ^ 52 * 2 ^ s = 2 ^ L := by rw [← Nat.pow_add]; congr 1; omega
    have e6 : 2 ^ 53 * 2 ^ s = 2 ^ (L + 1) := by rw [← Nat.pow_add]; congr 1; omega
    have a1 : 2 ^ 52 ≤ m / 2 ^ s := by rw [Nat.le_div_iff_mul_le (Nat.two_pow_pos _), e5]; exact h1
    have a2 : m / 2 ^ s < 2 ^ 53 := by rw [Nat.div_lt_iff_lt_mul (Nat.two_pow_pos _), e6]; exact h2
    generalize (decide (2 ^ s < 2 * (m % 2 ^ s)) || 2 ^ s == 2 * (m % 2 ^ s) && m / 2 ^ s % 2 == 1) = b
    have : b.toNat ≤ 1 := by cases b <;> simp
    omega
theorem lp : double.leastPlace = -1074 := by decide
theorem bn : double.binade = 4503599627370496 := by decide
theorem ir : double.infRung = 9218868437227405312 := by decide
theorem sw : double.signWeight = 9223372036854775808 := by decide
theorem read_lo (E kept : Nat) (hE : E ≤ 2000) (k1 : 4503599627370496 ≤ kept) (k2 : kept < 9007199254740992) : double.read (E * 4503599627370496 + kept) = .number false kept (-1074 + (E : Int)) := by
  have q1 : (E * 4503599627370496 + kept) / 9223372036854775808 = 0 := by omega
  have q2 : (E * 4503599627370496 + kept) % 9223372036854775808 = E * 4503599627370496 + kept := by omega
  have q3 : (E * 4503599627370496 + kept) % 4503599627370496 = kept - 4503599627370496 := by omega
  have q4 : (E * 4503599627370496 + kept) / 4503599627370496 = E + 1 := by omega
  have q5 : ¬ (E * 4503599627370496 + kept < 4503599627370496) := by omega
  have q6 : E * 4503599627370496 + kept < 9218868437227405312 := by omega
  have q7 : 4503599627370496 + (kept - 4503599627370496) = kept := by omega
  have q8 : E + 1 - 1 = E := by omega
  unfold Format.read
  simp only [sw, bn, ir, lp, q1, q2, q3, q4, if_neg q5, if_pos q6, q7, q8]
  rfl
theorem read_hi (E : Nat) (hE : E ≤ 2000) : double.read (E * 4503599627370496 + 9007199254740992) = .number false 4503599627370496 (-1074 + ((E + 1 : Nat) : Int)) := by
  have q1 : (E * 4503599627370496 + 9007199254740992) / 9223372036854775808 = 0 := by omega
  have q2 : (E * 4503599627370496 + 9007199254740992) % 9223372036854775808 = E * 4503599627370496 + 9007199254740992 := by omega
  have q3 : (E * 4503599627370496 + 9007199254740992) % 4503599627370496 = 0 := by omega
  have q4 : (E * 4503599627370496 + 9007199254740992) / 4503599627370496 = E + 2 := by omega
  have q5 : ¬ (E * 4503599627370496 + 9007199254740992 < 4503599627370496) := by omega
  have q6 : E * 4503599627370496 + 9007199254740992 < 9218868437227405312 := by omega
  have q8 : E + 2 - 1 = E + 1 := by omega
  unfold Format.read
  simp only [sw, bn, ir, lp, q1, q2, q3, q4, if_neg q5, if_pos q6, q8]
  rfl
theorem word_false (f : Format) (r : Nat) : f.word false r = r := by
  unfold Format.word
  rw [if_neg (by simp)]
theorem nearest_main (f : Format) (m : Nat) (hm : m ≠ 0) (p last : Int) (kept : Nat) (hl : max (p + m.log2 - f.fractionBits) f.leastPlace = last)
    (hk : kept = Toward.even.cut false (m <<< (p - last).toNat) (last - p).toNat) : f.nearest false m p = f.word false (min ((last - f.leastPlace).toNat * f.binade + kept) f.infRung) := by
  unfold Format.nearest
  rw [if_neg hm]
  simp only [hl]
  rw [← hk]
theorem nearest_word (m : Nat) (hm : m ≠ 0) (p last : Int) (E kept : Nat) (hl : last = p + m.log2 - 52) (hE : last + 1074 = (E : Int)) (hE2 : E ≤ 2000)
    (hk : kept = Toward.even.cut false (m <<< (p - last).toNat) (last - p).toNat) (k2 : kept ≤ 9007199254740992) : double.nearest false m p = E * 4503599627370496 + kept := by
  have hfb : (double.fractionBits : Int) = 52 := by decide
  have e1 : max (p + (m.log2 : Int) - (double.fractionBits : Int)) double.leastPlace = last := by
    rw [lp, hfb]
    omega
  rw [nearest_main double m hm p last kept e1 hk, word_false, lp, bn, ir]
  have e2 : (last - -1074).toNat = E := by omega
  rw [e2]
  have q6 : E * 4503599627370496 + kept ≤ 9218868437227405312 := by omega
  exact Nat.min_eq_left q6
theorem nearest_read (m : Nat) (hm : m ≠ 0) (p : Int) (h1 : -1000 ≤ p + m.log2) (h2 : p + m.log2 ≤ 900) :
    ∃ (m' : Nat) (p' : Int), double.read (double.nearest false m p) = .number false m' p' ∧ (2 ^ 52 ≤ m' ∧ m' < 2 ^ 53) ∧ (p' = p + m.log2 - 52 ∨ p' = p + m.log2 - 51) := by
  obtain ⟨last, hl⟩ : ∃ last, last = p + m.log2 - 52 := ⟨_, rfl⟩
  obtain ⟨k1, k2⟩ := kept_bd m hm p last hl
  obtain ⟨E, hE⟩ : ∃ E : Nat, (last + 1074) = E := ⟨(last + 1074).toNat, by omega⟩
  obtain ⟨kept, hk⟩ : ∃ kept, kept = Toward.even.cut false (m <<< (p - last).toNat) (last - p).toNat := ⟨_, rfl⟩
  rw [← hk] at k1 k2
  have hE2 : E ≤ 2000 := by omega
  have k3 : 4503599627370496 ≤ kept := k1
  have k4 : kept ≤ 9007199254740992 := k2
  rw [nearest_word m hm p last E kept hl hE hE2 hk k4]
  clear hk k1 k2
  rcases Nat.lt_or_ge kept 9007199254740992 with hlt | hge
  · rw [read_lo E kept hE2 k3 hlt]
    exact ⟨_, _, rfl, ⟨k3, hlt⟩, Or.inl (by omega)⟩
  · obtain rfl : kept = 9007199254740992 := by omega
    rw [read_hi E hE2]
    exact ⟨_, _, rfl, ⟨by decide, by decide⟩, Or.inr (by omega)⟩
theorem log2_53 {m : Nat} (h1 : 2 ^ 52 ≤ m) (h2 : m < 2 ^ 53) : m.log2 = 52 := by
  have hm : m ≠ 0 := by omega
  have a := (Nat.log2_lt hm (k := 53)).2 h2
  have b := (Nat.le_log2 hm (k := 52)).2 h1
  omega
theorem toInt_bd (m : Nat) (p : Int) (h1 : 2 ^ 52 ≤ m) (h2 : m < 2 ^ 53) (hp : p ≤ -22) : ∃ k : Int, (Datum.number false m p).toInt .zero = some k ∧ 0 ≤ k ∧ k < 2147483648 := by
  unfold Datum.toInt Datum.integral
  simp only
  have e0 : p.toNat = 0 := by omega
  rw [e0, Nat.shiftLeft_zero]
  unfold Toward.cut signed
  simp only [Bool.false_eq_true, if_false, Bool.toNat_false, Nat.add_zero, Nat.shiftLeft_zero]
  rw [log2_53 h1 h2]
  obtain ⟨s, hs⟩ : ∃ s, s = min (-p).toNat (52 + 2) := ⟨_, rfl⟩
  rw [← hs]
  have e4 : (1 <<< s : Nat) = 2 ^ s := by rw [Nat.shiftLeft_eq, Nat.one_mul]
  rw [e4]
  have h22 : 22 ≤ s := by omega
  have a1 : 2 ^ 22 ≤ 2 ^ s := Nat.pow_le_pow_right (by omega) h22
  have a2 : m / 2 ^ s ≤ m / 2 ^ 22 := Nat.div_le_div_left a1 (by omega)
  have a3 : m / 2 ^ 22 < 2147483648 := by omega
  generalize m / 2 ^ s = q at *
  refine ⟨_, rfl, by omega, by omega⟩
theorem root_int (n : Int) (h0 : 0 ≤ n) (h1 : n ≤ 1000000000000) : ∃ (x : Nat) (r : Int), double.sqrt (FloatKind.f64.nearest n) = some x ∧ floatToIntVal .f64 x .i64 = some r ∧ 0 ≤ r ∧ r < 2147483648 := by
  by_cases hz : n = 0
  · subst hz
    exact ⟨0, 0, by decide +kernel, by decide +kernel, by omega, by omega⟩
  · obtain ⟨N, rfl⟩ := Int.eq_ofNat_of_zero_le h0
    have hN : N ≠ 0 := by omega
    have en : FloatKind.f64.nearest (N : Int) = double.nearest false N 0 := by
      unfold FloatKind.nearest FloatKind.encode
      have e : decide ((N : Int) < 0) = false := by simp
      rw [e]; rfl
    have hlog : N.log2 ≤ 39 := by
      have := (Nat.log2_lt hN (k := 40)).2 (by omega)
      omega
    obtain ⟨m, p, hr, ⟨m1, m2⟩, hp⟩ := nearest_read N hN 0 (by omega) (by omega)
    obtain ⟨more, hmore⟩ : ∃ more : Nat, more = 2 * 54 - m.log2 + ((p - (2 * 54 - m.log2 : Nat)) % 2).toNat := ⟨_, rfl⟩
    have hl := log2_53 m1 m2
    have hmb : 56 ≤ more ∧ more ≤ 57 := by rw [hl] at hmore; omega
    obtain ⟨whole, hw⟩ : ∃ whole, whole = Datum.rootFrom (m <<< more) ((m <<< more).log2 / 2 + 1) 0 := ⟨_, rfl⟩
    have hnn : m <<< more < 2 ^ 110 := by
      rw [Nat.shiftLeft_eq]
      have a := Nat.pow_le_pow_right (n := 2) (by omega) hmb.2
      have b := Nat.mul_lt_mul_of_pos_right m2 (Nat.two_pow_pos more)
      have c := Nat.mul_le_mul_left (2 ^ 53) a
      exact Nat.lt_of_lt_of_le b c
    have hnz : m <<< more ≠ 0 := by
      rw [Nat.shiftLeft_eq]
      have := Nat.mul_pos (show 0 < m by omega) (Nat.two_pow_pos more)
      omega
    have hlog2 : (m <<< more).log2 / 2 + 1 ≤ 55 := by
      have := (Nat.log2_lt hnz (k := 110)).2 hnn
      omega
    have hwb : whole < 2 ^ 55 := by
      have a := rootFrom_lt (m <<< more) ((m <<< more).log2 / 2 + 1) 0
      have b := Nat.pow_le_pow_right (n := 2) (by omega) hlog2
      rw [← hw] at a
      omega
    obtain ⟨mag, hmag⟩ : ∃ mag, mag = 2 * whole + (whole * whole != m <<< more).toNat := ⟨_, rfl⟩
    have hmz : mag ≠ 0 := by
      intro e
      have w0 : whole = 0 := by omega
      subst w0
      rw [e] at hmag
      have : (0 * 0 != m <<< more) = true := by simp; omega
      rw [this] at hmag
      simp at hmag
    have hml : mag < 2 ^ 56 := by
      have : (whole * whole != m <<< more).toNat ≤ 1 := by cases (whole * whole != m <<< more) <;> simp
      omega
    have hmlog : mag.log2 ≤ 55 := by
      have := (Nat.log2_lt hmz (k := 56)).2 hml
      omega
    have hroot : (Datum.number false m p).root 54 = some (.number false mag ((p - more) / 2 - 1)) := by
      have hm0 : m ≠ 0 := by omega
      unfold Datum.root
      simp only [if_neg hm0, Bool.false_eq_true, if_false]
      rw [← hmore, ← hw, ← hmag]
    obtain ⟨m', p', hr', ⟨c1, c2⟩, hp'⟩ := nearest_read mag hmz ((p - more) / 2 - 1) (by omega) (by omega)
    obtain ⟨k, hk, hk0, hk1⟩ := toInt_bd m' p' c1 c2 (by omega)
    refine ⟨double.nearest false mag ((p - more) / 2 - 1), k, ?_, ?_, hk0, hk1⟩
    · rw [en]
      unfold Format.sqrt
      rw [hr]
      show ((Datum.number false m p).root 54).map double.write = _
      rw [hroot]
      rfl
    · unfold floatToIntVal FloatKind.decode
      show (match (double.read _).toInt .zero with | some n => _ | none => _) = _
      rw [hr', hk]
      simp only
      rw [if_pos]
      show IntKind.i64.min ≤ k ∧ k ≤ IntKind.i64.max
      have e1 : IntKind.i64.min = -9223372036854775808 := by decide
      have e2 : IntKind.i64.max = 9223372036854775807 := by decide
      omega
end M
end Go.Proofs.YtmainffjekjlnaaDoor
