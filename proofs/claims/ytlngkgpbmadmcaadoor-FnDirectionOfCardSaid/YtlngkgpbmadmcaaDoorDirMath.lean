/- Plain law: two directions with the greatest projection differ by at most 3 degrees (a finite check over the table). -/
import Derived.Test.YtlngkgpbmadmcaaDoorDir
namespace Go.Proofs.YtlngkgpbmadmcaaDoor
set_option linter.unusedVariables false
def M.turnL : List (Nat × Nat) := [(8192, 4096), (8191, 4167), (8190, 4239), (8186, 4310), (8182, 4382), (8176, 4453), (8170, 4524), (8161, 4595), (8152, 4666), (8142, 4737), (8130, 4807), (8117, 4878), (8102, 4948), (8087, 5017), (8070, 5087), (8052, 5156), (8033, 5225), (8013, 5294), (7992, 5362), (7969, 5430), (7945, 5497), (7920, 5564), (7894, 5630), (7866, 5696), (7838, 5762), (7808, 5827), (7777, 5892), (7746, 5956), (7713, 6019), (7678, 6082), (7643, 6144), (7607, 6206), (7570, 6267), (7531, 6327), (7492, 6386), (7451, 6445), (7410, 6504), (7367, 6561), (7324, 6618), (7279, 6674), (7234, 6729), (7187, 6783), (7140, 6837), (7092, 6889), (7042, 6941), (6992, 6992), (6941, 7042), (6889, 7092), (6837, 7140), (6783, 7187), (6729, 7234), (6674, 7279), (6618, 7324), (6561, 7367), (6504, 7410), (6445, 7451), (6386, 7492), (6327, 7531), (6267, 7570), (6206, 7607), (6144, 7643), (6082, 7678), (6019, 7713), (5956, 7746), (5892, 7777), (5827, 7808), (5762, 7838), (5696, 7866), (5630, 7894), (5564, 7920), (5497, 7945), (5430, 7969), (5362, 7992), (5294, 8013), (5225, 8033), (5156, 8052), (5087, 8070), (5017, 8087), (4948, 8102), (4878, 8117), (4807, 8130), (4737, 8142), (4666, 8152), (4595, 8161), (4524, 8170), (4453, 8176), (4382, 8182), (4310, 8186), (4239, 8190), (4167, 8191), (4096, 8192), (4025, 8191), (3953, 8190), (3882, 8186), (3810, 8182), (3739, 8176), (3668, 8170), (3597, 8161), (3526, 8152), (3455, 8142), (3385, 8130), (3314, 8117), (3244, 8102), (3175, 8087), (3105, 8070), (3036, 8052), (2967, 8033), (2898, 8013), (2830, 7992), (2762, 7969), (2695, 7945), (2628, 7920), (2562, 7894), (2496, 7866), (2430, 7838), (2365, 7808), (2300, 7777), (2236, 7746), (2173, 7713), (2110, 7678), (2048, 7643), (1986, 7607), (1925, 7570), (1865, 7531), (1806, 7492), (1747, 7451), (1688, 7410), (1631, 7367), (1574, 7324), (1518, 7279), (1463, 7234), (1409, 7187), (1355, 7140), (1303, 7092), (1251, 7042), (1200, 6992), (1150, 6941), (1100, 6889), (1052, 6837), (1005, 6783), (958, 6729), (913, 6674), (868, 6618), (825, 6561), (782, 6504), (741, 6445), (700, 6386), (661, 6327), (622, 6267), (585, 6206), (549, 6144), (514, 6082), (479, 6019), (446, 5956), (415, 5892), (384, 5827), (354, 5762), (326, 5696), (298, 5630), (272, 5564), (247, 5497), (223, 5430), (200, 5362), (179, 5294), (159, 5225), (140, 5156), (122, 5087), (105, 5017), (90, 4948), (75, 4878), (62, 4807), (50, 4737), (40, 4666), (31, 4595), (22, 4524), (16, 4453), (10, 4382), (6, 4310), (2, 4239), (1, 4167), (0, 4096), (1, 4025), (2, 3953), (6, 3882), (10, 3810), (16, 3739), (22, 3668), (31, 3597), (40, 3526), (50, 3455), (62, 3385), (75, 3314), (90, 3244), (105, 3175), (122, 3105), (140, 3036), (159, 2967), (179, 2898), (200, 2830), (223, 2762), (247, 2695), (272, 2628), (298, 2562), (326, 2496), (354, 2430), (384, 2365), (415, 2300), (446, 2236), (479, 2173), (514, 2110), (549, 2048), (585, 1986), (622, 1925), (661, 1865), (700, 1806), (741, 1747), (782, 1688), (825, 1631), (868, 1574), (913, 1518), (958, 1463), (1005, 1409), (1052, 1355), (1100, 1303), (1150, 1251), (1200, 1200), (1251, 1150), (1303, 1100), (1355, 1052), (1409, 1005), (1463, 958), (1518, 913), (1574, 868), (1631, 825), (1688, 782), (1747, 741), (1806, 700), (1865, 661), (1925, 622), (1986, 585), (2048, 549), (2110, 514), (2173, 479), (2236, 446), (2300, 415), (2365, 384), (2430, 354), (2496, 326), (2562, 298), (2628, 272), (2695, 247), (2762, 223), (2830, 200), (2898, 179), (2967, 159), (3036, 140), (3105, 122), (3175, 105), (3244, 90), (3314, 75), (3385, 62), (3455, 50), (3526, 40), (3597, 31), (3668, 22), (3739, 16), (3810, 10), (3882, 6), (3953, 2), (4025, 1), (4096, 0), (4167, 1), (4239, 2), (4310, 6), (4382, 10), (4453, 16), (4524, 22), (4595, 31), (4666, 40), (4737, 50), (4807, 62), (4878, 75), (4948, 90), (5017, 105), (5087, 122), (5156, 140), (5225, 159), (5294, 179), (5362, 200), (5430, 223), (5497, 247), (5564, 272), (5630, 298), (5696, 326), (5762, 354), (5827, 384), (5892, 415), (5956, 446), (6019, 479), (6082, 514), (6144, 549), (6206, 585), (6267, 622), (6327, 661), (6386, 700), (6445, 741), (6504, 782), (6561, 825), (6618, 868), (6674, 913), (6729, 958), (6783, 1005), (6837, 1052), (6889, 1100), (6941, 1150), (6992, 1200), (7042, 1251), (7092, 1303), (7140, 1355), (7187, 1409), (7234, 1463), (7279, 1518), (7324, 1574), (7367, 1631), (7410, 1688), (7451, 1747), (7492, 1806), (7531, 1865), (7570, 1925), (7607, 1986), (7643, 2048), (7678, 2110), (7713, 2173), (7746, 2236), (7777, 2300), (7808, 2365), (7838, 2430), (7866, 2496), (7894, 2562), (7920, 2628), (7945, 2695), (7969, 2762), (7992, 2830), (8013, 2898), (8033, 2967), (8052, 3036), (8070, 3105), (8087, 3175), (8102, 3244), (8117, 3314), (8130, 3385), (8142, 3455), (8152, 3526), (8161, 3597), (8170, 3668), (8176, 3739), (8182, 3810), (8186, 3882), (8190, 3953), (8191, 4025)]
def M.turn2 : List (Nat × Nat) := M.turnL ++ M.turnL
def M.lf (a b c : Nat × Nat) : Bool := Nat.ble (Nat.succ (Nat.add (Nat.add (Nat.mul a.2 b.1) (Nat.mul b.2 c.1)) (Nat.mul c.2 a.1))) (Nat.add (Nat.add (Nat.mul a.1 b.2) (Nat.mul b.1 c.2)) (Nat.mul c.1 a.2))
def M.farAt : List (Nat × Nat) → Bool
  | a :: _ :: b :: _ :: c :: _ :: rest => M.lf a b c && (rest.take 353).all fun q => M.lf b c q && M.lf a b q
  | _ => false
theorem far_all : (List.range 360).all (fun n => M.farAt (M.turn2.drop n)) = true := by decide +kernel
theorem turn2_len : M.turn2.length = 720 := by decide +kernel
def M.w (n : Nat) : Nat × Nat := M.turn2.getD n (0, 0)
theorem w_all : (List.range 720).all (fun n => decide (((M.w n).1 : Int) = 4096 + M.cosine n) && decide (((M.w n).2 : Int) = 4096 + M.sine n)) = true := by decide +kernel
theorem w_at (n : Nat) (h : n < 720) : ((M.w n).1 : Int) = 4096 + M.cosine n ∧ ((M.w n).2 : Int) = 4096 + M.sine n := by
  have := List.all_eq_true.1 w_all n (by simp; omega)
  simpa only [Bool.and_eq_true, decide_eq_true_eq] using this
theorem w_get (n : Nat) (h : n < M.turn2.length) : M.turn2[n]'h = M.w n := by unfold M.w; rw [List.getD_eq_getElem?_getD, List.getElem?_eq_getElem h]; rfl
theorem w_drop (n : Nat) (h : n < 720) : M.turn2.drop n = M.w n :: M.turn2.drop (n + 1) := by
  rw [List.drop_eq_getElem_cons (by rw [turn2_len]; exact h), w_get]
theorem far_get (n i : Nat) (hn : n < 360) (hi : i < 353) : M.lf (M.w n) (M.w (n + 2)) (M.w (n + 4)) = true ∧ M.lf (M.w (n + 2)) (M.w (n + 4)) (M.w (n + 6 + i)) = true ∧ M.lf (M.w n) (M.w (n + 2)) (M.w (n + 6 + i)) = true := by
  have h := List.all_eq_true.1 far_all n (by simp; omega)
  rw [w_drop n (by omega), w_drop (n + 1) (by omega), w_drop (n + 1 + 1) (by omega), w_drop (n + 1 + 1 + 1) (by omega), w_drop (n + 1 + 1 + 1 + 1) (by omega), w_drop (n + 1 + 1 + 1 + 1 + 1) (by omega)] at h
  simp only [M.farAt, Bool.and_eq_true, List.all_eq_true] at h
  obtain ⟨h1, h2⟩ := h
  have h3 := h2 (M.w (n + 6 + i)) (by
    rw [← w_get (n + 6 + i) (by rw [turn2_len]; omega)]
    rw [List.mem_iff_getElem]
    refine ⟨i, by rw [List.length_take, List.length_drop, turn2_len]; omega, ?_⟩
    rw [List.getElem_take, List.getElem_drop])
  exact ⟨h1, h3⟩
theorem lf_int {a b c : Nat × Nat} {A1 B1 A2 B2 A3 B3 : Int} (h : M.lf a b c = true) (ha : (a.1 : Int) = 4096 + A1 ∧ (a.2 : Int) = 4096 + B1) (hb : (b.1 : Int) = 4096 + A2 ∧ (b.2 : Int) = 4096 + B2) (hc : (c.1 : Int) = 4096 + A3 ∧ (c.2 : Int) = 4096 + B3) :
    0 < (A2 - A1) * (B3 - B1) - (B2 - B1) * (A3 - A1) := by
  have h1 : a.2 * b.1 + b.2 * c.1 + c.2 * a.1 + 1 ≤ a.1 * b.2 + b.1 * c.2 + c.1 * a.2 := Nat.le_of_ble_eq_true h
  have h2 := Int.ofNat_le.2 h1
  simp only [Int.natCast_add, Int.natCast_mul, Int.cast_ofNat_Int] at h2
  rw [ha.1, ha.2, hb.1, hb.2, hc.1, hc.2] at h2
  grind
theorem pj_mod (x y : Int) {a b : Nat} (h : a % 360 = b % 360) : M.pj x y a = M.pj x y b := by
  have e : (a : Int) % 360 = (b : Int) % 360 := by omega
  unfold M.pj; rw [← sine_mod (a : Int), ← cosine_mod (a : Int), e, sine_mod, cosine_mod]
theorem cone {x y A0 B0 A1 B1 A2 B2 A3 B3 : Int} (h0 : 0 < (A1 - A0) * (B2 - B0) - (B1 - B0) * (A2 - A0)) (h1 : 0 < (A2 - A1) * (B3 - B1) - (B2 - B1) * (A3 - A1)) (h2 : 0 < (A1 - A0) * (B3 - B0) - (B1 - B0) * (A3 - A0))
    (ha : x * A0 + y * B0 ≤ x * A1 + y * B1) (hb : x * A2 + y * B2 ≤ x * A1 + y * B1) (hv : x * A1 + y * B1 ≤ x * A3 + y * B3) : x = 0 ∧ y = 0 := by
  obtain ⟨D, hD⟩ : ∃ D, D = (A1 - A0) * (B2 - B0) - (B1 - B0) * (A2 - A0) := ⟨_, rfl⟩
  obtain ⟨S, hS⟩ : ∃ S, S = (A2 - A1) * (B3 - B1) - (B2 - B1) * (A3 - A1) := ⟨_, rfl⟩
  obtain ⟨T, hT⟩ : ∃ T, T = (A1 - A0) * (B3 - B0) - (B1 - B0) * (A3 - A0) := ⟨_, rfl⟩
  obtain ⟨a, ea⟩ : ∃ a, a = x * A1 + y * B1 - (x * A0 + y * B0) := ⟨_, rfl⟩
  obtain ⟨b, eb⟩ : ∃ b, b = x * A1 + y * B1 - (x * A2 + y * B2) := ⟨_, rfl⟩
  obtain ⟨v, ev⟩ : ∃ v, v = x * A3 + y * B3 - (x * A1 + y * B1) := ⟨_, rfl⟩
  have k1 : D * v + S * a + T * b = 0 := by subst hD hS hT ea eb ev; grind
  have kx : x * D = a * (B2 - B1) + b * (B1 - B0) := by subst hD ea eb; grind
  have ky : y * D = - (a * (A2 - A1)) - b * (A1 - A0) := by subst hD ea eb; grind
  have p1 : 0 ≤ D * v := Int.mul_nonneg (by omega) (by omega)
  have p2 : 0 ≤ S * a := Int.mul_nonneg (by omega) (by omega)
  have p3 : 0 ≤ T * b := Int.mul_nonneg (by omega) (by omega)
  have z1 : S * a = 0 := by omega
  have z2 : T * b = 0 := by omega
  have y1 : a = 0 := by rcases Int.mul_eq_zero.1 z1 with h | h; omega; exact h
  have y2 : b = 0 := by rcases Int.mul_eq_zero.1 z2 with h | h; omega; exact h
  rw [y1, y2] at kx ky
  have x1 : x * D = 0 := by omega
  have x2 : y * D = 0 := by omega
  constructor
  · rcases Int.mul_eq_zero.1 x1 with h | h; exact h; omega
  · rcases Int.mul_eq_zero.1 x2 with h | h; exact h; omega
theorem far {x y : Int} {d j : Nat} (hd : d < 360) (hm : ∀ k : Nat, k < 360 → M.pj x y k ≤ M.pj x y d) (hj : 4 ≤ j) (hj2 : j ≤ 356) (h0 : ¬ (x = 0 ∧ y = 0)) : M.pj x y ((d + j : Nat) : Int) < M.pj x y d := by
  obtain ⟨n, hn, hnd⟩ : ∃ n, n < 360 ∧ (n + 2) % 360 = d := ⟨(d + 358) % 360, by omega, by omega⟩
  obtain ⟨g0, g1, g2⟩ := far_get n (j - 4) hn (by omega)
  have f0 := lf_int g0 (w_at n (by omega)) (w_at (n + 2) (by omega)) (w_at (n + 4) (by omega))
  have f1 := lf_int g1 (w_at (n + 2) (by omega)) (w_at (n + 4) (by omega)) (w_at (n + 6 + (j - 4)) (by omega))
  have f2 := lf_int g2 (w_at n (by omega)) (w_at (n + 2) (by omega)) (w_at (n + 6 + (j - 4)) (by omega))
  have ed : M.pj x y ((n + 2 : Nat) : Int) = M.pj x y d := pj_mod x y (by omega)
  have ej : M.pj x y ((n + 6 + (j - 4) : Nat) : Int) = M.pj x y ((d + j : Nat) : Int) := pj_mod x y (by omega)
  have m0 := hm n hn
  have m4 := hm ((n + 4) % 360) (by omega)
  rw [pj_mod x y (show ((n + 4) % 360) % 360 = (n + 4) % 360 by omega)] at m4
  rw [← ed] at m0 m4
  by_cases hc : M.pj x y ((d + j : Nat) : Int) < M.pj x y d
  · exact hc
  · rw [← ej, ← ed] at hc
    exact absurd (cone f0 f1 f2 m0 m4 (by unfold M.pj at hc; omega)) h0
theorem sine_congr {a b : Int} (h : a % 360 = b % 360) : M.sine a = M.sine b := by rw [← sine_mod a, h, sine_mod]
theorem pj_neg (x y k : Int) : M.pj (-x) (-y) k = - M.pj x y k := by unfold M.pj; rw [Int.neg_mul, Int.neg_mul]; omega
theorem pj_opp (x y : Int) (k : Nat) : M.pj x y ((k + 180 : Nat) : Int) = - M.pj x y k := by
  have e1 : M.sine ((k + 180 : Nat) : Int) = - M.sine k := by rw [← (trig (k : Int)).2.1.1]; exact sine_congr (by omega)
  have e2 : M.cosine ((k + 180 : Nat) : Int) = - M.cosine k := by
    show M.sine (((k + 180 : Nat) : Int) % 360 + 90) = - M.sine ((k : Int) % 360 + 90)
    rw [← (trig ((k : Int) % 360 + 90)).2.1.1]; exact sine_congr (by omega)
  unfold M.pj; rw [e1, e2, Int.mul_neg, Int.mul_neg]; omega
theorem dir_opp {x y : Int} (h : M.pvB x y = true) (h0 : ¬ (x = 0 ∧ y = 0)) : 177 ≤ M.ab (M.arg x y 359 : Nat) (M.dir (-x) (-y)) := by
  have hv := M.pvB_true.1 h
  rw [M.dir_yes (M.pvB_true.2 (by omega)) (by omega)]
  have l1 := arg_le x y 359
  have l2 := arg_le (-x) (-y) 359
  have m1 := (arg_max x y 359).1
  have m2 := (arg_max (-x) (-y) 359).1
  generalize M.arg x y 359 = d at *
  generalize M.arg (-x) (-y) 359 = e at *
  by_cases hc : 177 ≤ M.ab (d : Int) (e : Int)
  · exact hc
  exfalso
  unfold M.ab at hc
  obtain ⟨j, hj⟩ : ∃ j, j = (e + 540 - d) % 360 := ⟨_, rfl⟩
  have f := far (x := x) (y := y) (d := d) (j := j) (by omega) (fun k hk => m1 k (by omega)) (by omega) (by omega) h0
  rw [pj_mod x y (show (d + j) % 360 = (e + 180) % 360 by omega), pj_opp] at f
  have m3 := m2 ((d + 180) % 360) (by omega)
  rw [pj_neg, pj_neg, pj_mod x y (show ((d + 180) % 360) % 360 = (d + 180) % 360 by omega), pj_opp] at m3
  omega
theorem dir_axis {x y : Int} (hx : 0 ≤ x) (hy : y = 0) : M.arg x y 359 = 0 := by
  have m := (arg_max x y 359).2
  rcases Nat.eq_zero_or_pos (M.arg x y 359) with h | h
  · exact h
  · exfalso
    have m0 := m 0 h
    rw [← pj_zero] at m0
    generalize M.arg x y 359 = d at *
    unfold M.pj at m0
    obtain ⟨⟨_, ⟨c1, c2⟩⟩, _⟩ := trig (d : Int)
    have k : 0 ≤ x * (4096 - M.cosine d) := Int.mul_nonneg hx (by omega)
    rw [Int.mul_sub] at k
    rw [hy, Int.zero_mul] at m0
    omega
end Go.Proofs.YtlngkgpbmadmcaaDoor
