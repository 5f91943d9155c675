/- Contract of the program's sine: a table of 91 numbers. -/
import Derived.Test.YtmainffjekjlnaaDoorSin
import Derived.Test.YtmainffjekjlnaaDoorAngle
namespace Go.Proofs.YtmainffjekjlnaaDoor
open Go.ChangeShapes Go.WideShapes Go.ChangeAt Go.RowKit
set_option linter.unusedVariables false
def M.tabl : List Int := [0, 71, 143, 214, 286, 357, 428, 499, 570, 641, 711, 782, 852, 921, 991, 1060, 1129, 1198, 1266, 1334, 1401, 1468, 1534, 1600, 1666, 1731, 1796, 1860, 1923, 1986, 2048, 2110, 2171, 2231, 2290, 2349, 2408, 2465, 2522, 2578, 2633, 2687, 2741, 2793, 2845, 2896, 2946, 2996, 3044, 3091, 3138, 3183, 3228, 3271, 3314, 3355, 3396, 3435, 3474, 3511, 3547, 3582, 3617, 3650, 3681, 3712, 3742, 3770, 3798, 3824, 3849, 3873, 3896, 3917, 3937, 3956, 3974, 3991, 4006, 4021, 4034, 4046, 4056, 4065, 4074, 4080, 4086, 4090, 4094, 4095, 4096]
def M.tb (m : Nat) : Int := M.tabl.getD m 0
/-- the sine of n degrees, n in 0..359, in units -/
def M.sn (n : Int) : Int := if n ≤ 90 then M.tb n.toNat else if n ≤ 180 then M.tb (180 - n).toNat else if n ≤ 270 then - M.tb (n - 180).toNat else - M.tb (360 - n).toNat
def M.sine (d : Int) : Int := M.sn (d % 360)
theorem sn_a {n : Int} {m : Nat} (h : n = (m : Int)) (c : n ≤ 90) : M.sn n = M.tb m := by
  unfold M.sn; rw [if_pos c, show n.toNat = m by omega]
theorem sn_b {n : Int} {m : Nat} (c : 90 < n) (c2 : n < 180) (h : 180 - n = (m : Int)) : M.sn n = M.tb m := by
  unfold M.sn; rw [if_neg (by omega), if_pos (by omega), show (180 - n).toNat = m by omega]
theorem sn_c {n : Int} {m : Nat} (c : 180 ≤ n) (c2 : n ≤ 270) (h : n - 180 = (m : Int)) : M.sn n = - M.tb m := by
  unfold M.sn
  rw [if_neg (by omega)]
  by_cases c3 : n ≤ 180
  · have hm0 : m = 0 := by omega
    subst hm0
    rw [if_pos c3, show (180 - n).toNat = 0 by omega]; rfl
  · rw [if_neg c3, if_pos c2, show (n - 180).toNat = m by omega]
theorem sn_d {n : Int} {m : Nat} (c : 270 < n) (c2 : n < 360) (h : 180 - (n - 180) = (m : Int)) : M.sn n = - M.tb m := by
  unfold M.sn; rw [if_neg (by omega), if_neg (by omega), if_neg (by omega), show (360 - n).toNat = m by omega]
theorem tb_bd (m : Nat) : 0 ≤ M.tb m ∧ M.tb m ≤ 4096 := by
  by_cases h : m < 91
  · have h2 := List.all_eq_true.1 (by decide +kernel : (List.range 91).all (fun m => decide (0 ≤ M.tb m ∧ M.tb m ≤ 4096)) = true) m (by simp; omega)
    simpa using h2
  · have : M.tb m = 0 := by
      unfold M.tb
      have hl : M.tabl.length = 91 := by decide +kernel
      rw [List.getD_eq_getElem?_getD, List.getElem?_eq_none (by rw [hl]; omega)]; rfl
    omega
/-- the library's sine, where the walks know it -/
def M.sinOk (x : Nat) : Bool := decide (FloatKind.f64.format.order x 0 = some .gt) && (decide (FloatKind.f64.format.order x x = some .eq) && (decide (FloatKind.f64.format.order x 9218868437227405311 = some .lt) && (decide (FloatKind.f64.format.order x 18442240474082181119 = some .gt) && (decide (bits BinOp.andNot IntKind.u64 (x : Int) 9223372036854775808 = (x : Int)) && decide (FloatKind.f64.format.order x 4737786807993761792 = some .lt)))))
def M.sinW (x : Nat) : Option Int := (floatBits .mul .f64 x 4608412980311869571).bind fun r => floatToIntVal .f64 r .u64
def M.sinF (x : Nat) : Option Nat := if x = 0 then some 0 else if M.sinOk x = true then (if M.sinW x = some 0 then M.sin_lo x else if M.sinW x = some 1 then M.sin_mid x else if M.sinW x = some 2 then M.sin_hi x else none) else none
set_option maxRecDepth 20000 in
theorem sin_zero (w : World) : Calls Tryd.prog 85 #[.float .f64 0] w fun e w' => e = .returned (.float .f64 0) ∧ w = w' := by
  have h : FloatKind.f64.format.order 0 0 = some .eq := by decide +kernel
  go_enter Tryd.func85, Tryd.ntmps85
  go_wp2
  go_ret
  exact ⟨rfl, rfl⟩
theorem sin_any (x y : Nat) (w : World) (hT : Tables w) (h : M.sinF x = some y) : Calls Tryd.prog 85 #[.float .f64 x] w fun e w' => e = .returned (.float .f64 y) ∧ w = w' := by
  unfold M.sinF at h
  by_cases hx : x = 0
  · rw [if_pos hx] at h
    injection h with h
    subst hx h
    exact sin_zero w
  · rw [if_neg hx] at h
    by_cases hok : M.sinOk x = true
    · rw [if_pos hok] at h
      unfold M.sinOk at hok
      simp only [Bool.and_eq_true, decide_eq_true_eq] at hok
      obtain ⟨o0, ox, oM, om, ha, oT⟩ := hok
      by_cases hlo : M.sinW x = some 0
      · rw [if_pos hlo] at h
        unfold M.sin_lo at h
        simp only [Option.bind_eq_bind, Option.bind_eq_some_iff] at h
        obtain ⟨q0, h0, q1, h1, q2, h2, q3, h3, q4, h4, q5, h5, q6, h6, q7, h7, q8, h8, q9, h9, q10, h10, q11, h11, q12, h12, q13, h13, q14, h14, q15, h15, q16, h16, q17, h17, q18, h18, q19, h19, h20⟩ := h
        have hj : floatToIntVal .f64 q0 .u64 = some 0 := by
          unfold M.sinW at hlo
          rw [h0] at hlo
          exact hlo
        exact sin_lo_walk x q0 q1 q2 q3 q4 q5 q6 q7 q8 q9 q10 q11 q12 q13 q14 q15 q16 q17 q18 q19 y w hT o0 ox oM om ha oT h0 h1 h2 h3 h4 h5 h6 h7 h8 h9 h10 h11 h12 h13 h14 h15 h16 h17 h18 h19 h20 hj
      · rw [if_neg hlo] at h
        by_cases hmid : M.sinW x = some 1
        · rw [if_pos hmid] at h
          unfold M.sin_mid at h
          simp only [Option.bind_eq_bind, Option.bind_eq_some_iff] at h
          obtain ⟨q0, h0, q1, h1, q2, h2, q3, h3, q4, h4, q5, h5, q6, h6, q7, h7, q8, h8, q9, h9, q10, h10, q11, h11, q12, h12, q13, h13, q14, h14, q15, h15, q16, h16, q17, h17, q18, h18, q19, h19, q20, h20, q21, h21, h22⟩ := h
          have hj : floatToIntVal .f64 q0 .u64 = some 1 := by
            unfold M.sinW at hmid
            rw [h0] at hmid
            exact hmid
          exact sin_mid_walk x q0 q1 q2 q3 q4 q5 q6 q7 q8 q9 q10 q11 q12 q13 q14 q15 q16 q17 q18 q19 q20 q21 y w hT o0 ox oM om ha oT h0 h1 h2 h3 h4 h5 h6 h7 h8 h9 h10 h11 h12 h13 h14 h15 h16 h17 h18 h19 h20 h21 h22 hj
        · rw [if_neg hmid] at h
          by_cases hhi : M.sinW x = some 2
          · rw [if_pos hhi] at h
            unfold M.sin_hi at h
            simp only [Option.bind_eq_bind, Option.bind_eq_some_iff] at h
            obtain ⟨q0, h0, q1, h1, q2, h2, q3, h3, q4, h4, q5, h5, q6, h6, q7, h7, q8, h8, q9, h9, q10, h10, q11, h11, q12, h12, q13, h13, q14, h14, q15, h15, q16, h16, q17, h17, q18, h18, q19, h19, q20, h20, q21, h21, h22⟩ := h
            have hj : floatToIntVal .f64 q0 .u64 = some 2 := by
              unfold M.sinW at hhi
              rw [h0] at hhi
              exact hhi
            exact sin_hi_walk x q0 q1 q2 q3 q4 q5 q6 q7 q8 q9 q10 q11 q12 q13 q14 q15 q16 q17 q18 q19 q20 q21 y w hT o0 ox oM om ha oT h0 h1 h2 h3 h4 h5 h6 h7 h8 h9 h10 h11 h12 h13 h14 h15 h16 h17 h18 h19 h20 h21 h22 hj
          · rw [if_neg hhi] at h; cases h
    · rw [if_neg hok] at h; cases h
theorem math_sin (x y : Nat) (w : World) (hT : Tables w) (h : M.sinF x = some y) : Calls Tryd.prog 80 #[.float .f64 x] w fun e w' => e = .returned (.float .f64 y) ∧ w = w' := by
  replace h := Lib.hid h
  replace hT := Lib.hid hT
  go_enter Tryd.func80, Tryd.ntmps80
  go_wp2_with (go_at_call 85; refine (sin_any _ y _ hT.out h.out).mono ?_; rintro e w' ⟨rfl, rfl⟩)
  go_ret
  exact ⟨rfl, rfl⟩
def M.rnd (p : Nat) : Option Nat := if M.expo p < 1022 then some (M.roundZ p) else if 1023 ≤ M.expo p ∧ M.expo p < 1075 then some (M.roundF p) else none
theorem math_round (p q : Nat) (w : World) (h : M.rnd p = some q) : Calls Tryd.prog 79 #[.float .f64 p] w fun e w' => e = .returned (.float .f64 q) ∧ w = w' := by
  unfold M.rnd at h
  by_cases h1 : M.expo p < 1022
  · rw [if_pos h1] at h; injection h with h; subst h; exact round_zero p w h1
  · rw [if_neg h1] at h
    by_cases h2 : 1023 ≤ M.expo p ∧ M.expo p < 1075
    · rw [if_pos h2] at h; injection h with h; subst h; exact round_walk p w h2.1 h2.2
    · rw [if_neg h2] at h; cases h
/-- the value of the program's expression at m degrees, m in 0..90 -/
def M.val (m : Nat) : Option Int := do
  let a ← floatBits .mul .f64 (floatOfInt .f64 (m : Int)) 4614256656552045848
  let x ← floatBits .quo .f64 a 4640537203540230144
  let y ← M.sinF x
  let p ← floatBits .mul .f64 4661225614328463360 y
  let q ← M.rnd p
  floatToIntVal .f64 q .i64
theorem vals : (List.range 91).all (fun m => decide (M.val m = some (M.tb m))) = true := by decide +kernel
theorem val_at (m : Nat) (h : m ≤ 90) : M.val m = some (M.tb m) := by
  have := List.all_eq_true.1 vals m (by simp; omega)
  simpa using this
theorem val_parts (m : Nat) (h : m ≤ 90) : ∃ a x y p q, floatBits .mul .f64 (floatOfInt .f64 (m : Int)) 4614256656552045848 = some a ∧ floatBits .quo .f64 a 4640537203540230144 = some x ∧ M.sinF x = some y ∧ floatBits .mul .f64 4661225614328463360 y = some p ∧ M.rnd p = some q ∧ floatToIntVal .f64 q .i64 = some (M.tb m) := by
  have h := val_at m h
  unfold M.val at h
  simp only [Option.bind_eq_bind, Option.bind_eq_some_iff] at h
  obtain ⟨a, ha, x, hx, y, hy, p, hp, q, hq, hv⟩ := h
  exact ⟨a, x, y, p, q, ha, hx, hy, hp, hq, hv⟩
set_option maxRecDepth 20000 in
set_option maxHeartbeats 2000000 in
theorem impl_sine (d : Int) (w : World) (hT : Tables w) :
    Calls Tryd.prog 76 #[.int .i64 d] w fun e w' => e = .returned (.int .i64 (M.sine d)) ∧ w = w' := by
  replace hT := Lib.hid hT
  obtain ⟨n, hd⟩ : ∃ n, d % 360 = n := ⟨_, rfl⟩
  have n0 : 0 ≤ n := by omega
  have n1 : n < 360 := by omega
  by_cases c1 : n < 180
  · by_cases c2 : n ≤ 90
    · obtain ⟨m, hm⟩ := Int.eq_ofNat_of_zero_le n0
      subst hm
      obtain ⟨a, x, y, p, q, ha, hx, hy, hp, hq, hv⟩ := val_parts m (by omega)
      have k1 : ∀ w, (binOp .mul 68 (.float .f64 (floatOfInt .f64 (m : Int))) (.float .f64 4614256656552045848)).run Tryd.prog w = .ok (.float .f64 a) w := fun w => run_float_arith w .mul 68 .f64 _ _ _ ha
      have k2 : ∀ w, (binOp .quo 68 (.float .f64 a) (.float .f64 4640537203540230144)).run Tryd.prog w = .ok (.float .f64 x) w := fun w => run_float_arith w .quo 68 .f64 _ _ _ hx
      have k3 : ∀ w, (binOp .mul 68 (.float .f64 4661225614328463360) (.float .f64 y)).run Tryd.prog w = .ok (.float .f64 p) w := fun w => run_float_arith w .mul 68 .f64 _ _ _ hp
      have k4 : ∀ w, (convert 68 3 (.float .f64 q)).run Tryd.prog w = .ok (.int .i64 (M.tb m)) w := fun w => run_convert_float_int w 68 3 .f64 .i64 q _ (by rw [Tryd.underlying68]; rfl) Tryd.underlying3 hv
      obtain ⟨b1, b2⟩ := tb_bd m
      have hfin : M.sine d = M.tb m := by unfold M.sine; rw [hd]; exact sn_a rfl c2
      replace hfin := Lib.hid hfin
      clear ha hx hp hv
      replace hy := Lib.hid hy
      replace hq := Lib.hid hq
      go_enter Tryd.func76, Tryd.ntmps76
      go_wp2_with (first | (go_at_call 46; refine (impl_deg _ _).mono ?_; rintro e w' ⟨rfl, rfl⟩; rw [hd]) | (go_at_call 80; refine (math_sin x y _ hT.out hy.out).mono ?_; rintro e w' ⟨rfl, rfl⟩) | (go_at_call 79; refine (math_round p q _ hq.out).mono ?_; rintro e w' ⟨rfl, rfl⟩))
      go_ret
      exact ⟨ret_int (by rw [hfin.out]), rfl⟩
    · obtain ⟨m, hm⟩ := Int.eq_ofNat_of_zero_le (show 0 ≤ 180 - n by omega)
      obtain ⟨a, x, y, p, q, ha, hx, hy, hp, hq, hv⟩ := val_parts m (by omega)
      have k1 : ∀ w, (binOp .mul 68 (.float .f64 (floatOfInt .f64 (m : Int))) (.float .f64 4614256656552045848)).run Tryd.prog w = .ok (.float .f64 a) w := fun w => run_float_arith w .mul 68 .f64 _ _ _ ha
      have k2 : ∀ w, (binOp .quo 68 (.float .f64 a) (.float .f64 4640537203540230144)).run Tryd.prog w = .ok (.float .f64 x) w := fun w => run_float_arith w .quo 68 .f64 _ _ _ hx
      have k3 : ∀ w, (binOp .mul 68 (.float .f64 4661225614328463360) (.float .f64 y)).run Tryd.prog w = .ok (.float .f64 p) w := fun w => run_float_arith w .mul 68 .f64 _ _ _ hp
      have k4 : ∀ w, (convert 68 3 (.float .f64 q)).run Tryd.prog w = .ok (.int .i64 (M.tb m)) w := fun w => run_convert_float_int w 68 3 .f64 .i64 q _ (by rw [Tryd.underlying68]; rfl) Tryd.underlying3 hv
      obtain ⟨b1, b2⟩ := tb_bd m
      have hfin : M.sine d = M.tb m := by unfold M.sine; rw [hd]; exact sn_b (by omega) (by omega) hm
      replace hfin := Lib.hid hfin
      clear ha hx hp hv
      replace hy := Lib.hid hy
      replace hq := Lib.hid hq
      go_enter Tryd.func76, Tryd.ntmps76
      go_wp2_with (first | (go_at_call 46; refine (impl_deg _ _).mono ?_; rintro e w' ⟨rfl, rfl⟩; rw [hd]) | (go_at_call 80; refine (math_sin x y _ hT.out hy.out).mono ?_; rintro e w' ⟨rfl, rfl⟩) | (go_at_call 79; refine (math_round p q _ hq.out).mono ?_; rintro e w' ⟨rfl, rfl⟩))
      go_ret
      exact ⟨ret_int (by rw [hfin.out]), rfl⟩
  · by_cases c2 : n - 180 ≤ 90
    · obtain ⟨m, hm⟩ := Int.eq_ofNat_of_zero_le (show 0 ≤ n - 180 by omega)
      obtain ⟨a, x, y, p, q, ha, hx, hy, hp, hq, hv⟩ := val_parts m (by omega)
      have k1 : ∀ w, (binOp .mul 68 (.float .f64 (floatOfInt .f64 (m : Int))) (.float .f64 4614256656552045848)).run Tryd.prog w = .ok (.float .f64 a) w := fun w => run_float_arith w .mul 68 .f64 _ _ _ ha
      have k2 : ∀ w, (binOp .quo 68 (.float .f64 a) (.float .f64 4640537203540230144)).run Tryd.prog w = .ok (.float .f64 x) w := fun w => run_float_arith w .quo 68 .f64 _ _ _ hx
      have k3 : ∀ w, (binOp .mul 68 (.float .f64 4661225614328463360) (.float .f64 y)).run Tryd.prog w = .ok (.float .f64 p) w := fun w => run_float_arith w .mul 68 .f64 _ _ _ hp
      have k4 : ∀ w, (convert 68 3 (.float .f64 q)).run Tryd.prog w = .ok (.int .i64 (M.tb m)) w := fun w => run_convert_float_int w 68 3 .f64 .i64 q _ (by rw [Tryd.underlying68]; rfl) Tryd.underlying3 hv
      obtain ⟨b1, b2⟩ := tb_bd m
      have hfin : M.sine d = - M.tb m := by unfold M.sine; rw [hd]; exact sn_c (by omega) (by omega) hm
      replace hfin := Lib.hid hfin
      clear ha hx hp hv
      replace hy := Lib.hid hy
      replace hq := Lib.hid hq
      go_enter Tryd.func76, Tryd.ntmps76
      go_wp2_with (first | (go_at_call 46; refine (impl_deg _ _).mono ?_; rintro e w' ⟨rfl, rfl⟩; rw [hd]) | (go_at_call 80; refine (math_sin x y _ hT.out hy.out).mono ?_; rintro e w' ⟨rfl, rfl⟩) | (go_at_call 79; refine (math_round p q _ hq.out).mono ?_; rintro e w' ⟨rfl, rfl⟩))
      go_ret
      exact ⟨ret_int (by rw [hfin.out]), rfl⟩
    · obtain ⟨m, hm⟩ := Int.eq_ofNat_of_zero_le (show 0 ≤ 180 - (n - 180) by omega)
      obtain ⟨a, x, y, p, q, ha, hx, hy, hp, hq, hv⟩ := val_parts m (by omega)
      have k1 : ∀ w, (binOp .mul 68 (.float .f64 (floatOfInt .f64 (m : Int))) (.float .f64 4614256656552045848)).run Tryd.prog w = .ok (.float .f64 a) w := fun w => run_float_arith w .mul 68 .f64 _ _ _ ha
      have k2 : ∀ w, (binOp .quo 68 (.float .f64 a) (.float .f64 4640537203540230144)).run Tryd.prog w = .ok (.float .f64 x) w := fun w => run_float_arith w .quo 68 .f64 _ _ _ hx
      have k3 : ∀ w, (binOp .mul 68 (.float .f64 4661225614328463360) (.float .f64 y)).run Tryd.prog w = .ok (.float .f64 p) w := fun w => run_float_arith w .mul 68 .f64 _ _ _ hp
      have k4 : ∀ w, (convert 68 3 (.float .f64 q)).run Tryd.prog w = .ok (.int .i64 (M.tb m)) w := fun w => run_convert_float_int w 68 3 .f64 .i64 q _ (by rw [Tryd.underlying68]; rfl) Tryd.underlying3 hv
      obtain ⟨b1, b2⟩ := tb_bd m
      have hfin : M.sine d = - M.tb m := by unfold M.sine; rw [hd]; exact sn_d (by omega) (by omega) hm
      replace hfin := Lib.hid hfin
      clear ha hx hp hv
      replace hy := Lib.hid hy
      replace hq := Lib.hid hq
      go_enter Tryd.func76, Tryd.ntmps76
      go_wp2_with (first | (go_at_call 46; refine (impl_deg _ _).mono ?_; rintro e w' ⟨rfl, rfl⟩; rw [hd]) | (go_at_call 80; refine (math_sin x y _ hT.out hy.out).mono ?_; rintro e w' ⟨rfl, rfl⟩) | (go_at_call 79; refine (math_round p q _ hq.out).mono ?_; rintro e w' ⟨rfl, rfl⟩))
      go_ret
      exact ⟨ret_int (by rw [hfin.out]), rfl⟩
end Go.Proofs.YtmainffjekjlnaaDoor
