/- Contracts of the test of a motion profile, in both packages. -/
import Derived.Test.YtokbppalkbpfaaaMpMath
import Derived.Test.YtokbppalkbpfaaaOwn
namespace Go.Proofs.Ytokbppalkbpfaaa
open Go.ChangeShapes Go.WideShapes Go.ChangeAt Go.RowKit
set_option linter.unusedVariables false
/-- after k elements the last one was b -/
def PvRel (l : List Int) (t r : Int) (k : Nat) (b : Int) : Prop := (0 ≤ b ∧ b ≤ t) ∧ M.pv t r 0 l = M.pv t r b (l.drop k)
theorem PvRel.first {l : List Int} {t r : Int} (h : 1 ≤ t) : PvRel l t r 0 0 := ⟨⟨Int.le_refl _, by omega⟩, rfl⟩
theorem PvRel.cons {l : List Int} {t r b x : Int} {k : Nat} (h : PvRel l t r k b) (hk : k < l.length) (hx : x = l.getD k 0) : M.pv t r 0 l = (decide ((1 ≤ x ∧ x ≤ t) ∧ (x ≤ b + r ∧ b - r ≤ x)) && M.pv t r x (l.drop (k + 1))) := by
  rw [h.2, List.drop_eq_getElem_cons hk]
  rw [List.getD_eq_getElem?_getD, List.getElem?_eq_getElem hk] at hx
  simp only [Option.getD_some] at hx
  rw [hx]; rfl
theorem PvRel.step {l : List Int} {t r b x : Int} {k : Nat} (h : PvRel l t r k b) (hk : k < l.length) (hx : x = l.getD k 0) (h1 : (1 ≤ x ∧ x ≤ t) ∧ (x ≤ b + r ∧ b - r ≤ x)) : PvRel l t r (k + 1) x :=
  ⟨⟨by omega, by omega⟩, by rw [h.cons hk hx, decide_eq_true h1, Bool.true_and]⟩
theorem PvRel.stop {l : List Int} {t r b x : Int} {k : Nat} (h : PvRel l t r k b) (hk : k < l.length) (hx : x = l.getD k 0) (h1 : ¬ ((1 ≤ x ∧ x ≤ t) ∧ (x ≤ b + r ∧ b - r ≤ x))) : M.pv t r 0 l = false := by
  rw [h.cons hk hx, decide_eq_false h1, Bool.false_and]
theorem PvRel.last {l : List Int} {t r b : Int} {k : Nat} (h : PvRel l t r k b) (hk : l.length ≤ k) : M.pv t r 0 l = decide (b ≤ r) := by
  rw [h.2, List.drop_of_length_le hk]; rfl
set_option maxHeartbeats 2000000 in
theorem spec_pvalid (a : Option Addr) (n cap : Nat) (l : List Int) (t r : Int) (w : World) (hn : l.length = n) (hm : n ≤ 1000000000) (hrow : Row w w.heap.size a l) :
    Calls Try.prog 18 #[.slice a n cap, .int .i64 t, .int .i64 r] w fun e w' => e = .returned (.bool (M.pok l t r)) ∧ w = w' := by
  by_cases h : M.okLim t r
  · by_cases hlong : n ≤ 5000
    · have e0 := Lib.hid (M.pok_yes h (by omega : l.length ≤ 5000))
      obtain ⟨⟨a3, a4⟩, ⟨a5, a6⟩⟩ := h
      have hf := Lib.hid (PvRel.first (l := l) (r := r) a3)
      replace hn := Lib.hid hn
      go_enter Try.func18, Try.ntmps18
      go_wp2_with (go_at_call 35; refine (l1In_yes _ _ _ _ (by omega) (by omega)).mono ?_; rintro e w' ⟨rfl, rfl⟩)
      go_loop [7, 8] (fun bv i => ∃ (b : Int) (k : Nat), bv = .int .i64 b ∧ i = .int .i64 k ∧ k ≤ n ∧ PvRel l t r k b) (fun _ i => n - (intOf i).toNat)
      case atStart => exact ⟨0, 0, rfl, rfl, Nat.zero_le _, hf.out⟩
      case round =>
        obtain ⟨b, k, rfl, rfl, hk, hrel⟩ := hrel
        obtain ⟨⟨b1, b2⟩, _⟩ := id hrel
        by_cases hlt : k < n
        · obtain ⟨bb, o, rfl, hbb, hc⟩ := hrow.at (by intro e; have := hn.out; rw [e] at this; simp at this; omega)
          have hx := hc k (by rw [hn.out]; exact hlt)
          obtain ⟨x, ex⟩ : ∃ x, x = l.getD k 0 := ⟨_, rfl⟩
          rw [← ex] at hx
          clear hc hrow
          by_cases hin : 1 ≤ x ∧ x ≤ t
          · obtain ⟨i1, i2⟩ := hin
            by_cases hup : b + r < x
            · have hs := Lib.hid (hrel.stop (by rw [hn.out]; exact hlt) ex (by omega))
              clear hrel ex
              go_wp2_with (go_at_call 35; refine (l1In_yes _ _ _ _ (by omega) (by omega)).mono ?_; rintro e w' ⟨rfl, rfl⟩)
              go_ret
              exact ⟨ret_bool (by rw [e0.out, hs.out]), rfl⟩
            · by_cases hdn : x < b - r
              · have hs := Lib.hid (hrel.stop (by rw [hn.out]; exact hlt) ex (by omega))
                clear hrel ex
                go_wp2_with (go_at_call 35; refine (l1In_yes _ _ _ _ (by omega) (by omega)).mono ?_; rintro e w' ⟨rfl, rfl⟩)
                go_ret
                exact ⟨ret_bool (by rw [e0.out, hs.out]), rfl⟩
              · have hs := Lib.hid (hrel.step (by rw [hn.out]; exact hlt) ex ⟨⟨i1, i2⟩, ⟨by omega, by omega⟩⟩)
                clear hrel ex
                go_wp2_with (go_at_call 35; refine (l1In_yes _ _ _ _ (by omega) (by omega)).mono ?_; rintro e w' ⟨rfl, rfl⟩)
                go_round
                case rel => exact ⟨x, k + 1, rfl, by go_num, by omega, hs.out⟩
                case measure => simp [intOf]; omega
          · have hs := Lib.hid (hrel.stop (by rw [hn.out]; exact hlt) ex (by omega))
            have ho : x < 1 ∨ t < x := by omega
            clear hrel ex hin
            go_wp2_with (go_at_call 35; refine (l1In_no _ _ _ _ ho).mono ?_; rintro e w' ⟨rfl, rfl⟩)
            go_ret
            exact ⟨ret_bool (by rw [e0.out, hs.out]), rfl⟩
        · have hs := Lib.hid (hrel.last (by rw [hn.out]; omega))
          clear hrel
          go_wp2
          go_ret
          exact ⟨ret_bool (by rw [e0.out, hs.out]), rfl⟩
    · have e0 := Lib.hid (M.pok_long (t := t) (r := r) (by omega : 5000 < l.length))
      obtain ⟨⟨a3, a4⟩, ⟨a5, a6⟩⟩ := h
      have hl : (5000 : Int) < (n : Int) := by omega
      go_enter Try.func18, Try.ntmps18
      go_wp2_with (go_at_call 35; refine (l1In_yes _ _ _ _ (by omega) (by omega)).mono ?_; rintro e w' ⟨rfl, rfl⟩)
      go_ret
      exact ⟨ret_bool e0.out.symm, rfl⟩
  · have e0 := Lib.hid (M.pok_no (l := l) h)
    by_cases ht : 1 ≤ t ∧ t ≤ 200
    · have hr : r < 1 ∨ 50 < r := by unfold M.okLim at h; omega
      obtain ⟨a3, a4⟩ := ht
      clear h
      go_enter Try.func18, Try.ntmps18
      go_wp2_with fail
      refine (l1In_yes _ _ _ _ a3 a4).mono ?_
      rintro e w' ⟨rfl, rfl⟩
      go_wp2_with fail
      refine (l1In_no _ _ _ _ hr).mono ?_
      rintro e w' ⟨rfl, rfl⟩
      go_wp2_with fail
      go_ret
      exact ⟨ret_bool e0.out.symm, rfl⟩
    · have ht : t < 1 ∨ 200 < t := by omega
      clear h
      go_enter Try.func18, Try.ntmps18
      go_wp2_with fail
      refine (l1In_no _ _ _ _ ht).mono ?_
      rintro e w' ⟨rfl, rfl⟩
      go_wp2_with fail
      go_ret
      exact ⟨ret_bool e0.out.symm, rfl⟩
theorem in_max {x b t r : Int} (hb : 0 ≤ b ∧ b ≤ t) (hr : 1 ≤ r) : ((1 ≤ x ∧ x ≤ t) ∧ (x ≤ b + r ∧ b - r ≤ x)) ↔ (max 1 (b - r) ≤ x ∧ x ≤ min t (b + r)) := by omega
set_option maxHeartbeats 2000000 in
theorem impl_pvalid (a : Option Addr) (n cap : Nat) (l : List Int) (t r : Int) (w : World) (hn : l.length = n) (hm : n ≤ 1000000000) (hrow : Row w w.heap.size a l) :
    Calls Try.prog 20 #[.slice a n cap, .int .i64 t, .int .i64 r] w fun e w' => e = .returned (.bool (M.pok l t r)) ∧ w = w' := by
  by_cases h : M.okLim t r
  · have hlim := Lib.hid h
    by_cases hlong : n ≤ 5000
    · have e0 := Lib.hid (M.pok_yes h (by omega : l.length ≤ 5000))
      obtain ⟨⟨a3, a4⟩, ⟨a5, a6⟩⟩ := h
      have hf := Lib.hid (PvRel.first (l := l) (r := r) a3)
      replace hn := Lib.hid hn
      go_enter Try.func20, Try.ntmps20
      go_wp2_with (go_at_call 37; refine (limits_yes _ _ _ hlim.out).mono ?_; rintro e w' ⟨rfl, rfl⟩)
      go_loop [7, 9, 21] (fun bv _ i => ∃ (b : Int) (k : Nat), bv = .int .i64 b ∧ i = .int .i64 k ∧ k ≤ n ∧ PvRel l t r k b) (fun _ _ i => n - (intOf i).toNat)
      case atStart => exact ⟨0, 0, rfl, rfl, Nat.zero_le _, hf.out⟩
      case round =>
        obtain ⟨b, k, rfl, rfl, hk, hrel⟩ := hrel
        obtain ⟨⟨b1, b2⟩, _⟩ := id hrel
        by_cases hlt : k < n
        · obtain ⟨bb, o, rfl, hbb, hc⟩ := hrow.at (by intro e; have := hn.out; rw [e] at this; simp at this; omega)
          have hx := hc k (by rw [hn.out]; exact hlt)
          obtain ⟨x, ex⟩ : ∃ x, x = l.getD k 0 := ⟨_, rfl⟩
          rw [← ex] at hx
          clear hc hrow
          obtain ⟨lo, elo⟩ : ∃ lo, lo = max 1 (b - r) := ⟨_, rfl⟩
          obtain ⟨hi, ehi⟩ : ∃ hi, hi = min t (b + r) := ⟨_, rfl⟩
          by_cases hin : (1 ≤ x ∧ x ≤ t) ∧ (x ≤ b + r ∧ b - r ≤ x)
          · have hs := Lib.hid (hrel.step (by rw [hn.out]; exact hlt) ex hin)
            have hin2 := Lib.hid ((in_max ⟨b1, b2⟩ a5).1 hin)
            clear hrel ex hin elo ehi
            go_wp2_with (go_at_call 36; refine (within_yes _ _ _ _ (by have := hin2.out; omega) (by have := hin2.out; omega)).mono ?_; rintro e w' ⟨rfl, rfl⟩)
            go_round
            case rel => exact ⟨x, k + 1, rfl, by go_num, by omega, hs.out⟩
            case measure => simp [intOf]; omega
          · have hs := Lib.hid (hrel.stop (by rw [hn.out]; exact hlt) ex hin)
            have hin2 := Lib.hid (show x < max 1 (b - r) ∨ min t (b + r) < x by have := mt (in_max ⟨b1, b2⟩ a5).2 hin; omega)
            clear hrel ex hin elo ehi
            go_wp2_with (go_at_call 36; refine (within_no _ _ _ _ (by have h9 := hin2.out; omega)).mono ?_; rintro e w' ⟨rfl, rfl⟩)
            all_goals
              go_ret
              exact ⟨ret_bool (by rw [e0.out, hs.out]), rfl⟩
        · have hs := Lib.hid (hrel.last (by rw [hn.out]; omega))
          clear hrel
          go_wp2
          go_ret
          exact ⟨ret_bool (by rw [e0.out, hs.out]), rfl⟩
    · have e0 := Lib.hid (M.pok_long (t := t) (r := r) (by omega : 5000 < l.length))
      have hl : (5000 : Int) < (n : Int) := by omega
      clear h
      go_enter Try.func20, Try.ntmps20
      go_wp2_with (go_at_call 37; refine (limits_yes _ _ _ hlim.out).mono ?_; rintro e w' ⟨rfl, rfl⟩)
      go_ret
      exact ⟨ret_bool e0.out.symm, rfl⟩
  · have e0 := Lib.hid (M.pok_no (l := l) h)
    replace h := Lib.hid h
    go_enter Try.func20, Try.ntmps20
    go_wp2_with (go_at_call 37; refine (limits_no _ _ _ h.out).mono ?_; rintro e w' ⟨rfl, rfl⟩)
    go_ret
    exact ⟨ret_bool e0.out.symm, rfl⟩
end Go.Proofs.Ytokbppalkbpfaaa
