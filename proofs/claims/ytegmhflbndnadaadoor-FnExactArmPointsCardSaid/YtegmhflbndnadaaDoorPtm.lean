/- Contracts of the marks on slices of points. -/
import Derived.Test.YtegmhflbndnadaaDoorPts
namespace Go.Proofs.YtegmhflbndnadaaDoor
open Go.ChangeShapes Go.WideShapes Go.ChangeAt Go.RowKit
set_option linter.unusedVariables false
/-- n points from the numbers k on -/
def M.mkp (k : Int) (n : Nat) : List (Int × Int) := (List.range n).map fun (i : Nat) => (k + 2 * (i : Int), k + 2 * (i : Int) + 1)
theorem M.mkp_len (k : Int) (n : Nat) : (M.mkp k n).length = n := by simp [M.mkp]
theorem M.mkp_at {k : Int} {n i : Nat} (h : i < n) : (M.mkp k n).getD i (0, 0) = (k + 2 * (i : Int), k + 2 * (i : Int) + 1) := by
  rw [List.getD_eq_getElem?_getD, List.getElem?_eq_getElem (by rw [M.mkp_len]; exact h)]
  simp [M.mkp]
theorem mkp_set {l : List (Int × Int)} {k0 : Int} {k : Nat} (hk : k < l.length) : (M.mkp k0 k ++ l.drop k).set k (k0 + 2 * (k : Int), k0 + 2 * (k : Int) + 1) = M.mkp k0 (k + 1) ++ l.drop (k + 1) := by
  rw [List.set_append_right _ _ (by rw [M.mkp_len]; exact Nat.le_refl _), M.mkp_len, Nat.sub_self]
  rw [List.drop_eq_getElem_cons hk, List.set_cons_zero]
  unfold M.mkp
  rw [List.range_succ, List.map_append, List.append_assoc]
  rfl
set_option maxHeartbeats 1000000 in
theorem mark_pts (a : Option Addr) (cap : Nat) (l : List (Int × Int)) (k0 : Int) (n B : Nat) (w : World) (hn : l.length = n) (hm : n ≤ 1000000000) (h0 : 0 ≤ k0) (h1 : k0 ≤ 1000000000000) (hown : OwnsP w B (.slice a n cap) l) :
    Calls Tryd.prog 27 #[.slice a n cap, .int .i64 k0] w fun e w' => e = .returned (.int .i64 (k0 + 2 * n)) ∧ OwnsP w' B (.slice a n cap) (M.mkp k0 n) ∧ Below B w w' := by
  replace hn := Lib.hid hn
  go_enter Tryd.func27, Tryd.ntmps27
  go_wp2
  go_loopw [1, 5] (fun q i wr => ∃ k : Nat, q = .int .i64 (k0 + 2 * (k : Int)) ∧ i = .int .i64 k ∧ k ≤ n ∧ OwnsP wr B (.slice a n cap) (M.mkp k0 k ++ l.drop k) ∧ Below B w wr) (fun _ i _ => n - (intOf i).toNat)
  case atStart => exact ⟨0, by simp, rfl, Nat.zero_le _, by simpa [M.mkp] using hown, Below.refl _ _⟩
  case round =>
    obtain ⟨k, rfl, rfl, hk, ho, hb⟩ := hrel
    clear hown
    by_cases hlt : k < n
    · have hlen : (M.mkp k0 k ++ l.drop k).length = n := by rw [List.length_append, M.mkp_len, List.length_drop, hn.out]; omega
      obtain ⟨g, rfl⟩ : ∃ g, a = some ⟨g, 0, none⟩ := by
        have h2 := ho.2
        rcases h2 with ⟨h2, h3⟩ | ⟨g, cap', cur, h2, _⟩
        · rw [hlen] at h3; omega
        · injection h2 with h2; exact ⟨g, h2⟩
      obtain ⟨⟨q1, q2⟩, ⟨q3, q4⟩, q5, q6⟩ := ho.cellAt hlen k hlt
      generalize ((M.mkp k0 k ++ l.drop k).getD k (0, 0)).1 = x at *
      generalize ((M.mkp k0 k ++ l.drop k).getD k (0, 0)).2 = y at *
      have hst := Lib.hid (ho.put hlen k hlt (k0 + 2 * (k : Int)) (k0 + 2 * (k : Int) + 1))
      clear ho hlen
      go_wp2
      go_roundw
      case rel => exact ⟨k + 1, by go_num, by go_num, by omega, by rw [← mkp_set (by rw [hn.out]; exact hlt)]; exact hst.out, (hb.setCell q5 _).setCell q5 _⟩
      case measure => simp [intOf]; omega
    · have hkn : k = n := by omega
      subst hkn
      have hfin : OwnsP wr B (.slice a k cap) (M.mkp k0 k) := by
        rw [List.drop_of_length_le (by rw [hn.out]; exact Nat.le_refl _), List.append_nil] at ho
        exact ho
      replace hfin := Lib.hid hfin
      clear ho
      go_wp2
      go_ret
      exact ⟨rfl, hfin.out, hb⟩
set_option maxHeartbeats 1000000 in
theorem held_pts (a : Option Addr) (cap : Nat) (k0 : Int) (n : Nat) (w : World) (hm : n ≤ 1000000000) (h0 : 0 ≤ k0) (h1 : k0 ≤ 1000000000000) (hrow : RowP w w.heap.size a (M.mkp k0 n)) :
    Calls Tryd.prog 28 #[.slice a n cap, .int .i64 k0] w fun e w' => e = .returned (.int .i64 (k0 + 2 * n)) ∧ w = w' := by
  go_enter Tryd.func28, Tryd.ntmps28
  go_wp2
  go_loop [1, 5] (fun q i => ∃ k : Nat, q = .int .i64 (k0 + 2 * (k : Int)) ∧ i = .int .i64 k ∧ k ≤ n) (fun _ i => n - (intOf i).toNat)
  case atStart => exact ⟨0, by simp, rfl, Nat.zero_le _⟩
  case round =>
    obtain ⟨k, rfl, rfl, hk⟩ := hrel
    by_cases hlt : k < n
    · obtain ⟨b, rfl, hbb, hc⟩ := hrow.at (by intro e; have := M.mkp_len k0 n; rw [e] at this; simp at this; omega)
      obtain ⟨x1, x2⟩ := hc k (by rw [M.mkp_len]; exact hlt)
      rw [M.mkp_at hlt] at x1 x2
      clear hc hrow
      go_wp2
      go_round
      case rel => exact ⟨k + 1, by go_num, by go_num, by omega⟩
      case measure => simp [intOf]; omega
    · have hkn : k = n := by omega
      subst hkn
      go_wp2
      go_ret
      exact ⟨rfl, rfl⟩
end Go.Proofs.YtegmhflbndnadaaDoor
