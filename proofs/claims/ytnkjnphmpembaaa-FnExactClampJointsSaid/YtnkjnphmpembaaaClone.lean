/- Contract of slices.Clone. -/
import Derived.Test.YtnkjnphmpembaaaJoints
namespace Go.Proofs.Ytnkjnphmpembaaa
open Go.ChangeShapes Go.WideShapes Go.ChangeAt Go.RowKit
set_option linter.unusedVariables false
theorem row_news {w w' : World} {ad : Addr} {l : List Int} (h : Row w w.heap.size (some ad) l) (hb : Below w.heap.size w w') : ∀ j u, (l.map (Value.int .i64))[j]? = some u → w'.cell? (ad.add j) = some u := by
  intro j u hu
  have hj : j < l.length := by simpa using (List.getElem?_eq_some_iff.1 hu).1
  obtain ⟨b, o, rfl⟩ : ∃ b o, ad = ⟨b, o, none⟩ := by
    obtain ⟨b, o, e, _⟩ := h.at (by intro e; rw [e] at hj; simp at hj)
    exact ⟨b, o, by injection e⟩
  have e2 : (⟨b, o, none⟩ : Addr).add j = ⟨b, o + j, none⟩ := by (by_cases hj0 : j = 0 <;> simp [Addr.add, hj0])
  rw [e2, h.cell hb hj, ← hu]
  simp [hj]
theorem int_one (l : List Int) : ∀ u ∈ l.map (Value.int .i64), u.oneCell' = true := by
  intro u hu
  obtain ⟨x, _, rfl⟩ := List.mem_map.1 hu
  rfl
/-- the addressless slice holds nothing -/
theorem Row.none_nil {w : World} {B : Nat} {l : List Int} (h : Row w B none l) : l = [] := by
  rcases h with h | ⟨b, o, e, _⟩
  · exact h
  · cases e
set_option maxHeartbeats 1000000 in
theorem clone_ints (a : Option Addr) (n c : Nat) (l : List Int) (w : World) (hl : l.length = n) (hm : n ≤ 1000000000) (hr : Row w w.heap.size a l) :
    Calls Try.prog 49 #[.slice a n c] w (IntsOut w l) := by
  obtain ⟨i0, hi, hz0, hz1, hz2⟩ := info_parts infoInt
  have q22 : ∀ (w : World) (a : Option Addr) (n c n' c' : Nat), (binOp .eql 23 (.slice a n c) (.slice none n' c')).run Try.prog w = .ok (.bool a.isNone) w := fun w a n c n' c' => Lib.run_eql_slice_nil w _ _ a n c n' c' Try.underlying23
  cases a with
  | none =>
    have := hr.none_nil
    subst this
    obtain rfl : n = 0 := by simpa using hl.symm
    go_enter Try.func49, Try.ntmps49
    go_wp2_with fail
    go_ret
    exact ⟨_, rfl, Owns.nil _ _, Below.refl _ _⟩
  | some ad =>
    have hmade := Lib.hid (Owns.made (w := w) (Nat.le_refl _))
    have hnews := Lib.hid (row_news hr (bel_new w (.cells #[] 3)))
    replace hl := Lib.hid hl
    go_enter Try.func49, Try.ntmps49
    go_wp2_with (at_builtin; refine wpList_append_own _ rfl _ _ 23 rfl w.heap.size 3 i0 (.int .i64 0) 1 8 Try.underlying23 hi hz0 hz1 hz2 rfl (by decide) _ _ _ rfl hmade.out ad n c (l.map (Value.int .i64)) rfl (by rw [List.length_map, hl.out]; omega) hnews.out (int_one l) ?c3 ?c4 ?c5 ?_)
    case c3 => unfold maxLen; simp; omega
    case c4 => simp; omega
    case c5 => simp
    intro v' w1 hown' hgrow _
    have ho := Lib.hid (show Owns w1 w.heap.size v' l from by unfold Owns; rw [hl.out]; simpa using hown')
    have hb := Lib.hid (((Below.refl w.heap.size w).alloc (Nat.le_refl _) (.cells #[] 3)).grown hgrow (by simp) (fun k hk => by simp [Value.ownBlock] at hk; omega))
    clear hown' hgrow hnews hmade
    go_wp2
    go_ret
    exact ⟨_, rfl, ho.out, hb.out⟩
end Go.Proofs.Ytnkjnphmpembaaa
