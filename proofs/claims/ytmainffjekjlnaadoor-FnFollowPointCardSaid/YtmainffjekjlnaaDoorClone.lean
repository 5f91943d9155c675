/- Contract of slices.Clone. -/
import Derived.Test.YtmainffjekjlnaaDoorJoints
namespace Go.Proofs.YtmainffjekjlnaaDoor
open Go.ChangeShapes Go.WideShapes Go.ChangeAt Go.RowKit
set_option linter.unusedVariables false
theorem row_news {w w' : World} {ad : Addr} {l : List Int} (h : Row w w.heap.size (some ad) l) (hb : Below w.heap.size w w') : ∀ j u, (l.map (Value.int .i64))[j]? = some u → w'.cell? (ad.add j) = some u := by
  intro j u hu
  have hj : j < l.length := by simpa using (List.getElem?_eq_some_iff.1 hu).1
  obtain ⟨b, o, rfl⟩ : ∃ b o, ad = ⟨b, o, none⟩ := by
    obtain ⟨b, o, e, _⟩ := h.at (by intro e; rw [e] at hj; simp at hj)
    exact ⟨b, o, by injection e⟩
  have e2 : (⟨b, o, none⟩ : Addr).add j = ⟨b, o + j, none⟩ := by (by_cases hj0 : j = 0 <;> simp [Addr.add, hj0])
  rw [e2, h.cell hb hj, ← hu]
  simp [hj]
theorem int_one (l : List Int) : ∀ u ∈ l.map (Value.int .i64), u.oneCell' = true := by
  intro u hu
  obtain ⟨x, _, rfl⟩ := List.mem_map.1 hu
  rfl
/-- the addressless slice holds nothing -/
theorem Row.none_nil {w : World} {B : Nat} {l : List Int} (h : Row w B none l) : l = [] := by
  rcases h with h | ⟨b, o, e, _⟩
  · exact h
  · cases e
theorem Owns.pushed {w0 w w1 : World} {B : Nat} {v v' : Value} {l : List Int} {x : Int} {o : Obj} (h : Owns w B v l) (hb : Below B w0 w) (hs : B ≤ w.heap.size)
    (hown : w1.ownsRow B 3 1 v' (l.length + 1) (l.map (Value.int .i64) ++ [.int .i64 x])) (hg : (w.alloc o).grownBy w1 v.ownBlock) : Owns w1 B v' (l ++ [x]) ∧ Below B w0 w1 := by
  refine ⟨by unfold Owns; simpa using hown, (hb.alloc hs o).grown hg (by simp; omega) (fun k hk => (World.ownsRow.lt h k hk).1)⟩
theorem one_new (w : World) (x : Int) (t : TypeId) : ∀ j u, [Value.int .i64 x][j]? = some u → (w.alloc (.cells #[.int .i64 x] t)).cell? ((⟨w.heap.size, 0, none⟩ : Addr).add j) = some u := by
  intro j u hj
  match j, hj with
  | 0, hj =>
    simp at hj; subst hj
    have hh : (w.alloc (.cells #[.int .i64 x] t)).heap[w.heap.size]? = some (.cells #[.int .i64 x] t) := by
      show (w.heap.push _)[w.heap.size]? = _
      rw [Array.getElem?_push, if_pos rfl]
    show World.cell? _ ⟨w.heap.size, 0, none⟩ = _
    unfold World.cell?; rw [hh]; rfl
theorem one_one (x : Int) : ∀ u ∈ [Value.int .i64 x], u.oneCell' = true := by intro u hu; simp at hu; subst hu; rfl
theorem one_newd (w : World) (x : Int) (t : TypeId) : ∀ j u, [Value.int .i64 x][j]? = some u → (w.alloc (.cells #[.int .i64 x] t)).drew.cell? ((⟨w.heap.size, 0, none⟩ : Addr).add j) = some u := one_new w x t
theorem Row.lt {w : World} {B b o : Nat} {l : List Int} (h : Row w B (some ⟨b, o, none⟩) l) (hl : 0 < l.length) : b < B := by
  obtain ⟨b', o', e, hlt, _⟩ := h.at (by intro e; rw [e] at hl; simp at hl)
  injection e with e
  injection e with e1 e2
  omega
/-- five cells that lie below a row that grows are kept -/
theorem keep5 {w w9 : World} {B a1 a2 a3 a4 i1 i2 i3 i4 i5 : Nat} {v x1 x2 x3 x4 x5 : Value} {l : List Int} {o : Obj}
    (h : (((w.cell? ⟨a1, i1, none⟩ = some x1 ∧ w.cell? ⟨a1, i2, none⟩ = some x2) ∧ w.cell? ⟨a2, i3, none⟩ = some x3) ∧ w.cell? ⟨a3, i4, none⟩ = some x4) ∧ w.cell? ⟨a4, i5, none⟩ = some x5)
    (ho : Owns w B v l) (hg : (w.alloc o).grownBy w9 v.ownBlock) (h1 : a1 < B) (h2 : a2 < B) (h3 : a3 < B) (h4 : a4 < B) :
    (((w9.cell? ⟨a1, i1, none⟩ = some x1 ∧ w9.cell? ⟨a1, i2, none⟩ = some x2) ∧ w9.cell? ⟨a2, i3, none⟩ = some x3) ∧ w9.cell? ⟨a3, i4, none⟩ = some x4) ∧ w9.cell? ⟨a4, i5, none⟩ = some x5 := by
  have key : ∀ (b i : Nat) (u : Value), b < B → w.cell? ⟨b, i, none⟩ = some u → w9.cell? ⟨b, i, none⟩ = some u := by
    intro b i u hb hc
    have hlt := World.block_lt_of_cell? w _ hc
    refine hg.cell (a := ⟨b, i, none⟩) ?_ (by intro e; have := (ho.lt e.symm).1; simp at this; omega)
    rw [World.cell?_of_block (w := w) (Below.heap_alloc w o b hlt)]; exact hc
  obtain ⟨⟨⟨⟨c1, c2⟩, c3⟩, c4⟩, c5⟩ := h
  exact ⟨⟨⟨⟨key _ _ _ h1 c1, key _ _ _ h1 c2⟩, key _ _ _ h2 c3⟩, key _ _ _ h3 c4⟩, key _ _ _ h4 c5⟩
set_option maxHeartbeats 1000000 in
theorem clone_ints (a : Option Addr) (n c : Nat) (l : List Int) (w : World) (hl : l.length = n) (hm : n ≤ 1000000000) (hr : Row w w.heap.size a l) :
    Calls Tryd.prog 55 #[.slice a n c] w (IntsOut w l) := by
  obtain ⟨i0, hi, hz0, hz1, hz2⟩ := info_parts infoInt
  have q22 : ∀ (w : World) (a : Option Addr) (n c n' c' : Nat), (binOp .eql 23 (.slice a n c) (.slice none n' c')).run Tryd.prog w = .ok (.bool a.isNone) w := fun w a n c n' c' => Lib.run_eql_slice_nil w _ _ a n c n' c' Tryd.underlying23
  cases a with
  | none =>
    have := hr.none_nil
    subst this
    obtain rfl : n = 0 := by simpa using hl.symm
    go_enter Tryd.func55, Tryd.ntmps55
    go_wp2_with fail
    go_ret
    exact ⟨_, rfl, Owns.nil _ _, Below.refl _ _⟩
  | some ad =>
    have hmade := Lib.hid (Owns.made (w := w) (Nat.le_refl _))
    have hnews := Lib.hid (row_news hr (bel_new w (.cells #[] 3)))
    replace hl := Lib.hid hl
    go_enter Tryd.func55, Tryd.ntmps55
    go_wp2_with (at_builtin; refine wpList_append_own _ rfl _ _ 23 rfl w.heap.size 3 i0 (.int .i64 0) 1 8 Tryd.underlying23 hi hz0 hz1 hz2 rfl (by decide) _ _ _ rfl hmade.out ad n c (l.map (Value.int .i64)) rfl (by rw [List.length_map, hl.out]; omega) hnews.out (int_one l) ?c3 ?c4 ?c5 ?_)
    case c3 => unfold maxLen; simp; omega
    case c4 => simp; omega
    case c5 => simp
    intro v' w1 hown' hgrow _
    have ho := Lib.hid (show Owns w1 w.heap.size v' l from by unfold Owns; rw [hl.out]; simpa using hown')
    have hb := Lib.hid (((Below.refl w.heap.size w).alloc (Nat.le_refl _) (.cells #[] 3)).grown hgrow (by simp) (fun k hk => by simp [Value.ownBlock] at hk; omega))
    clear hown' hgrow hnews hmade
    go_wp2
    go_ret
    exact ⟨_, rfl, ho.out, hb.out⟩
end Go.Proofs.YtmainffjekjlnaaDoor
