/- Rows of points: one that the call owns, one that is only read; the laws' helpers on them. -/
import Derived.Test.YtmainffjekjlnaaDoorPoint
import Derived.Deep.RegionHeld3
namespace Go.Proofs.YtmainffjekjlnaaDoor
open Go.ChangeShapes Go.WideShapes Go.ChangeAt Go.RowKit
set_option linter.unusedVariables false
theorem infoPt : (Tryd.prog.info? 27).map (fun i => (i.zero, i.size, i.bytes)) = some (some (.agg #[.int .i64 0, .int .i64 0]), 2, 16) := by kernel_rfl
/-- the cells of points -/
def ptCells (l : List (Int × Int)) : List Value := l.flatMap fun p => [.int .i64 p.1, .int .i64 p.2]
theorem ptCells_len (l : List (Int × Int)) : (ptCells l).length = l.length * 2 := by
  induction l with
  | nil => rfl
  | cons a l ih => unfold ptCells at ih ⊢; rw [List.flatMap_cons, List.length_append, ih, List.length_cons]; simp; omega
theorem ptCells_push (l : List (Int × Int)) (x y : Int) : ptCells (l ++ [(x, y)]) = ptCells l ++ [.int .i64 x, .int .i64 y] := by
  unfold ptCells; rw [List.flatMap_append]; rfl
theorem ptCells_at (l : List (Int × Int)) : ∀ i, i < l.length → (ptCells l)[i * 2]? = some (.int .i64 (l.getD i (0, 0)).1) ∧ (ptCells l)[i * 2 + 1]? = some (.int .i64 (l.getD i (0, 0)).2) := by
  induction l with
  | nil => intro i hi; simp at hi
  | cons a l ih =>
    intro i hi
    have e : ptCells (a :: l) = .int .i64 a.1 :: .int .i64 a.2 :: ptCells l := by unfold ptCells; rw [List.flatMap_cons]; rfl
    rw [e]
    cases i with
    | zero => exact ⟨rfl, rfl⟩
    | succ i =>
      have := ih i (by simp at hi; omega)
      have e1 : (i + 1) * 2 = i * 2 + 1 + 1 := by omega
      rw [e1]
      exact this
theorem ptCells_set (l : List (Int × Int)) : ∀ i x y, i < l.length → ((ptCells l).set (i * 2) (.int .i64 x)).set (i * 2 + 1) (.int .i64 y) = ptCells (l.set i (x, y)) := by
  induction l with
  | nil => intro i x y hi; simp at hi
  | cons a l ih =>
    intro i x y hi
    have e : ∀ (a : Int × Int) l, ptCells (a :: l) = .int .i64 a.1 :: .int .i64 a.2 :: ptCells l := fun a l => by unfold ptCells; rw [List.flatMap_cons]; rfl
    rw [e]
    cases i with
    | zero => rw [show (a :: l).set 0 (x, y) = (x, y) :: l from rfl, e]; rfl
    | succ i =>
      have := ih i x y (by simp at hi; omega)
      have e1 : (i + 1) * 2 = i * 2 + 1 + 1 := by omega
      rw [e1, show (a :: l).set (i + 1) (x, y) = a :: l.set i (x, y) from rfl, e, ← this]
      rfl
/-- a slice of points that the call owns, its blocks from B on -/
def OwnsP (w : World) (B : Nat) (v : Value) (l : List (Int × Int)) : Prop := w.ownsRow B 27 2 v l.length (ptCells l)
/-- a slice of points that can be read -/
def RowP (w : World) (B : Nat) (a : Option Addr) (l : List (Int × Int)) : Prop := l = [] ∨ ∃ b, a = some ⟨b, 0, none⟩ ∧ b < B ∧ ∀ i, i < l.length → w.cell? ⟨b, i * 2, none⟩ = some (.int .i64 (l.getD i (0, 0)).1) ∧ w.cell? ⟨b, i * 2 + 1, none⟩ = some (.int .i64 (l.getD i (0, 0)).2)
theorem RowP.below {w w' : World} {B : Nat} {a : Option Addr} {l : List (Int × Int)} (h : RowP w B a l) (hb : Below B w w') : RowP w' B a l := by
  rcases h with h | ⟨b, e, hlt, hc⟩
  · exact .inl h
  · exact .inr ⟨b, e, hlt, fun i hi => ⟨by rw [hb.cell (p := ⟨b, i * 2, none⟩) hlt]; exact (hc i hi).1, by rw [hb.cell (p := ⟨b, i * 2 + 1, none⟩) hlt]; exact (hc i hi).2⟩⟩
theorem RowP.mono {w : World} {B B' : Nat} {a : Option Addr} {l : List (Int × Int)} (h : RowP w B a l) (hb : B ≤ B') : RowP w B' a l := by
  rcases h with h | ⟨b, e, hlt, hc⟩
  · exact .inl h
  · exact .inr ⟨b, e, by omega, hc⟩
theorem RowP.at {w : World} {B : Nat} {a : Option Addr} {l : List (Int × Int)} (h : RowP w B a l) (hl : l ≠ []) : ∃ b, a = some ⟨b, 0, none⟩ ∧ b < B ∧ ∀ i, i < l.length → w.cell? ⟨b, i * 2, none⟩ = some (.int .i64 (l.getD i (0, 0)).1) ∧ w.cell? ⟨b, i * 2 + 1, none⟩ = some (.int .i64 (l.getD i (0, 0)).2) := by
  rcases h with h | h
  · exact absurd h hl
  · exact h
theorem OwnsP.nil (w : World) (B : Nat) : OwnsP w B (.slice none 0 0) [] := World.ownsRow_nil _ _ _ _
theorem OwnsP.made {w : World} {B : Nat} (hb : B ≤ w.heap.size) : OwnsP (w.alloc (.cells #[] 27)) B (.slice (some ⟨w.heap.size, 0, none⟩) 0 0) [] :=
  World.ownsRow_made w #[] 0 hb (Nat.zero_le _) rfl
theorem OwnsP.lt {w : World} {B g : Nat} {cap n : Nat} {l : List (Int × Int)} (h : OwnsP w B (.slice (some ⟨g, 0, none⟩) n cap) l) : B ≤ g ∧ g < w.heap.size := World.ownsRow.lt h g rfl
theorem OwnsP.old {w w' : World} {B : Nat} {v : Value} {l : List (Int × Int)} (h : OwnsP w B v l) (hb : Below w.heap.size w w') : OwnsP w' B v l := by
  obtain ⟨h1, h2⟩ := h
  refine ⟨h1, ?_⟩
  rcases h2 with h2 | ⟨g, cap, cur, e, hg, hh, r⟩
  · exact .inl h2
  · refine .inr ⟨g, cap, cur, e, hg, ?_, r⟩
    have hlt : g < w.heap.size := by
      rcases Nat.lt_or_ge g w.heap.size with h' | h'
      · exact h'
      · rw [Array.getElem?_eq_none (by omega)] at hh; cases hh
    rw [hb.block g hlt]; exact hh
theorem OwnsP.view {w : World} {B : Nat} {v : Value} {l : List (Int × Int)} (h : OwnsP w B v l) : ∃ a cap, v = .slice a l.length cap ∧ RowP w w.heap.size a l := by
  rcases h.2 with ⟨h2, h3⟩ | ⟨g, cap, cur, e, hg, hh, _⟩
  · have : l = [] := List.eq_nil_of_length_eq_zero h3
    subst this
    exact ⟨none, 0, h2, .inl rfl⟩
  · subst e
    refine ⟨_, cap, rfl, .inr ⟨g, rfl, ?_, fun i hi => ?_⟩⟩
    · rcases Nat.lt_or_ge g w.heap.size with h' | h'
      · exact h'
      · rw [Array.getElem?_eq_none (by omega)] at hh; cases hh
    · have a1 := World.ownsRow.cellAt h (i * 2) (by omega)
      have a2 := World.ownsRow.cellAt h (i * 2 + 1) (by omega)
      obtain ⟨b1, b2⟩ := ptCells_at l i hi
      exact ⟨a1.trans b1, a2.trans b2⟩
theorem OwnsP.row {w : World} {B n cap : Nat} {a : Option Addr} {l : List (Int × Int)} (h : OwnsP w B (.slice a n cap) l) : RowP w w.heap.size a l := by
  obtain ⟨a', cap', e, hr⟩ := h.view
  injection e with e1 e2 e3
  subst e1
  exact hr
theorem OwnsP.push {w0 w w1 : World} {B : Nat} {v v' : Value} {l : List (Int × Int)} {x y : Int} {o : Obj} (h : OwnsP w B v l) (hb : Below B w0 w) (hs : B ≤ w.heap.size)
    (hown : w1.ownsRow B 27 2 v' (l.length + 1) (ptCells l ++ [.int .i64 x, .int .i64 y])) (hg : (w.alloc o).grownBy w1 v.ownBlock) : OwnsP w1 B v' (l ++ [(x, y)]) ∧ Below B w0 w1 := by
  refine ⟨?_, (hb.alloc hs o).grown hg (by simp; omega) (fun k hk => (World.ownsRow.lt h k hk).1)⟩
  unfold OwnsP
  rw [ptCells_push, List.length_append]
  exact hown
theorem OwnsP.cellAt {w : World} {B g n cap : Nat} {l : List (Int × Int)} (h : OwnsP w B (.slice (some ⟨g, 0, none⟩) n cap) l) (hn : l.length = n) (k : Nat) (hk : k < n) :
    (w.cell? ⟨g, k * 2, none⟩ = some (.int .i64 (l.getD k (0, 0)).1) ∧ w.frozen? ⟨g, k * 2, none⟩ = false) ∧ (w.cell? ⟨g, k * 2 + 1, none⟩ = some (.int .i64 (l.getD k (0, 0)).2) ∧ w.frozen? ⟨g, k * 2 + 1, none⟩ = false) ∧ B ≤ g ∧ g < w.heap.size := by
  unfold OwnsP at h
  rw [hn] at h
  have h2 := World.ownsRow.lt h g rfl
  obtain ⟨b1, b2⟩ := ptCells_at l k (by omega)
  exact ⟨⟨(World.ownsRow.cellAt h (k * 2) (by omega)).trans b1, World.ownsRow.frozenAt h _⟩, ⟨(World.ownsRow.cellAt h (k * 2 + 1) (by omega)).trans b2, World.ownsRow.frozenAt h _⟩, h2.1, h2.2⟩
theorem OwnsP.put {w : World} {B g n cap : Nat} {l : List (Int × Int)} (h : OwnsP w B (.slice (some ⟨g, 0, none⟩) n cap) l) (hn : l.length = n) (k : Nat) (hk : k < n) (x y : Int) :
    OwnsP ((w.setCell ⟨g, k * 2, none⟩ (.int .i64 x)).setCell ⟨g, k * 2 + 1, none⟩ (.int .i64 y)) B (.slice (some ⟨g, 0, none⟩) n cap) (l.set k (x, y)) := by
  unfold OwnsP at h ⊢
  rw [hn] at h
  have h1 := (World.ownsRow.stored h (k * 2) (.int .i64 x)).1
  have h2 := (World.ownsRow.stored h1 (k * 2 + 1) (.int .i64 y)).1
  rw [List.length_set, hn, ← ptCells_set l k x y (by omega)]
  exact h2
/-- a list of points comes back in the call's own memory -/
def PtsOut (w : World) (l : List (Int × Int)) (e : Ending) (w' : World) : Prop := ∃ v, e = .returned v ∧ OwnsP w' w.heap.size v l ∧ Below w.heap.size w w'
/-- the cells of two points in known blocks are kept -/
theorem keep22 {W wn : World} {b1 b2 k : Nat} {x y z u : Int} (g : Below W.heap.size W wn) (h1 : b1 < W.heap.size) (h2 : b2 < W.heap.size)
    (h : (W.cell? ⟨b1, k * 2, none⟩ = some (.int .i64 x) ∧ W.cell? ⟨b1, k * 2 + 1, none⟩ = some (.int .i64 y)) ∧ (W.cell? ⟨b2, k * 2, none⟩ = some (.int .i64 z) ∧ W.cell? ⟨b2, k * 2 + 1, none⟩ = some (.int .i64 u))) :
    (wn.cell? ⟨b1, k * 2, none⟩ = some (.int .i64 x) ∧ wn.cell? ⟨b1, k * 2 + 1, none⟩ = some (.int .i64 y)) ∧ (wn.cell? ⟨b2, k * 2, none⟩ = some (.int .i64 z) ∧ wn.cell? ⟨b2, k * 2 + 1, none⟩ = some (.int .i64 u)) :=
  ⟨⟨by rw [g.cell (p := ⟨b1, k * 2, none⟩) h1]; exact h.1.1, by rw [g.cell (p := ⟨b1, k * 2 + 1, none⟩) h1]; exact h.1.2⟩, ⟨by rw [g.cell (p := ⟨b2, k * 2, none⟩) h2]; exact h.2.1, by rw [g.cell (p := ⟨b2, k * 2 + 1, none⟩) h2]; exact h.2.2⟩⟩
end Go.Proofs.YtmainffjekjlnaaDoor
