/- Rows of numbers: one that the call owns, one that is only read. -/
import Derived.Test.YtmainffjekjlnaaDoorRead
namespace Go.Proofs.YtmainffjekjlnaaDoor
open Go.ChangeShapes Go.WideShapes Go.ChangeAt Go.RowKit
set_option linter.unusedVariables false
theorem infoInt : (Tryd.prog.info? 3).map (fun i => (i.zero, i.size, i.bytes)) = some (some (.int .i64 0), 1, 8) := by kernel_rfl
/-- a slice of numbers that the call owns, its blocks from B on -/
def Owns (w : World) (B : Nat) (v : Value) (l : List Int) : Prop := w.ownsRow B 3 1 v l.length (l.map (Value.int .i64))
/-- a slice of numbers that can be read -/
def Row (w : World) (B : Nat) (a : Option Addr) (l : List Int) : Prop := l = [] ∨ ∃ b o, a = some ⟨b, o, none⟩ ∧ b < B ∧ ∀ i, i < l.length → w.cell? ⟨b, o + i, none⟩ = some (.int .i64 (l.getD i 0))
theorem Row.below {w w' : World} {B : Nat} {a : Option Addr} {l : List Int} (h : Row w B a l) (hb : Below B w w') : Row w' B a l := by
  rcases h with h | ⟨b, o, e, hlt, hc⟩
  · exact .inl h
  · exact .inr ⟨b, o, e, hlt, fun i hi => by rw [hb.cell (p := ⟨b, o + i, none⟩) hlt]; exact hc i hi⟩
theorem Row.mono {w : World} {B B' : Nat} {a : Option Addr} {l : List Int} (h : Row w B a l) (hb : B ≤ B') : Row w B' a l := by
  rcases h with h | ⟨b, o, e, hlt, hc⟩
  · exact .inl h
  · exact .inr ⟨b, o, e, by omega, hc⟩
theorem Row.at {w : World} {B : Nat} {a : Option Addr} {l : List Int} (h : Row w B a l) (hl : l ≠ []) : ∃ b o, a = some ⟨b, o, none⟩ ∧ b < B ∧ ∀ i, i < l.length → w.cell? ⟨b, o + i, none⟩ = some (.int .i64 (l.getD i 0)) := by
  rcases h with h | h
  · exact absurd h hl
  · exact h
theorem Owns.nil (w : World) (B : Nat) : Owns w B (.slice none 0 0) [] := World.ownsRow_nil _ _ _ _
theorem Owns.made {w : World} {B : Nat} (hb : B ≤ w.heap.size) : Owns (w.alloc (.cells #[] 3)) B (.slice (some ⟨w.heap.size, 0, none⟩) 0 0) [] :=
  World.ownsRow_made w #[] 0 hb (Nat.zero_le _) rfl
theorem Owns.old {w w' : World} {B : Nat} {v : Value} {l : List Int} (h : Owns w B v l) (hb : Below w.heap.size w w') : Owns w' B v l := by
  obtain ⟨h1, h2⟩ := h
  refine ⟨h1, ?_⟩
  rcases h2 with h2 | ⟨g, cap, cur, e, hg, hh, r⟩
  · exact .inl h2
  · refine .inr ⟨g, cap, cur, e, hg, ?_, r⟩
    have hlt : g < w.heap.size := by
      rcases Nat.lt_or_ge g w.heap.size with h' | h'
      · exact h'
      · rw [Array.getElem?_eq_none (by omega)] at hh; cases hh
    rw [hb.block g hlt]; exact hh
theorem Owns.view {w : World} {B : Nat} {v : Value} {l : List Int} (h : Owns w B v l) : ∃ a cap, v = .slice a l.length cap ∧ Row w w.heap.size a l := by
  rcases h.2 with ⟨h2, h3⟩ | ⟨g, cap, cur, e, hg, hh, _⟩
  · have : l = [] := List.eq_nil_of_length_eq_zero h3
    subst this
    exact ⟨none, 0, h2, .inl rfl⟩
  · subst e
    refine ⟨_, cap, rfl, .inr ⟨g, 0, rfl, ?_, fun i hi => ?_⟩⟩
    · rcases Nat.lt_or_ge g w.heap.size with h' | h'
      · exact h'
      · rw [Array.getElem?_eq_none (by omega)] at hh; cases hh
    · have := World.ownsRow.cellAt h i (by omega)
      rw [Nat.zero_add, this]
      simp [hi]
theorem Owns.row {w : World} {B n cap : Nat} {a : Option Addr} {l : List Int} (h : Owns w B (.slice a n cap) l) : Row w w.heap.size a l := by
  obtain ⟨a', cap', e, hr⟩ := h.view
  injection e with e1 e2 e3
  subst e1
  exact hr
/-- append to a slice of the call's own, at a guard that says yes -/
theorem wpList_append_want {P : Program} (w : World) {ops : Array Oper} {rest : List Oper} {o : Oper} {a : Act} {Q : Exit → Act → World → Prop} (hgd : Region.wanted o (yielded ops a.tmps) = true) (s x : Operand) (t : TypeId)
    (ho : o.op = .call { callee := .builtin .append, args := #[s, x], argTypes := #[t, t] })
    (base : Nat) (e : TypeId) (i : TypeInfo) (z : Value) (size bytes : Nat) (ht : P.underlying t = some (.slice e)) (hi : P.info? e = some i) (hz : i.zero = some z)
    (hsize : i.size = size) (hby : i.bytes = bytes) (hzs : z.cells.size = size) (hsz : 0 < size)
    (v : Value) (n : Nat) (xs : List Value) (hs : a.eval s = v) (hown : w.ownsRow base e size v n xs)
    (ad : Addr) (m c : Nat) (news : List Value) (hx : a.eval x = .slice (some ad) m c) (hl : news.length = m * size) (hnews : ∀ j u, news[j]? = some u → w.cell? (ad.add j) = some u) (h1 : ∀ u ∈ news, u.oneCell' = true)
    (h63 : n + m ≤ maxLen) (hbytes : (n + m) * bytes ≤ 140737488355328) (hbase : base ≤ w.heap.size)
    (h : ∀ v' w', w'.ownsRow base e size v' (n + m) (xs ++ news) → w.grownBy w' v.ownBlock → (v' = .slice none 0 0 ↔ v = .slice none 0 0 ∧ m = 0) → wpList P ops Q rest (a.put o.dst v') w') : wpList P ops Q (o :: rest) a w :=
  BigFrame.wpList_want hgd fun _ hK => wp_append_own w s x t ho base e i z size bytes ht hi hz hsize hby hzs hsz v n xs hs hown ad m c news hx hl hnews h1 h63 hbytes hbase fun v' w' h2 h3 h4 => hK _ _ (h v' w' h2 h3 h4)
/-- a list of numbers comes back in the call's own memory -/
def IntsOut (w : World) (l : List Int) (e : Ending) (w' : World) : Prop := ∃ v, e = .returned v ∧ Owns w' w.heap.size v l ∧ Below w.heap.size w w'
end Go.Proofs.YtmainffjekjlnaaDoor
