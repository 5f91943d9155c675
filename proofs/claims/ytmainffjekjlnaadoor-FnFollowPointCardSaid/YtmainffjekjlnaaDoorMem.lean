/- Notions of memory for arms: a block of three slices, rows that lie apart, worlds that keep what is not marked; contracts of the laws' helpers on arms. -/
import Derived.Test.YtmainffjekjlnaaDoorSlices
namespace Go.Proofs.YtmainffjekjlnaaDoor
open Go.ChangeShapes Go.WideShapes Go.ChangeAt Go.RowKit
set_option linter.unusedVariables false
/-- a slice of numbers that came in, in a field -/
theorem open_row {H : Type} {enc : TypeId × Value → H} {P : Program} {w : World} {t e : TypeId} {fuel : Nat} {v : Value} {y : DataW H × List MemPlace} (ht : P.underlying t = some (.slice e)) (he : P.underlying e = some (.int .i64)) (hc : P.cellsOf e = 1) (h : DataW.trod enc P w 0 (fun _ => true) true fuel t [v] = some y) :
    ∃ a len cap zs, v = .slice a len cap ∧ IsRow .i64 w a len cap zs := by
  rcases open_ints ht he hc h with ⟨hcs, _⟩ | ⟨x, l, c, zs, hcs, _, hl, hm, hz, _, hcell, hwz⟩
  · obtain rfl : v = .slice none 0 0 := by simpa using hcs
    exact ⟨none, 0, 0, [], rfl, .inl ⟨rfl, rfl, rfl, rfl⟩⟩
  · obtain rfl : v = .slice (some x) l c := by simpa using hcs
    exact ⟨some x, l, c, zs, rfl, .inr ⟨x, rfl, hl, hm, by simpa using hz, hcell, hwz⟩⟩
theorem ArmAt.of_rows {w : World} {a1 a2 a3 : Option Addr} {n1 c1 n2 c2 n3 c3 : Nat} {z1 z2 z3 : List Int} (h1 : IsRow .i64 w a1 n1 c1 z1) (h2 : IsRow .i64 w a2 n2 c2 z2) (h3 : IsRow .i64 w a3 n3 c3 z3) :
    ∃ l lo hi, (l.length = n1 ∧ lo.length = n2 ∧ hi.length = n3) ∧ Row w w.heap.size a1 l ∧ Row w w.heap.size a2 lo ∧ Row w w.heap.size a3 hi :=
  ⟨_, _, _, ⟨(Row.of_isRow h1).2, (Row.of_isRow h2).2, (Row.of_isRow h3).2⟩, (Row.of_isRow h1).1, (Row.of_isRow h2).1, (Row.of_isRow h3).1⟩
theorem IsRow.size {w : World} {a : Option Addr} {n c : Nat} {z : List Int} (h : IsRow .i64 w a n c z) : n ≤ 9223372036854775807 := by
  rcases h with ⟨_, h, _⟩ | ⟨_, _, h1, h2, _⟩
  · omega
  · unfold maxLen at h2; omega
/-- three values in a block that may be written -/
structure Cell3 (w : World) (k : Nat) (x y z : Value) : Prop where
  c0 : w.cell? ⟨k, 0, none⟩ = some x
  c1 : w.cell? ⟨k, 1, none⟩ = some y
  c2 : w.cell? ⟨k, 2, none⟩ = some z
  f0 : w.frozen? ⟨k, 0, none⟩ = false
  f1 : w.frozen? ⟨k, 1, none⟩ = false
  f2 : w.frozen? ⟨k, 2, none⟩ = false
theorem Cell3.lt {w : World} {k : Nat} {x y z : Value} (h : Cell3 w k x y z) : k < w.heap.size := World.block_lt_of_cell? w _ h.c0
theorem Cell3.of_block {w w' : World} {k : Nat} {x y z : Value} (h : Cell3 w k x y z) (hb : w'.heap[k]? = w.heap[k]?) : Cell3 w' k x y z :=
  ⟨(World.cell?_of_block (w := w) hb).trans h.c0, (World.cell?_of_block (w := w) hb).trans h.c1, (World.cell?_of_block (w := w) hb).trans h.c2, (World.frozen?_of_block (w := w) hb).trans h.f0, (World.frozen?_of_block (w := w) hb).trans h.f1, (World.frozen?_of_block (w := w) hb).trans h.f2⟩
theorem Cell3.below {w w' : World} {B k : Nat} {x y z : Value} (h : Cell3 w k x y z) (hb : Below B w w') (hk : k < B) : Cell3 w' k x y z := h.of_block (hb.block k hk)
theorem Cell3.beside {w w' : World} {R k : Nat} {x y z : Value} (h : Cell3 w k x y z) (hb : Beside R w w') (hk : k ≠ R) : Cell3 w' k x y z := h.of_block (hb.block k h.lt hk)
theorem Cell3.grown {w w' : World} {k : Nat} {r : Option Nat} {x y z : Value} (h : Cell3 w k x y z) (hb : w.grownBy w' r) (hk : some k ≠ r) : Cell3 w' k x y z := h.of_block (hb.block k h.lt hk)
theorem Cell3.alloc {w : World} {k : Nat} {x y z : Value} (h : Cell3 w k x y z) (o : Obj) : Cell3 (w.alloc o) k x y z := h.of_block (Below.heap_alloc _ _ _ h.lt)
theorem Cell3.drew {w : World} {k : Nat} {x y z : Value} (h : Cell3 w k x y z) : Cell3 w.drew k x y z := ⟨h.c0, h.c1, h.c2, h.f0, h.f1, h.f2⟩
theorem Cell3.new (w : World) (x y z : Value) (t : TypeId) : Cell3 (w.alloc (.cells #[x, y, z] t)) w.heap.size x y z := by
  have hh : (w.alloc (.cells #[x, y, z] t)).heap[w.heap.size]? = some (.cells #[x, y, z] t) := by
    show (w.heap.push _)[w.heap.size]? = _
    rw [Array.getElem?_push, if_pos rfl]
  exact ⟨by unfold World.cell?; rw [hh]; rfl, by unfold World.cell?; rw [hh]; rfl, by unfold World.cell?; rw [hh]; rfl, by unfold World.frozen?; rw [hh]; rfl, by unfold World.frozen?; rw [hh]; rfl, by unfold World.frozen?; rw [hh]; rfl⟩
theorem Cell3.put0 {w : World} {k : Nat} {x y z : Value} (h : Cell3 w k x y z) (u : Value) (hu : u.oneCell' = true := by rfl) : Cell3 (w.setCell ⟨k, 0, none⟩ u) k u y z :=
  ⟨by rw [World.cell?_setCell_same w ⟨k, 0, none⟩ u h.c0], by rw [World.cell?_setCell_other _ _ _ _ (by simp)]; exact h.c1, by rw [World.cell?_setCell_other _ _ _ _ (by simp)]; exact h.c2, by simp [h.f0], by simp [h.f1], by simp [h.f2]⟩
theorem Cell3.put1 {w : World} {k : Nat} {x y z : Value} (h : Cell3 w k x y z) (u : Value) : Cell3 (w.setCell ⟨k, 1, none⟩ u) k x u z :=
  ⟨by rw [World.cell?_setCell_other _ _ _ _ (by simp)]; exact h.c0, by rw [World.cell?_setCell_same w ⟨k, 1, none⟩ u h.c1], by rw [World.cell?_setCell_other _ _ _ _ (by simp)]; exact h.c2, by simp [h.f0], by simp [h.f1], by simp [h.f2]⟩
theorem Cell3.put2 {w : World} {k : Nat} {x y z : Value} (h : Cell3 w k x y z) (u : Value) : Cell3 (w.setCell ⟨k, 2, none⟩ u) k x y u :=
  ⟨by rw [World.cell?_setCell_other _ _ _ _ (by simp)]; exact h.c0, by rw [World.cell?_setCell_other _ _ _ _ (by simp)]; exact h.c1, by rw [World.cell?_setCell_same w ⟨k, 2, none⟩ u h.c2], by simp [h.f0], by simp [h.f1], by simp [h.f2]⟩
theorem grown_set (w : World) (g o : Nat) (u : Value) : w.grownBy (w.setCell ⟨g, o, none⟩ u) (some g) :=
  ⟨rfl, rfl, rfl, by simp [World.setCell], fun k hk hn => Below.heap_setCell _ _ _ _ (by intro e; exact hn (by rw [e]))⟩
/-- two rows lie in two blocks -/
def Apart (u v : Value) : Prop := u.ownBlock = none ∨ u.ownBlock ≠ v.ownBlock
theorem Owns.grown {w w' : World} {B : Nat} {v : Value} {l : List Int} {r : Option Nat} (h : Owns w B v l) (hg : w.grownBy w' r) (hr : v.ownBlock = none ∨ v.ownBlock ≠ r) : Owns w' B v l := World.ownsRow.kept h hg hr
theorem Owns.far {w w' : World} {B k : Nat} {v : Value} {l : List Int} (h : Owns w B v l) (g : w.grownBy w' (some k)) (hk : k < B) : Owns w' B v l := by
  refine World.ownsRow.kept h g ?_
  cases hv : v.ownBlock with
  | none => exact .inl rfl
  | some i => exact .inr (by intro e; injection e with e; have := (World.ownsRow.lt h i hv).1; omega)
theorem arm_set3 {w : World} {B B' k : Nat} {v x y z : Value} {l : List Int} (h : Owns w B v l) (hk : k < B ∧ B' ≤ B) : Owns (((w.setCell ⟨k, 0, none⟩ x).setCell ⟨k, 1, none⟩ y).setCell ⟨k, 2, none⟩ z) B' v l := by
  have h3 := ((h.far (grown_set w k 0 x) hk.1).far (grown_set _ k 1 y) hk.1).far (grown_set _ k 2 z) hk.1
  obtain ⟨h1, h2⟩ := h3
  refine ⟨h1, ?_⟩
  rcases h2 with h2 | ⟨g, cap, cur, e, hg, r⟩
  · exact .inl h2
  · exact .inr ⟨g, cap, cur, e, Nat.le_trans hk.2 hg, r⟩
theorem bel_grown {w a b : World} {k : Nat} (h : Below w.heap.size w a) (g : a.grownBy b (some k)) (hk : w.heap.size ≤ k) : Below w.heap.size w b :=
  h.grown g h.size (fun i e => by injection e with e; omega)
theorem Owns.lt {w : World} {B k : Nat} {v : Value} {l : List Int} (h : Owns w B v l) (hk : v.ownBlock = some k) : B ≤ k ∧ k < w.heap.size := World.ownsRow.lt h k hk
/-- an elder row and one made later lie apart -/
theorem Apart.of {w w' : World} {B : Nat} {u v : Value} {l l' : List Int} (h : Owns w B u l) (h' : Owns w' w.heap.size v l') : Apart u v := by
  cases hu : u.ownBlock with
  | none => exact .inl hu
  | some k =>
    refine .inr ?_
    intro e
    rw [hu] at e
    have h1 := (h.lt hu).2
    have h2 := (h'.lt e.symm).1
    omega
theorem Apart.symm {u v : Value} (h : Apart u v) : Apart v u := by
  unfold Apart at *
  cases hv : v.ownBlock with
  | none => exact .inl rfl
  | some k =>
    refine .inr ?_
    intro e
    rcases h with h | h
    · rw [h] at e; cases e
    · exact h (by rw [hv, ← e])
theorem grown_trans {a b c : World} {r s : Option Nat} {B : Nat} (h : a.grownBy b r) (k : b.grownBy c s) (hr : ∀ i, r = some i → B ≤ i) (hs : ∀ i, s = some i → B ≤ i) (hB : B ≤ a.heap.size) : Below B a c :=
  ((Below.refl B a).grown h hB hr).grown k (Nat.le_trans hB h.size) hs
/-- every block that is not marked is as it was -/
structure Kept (may : Nat → Prop) (w w' : World) : Prop where
  os : w'.os = w.os
  tape : w'.tape = w.tape
  output : w'.output = w.output
  size : w.heap.size ≤ w'.heap.size
  block : ∀ k, k < w.heap.size → ¬ may k → w'.heap[k]? = w.heap[k]?
theorem Kept.refl (may : Nat → Prop) (w : World) : Kept may w w := ⟨rfl, rfl, rfl, Nat.le_refl _, fun _ _ _ => rfl⟩
theorem Kept.trans {may : Nat → Prop} {a b c : World} (h : Kept may a b) (k : Kept may b c) : Kept may a c :=
  ⟨k.os.trans h.os, k.tape.trans h.tape, k.output.trans h.output, Nat.le_trans h.size k.size, fun i hi hr => (k.block i (Nat.lt_of_lt_of_le hi h.size) hr).trans (h.block i hi hr)⟩
theorem Kept.of_grown {may : Nat → Prop} {a b : World} {r : Option Nat} (h : a.grownBy b r) (hr : ∀ i, r = some i → may i) : Kept may a b :=
  ⟨h.os, h.tape, h.output, h.size, fun k hk hm => h.block k hk (fun e => hm (hr k e.symm))⟩
theorem Kept.of_below {may : Nat → Prop} {a b : World} (h : Below a.heap.size a b) : Kept may a b := ⟨h.os, h.tape, h.output, h.size, fun k hk _ => h.block k hk⟩
theorem Kept.below {may : Nat → Prop} {a b : World} {B : Nat} (h : Kept may a b) (hB : B ≤ a.heap.size) (hm : ∀ k, k < B → ¬ may k) : Below B a b := ⟨h.os, h.tape, h.output, h.size, fun k hk => h.block k (by omega) (hm k hk)⟩
theorem Owns.keptBy {may : Nat → Prop} {w w' : World} {B : Nat} {v : Value} {l : List Int} (h : Owns w B v l) (hk : Kept may w w') (hm : ∀ k, B ≤ k → ¬ may k) : Owns w' B v l := by
  obtain ⟨h1, h2⟩ := h
  refine ⟨h1, ?_⟩
  rcases h2 with h2 | ⟨g, cap, cur, e, hg, hh, r⟩
  · exact .inl h2
  · exact .inr ⟨g, cap, cur, e, hg, (hk.block g (Array.getElem?_eq_some_iff.1 hh).1 (hm g hg)).trans hh, r⟩
/-- the rows of an arm, in the call's own memory -/
structure Arm3 (w : World) (B : Nat) (v1 v2 v3 : Value) (l lo hi : List Int) : Prop where
  o1 : Owns w B v1 l
  o2 : Owns w B v2 lo
  o3 : Owns w B v3 hi
  p12 : Apart v1 v2
  p13 : Apart v1 v3
  p23 : Apart v2 v3
theorem Arm3.keptBy {may : Nat → Prop} {w w' : World} {B : Nat} {v1 v2 v3 : Value} {l lo hi : List Int} (h : Arm3 w B v1 v2 v3 l lo hi) (hk : Kept may w w') (hm : ∀ k, B ≤ k → ¬ may k) : Arm3 w' B v1 v2 v3 l lo hi :=
  ⟨h.o1.keptBy hk hm, h.o2.keptBy hk hm, h.o3.keptBy hk hm, h.p12, h.p13, h.p23⟩
theorem Arm3.old {w w' : World} {B : Nat} {v1 v2 v3 : Value} {l lo hi : List Int} (h : Arm3 w B v1 v2 v3 l lo hi) (hk : Below w.heap.size w w') : Arm3 w' B v1 v2 v3 l lo hi :=
  ⟨h.o1.old hk, h.o2.old hk, h.o3.old hk, h.p12, h.p13, h.p23⟩
def ArmAt (w : World) (B : Nat) (a1 a2 a3 : Option Addr) (l lo hi : List Int) : Prop := Row w B a1 l ∧ Row w B a2 lo ∧ Row w B a3 hi
theorem ArmAt.below {w w' : World} {B : Nat} {a1 a2 a3 : Option Addr} {l lo hi : List Int} (h : ArmAt w B a1 a2 a3 l lo hi) (hb : Below B w w') : ArmAt w' B a1 a2 a3 l lo hi := ⟨h.1.below hb, h.2.1.below hb, h.2.2.below hb⟩
theorem ArmAt.mono {w : World} {B B' : Nat} {a1 a2 a3 : Option Addr} {l lo hi : List Int} (h : ArmAt w B a1 a2 a3 l lo hi) (hb : B ≤ B') : ArmAt w B' a1 a2 a3 l lo hi := ⟨h.1.mono hb, h.2.1.mono hb, h.2.2.mono hb⟩
theorem ArmAt.after {w w' : World} {a1 a2 a3 : Option Addr} {l lo hi : List Int} (h : ArmAt w w.heap.size a1 a2 a3 l lo hi) (hb : Below w.heap.size w w') : ArmAt w' w'.heap.size a1 a2 a3 l lo hi := (h.below hb).mono hb.size
theorem Row.after {w w' : World} {a : Option Addr} {l : List Int} (h : Row w w.heap.size a l) (hb : Below w.heap.size w w') : Row w' w'.heap.size a l := (h.below hb).mono hb.size
theorem Arm3.row {w : World} {B n1 c1 n2 c2 n3 c3 : Nat} {a1 a2 a3 : Option Addr} {l lo hi : List Int} (h : Arm3 w B (.slice a1 n1 c1) (.slice a2 n2 c2) (.slice a3 n3 c3) l lo hi) : ArmAt w w.heap.size a1 a2 a3 l lo hi := ⟨h.o1.row, h.o2.row, h.o3.row⟩
theorem Cell3.after {w w' : World} {k : Nat} {x y z : Value} (h : Cell3 w k x y z) (hb : Below w.heap.size w w') : Cell3 w' k x y z := h.below hb h.lt
theorem Arm3.after {w w' : World} {B : Nat} {v1 v2 v3 : Value} {l lo hi : List Int} (h : Arm3 w B v1 v2 v3 l lo hi) (hk : Below w.heap.size w w') : Arm3 w' B v1 v2 v3 l lo hi := h.old hk
theorem Owns.after {w w' : World} {B : Nat} {v : Value} {l : List Int} (h : Owns w B v l) (hb : Below w.heap.size w w') : Owns w' B v l := h.old hb
theorem bel_after {w a b : World} (h : Below w.heap.size w a) (k : Below a.heap.size a b) : Below w.heap.size w b := h.trans (k.mono h.size)
theorem bel_new (w : World) (o : Obj) : Below w.heap.size w (w.alloc o) := (Below.refl _ _).alloc (Nat.le_refl _) o
theorem bel_drew (w : World) : Below w.heap.size w w.drew := (Below.refl _ _).drew
theorem Owns.base2 {w : World} {B B' : Nat} {v : Value} {l : List Int} (h : Owns w B v l) (hB : B' ≤ B) : Owns w B' v l := by
  obtain ⟨h1, h2⟩ := h
  refine ⟨h1, ?_⟩
  rcases h2 with h2 | ⟨g, cap, cur, e, hg, r⟩
  · exact .inl h2
  · exact .inr ⟨g, cap, cur, e, by omega, r⟩
/-- an arm comes back in the call's own memory -/
def ArmMade (w : World) (n1 n2 n3 : Nat) (l lo hi : List Int) (e : Ending) (w' : World) : Prop := ∃ p1 d1 p2 d2 p3 d3, e = .returned (.agg #[.slice p1 n1 d1, .slice p2 n2 d2, .slice p3 n3 d3]) ∧ Arm3 w' w.heap.size (.slice p1 n1 d1) (.slice p2 n2 d2) (.slice p3 n3 d3) l lo hi ∧ Below w.heap.size w w'
theorem ints_view {w w' : World} {n : Nat} {l : List Int} {e : Ending} (hn : l.length = n) (h : IntsOut w l e w') : ∃ p d, e = .returned (.slice p n d) ∧ Owns w' w.heap.size (.slice p n d) l ∧ Below w.heap.size w w' := by
  obtain ⟨v, he, ho, hb⟩ := h
  obtain ⟨p, d, rfl, _⟩ := ho.view
  rw [hn] at he ho
  exact ⟨p, d, he, ho, hb⟩
set_option maxHeartbeats 2000000 in
theorem to_arm (a1 a2 a3 : Option Addr) (n1 c1 n2 c2 n3 c3 : Nat) (l lo hi : List Int) (w : World) (h1 : l.length = n1) (h2 : lo.length = n2) (h3 : hi.length = n3) (m1 : n1 ≤ 1048576) (m2 : n2 ≤ 1048576) (m3 : n3 ≤ 1048576) (hr : ArmAt w w.heap.size a1 a2 a3 l lo hi) :
    Calls Tryd.prog 19 #[.agg #[.slice a1 n1 c1, .slice a2 n2 c2, .slice a3 n3 c3]] w (ArmMade w n1 n2 n3 l lo hi) := by
  replace h1 := Lib.hid h1
  replace h2 := Lib.hid h2
  replace h3 := Lib.hid h3
  replace hr := Lib.hid hr
  have b0 := Lib.hid ((((Below.refl w.heap.size w).alloc (Nat.le_refl _) (.cells #[.slice a1 n1 c1, .slice a2 n2 c2, .slice a3 n3 c3] 39)).alloc (by simp) (.cells #[.slice none 0 0, .slice none 0 0, .slice none 0 0] 25)).alloc (by simp; omega) (.cells #[.slice none 0 0, .slice none 0 0, .slice none 0 0] 25))
  have k0 := ((Cell3.new w (.slice a1 n1 c1) (.slice a2 n2 c2) (.slice a3 n3 c3) 39).alloc (.cells #[.slice none 0 0, .slice none 0 0, .slice none 0 0] 25)).alloc (.cells #[.slice none 0 0, .slice none 0 0, .slice none 0 0] 25)
  have k1 := (Cell3.new (w.alloc (.cells #[.slice a1 n1 c1, .slice a2 n2 c2, .slice a3 n3 c3] 39)) (.slice none 0 0) (.slice none 0 0) (.slice none 0 0) 25).alloc (.cells #[.slice none 0 0, .slice none 0 0, .slice none 0 0] 25)
  have k2 := Cell3.new ((w.alloc (.cells #[.slice a1 n1 c1, .slice a2 n2 c2, .slice a3 n3 c3] 39)).alloc (.cells #[.slice none 0 0, .slice none 0 0, .slice none 0 0] 25)) (.slice none 0 0) (.slice none 0 0) (.slice none 0 0) 25
  rw [World.size_alloc] at k1
  rw [World.size_alloc, World.size_alloc] at k2
  go_enter Tryd.func19, Tryd.ntmps19
  go_wp2_with fail
  generalize ((w.alloc (.cells #[.slice a1 n1 c1, .slice a2 n2 c2, .slice a3 n3 c3] 39)).alloc (.cells #[.slice none 0 0, .slice none 0 0, .slice none 0 0] 25)).alloc (.cells #[.slice none 0 0, .slice none 0 0, .slice none 0 0] 25) = v0 at *
  have z2 := k2.lt
  -- @toarm
  have bb := b0
  clear b0
  have s1' := k2.lt
  have hr1 := Lib.hid (((hr.out.after bb.out).1))
  refine (to_ints a1 n1 c1 l _ h1.out m1 hr1.out).mono ?_
  rintro e w1 hq
  obtain ⟨p1, d1, rfl, q1, b1⟩ := ints_view h1.out hq
  replace k0 := k0.below b1 (by omega)
  replace k1 := k1.below b1 (by omega)
  replace k2 := k2.below b1 (by omega)
  replace bb := Lib.hid (bb.out.trans (b1.mono bb.out.size))
  have z1 := b1.size
  clear b1 hq hr1
  replace q1 := Lib.hid q1
  have j0 := k0
  have j2 := k2
  obtain ⟨x0, x1, x2, _, _, _⟩ := k0
  obtain ⟨y0, y1, y2, f0, f1, f2⟩ := k2
  go_wp2_with fail
  have k2 := j2.put0 (.slice p1 n1 d1)
  have g := grown_set w1 (w.heap.size + 1 + 1) 0 (.slice p1 n1 d1)
  clear y0 y1 y2 f0 f1 f2 x0 x1 x2 j2
  generalize w1.setCell ⟨w.heap.size + 1 + 1, 0, none⟩ (.slice p1 n1 d1) = v1 at *
  have k0 := j0.grown g (by simp; omega)
  replace k1 := k1.grown g (by simp)
  replace q1 := Lib.hid (q1.out.far g (by omega))
  replace bb := Lib.hid (bel_grown bb.out g (by omega))
  have y1 := g.size
  clear g j0
  have s2' := k2.lt
  have hr2 := Lib.hid (((hr.out.after bb.out).2.1))
  refine (to_ints a2 n2 c2 lo _ h2.out m2 hr2.out).mono ?_
  rintro e w2 hq
  obtain ⟨p2, d2, rfl, q2, b2⟩ := ints_view h2.out hq
  replace k0 := k0.below b2 (by omega)
  replace k1 := k1.below b2 (by omega)
  replace k2 := k2.below b2 (by omega)
  have t12 := Lib.hid (Apart.of q1.out q2)
  replace q1 := Lib.hid (q1.out.old b2)
  replace bb := Lib.hid (bb.out.trans (b2.mono bb.out.size))
  have z2 := b2.size
  clear b2 hq hr2
  replace q2 := Lib.hid q2
  have j0 := k0
  have j2 := k2
  obtain ⟨x0, x1, x2, _, _, _⟩ := k0
  obtain ⟨y0, y1, y2, f0, f1, f2⟩ := k2
  go_wp2_with fail
  have k2 := j2.put1 (.slice p2 n2 d2)
  have g := grown_set w2 (w.heap.size + 1 + 1) 1 (.slice p2 n2 d2)
  clear y0 y1 y2 f0 f1 f2 x0 x1 x2 j2
  generalize w2.setCell ⟨w.heap.size + 1 + 1, 1, none⟩ (.slice p2 n2 d2) = v2 at *
  have k0 := j0.grown g (by simp; omega)
  replace k1 := k1.grown g (by simp)
  replace q1 := Lib.hid (q1.out.far g (by omega))
  replace q2 := Lib.hid (q2.out.far g (by omega))
  replace bb := Lib.hid (bel_grown bb.out g (by omega))
  have y2 := g.size
  clear g j0
  have s3' := k2.lt
  have hr3 := Lib.hid (((hr.out.after bb.out).2.2))
  refine (to_ints a3 n3 c3 hi _ h3.out m3 hr3.out).mono ?_
  rintro e w3 hq
  obtain ⟨p3, d3, rfl, q3, b3⟩ := ints_view h3.out hq
  replace k0 := k0.below b3 (by omega)
  replace k1 := k1.below b3 (by omega)
  replace k2 := k2.below b3 (by omega)
  have t13 := Lib.hid (Apart.of q1.out q3)
  have t23 := Lib.hid (Apart.of q2.out q3)
  replace q1 := Lib.hid (q1.out.old b3)
  replace q2 := Lib.hid (q2.out.old b3)
  replace bb := Lib.hid (bb.out.trans (b3.mono bb.out.size))
  have z3 := b3.size
  clear b3 hq hr3
  replace q3 := Lib.hid q3
  have j0 := k0
  have j2 := k2
  obtain ⟨x0, x1, x2, _, _, _⟩ := k0
  obtain ⟨y0, y1, y2, f0, f1, f2⟩ := k2
  have k1s := k1
  obtain ⟨_, _, _, e0, e1, e2⟩ := k1
  go_wp2_with fail
  have g := grown_set w3 (w.heap.size + 1 + 1) 2 (.slice p3 n3 d3)
  have g' := g
  replace q1 := Lib.hid (q1.out.far g (by omega))
  replace q2 := Lib.hid (q2.out.far g (by omega))
  replace q3 := Lib.hid (q3.out.far g (by omega))
  replace bb := Lib.hid (bel_grown bb.out g (by omega))
  clear g
  have k9 := (((k1s.grown g' (by simp)).put0 (.slice p1 n1 d1)).put1 (.slice p2 n2 d2)).put2 (.slice p3 n3 d3)
  have o1 := arm_set3 (B' := w.heap.size) (k := w.heap.size + 1) (x := .slice p1 n1 d1) (y := .slice p2 n2 d2) (z := .slice p3 n3 d3) q1.out (by omega)
  have o2 := arm_set3 (B' := w.heap.size) (k := w.heap.size + 1) (x := .slice p1 n1 d1) (y := .slice p2 n2 d2) (z := .slice p3 n3 d3) q2.out (by omega)
  have o3 := arm_set3 (B' := w.heap.size) (k := w.heap.size + 1) (x := .slice p1 n1 d1) (y := .slice p2 n2 d2) (z := .slice p3 n3 d3) q3.out (by omega)
  have b9 := ((bb.out.setCell (p := ⟨w.heap.size + 1, 0, none⟩) (by simp <;> omega) (.slice p1 n1 d1)).setCell (p := ⟨w.heap.size + 1, 1, none⟩) (by simp <;> omega) (.slice p2 n2 d2)).setCell (p := ⟨w.heap.size + 1, 2, none⟩) (by simp <;> omega) (.slice p3 n3 d3)
  generalize (((w3.setCell ⟨w.heap.size + 1 + 1, 2, none⟩ (.slice p3 n3 d3)).setCell ⟨w.heap.size + 1, 0, none⟩ (.slice p1 n1 d1)).setCell ⟨w.heap.size + 1, 1, none⟩ (.slice p2 n2 d2)).setCell ⟨w.heap.size + 1, 2, none⟩ (.slice p3 n3 d3) = wf at *
  obtain ⟨u0, u1, u2, _, _, _⟩ := k9
  exact bodyPost_ret (v := .agg #[.slice p1 n1 d1, .slice p2 n2 d2, .slice p3 n3 d3]) (by simp [results, Tryd.results19, go_sem, u0, u1, u2]) rfl ⟨p1, d1, p2, d2, p3, d3, rfl, ⟨o1, o2, o3, t12.out, t13.out, t23.out⟩, b9⟩
  -- @endtoarm
theorem sz_ints_yes (a : Option Addr) (n c : Nat) (left : Int) (w : World) (h0 : (n : Int) ≤ left) (h1 : left ≤ 1048576) :
    Calls Tryd.prog 50 #[.slice a n c, .int .i64 left] w fun e w' => e = .returned (.int .i64 (left - n)) ∧ w = w' := by
  have h2 : (0 : Int) ≤ left - n := by omega
  go_enter Tryd.func50, Tryd.ntmps50
  go_wp2
  go_ret
  exact ⟨rfl, rfl⟩
theorem sz_ints_no (a : Option Addr) (n c : Nat) (left : Int) (w : World) (hm : n ≤ 9223372036854775807) (h0 : left < (n : Int)) (h1 : 0 ≤ left) (h2 : left ≤ 1048576) :
    Calls Tryd.prog 50 #[.slice a n c, .int .i64 left] w fun e w' => e = .returned (.int .i64 (-1)) ∧ w = w' := by
  have h2 : left - n < (0 : Int) := by omega
  go_enter Tryd.func50, Tryd.ntmps50
  go_wp2
  go_ret
  exact ⟨rfl, rfl⟩
/-- the size of an arm: what is left, or a refusal -/
theorem sz_arm_yes (a1 a2 a3 : Option Addr) (n1 c1 n2 c2 n3 c3 : Nat) (w : World) (h : n1 + n2 + n3 ≤ 1048576) :
    Calls Tryd.prog 18 #[.agg #[.slice a1 n1 c1, .slice a2 n2 c2, .slice a3 n3 c3], .int .i64 1048576] w fun e w' => e = .returned (.int .i64 (1048576 - n1 - n2 - n3)) ∧ Below w.heap.size w w' := by
  have h2 : (0 : Int) ≤ 1048576 - n1 := by omega
  have h3 : (0 : Int) ≤ 1048576 - n1 - n2 := by omega
  have h4 : (0 : Int) ≤ 1048576 - n1 - n2 - n3 := by omega
  go_enter Tryd.func18, Tryd.ntmps18
  go_wp2_with (go_at_call 50; refine (sz_ints_yes _ _ _ _ _ (by omega) (by omega)).mono ?_; rintro e w' ⟨rfl, rfl⟩)
  go_ret
  exact ⟨rfl, (Below.refl _ _).alloc (Nat.le_refl _) _⟩
theorem sz_arm_no (a1 a2 a3 : Option Addr) (n1 c1 n2 c2 n3 c3 : Nat) (w : World) (m1 : n1 ≤ 9223372036854775807) (m2 : n2 ≤ 9223372036854775807) (m3 : n3 ≤ 9223372036854775807) (h : ¬ n1 + n2 + n3 ≤ 1048576) :
    Calls Tryd.prog 18 #[.agg #[.slice a1 n1 c1, .slice a2 n2 c2, .slice a3 n3 c3], .int .i64 1048576] w fun e w' => e = .returned (.int .i64 (-1)) ∧ Below w.heap.size w w' := by
  by_cases h1 : (n1 : Int) ≤ 1048576
  · have h2 : (0 : Int) ≤ 1048576 - n1 := by omega
    by_cases h3 : (n2 : Int) ≤ 1048576 - n1
    · have h4 : (0 : Int) ≤ 1048576 - n1 - n2 := by omega
      have h5 : 1048576 - (n1 : Int) - n2 < n3 := by omega
      go_enter Tryd.func18, Tryd.ntmps18
      go_wp2_with (first | (go_at_call 50; refine (sz_ints_yes _ _ _ _ _ (by omega) (by omega)).mono ?_; rintro e w' ⟨rfl, rfl⟩) | (go_at_call 50; refine (sz_ints_no _ _ _ _ _ (by omega) (by omega) (by omega) (by omega)).mono ?_; rintro e w' ⟨rfl, rfl⟩))
      go_ret
      exact ⟨rfl, (Below.refl _ _).alloc (Nat.le_refl _) _⟩
    · go_enter Tryd.func18, Tryd.ntmps18
      go_wp2_with (first | (go_at_call 50; refine (sz_ints_yes _ _ _ _ _ (by omega) (by omega)).mono ?_; rintro e w' ⟨rfl, rfl⟩) | (go_at_call 50; refine (sz_ints_no _ _ _ _ _ (by omega) (by omega) (by omega) (by omega)).mono ?_; rintro e w' ⟨rfl, rfl⟩))
      go_ret
      exact ⟨rfl, (Below.refl _ _).alloc (Nat.le_refl _) _⟩
  · go_enter Tryd.func18, Tryd.ntmps18
    go_wp2_with (go_at_call 50; refine (sz_ints_no _ _ _ _ _ (by omega) (by omega) (by omega) (by omega)).mono ?_; rintro e w' ⟨rfl, rfl⟩)
    go_ret
    exact ⟨rfl, (Below.refl _ _).alloc (Nat.le_refl _) _⟩
end Go.Proofs.YtmainffjekjlnaaDoor
