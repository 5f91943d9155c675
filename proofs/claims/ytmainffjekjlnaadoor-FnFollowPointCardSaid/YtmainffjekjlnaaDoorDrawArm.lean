/- Contract of the draw of an arm. -/
import Derived.Test.YtmainffjekjlnaaDoorClone
import Derived.Test.YtmainffjekjlnaaDoorOdd
import Derived.Deep.AppendLies
import Derived.Deep.RegionLaw
import Derived.Deep.RegionHeld3
import Derived.Deep.DeepCutAuto
import Derived.Deep.CutBlock
namespace Go.Proofs.YtmainffjekjlnaaDoor
open Go.ChangeShapes Go.WideShapes Go.ChangeAt Go.RowKit
set_option linter.unusedVariables false
theorem Kept.of_beside {R : Nat} {a b : World} (h : Beside R a b) : Kept (fun i => i = R) a b := ⟨h.os, h.tape, h.output, h.size, fun k hk hm => h.block k hk hm⟩
theorem Owns.beside2 {w w' : World} {B R : Nat} {v : Value} {l : List Int} (h : Owns w B v l) (hb : Beside R w w') (hR : R < B) : Owns w' B v l := h.keptBy (Kept.of_beside hb) (fun k hk => by omega)
theorem Beside.grown {R : Nat} {a w w' : World} {r : Option Nat} (h : Beside R a w) (hg : w.grownBy w' r) (hr : ∀ k, r = some k → a.heap.size ≤ k) : Beside R a w' :=
  ⟨hg.os.trans h.os, hg.tape.trans h.tape, hg.output.trans h.output, Nat.le_trans h.size hg.size, fun i hi hn => (hg.block i (Nat.lt_of_lt_of_le hi h.size) (fun e => by have := hr i e.symm; omega)).trans (h.block i hi hn)⟩
/-- the state of the draw: the arm's block, its three rows, the reader -/
structure DrSt (w0 w : World) (R m S A : Nat) (v1 v2 v3 : Value) (l1 l2 l3 : List Int) : Prop where
  s : Cell3 w S (.slice none 0 0) (.slice none 0 0) (.slice none 0 0)
  c : Cell3 w A v1 v2 v3
  o : Arm3 w (A + 1) v1 v2 v3 l1 l2 l3
  r : Rd w R m
  b : Beside R w0 w
  h : R < S ∧ S < A ∧ w0.heap.size ≤ S
theorem DrSt.lt {w0 w : World} {R m S A : Nat} {v1 v2 v3 : Value} {l1 l2 l3 : List Int} (h : DrSt w0 w R m S A v1 v2 v3 l1 l2 l3) : A < w.heap.size := h.c.lt
theorem DrSt.drew {w0 w : World} {R m S A : Nat} {v1 v2 v3 : Value} {l1 l2 l3 : List Int} (h : DrSt w0 w R m S A v1 v2 v3 l1 l2 l3) : DrSt w0 w.drew R m S A v1 v2 v3 l1 l2 l3 :=
  ⟨h.s.drew, h.c.drew, ⟨h.o.o1, h.o.o2, h.o.o3, h.o.p12, h.o.p13, h.o.p23⟩, h.r.drewN 1, h.b.drewN 1, h.h⟩
theorem DrSt.beside {w0 w w' : World} {R m m' S A : Nat} {v1 v2 v3 : Value} {l1 l2 l3 : List Int} (h : DrSt w0 w R m S A v1 v2 v3 l1 l2 l3) (r : Rd w' R m') (b : Beside R w w') : DrSt w0 w' R m' S A v1 v2 v3 l1 l2 l3 :=
  ⟨h.s.beside b (by have := h.h; omega), h.c.beside b (by have := h.h; omega), ⟨h.o.o1.beside2 b (by have := h.h; omega), h.o.o2.beside2 b (by have := h.h; omega), h.o.o3.beside2 b (by have := h.h; omega), h.o.p12, h.o.p13, h.o.p23⟩, r, h.b.trans b, h.h⟩
theorem DrSt.alloc {w0 w : World} {R m S A : Nat} {v1 v2 v3 : Value} {l1 l2 l3 : List Int} (h : DrSt w0 w R m S A v1 v2 v3 l1 l2 l3) (o : Obj) : DrSt w0 (w.alloc o) R m S A v1 v2 v3 l1 l2 l3 :=
  ⟨h.s.alloc o, h.c.alloc o, h.o.old (bel_new w o), h.r.alloc o, h.b.alloc o, h.h⟩
theorem DrSt.mono {w0 w : World} {R m m' S A : Nat} {v1 v2 v3 : Value} {l1 l2 l3 : List Int} (h : DrSt w0 w R m S A v1 v2 v3 l1 l2 l3) (hm : m ≤ m') : DrSt w0 w R m' S A v1 v2 v3 l1 l2 l3   := ⟨h.s, h.c, h.o, h.r.mono hm, h.b, h.h⟩
theorem apart_new {w : World} {B g n c H : Nat} {u v : Value} {l : List Int} (p : Apart u v) (h : Owns w B v l) (hH : w.heap.size ≤ H) (hat : u.ownBlock = some g ∨ g = H) : Apart (.slice (some ⟨g, 0, none⟩) n c) v := by
  refine .inr ?_
  show some g ≠ v.ownBlock
  rcases hat with e | e
  · rcases p with p | p
    · rw [p] at e; cases e
    · rw [← e]; exact p
  · intro e2
    have := (h.lt e2.symm).2
    omega
/-- a row of the arm grows by one number -/
theorem DrSt.push1 {w0 w w1 : World} {R m S A g c H : Nat} {v1 v2 v3 : Value} {l1 l2 l3 : List Int} {x : Int} {o : Obj} (h : DrSt w0 w R m S A v1 v2 v3 l1 l2 l3)
    (hown : w1.ownsRow (A + 1) 3 1 (.slice (some ⟨g, 0, none⟩) (l1.length + 1) c) (l1.length + 1) (l1.map (Value.int .i64) ++ [.int .i64 x])) (hg : (w.alloc o).grownBy w1 v1.ownBlock) (hH : w.heap.size ≤ H) (hat : v1.ownBlock = some g ∨ g = H) :
    Cell3 w1 A v1 v2 v3 ∧ DrSt w0 (w1.setCell ⟨A, 0, none⟩ (.slice (some ⟨g, 0, none⟩) (l1.length + 1) c)) R m S A (.slice (some ⟨g, 0, none⟩) (l1.length + 1) c) v2 v3 (l1 ++ [x]) l2 l3 := by
  have hn : some A ≠ v1.ownBlock := by intro e; have := (h.o.o1.lt e.symm).1; omega
  have c1 : Cell3 w1 A v1 v2 v3 := (h.c.alloc o).grown hg hn
  have gs := grown_set w1 A 0 (.slice (some ⟨g, 0, none⟩) (l1.length + 1) c)
  have h' := h.alloc o
  have o1 : Owns w1 (A + 1) (.slice (some ⟨g, 0, none⟩) (l1.length + 1) c) (l1 ++ [x]) := by unfold Owns; simpa using hown
  have o2 : Owns w1 (A + 1) v2 l2 := h'.o.o2.grown hg h.o.p12.symm
  have o3 : Owns w1 (A + 1) v3 l3 := h'.o.o3.grown hg h.o.p13.symm
  have hr1 : ∀ k, v1.ownBlock = some k → A + 1 ≤ k := fun k e => (h.o.o1.lt e).1
  have b1 : Below (R + 1) w (w1.setCell ⟨A, 0, none⟩ (.slice (some ⟨g, 0, none⟩) (l1.length + 1) c)) :=
    ((((Below.refl (R + 1) w).alloc (by have := h.r.lt; omega) o).grown hg (by have := h.r.lt; simp; omega) (fun k e => by have := hr1 k e; have := h.h; omega)).setCell (by show R + 1 ≤ A; have := h.h; omega) _)
  have hn2 : some S ≠ v1.ownBlock := by intro e; have := (h.o.o1.lt e.symm).1; have := h.h; omega
  refine ⟨c1, ((h.s.alloc o).grown hg hn2).grown gs (by intro e; injection e; have := h.h; omega), c1.put0 _, ⟨o1.far gs (by omega), o2.far gs (by omega), o3.far gs (by omega), apart_new h.o.p12 h.o.o2 hH hat, apart_new h.o.p13 h.o.o3 hH hat, h.o.p23⟩, h.r.of_below b1, ?_, h.h⟩
  exact ((h.b.alloc o).grown hg (fun k e => by have := hr1 k e; have := h.h; omega)).setCell (.inr (by show w0.heap.size ≤ A; have := h.h; omega)) _
theorem DrSt.push2 {w0 w w1 : World} {R m S A g c H : Nat} {v1 v2 v3 : Value} {l1 l2 l3 : List Int} {x : Int} {o : Obj} (h : DrSt w0 w R m S A v1 v2 v3 l1 l2 l3)
    (hown : w1.ownsRow (A + 1) 3 1 (.slice (some ⟨g, 0, none⟩) (l2.length + 1) c) (l2.length + 1) (l2.map (Value.int .i64) ++ [.int .i64 x])) (hg : (w.alloc o).grownBy w1 v2.ownBlock) (hH : w.heap.size ≤ H) (hat : v2.ownBlock = some g ∨ g = H) :
    Cell3 w1 A v1 v2 v3 ∧ DrSt w0 (w1.setCell ⟨A, 1, none⟩ (.slice (some ⟨g, 0, none⟩) (l2.length + 1) c)) R m S A v1 (.slice (some ⟨g, 0, none⟩) (l2.length + 1) c) v3 l1 (l2 ++ [x]) l3 := by
  have hn : some A ≠ v2.ownBlock := by intro e; have := (h.o.o2.lt e.symm).1; omega
  have c1 : Cell3 w1 A v1 v2 v3 := (h.c.alloc o).grown hg hn
  have gs := grown_set w1 A 1 (.slice (some ⟨g, 0, none⟩) (l2.length + 1) c)
  have h' := h.alloc o
  have o2 : Owns w1 (A + 1) (.slice (some ⟨g, 0, none⟩) (l2.length + 1) c) (l2 ++ [x]) := by unfold Owns; simpa using hown
  have o1 : Owns w1 (A + 1) v1 l1 := h'.o.o1.grown hg h.o.p12
  have o3 : Owns w1 (A + 1) v3 l3 := h'.o.o3.grown hg h.o.p23.symm
  have hr1 : ∀ k, v2.ownBlock = some k → A + 1 ≤ k := fun k e => (h.o.o2.lt e).1
  have b1 : Below (R + 1) w (w1.setCell ⟨A, 1, none⟩ (.slice (some ⟨g, 0, none⟩) (l2.length + 1) c)) :=
    ((((Below.refl (R + 1) w).alloc (by have := h.r.lt; omega) o).grown hg (by have := h.r.lt; simp; omega) (fun k e => by have := hr1 k e; have := h.h; omega)).setCell (by show R + 1 ≤ A; have := h.h; omega) _)
  have hn2 : some S ≠ v2.ownBlock := by intro e; have := (h.o.o2.lt e.symm).1; have := h.h; omega
  refine ⟨c1, ((h.s.alloc o).grown hg hn2).grown gs (by intro e; injection e; have := h.h; omega), c1.put1 _, ⟨o1.far gs (by omega), o2.far gs (by omega), o3.far gs (by omega), (apart_new h.o.p12.symm h.o.o1 hH hat).symm, h.o.p13, apart_new h.o.p23 h.o.o3 hH hat⟩, h.r.of_below b1, ?_, h.h⟩
  exact ((h.b.alloc o).grown hg (fun k e => by have := hr1 k e; have := h.h; omega)).setCell (.inr (by show w0.heap.size ≤ A; have := h.h; omega)) _
theorem DrSt.push3 {w0 w w1 : World} {R m S A g c H : Nat} {v1 v2 v3 : Value} {l1 l2 l3 : List Int} {x : Int} {o : Obj} (h : DrSt w0 w R m S A v1 v2 v3 l1 l2 l3)
    (hown : w1.ownsRow (A + 1) 3 1 (.slice (some ⟨g, 0, none⟩) (l3.length + 1) c) (l3.length + 1) (l3.map (Value.int .i64) ++ [.int .i64 x])) (hg : (w.alloc o).grownBy w1 v3.ownBlock) (hH : w.heap.size ≤ H) (hat : v3.ownBlock = some g ∨ g = H) :
    Cell3 w1 A v1 v2 v3 ∧ DrSt w0 (w1.setCell ⟨A, 2, none⟩ (.slice (some ⟨g, 0, none⟩) (l3.length + 1) c)) R m S A v1 v2 (.slice (some ⟨g, 0, none⟩) (l3.length + 1) c) l1 l2 (l3 ++ [x]) := by
  have hn : some A ≠ v3.ownBlock := by intro e; have := (h.o.o3.lt e.symm).1; omega
  have c1 : Cell3 w1 A v1 v2 v3 := (h.c.alloc o).grown hg hn
  have gs := grown_set w1 A 2 (.slice (some ⟨g, 0, none⟩) (l3.length + 1) c)
  have h' := h.alloc o
  have o3 : Owns w1 (A + 1) (.slice (some ⟨g, 0, none⟩) (l3.length + 1) c) (l3 ++ [x]) := by unfold Owns; simpa using hown
  have o1 : Owns w1 (A + 1) v1 l1 := h'.o.o1.grown hg h.o.p13
  have o2 : Owns w1 (A + 1) v2 l2 := h'.o.o2.grown hg h.o.p23
  have hr1 : ∀ k, v3.ownBlock = some k → A + 1 ≤ k := fun k e => (h.o.o3.lt e).1
  have b1 : Below (R + 1) w (w1.setCell ⟨A, 2, none⟩ (.slice (some ⟨g, 0, none⟩) (l3.length + 1) c)) :=
    ((((Below.refl (R + 1) w).alloc (by have := h.r.lt; omega) o).grown hg (by have := h.r.lt; simp; omega) (fun k e => by have := hr1 k e; have := h.h; omega)).setCell (by show R + 1 ≤ A; have := h.h; omega) _)
  have hn2 : some S ≠ v3.ownBlock := by intro e; have := (h.o.o3.lt e.symm).1; have := h.h; omega
  refine ⟨c1, ((h.s.alloc o).grown hg hn2).grown gs (by intro e; injection e; have := h.h; omega), c1.put2 _, ⟨o1.far gs (by omega), o2.far gs (by omega), o3.far gs (by omega), h.o.p12, (apart_new h.o.p13.symm h.o.o1 hH hat).symm, (apart_new h.o.p23.symm h.o.o2 hH hat).symm⟩, h.r.of_below b1, ?_, h.h⟩
  exact ((h.b.alloc o).grown hg (fun k e => by have := hr1 k e; have := h.h; omega)).setCell (.inr (by show w0.heap.size ≤ A; have := h.h; omega)) _
/-- lengths and bounds of the rows while they are drawn -/
structure DrB (k : Nat) (l1 l2 l3 : List Int) : Prop where
  n1 : l1.length = k
  n2 : l2.length = k
  n3 : l3.length = k
  b1 : ∀ x ∈ l1, 0 ≤ x ∧ x ≤ 501
  b2 : ∀ x ∈ l2, -181 ≤ x ∧ x ≤ 181
  b3 : ∀ x ∈ l3, -181 ≤ x ∧ x ≤ 180
theorem DrB.c3 {k : Nat} {l1 l2 l3 : List Int} (h : DrB k l1 l2 l3) : ∀ x ∈ l3, -181 ≤ x ∧ x ≤ 181 := fun x hx => by have := h.b3 x hx; omega
theorem DrB.nil : DrB 0 [] [] [] := ⟨rfl, rfl, rfl, by simp, by simp, by simp⟩
theorem DrB.push {k : Nat} {l1 l2 l3 : List Int} {x y z : Int} (h : DrB k l1 l2 l3) (hx : 0 ≤ x ∧ x ≤ 501) (hy : -181 ≤ y ∧ y ≤ 181) (hz : -181 ≤ z ∧ z ≤ 180) : DrB (k + 1) (l1 ++ [x]) (l2 ++ [y]) (l3 ++ [z]) :=
  ⟨by simp [h.n1], by simp [h.n2], by simp [h.n3], by intro u hu; rcases List.mem_append.1 hu with hu | hu; exact h.b1 u hu; (simp at hu; subst hu; exact hx), by intro u hu; rcases List.mem_append.1 hu with hu | hu; exact h.b2 u hu; (simp at hu; subst hu; exact hy), by intro u hu; rcases List.mem_append.1 hu with hu | hu; exact h.b3 u hu; (simp at hu; subst hu; exact hz)⟩
theorem DrSt.first {w : World} {R m : Nat} (rd : Rd w R m) (t : TypeId) : DrSt w ((w.alloc (.cells #[.slice none 0 0, .slice none 0 0, .slice none 0 0] t)).alloc (.cells #[.slice none 0 0, .slice none 0 0, .slice none 0 0] t)) R m w.heap.size (w.heap.size + 1) (.slice none 0 0) (.slice none 0 0) (.slice none 0 0) [] [] [] := by
  refine ⟨(Cell3.new w _ _ _ t).alloc _, ?_, ⟨Owns.nil _ _, Owns.nil _ _, Owns.nil _ _, .inl rfl, .inl rfl, .inl rfl⟩, (rd.alloc _).alloc _, ((Beside.refl R w).alloc _).alloc _, rd.lt, Nat.lt_succ_self _, Nat.le_refl _⟩
  have := Cell3.new (w.alloc (.cells #[.slice none 0 0, .slice none 0 0, .slice none 0 0] t)) (.slice none 0 0) (.slice none 0 0) (.slice none 0 0) t
  rwa [World.size_alloc] at this
/-- a slice of numbers in the call's own memory, that may be written -/
def Span (w : World) (B : Nat) (a : Option Addr) (l : List Int) : Prop := l = [] ∨ ∃ b o, a = some ⟨b, o, none⟩ ∧ B ≤ b ∧ b < w.heap.size ∧ ∀ i, i < l.length → w.cell? ⟨b, o + i, none⟩ = some (.int .i64 (l.getD i 0)) ∧ w.frozen? ⟨b, o + i, none⟩ = false
theorem Owns.span {w : World} {B n c : Nat} {a : Option Addr} {l : List Int} (h : Owns w B (.slice a n c) l) : Span w B a l := by
  rcases h.2 with ⟨h2, h3⟩ | ⟨g, cap, cur, e, hg, hh, hr⟩
  · exact .inl (List.eq_nil_of_length_eq_zero h3)
  · injection e with e1 e2 e3
    subst e1
    refine .inr ⟨g, 0, rfl, hg, (h.lt (k := g) rfl).2, fun i hi => ?_⟩
    have h' : Owns w B (.slice (some ⟨g, 0, none⟩) l.length cap) l := by
      have := h
      rw [e2, e3] at this
      exact this
    obtain ⟨q1, q2, _, _⟩ := h'.cellAt rfl i hi
    rw [Nat.zero_add]
    exact ⟨q1, q2⟩
theorem Span.row {w : World} {B : Nat} {a : Option Addr} {l : List Int} (h : Span w B a l) : Row w w.heap.size a l := by
  rcases h with h | ⟨b, o, e, _, hlt, hc⟩
  · exact .inl h
  · exact .inr ⟨b, o, e, hlt, fun i hi => (hc i hi).1⟩
theorem Span.base {w : World} {B B' : Nat} {a : Option Addr} {l : List Int} (h : Span w B a l) (hB : B' ≤ B) : Span w B' a l := by
  rcases h with h | ⟨b, o, e, hb, r⟩
  · exact .inl h
  · exact .inr ⟨b, o, e, by omega, r⟩
theorem Span.of_blocks {w w' : World} {B : Nat} {a : Option Addr} {l : List Int} (h : Span w B a l) (hs : w.heap.size ≤ w'.heap.size) (hb : ∀ k, k < w.heap.size → B ≤ k → Value.ownBlock (.slice a 0 0) = some k → w'.heap[k]? = w.heap[k]?) : Span w' B a l := by
  rcases h with h | ⟨b, o, e, hB, hlt, hc⟩
  · exact .inl h
  · have hk := hb b hlt hB (by rw [e]; rfl)
    exact .inr ⟨b, o, e, hB, by omega, fun i hi => ⟨(World.cell?_of_block (w := w) hk).trans (hc i hi).1, (World.frozen?_of_block (w := w) hk).trans (hc i hi).2⟩⟩
theorem Span.keptBy {may : Nat → Prop} {w w' : World} {B : Nat} {a : Option Addr} {l : List Int} (h : Span w B a l) (hk : Kept may w w') (hm : ∀ k, B ≤ k → ¬ may k) : Span w' B a l :=
  h.of_blocks hk.size (fun k h1 h2 _ => hk.block k h1 (hm k h2))
/-- what is known of an arm that was drawn -/
structure ArmFacts (w : World) (B : Nat) (a1 : Option Addr) (n1 c1 : Nat) (a2 : Option Addr) (n2 c2 : Nat) (a3 : Option Addr) (n3 c3 : Nat) (l lo hi : List Int) : Prop where
  len : l.length = n1 ∧ lo.length = n2 ∧ hi.length = n3
  le : n1 ≤ 5 ∧ n2 ≤ 4 ∧ n3 ≤ 4
  cap : n1 ≤ c1 ∧ n3 ≤ c3
  b1 : ∀ x ∈ l, 0 ≤ x ∧ x ≤ 501
  b2 : ∀ x ∈ lo, -181 ≤ x ∧ x ≤ 181
  b3 : ∀ x ∈ hi, -181 ≤ x ∧ x ≤ 181
  s1 : Span w B a1 l
  s2 : Span w B a2 lo
  s3 : Span w B a3 hi
  p13 : Apart (.slice a1 n1 c1) (.slice a3 n3 c3)
  p23 : Apart (.slice a2 n2 c2) (.slice a3 n3 c3)
theorem ArmFacts.row {w : World} {B n1 c1 n2 c2 n3 c3 : Nat} {a1 a2 a3 : Option Addr} {l lo hi : List Int} (h : ArmFacts w B a1 n1 c1 a2 n2 c2 a3 n3 c3 l lo hi) : ArmAt w w.heap.size a1 a2 a3 l lo hi := ⟨h.s1.row, h.s2.row, h.s3.row⟩
theorem ArmFacts.keptBy {may : Nat → Prop} {w w' : World} {B n1 c1 n2 c2 n3 c3 : Nat} {a1 a2 a3 : Option Addr} {l lo hi : List Int} (h : ArmFacts w B a1 n1 c1 a2 n2 c2 a3 n3 c3 l lo hi) (hk : Kept may w w') (hm : ∀ k, B ≤ k → ¬ may k) : ArmFacts w' B a1 n1 c1 a2 n2 c2 a3 n3 c3 l lo hi :=
  ⟨h.len, h.le, h.cap, h.b1, h.b2, h.b3, h.s1.keptBy hk hm, h.s2.keptBy hk hm, h.s3.keptBy hk hm, h.p13, h.p23⟩
theorem ArmFacts.beside {w w' : World} {B R n1 c1 n2 c2 n3 c3 : Nat} {a1 a2 a3 : Option Addr} {l lo hi : List Int} (h : ArmFacts w B a1 n1 c1 a2 n2 c2 a3 n3 c3 l lo hi) (hb : Beside R w w') (hR : R < B) : ArmFacts w' B a1 n1 c1 a2 n2 c2 a3 n3 c3 l lo hi :=
  h.keptBy (Kept.of_beside hb) (fun k hk => by omega)
theorem ArmFacts.after {w w' : World} {B n1 c1 n2 c2 n3 c3 : Nat} {a1 a2 a3 : Option Addr} {l lo hi : List Int} (h : ArmFacts w B a1 n1 c1 a2 n2 c2 a3 n3 c3 l lo hi) (hb : Below w.heap.size w w') : ArmFacts w' B a1 n1 c1 a2 n2 c2 a3 n3 c3 l lo hi :=
  h.keptBy (Kept.of_below (may := fun _ => False) hb) (fun _ _ => id)
theorem ArmFacts.base {w : World} {B B' n1 c1 n2 c2 n3 c3 : Nat} {a1 a2 a3 : Option Addr} {l lo hi : List Int} (h : ArmFacts w B a1 n1 c1 a2 n2 c2 a3 n3 c3 l lo hi) (hB : B' ≤ B) : ArmFacts w B' a1 n1 c1 a2 n2 c2 a3 n3 c3 l lo hi :=
  ⟨h.len, h.le, h.cap, h.b1, h.b2, h.b3, h.s1.base hB, h.s2.base hB, h.s3.base hB, h.p13, h.p23⟩
/-- an arm is drawn: in the call's own memory; the reader moves on -/
def ArmDrawn (w : World) (R m' : Nat) (e : Ending) (w' : World) : Prop := ∃ a1 n1 c1 a2 n2 c2 a3 n3 c3 l lo hi, e = .returned (.agg #[.slice a1 n1 c1, .slice a2 n2 c2, .slice a3 n3 c3]) ∧ ArmFacts w' w.heap.size a1 n1 c1 a2 n2 c2 a3 n3 c3 l lo hi ∧ Rd w' R m' ∧ Beside R w w'
/-- the state behind the draws: what is to be handed back -/
structure DrEnd (w W : World) (R m S A : Nat) (a1 : Option Addr) (n1 c1 : Nat) (a2 : Option Addr) (n2 c2 : Nat) (a3 : Option Addr) (n3 c3 : Nat) (l lo hi : List Int) : Prop where
  s : Cell3 W S (.slice none 0 0) (.slice none 0 0) (.slice none 0 0)
  c : Cell3 W A (.slice a1 n1 c1) (.slice a2 n2 c2) (.slice a3 n3 c3)
  f : ArmFacts W (A + 1) a1 n1 c1 a2 n2 c2 a3 n3 c3 l lo hi
  r : Rd W R m
  b : Beside R w W
  h : R < S ∧ S < A ∧ w.heap.size ≤ S
theorem Owns.capOf {w : World} {B n c : Nat} {a : Option Addr} {l : List Int} (h : Owns w B (.slice a n c) l) (hn : l.length = n) : n ≤ c := by
  rcases h.2 with ⟨h2, h3⟩ | ⟨g, cap, cur, e, hg, hh, hr, _⟩
  · injection h2 with h2 h4 h5; omega
  · injection e with e1 e2 e3; omega
theorem DrSt.fin {w W : World} {R m S A n1 n2 n3 : Nat} {v1 v2 v3 : Value} {l1 l2 l3 : List Int} (h : DrSt w W R m S A v1 v2 v3 l1 l2 l3) (hn1 : l1.length = n1) (hn2 : l2.length = n2) (hn3 : l3.length = n3) (hle : n1 ≤ 5 ∧ n2 ≤ 4 ∧ n3 ≤ 4)
    (b1 : ∀ x ∈ l1, 0 ≤ x ∧ x ≤ 501) (b2 : ∀ x ∈ l2, -181 ≤ x ∧ x ≤ 181) (b3 : ∀ x ∈ l3, -181 ≤ x ∧ x ≤ 181) :
    ∃ a1 c1 a2 c2 a3 c3, (v1 = .slice a1 n1 c1 ∧ v2 = .slice a2 n2 c2 ∧ v3 = .slice a3 n3 c3) ∧ DrEnd w W R m S A a1 n1 c1 a2 n2 c2 a3 n3 c3 l1 l2 l3 := by
  obtain ⟨a1, c1, rfl, _⟩ := h.o.o1.view
  obtain ⟨a2, c2, rfl, _⟩ := h.o.o2.view
  obtain ⟨a3, c3, rfl, _⟩ := h.o.o3.view
  subst hn1; subst hn2; subst hn3
  exact ⟨a1, c1, a2, c2, a3, c3, ⟨rfl, rfl, rfl⟩, h.s, h.c, ⟨⟨rfl, rfl, rfl⟩, hle, ⟨h.o.o1.capOf rfl, h.o.o3.capOf rfl⟩, b1, b2, b3, h.o.o1.span, h.o.o2.span, h.o.o3.span, h.o.p13, h.o.p23⟩, h.r, h.b, h.h⟩
theorem DrEnd.mono {w W : World} {R m m' S A n1 c1 n2 c2 n3 c3 : Nat} {a1 a2 a3 : Option Addr} {l lo hi : List Int} (h : DrEnd w W R m S A a1 n1 c1 a2 n2 c2 a3 n3 c3 l lo hi) (hm : m ≤ m') : DrEnd w W R m' S A a1 n1 c1 a2 n2 c2 a3 n3 c3 l lo hi := ⟨h.s, h.c, h.f, h.r.mono hm, h.b, h.h⟩
/-- some arm is there, to be handed back -/
def DrSome (w W : World) (R m S A : Nat) : Prop := ∃ a1 n1 c1 a2 n2 c2 a3 n3 c3 l lo hi, DrEnd w W R m S A a1 n1 c1 a2 n2 c2 a3 n3 c3 l lo hi
theorem DrSt.done {w W : World} {R m m' S A n1 n2 n3 : Nat} {v1 v2 v3 : Value} {l1 l2 l3 : List Int} (h : DrSt w W R m S A v1 v2 v3 l1 l2 l3) (hm : m ≤ m') (hn1 : l1.length = n1) (hn2 : l2.length = n2) (hn3 : l3.length = n3) (hle : n1 ≤ 5 ∧ n2 ≤ 4 ∧ n3 ≤ 4)
    (b1 : ∀ x ∈ l1, 0 ≤ x ∧ x ≤ 501) (b2 : ∀ x ∈ l2, -181 ≤ x ∧ x ≤ 181) (b3 : ∀ x ∈ l3, -181 ≤ x ∧ x ≤ 181) : DrSome w W R m' S A := by
  obtain ⟨a1, c1, a2, c2, a3, c3, _, en⟩ := h.fin hn1 hn2 hn3 hle b1 b2 b3
  exact ⟨a1, _, c1, a2, _, c2, a3, _, c3, _, _, _, en.mono hm⟩
theorem DrSt.cut3 {w W : World} {R m m' S A k g c o : Nat} {v1 v2 : Value} {l1 l2 l3 : List Int} (h : DrSt w W R m S A v1 v2 (.slice (some ⟨g, 0, none⟩) k c) l1 l2 l3) (hm : m ≤ m') (hn1 : l1.length = k) (hn2 : l2.length = k) (hn3 : l3.length = k) (hk : 1 ≤ k ∧ k ≤ 4) (ho : o = 1 ∨ k = 1)
    (b1 : ∀ x ∈ l1, 0 ≤ x ∧ x ≤ 501) (b2 : ∀ x ∈ l2, -181 ≤ x ∧ x ≤ 181) (b3 : ∀ x ∈ l3, -181 ≤ x ∧ x ≤ 181) :
    DrSome w (W.setCell ⟨A, 2, none⟩ (.slice (some ⟨g, o, none⟩) (k - 1) (c - 1))) R m' S A := by
  obtain ⟨a1, c1, e1, _⟩ := h.o.o1.view
  obtain ⟨a2, c2, e2, _⟩ := h.o.o2.view
  rw [hn1] at e1
  rw [hn2] at e2
  subst e1; subst e2
  have gs := grown_set W A 2 (.slice (some ⟨g, o, none⟩) (k - 1) (c - 1))
  have hh := h.h
  have hg := h.o.o3.lt (k := g) rfl
  have hks := Kept.of_grown (may := fun i => i = A) gs (by intro i e; injection e with e; exact e.symm)
  have hcap := h.o.o3.capOf hn3
  refine ⟨a1, k, c1, a2, k, c2, some ⟨g, o, none⟩, k - 1, c - 1, l1, l2, l3.drop 1, h.s.grown gs (by intro e; injection e; omega), h.c.put2 _, ⟨⟨hn1, hn2, by rw [List.length_drop, hn3]⟩, ⟨by omega, by omega, by omega⟩, ⟨h.o.o1.capOf hn1, by omega⟩, b1, b2, fun x hx => b3 x (List.mem_of_mem_drop hx), h.o.o1.span.keptBy hks (fun i hi => by omega), h.o.o2.span.keptBy hks (fun i hi => by omega), ?_, ?_, ?_⟩, (h.r.mono hm).setCell (by show R < A; omega) _, h.b.setCell (.inr (by show w.heap.size ≤ A; omega)) _, hh⟩
  · by_cases h1 : k = 1
    · left
      exact List.eq_nil_of_length_eq_zero (by rw [List.length_drop, hn3]; omega)
    · obtain rfl : o = 1 := by omega
      have hs : Span W (A + 1) (some ⟨g, 1, none⟩) (l3.drop 1) := by
        refine .inr ⟨g, 1, rfl, hg.1, hg.2, fun i hi => ?_⟩
        rw [List.length_drop, hn3] at hi
        obtain ⟨q1, q2, _, _⟩ := h.o.o3.cellAt hn3 (1 + i) (by omega)
        refine ⟨?_, q2⟩
        rw [q1, List.getD_eq_getElem?_getD, List.getD_eq_getElem?_getD, List.getElem?_drop]
      exact hs.keptBy hks (fun i hi => by omega)
  · rcases h.o.p13 with p | p
    · exact .inl p
    · exact .inr p
  · rcases h.o.p23 with p | p
    · exact .inl p
    · exact .inr p
theorem grown3 (w : World) (k : Nat) (x y z : Value) : Kept (fun i => i = k) w (((w.setCell ⟨k, 0, none⟩ x).setCell ⟨k, 1, none⟩ y).setCell ⟨k, 2, none⟩ z) :=
  ((Kept.of_grown (grown_set w k 0 x) (by intro i e; injection e with e; exact e.symm)).trans (Kept.of_grown (grown_set _ k 1 y) (by intro i e; injection e with e; exact e.symm))).trans (Kept.of_grown (grown_set _ k 2 z) (by intro i e; injection e with e; exact e.symm))
/-- the arm is stored as the result -/
theorem DrEnd.out {w W : World} {R m A n1 c1 n2 c2 n3 c3 : Nat} {a1 a2 a3 : Option Addr} {l lo hi : List Int} (h : DrEnd w W R m w.heap.size A a1 n1 c1 a2 n2 c2 a3 n3 c3 l lo hi) (wf : World)
    (hw : wf = ((W.setCell ⟨w.heap.size, 0, none⟩ (.slice a1 n1 c1)).setCell ⟨w.heap.size, 1, none⟩ (.slice a2 n2 c2)).setCell ⟨w.heap.size, 2, none⟩ (.slice a3 n3 c3)) :
    Cell3 wf w.heap.size (.slice a1 n1 c1) (.slice a2 n2 c2) (.slice a3 n3 c3) ∧ ArmFacts wf w.heap.size a1 n1 c1 a2 n2 c2 a3 n3 c3 l lo hi ∧ Rd wf R m ∧ Beside R w wf := by
  subst hw
  have hh := h.h
  refine ⟨((h.s.put0 _).put1 _).put2 _, (h.f.keptBy (grown3 W w.heap.size _ _ _) (fun k hk => by omega)).base (by omega), ?_, ?_⟩
  · exact ((h.r.setCell (p := ⟨w.heap.size, 0, none⟩) hh.1 _).setCell (p := ⟨w.heap.size, 1, none⟩) hh.1 _).setCell (p := ⟨w.heap.size, 2, none⟩) hh.1 _
  · exact ((h.b.setCell (.inr (Nat.le_refl _)) _).setCell (.inr (Nat.le_refl _)) _).setCell (.inr (Nat.le_refl _)) _
theorem DrSt.put1 {w0 w : World} {R m S A g n c : Nat} {v2 v3 : Value} {l1 l2 l3 : List Int} (h : DrSt w0 w R m S A (.slice (some ⟨g, 0, none⟩) n c) v2 v3 l1 l2 l3) (hn : l1.length = n) (k : Nat) (y : Int) :
    DrSt w0 (w.setCell ⟨g, k, none⟩ (.int .i64 y)) R m S A (.slice (some ⟨g, 0, none⟩) n c) v2 v3 (l1.set k y) l2 l3 := by
  have gs := grown_set w g k (.int .i64 y)
  have hg := (h.o.o1.lt (k := g) rfl).1
  have hh := h.h
  exact ⟨h.s.grown gs (by intro e; injection e; omega), h.c.grown gs (by intro e; injection e; omega), ⟨h.o.o1.put hn k y, h.o.o2.grown gs (h.o.p12.symm), h.o.o3.grown gs h.o.p13.symm, h.o.p12, h.o.p13, h.o.p23⟩, h.r.setCell (by show R < g; omega) _, h.b.setCell (.inr (by show w0.heap.size ≤ g; omega)) _, hh⟩
theorem DrSt.put2 {w0 w : World} {R m S A g n c : Nat} {v1 v3 : Value} {l1 l2 l3 : List Int} (h : DrSt w0 w R m S A v1 (.slice (some ⟨g, 0, none⟩) n c) v3 l1 l2 l3) (hn : l2.length = n) (k : Nat) (y : Int) :
    DrSt w0 (w.setCell ⟨g, k, none⟩ (.int .i64 y)) R m S A v1 (.slice (some ⟨g, 0, none⟩) n c) v3 l1 (l2.set k y) l3 := by
  have gs := grown_set w g k (.int .i64 y)
  have hg := (h.o.o2.lt (k := g) rfl).1
  have hh := h.h
  exact ⟨h.s.grown gs (by intro e; injection e; omega), h.c.grown gs (by intro e; injection e; omega), ⟨h.o.o1.grown gs h.o.p12, h.o.o2.put hn k y, h.o.o3.grown gs h.o.p23.symm, h.o.p12, h.o.p13, h.o.p23⟩, h.r.setCell (by show R < g; omega) _, h.b.setCell (.inr (by show w0.heap.size ≤ g; omega)) _, hh⟩
theorem mem_set_bd {l : List Int} {k : Nat} {y a b : Int} (h : ∀ x ∈ l, a ≤ x ∧ x ≤ b) (hy : a ≤ y ∧ y ≤ b) : ∀ x ∈ l.set k y, a ≤ x ∧ x ≤ b := by
  intro x hx
  rcases List.mem_or_eq_of_mem_set hx with hx | rfl
  · exact h x hx
  · exact hy
theorem odd_any0 (R m : Nat) (n : Int) (w : World) (h : Rd w R m) (hm : m ≤ 999990) (hn : 0 ≤ n) (hn2 : n ≤ 1000000) :
    Calls Tryd.prog 33 #[.pointer (some ⟨R, 0, none⟩), .int .i64 n] w (Drew w R (m + 1) ABool) := by
  by_cases h0 : 1 ≤ n
  · exact odd_any R m n w h hm h0 hn2
  · obtain rfl : n = 0 := by omega
    go_enter Tryd.func33, Tryd.ntmps33
    go_wp2_with fail
    go_ret
    exact ⟨⟨false, rfl⟩, h.mono (Nat.le_succ _), Beside.refl _ _⟩
theorem slot_at {w : World} {B n c : Nat} {a : Option Addr} {l : List Int} (h : Owns w B (.slice a n c) l) (hn : l.length = n) (hp : 0 < n) : ∃ g, a = some ⟨g, 0, none⟩ := by
  rcases h.2 with ⟨h2, h3⟩ | ⟨g, cap', cur, h2, _⟩
  · omega
  · injection h2 with h2; exact ⟨g, h2⟩
theorem arm_end {w W : World} {R m A n1 c1 n2 c2 n3 c3 : Nat} {a1 a2 a3 : Option Addr} {l lo hi : List Int} (h : DrEnd w W R m w.heap.size A a1 n1 c1 a2 n2 c2 a3 n3 c3 l lo hi) {m' : Nat} (hm : m ≤ m') :
    ∃ wf, wf = ((W.setCell ⟨w.heap.size, 0, none⟩ (.slice a1 n1 c1)).setCell ⟨w.heap.size, 1, none⟩ (.slice a2 n2 c2)).setCell ⟨w.heap.size, 2, none⟩ (.slice a3 n3 c3) ∧ Cell3 wf w.heap.size (.slice a1 n1 c1) (.slice a2 n2 c2) (.slice a3 n3 c3) ∧ ArmDrawn w R m' (.returned (.agg #[.slice a1 n1 c1, .slice a2 n2 c2, .slice a3 n3 c3])) wf := by
  obtain ⟨q9, f9, r9, b9⟩ := h.out _ rfl
  exact ⟨_, rfl, q9, a1, n1, c1, a2, n2, c2, a3, n3, c3, _, _, _, rfl, f9, r9.mono hm, b9⟩
set_option maxRecDepth 100000 in
set_option maxHeartbeats 8000000 in
theorem l20_arm (R m : Nat) (mn n : Int) (w : World) (rd : Rd w R m) (hm : m ≤ 900000) (h1 : 1 ≤ mn) (h2 : mn ≤ 4) (hn : 0 ≤ n) (hn2 : n ≤ 1000000) :
    Calls Tryd.prog 34 #[.pointer (some ⟨R, 0, none⟩), .int .i64 mn, .int .i64 n] w (ArmDrawn w R (m + 30)) := by
  obtain ⟨i0, hi0, hz0, hz1, hz2⟩ := info_parts infoInt
  have hRw := rd.lt
  have st := Lib.hid (DrSt.first rd 25)
  go_enter Tryd.func34, Tryd.ntmps34
  go_wp2_with fail
  generalize (w.alloc (.cells #[.slice none 0 0, .slice none 0 0, .slice none 0 0] 25)).alloc (.cells #[.slice none 0 0, .slice none 0 0, .slice none 0 0] 25) = v at *
  go_loopw [8] (fun i wr => ∃ (k : Nat) (v1 v2 v3 : Value) (l1 l2 l3 : List Int), i = .int .i64 k ∧ (k : Int) ≤ mn ∧ Hid (DrSt w wr R (m + 3 * k) w.heap.size (w.heap.size + 1) v1 v2 v3 l1 l2 l3) ∧ Hid (DrB k l1 l2 l3)) (fun i _ => (mn - intOf i).toNat)
  case atStart => exact ⟨0, _, _, _, _, _, _, rfl, by omega, st, DrB.nil⟩
  case round =>
    obtain ⟨k, v1, v2, v3, l1, l2, l3, rfl, hk, s1, hB⟩ := hrel
    have q1 := Lib.hid hB.out.n1
    have q2 := Lib.hid hB.out.n2
    have q3 := Lib.hid hB.out.n3
    clear st
    by_cases hlt : (k : Int) < mn
    · have f0 := s1.out.c.c0
      have hAw := s1.out.lt
      go_upto_region 6 with fail
      go_cut [24] (fun _ wx => ∃ (v1' : Value) (x : Int), (0 ≤ x ∧ x ≤ 501) ∧ Hid (DrSt w wx R (m + 3 * k + 1) w.heap.size (w.heap.size + 1) v1' v2 v3 (l1 ++ [x]) l2 l3))
      case first =>
        go_wp2_with fail
        have s1d := s1.out.drew
        go_region_law (first | (go_simp; go_at_call 58; (with_reducible refine (pick_any R (m + 3 * k) _ _ s1d.r (by omega) (by omega) (by omega)).mono ?_); rintro e w2 ⟨x1, p1, p2, rfl, r2, b2⟩; have st2 := Lib.hid (s1d.beside r2 b2); have f2 := st2.out.c.c0; have l2' := st2.out.lt; have ew : IntKind.i64.wrap (1 + x1) = 1 + x1 := IntWalk.i64_in _ (by omega)) | (refine step_append_lies _ (by rfl) _ _ 23 (by rfl) (w.heap.size + 1 + 1) 3 i0 (.int .i64 0) 1 8 Tryd.underlying23 hi0 hz0 hz1 hz2 rfl (by decide) v1 _ _ (by rfl) (World.ownsRow.alloc st2.out.o.o1 _) ⟨w2.heap.size, 0, none⟩ 1 1 [.int .i64 (1 + x1)] (by rfl) (by rfl) (one_new _ _ _) (one_one _) (by decide) (by rw [q1.out]; unfold maxLen; omega) (by rw [q1.out]; omega) (by simp; omega) (w2.heap.size + 1) (by simp) ?_; intro g cap w3 hown hgrow hat hlt3; obtain ⟨cc, st3⟩ := st2.out.push1 hown hgrow (Nat.le_succ _) hat; have g0 := cc.c0; have g1 := cc.f0; have st3 := Lib.hid st3))
        all_goals
          go_wp2_with fail
          go_meet
          exact ⟨_, 1 + x1, ⟨by omega, by omega⟩, st3⟩
      case rest =>
        obtain ⟨v1', x1, hx1, s2⟩ := hcut
        clear f0 hAw s1
        go_wp2_with fail
        refine (pick_any R (m + 3 * k + 1) _ _ s2.out.r (by omega) (by omega) (by omega)).mono ?_
        rintro e w4 ⟨x2, p1, p2, rfl, r4, b4⟩
        replace s2 := Lib.hid (s2.out.beside r4 b4)
        clear r4 b4
        have f2 := s2.out.c.c1
        have hAw := s2.out.lt
        go_wp2_with (at_builtin; refine wpList_append_lies _ rfl _ _ 23 rfl (w.heap.size + 1 + 1) 3 i0 (.int .i64 0) 1 8 Tryd.underlying23 hi0 hz0 hz1 hz2 rfl (by decide) v2 _ _ rfl (World.ownsRow.alloc s2.out.o.o2 _) ⟨w4.heap.size, 0, none⟩ 1 1 [.int .i64 (x2 - 180)] rfl rfl (one_new _ _ _) (one_one _) (by decide) ?c3 ?c4 ?c5 (w4.heap.size + 1) (by simp) ?_)
        case c3 => rw [q2.out]; unfold maxLen; omega
        case c4 => rw [q2.out]; omega
        case c5 => simp; omega
        intro g cap w5 hown hgrow hat hlt3
        obtain ⟨cc, st3⟩ := s2.out.push2 hown hgrow (Nat.le_succ _) hat
        have g0 := cc.c1
        have g1 := cc.f1
        replace s2 := Lib.hid st3
        clear st3 cc hown hgrow hat f2
        go_wp2_with fail
        generalize w5.setCell ⟨w.heap.size + 1, 1, none⟩ (.slice (some ⟨g, 0, none⟩) (l2.length + 1) cap) = w6 at *
        have f3 := s2.out.c.c2
        have hAw := s2.out.lt
        have s2d := s2.out.drew
        have h60 : (60 : Int) ≤ 181 - (x2 - 180) := by omega
        have e0 : IntKind.i64.wrap (181 - (x2 - 180)) = 181 - (x2 - 180) := IntWalk.i64_in _ (by omega)
        go_region_law (first | (go_simp; go_at_call 58; (with_reducible refine (pick_any R (m + 3 * k + 1 + 1) _ _ s2d.r (by omega) (by omega) (by omega)).mono ?_); rintro e w7 ⟨x3, p5, p6, rfl, r7, b7⟩; have st2 := Lib.hid (s2d.beside r7 b7); have f2 := st2.out.c.c2; have l2' := st2.out.lt; have ew : IntKind.i64.wrap (x2 - 180 + x3) = x2 - 180 + x3 := IntWalk.i64_in _ (by omega)) | (refine step_append_lies _ (by rfl) _ _ 23 (by rfl) (w.heap.size + 1 + 1) 3 i0 (.int .i64 0) 1 8 Tryd.underlying23 hi0 hz0 hz1 hz2 rfl (by decide) v3 _ _ (by rfl) (World.ownsRow.alloc st2.out.o.o3 _) ⟨w7.heap.size, 0, none⟩ 1 1 [.int .i64 (x2 - 180 + x3)] (by rfl) (by rfl) (one_new _ _ _) (one_one _) (by decide) (by rw [q3.out]; unfold maxLen; omega) (by rw [q3.out]; omega) (by simp; omega) (w7.heap.size + 1) (by simp) ?_; intro g cap w3 hown hgrow hat hlt3; obtain ⟨cc, st3⟩ := st2.out.push3 hown hgrow (Nat.le_succ _) hat; have g0 := cc.c2; have g1 := cc.f2; have st3 := Lib.hid st3))
        all_goals
          go_wp2_with fail
          go_roundw
          case rel => exact ⟨k + 1, _, _, _, _, _, _, by go_num, by omega, st3.out.mono (by omega), hB.out.push hx1 ⟨by omega, by omega⟩ ⟨by omega, by omega⟩⟩
          case measure => simp [intOf]; omega
    · have hk2 : (k : Int) = mn := by omega
      replace hk2 := Lib.hid hk2
      have hk4 : k ≤ 4 := by omega
      have hk1 : 1 ≤ k := by omega
      go_wp2_with fail
      refine (odd_any0 R (m + 3 * k) n _ s1.out.r (by omega) hn hn2).mono ?_
      rintro e w2 ⟨⟨b, rfl⟩, r2, b2⟩
      replace s1 := Lib.hid (s1.out.beside r2 b2)
      clear r2 b2
      cases b
      · obtain ⟨a1, c1, a2, c2, a3, c3, ⟨rfl, rfl, rfl⟩, en⟩ := s1.out.fin hB.out.n1 hB.out.n2 hB.out.n3 ⟨by omega, by omega, by omega⟩ hB.out.b1 hB.out.b2 hB.out.c3
        replace en := Lib.hid en
        obtain ⟨k0, k1, k2, k3, k4, k5⟩ := en.out.c
        obtain ⟨k6, k7, k8, k9, k10, k11⟩ := en.out.s
        have hAw := en.out.c.lt
        obtain ⟨wf, hwf, q9, hd9⟩ := arm_end (m' := m + 30) en.out (by omega)
        replace hwf := Lib.hid hwf.symm
        replace hd9 := Lib.hid hd9
        obtain ⟨u0, u1, u2, u3, u4, u5⟩ := q9
        go_wp2_with fail
        rw [hwf.out]
        exact bodyPost_ret (v := .agg #[.slice a1 k c1, .slice a2 k c2, .slice a3 k c3]) (by simp [results, Tryd.results34, go_sem, u0, u1, u2]) rfl hd9.out
      · go_wp2_with fail
        refine (pick_any R (m + 3 * k + 1) _ _ s1.out.r (by omega) (by omega) (by omega)).mono ?_
        rintro e w3 ⟨kk, p1, p2, rfl, r2, b2⟩
        replace s1 := Lib.hid (s1.out.beside r2 b2)
        clear r2 b2
        obtain ⟨j, rfl⟩ := Int.eq_ofNat_of_zero_le p1
        have hj : j < k := by have := hk2.out; omega
        clear p1 p2
        go_wp2_with fail
        refine (pick_any R (m + 3 * k + 1 + 1) _ _ s1.out.r (by omega) (by omega) (by omega)).mono ?_
        rintro e w4 ⟨sw, p1, p2, rfl, r2, b2⟩
        replace s1 := Lib.hid (s1.out.beside r2 b2)
        clear r2 b2
        have hsw : sw = 0 ∨ sw = 1 ∨ sw = 2 ∨ sw = 3 := by omega
        go_upto_block 2 with fail
        go_cut [72] (fun _ wx => DrSome w wx R (m + 20) w.heap.size (w.heap.size + 1))
        case first =>
          rcases hsw with rfl | rfl | rfl | rfl
          · obtain ⟨ax, cx, ex, _⟩ := s1.out.o.o1.view
            rw [q1.out] at ex
            subst ex
            obtain ⟨g, rfl⟩ := slot_at s1.out.o.o1 q1.out (by omega)
            obtain ⟨y1, y2, y3, y4⟩ := s1.out.o.o1.cellAt q1.out j hj
            have f0 := s1.out.c.c0
            have hAw := s1.out.lt
            have hj4 : (j : Int) < (k : Int) := by omega
            have sA := (s1.out.alloc (.cells #[.int .i64 0, .int .i64 501] 3)).drew
            have sB := s1.out.drew
            replace sA := Lib.hid sA
            replace sB := Lib.hid sB
            have nA : w4.heap.size ≠ R := by have := s1.out.r.lt; omega
            have nB : w4.heap.size ≠ w.heap.size + 1 := by omega
            have nC : w.heap.size + 1 ≠ w4.heap.size := by omega
            have nD : g ≠ w.heap.size + 1 := by omega
            have nE : w.heap.size + 1 ≠ g := by omega
            go_wp2_with fail
            go_region_law (first | (go_simp; go_at_call 58; (with_reducible refine (pick_any R (m + 3 * k + 1 + 1 + 1) _ _ sA.out.r (by omega) (by omega) (by omega)).mono ?_); rintro e w5 ⟨x1, p1, p2, rfl, r5, b5⟩; have st2 := Lib.hid (sA.out.beside r5 b5); have f2 := st2.out.c.c0; have l2' := st2.out.lt; obtain ⟨y5, y6, y7, y8⟩ := st2.out.o.o1.cellAt q1.out j hj; have nJ : w5.heap.size ≠ w.heap.size + 1 := (by omega); have nK : w.heap.size + 1 ≠ w5.heap.size := (by omega); have s := f2; obtain ⟨u, hu, cu⟩ := lit_cell b5 [0, 501] 3 (alloc1 w4 _) nA (fun x => 0 ≤ x ∧ x ≤ 501) (by decide) x1 p1 p2; obtain ⟨hu1, hu2⟩ := hu) | (go_simp; go_at_call 58; (with_reducible refine (pick_any R (m + 3 * k + 1 + 1 + 1) _ _ sB.out.r (by omega) (by omega) (by omega)).mono ?_); rintro e w5 ⟨x1, p1, p2, rfl, r5, b5⟩; have st2 := Lib.hid (sB.out.beside r5 b5); have f2 := st2.out.c.c0; have l2' := st2.out.lt; obtain ⟨y5, y6, y7, y8⟩ := st2.out.o.o1.cellAt q1.out j hj; have nJ : w5.heap.size ≠ w.heap.size + 1 := (by omega); have nK : w.heap.size + 1 ≠ w5.heap.size := (by omega); have s := f2; obtain ⟨u, hu, cu⟩ := lit_cell (Beside.refl R (w5.alloc (.cells #[.int .i64 0, .int .i64 501] 3))) [0, 501] 3 (alloc1 w5 _) (by have := st2.out.r.lt; omega) (fun x => 0 ≤ x ∧ x ≤ 501) (by decide) x1 p1 p2; obtain ⟨hu1, hu2⟩ := hu))
            all_goals
              go_wp2_with fail
              go_meet
              have st3 := st2.out.put1 q1.out j u
              first | with_reducible exact st3.done (n1 := k) (n2 := k) (n3 := k) (by omega) (by rw [List.length_set]; exact q1.out) q2.out q3.out ⟨by omega, by omega, by omega⟩ (mem_set_bd hB.out.b1 ⟨hu1, hu2⟩) hB.out.b2 hB.out.c3 | with_reducible exact (st3.alloc _).done (n1 := k) (n2 := k) (n3 := k) (by omega) (by rw [List.length_set]; exact q1.out) q2.out q3.out ⟨by omega, by omega, by omega⟩ (mem_set_bd hB.out.b1 ⟨hu1, hu2⟩) hB.out.b2 hB.out.c3
          · obtain ⟨ax, cx, ex, _⟩ := s1.out.o.o2.view
            rw [q2.out] at ex
            subst ex
            obtain ⟨g, rfl⟩ := slot_at s1.out.o.o2 q2.out (by omega)
            obtain ⟨ay, cy, ey, _⟩ := s1.out.o.o3.view
            rw [q3.out] at ey
            subst ey
            obtain ⟨gy, rfl⟩ := slot_at s1.out.o.o3 q3.out (by omega)
            obtain ⟨t1, t2, t3, t4⟩ := s1.out.o.o3.cellAt q3.out j hj
            have hz := hB.out.b3 (l3.getD j 0) (by rw [List.getD_eq_getElem?_getD, List.getElem?_eq_getElem (by rw [q3.out]; exact hj)]; exact List.getElem_mem _)
            generalize hzz : l3.getD j 0 = z at *
            replace hzz := Lib.hid hzz
            obtain ⟨hz1', hz2'⟩ := hz
            have ez : IntKind.i64.wrap (z + 1) = z + 1 := IntWalk.i64_in _ (by omega)
            obtain ⟨y1, y2, y3, y4⟩ := s1.out.o.o2.cellAt q2.out j hj
            have f0 := s1.out.c.c1
            have f00 := s1.out.c.c2
            have hAw := s1.out.lt
            have hj4 : (j : Int) < (k : Int) := by omega
            have sA := (s1.out.alloc (.cells #[.int .i64 (-181), .int .i64 (z + 1)] 3)).drew
            have sB := s1.out.drew
            replace sA := Lib.hid sA
            replace sB := Lib.hid sB
            have nA : w4.heap.size ≠ R := by have := s1.out.r.lt; omega
            have nB : w4.heap.size ≠ w.heap.size + 1 := by omega
            have nC : w.heap.size + 1 ≠ w4.heap.size := by omega
            have nD : g ≠ w.heap.size + 1 := by omega
            have nE : w.heap.size + 1 ≠ g := by omega
            have nF : w4.heap.size ≠ gy := by omega
            have nG : gy ≠ w4.heap.size := by omega
            have nH : g ≠ gy := by
              rcases s1.out.o.p23 with p | p
              · cases p
              · intro e; exact p (by rw [e]; rfl)
            have nI : gy ≠ g := fun e => nH e.symm
            go_wp2_with fail
            go_region_law (first | (go_simp; go_at_call 58; (with_reducible refine (pick_any R (m + 3 * k + 1 + 1 + 1) _ _ sA.out.r (by omega) (by omega) (by omega)).mono ?_); rintro e w5 ⟨x1, p1, p2, rfl, r5, b5⟩; have st2 := Lib.hid (sA.out.beside r5 b5); have f2 := st2.out.c.c1; have l2' := st2.out.lt; obtain ⟨y5, y6, y7, y8⟩ := st2.out.o.o2.cellAt q2.out j hj; have nJ : w5.heap.size ≠ w.heap.size + 1 := (by omega); have nK : w.heap.size + 1 ≠ w5.heap.size := (by omega); have f3 := st2.out.c.c2; obtain ⟨t5, t6, t7, t8⟩ := st2.out.o.o3.cellAt q3.out j hj; rw [hzz.out] at t5; have nL : w5.heap.size ≠ gy := (by omega); have nM : gy ≠ w5.heap.size := (by omega); have s := And.intro f2 (And.intro f3 t5); obtain ⟨u, hu, cu⟩ := lit_cell b5 [-181, z + 1] 3 (alloc1 w4 _) nA (fun x => -181 ≤ x ∧ x ≤ 181) (by intro x hx; simp at hx; omega) x1 p1 p2; obtain ⟨hu1, hu2⟩ := hu) | (go_simp; go_at_call 58; (with_reducible refine (pick_any R (m + 3 * k + 1 + 1 + 1) _ _ sB.out.r (by omega) (by omega) (by omega)).mono ?_); rintro e w5 ⟨x1, p1, p2, rfl, r5, b5⟩; have st2 := Lib.hid (sB.out.beside r5 b5); have f2 := st2.out.c.c1; have l2' := st2.out.lt; obtain ⟨y5, y6, y7, y8⟩ := st2.out.o.o2.cellAt q2.out j hj; have nJ : w5.heap.size ≠ w.heap.size + 1 := (by omega); have nK : w.heap.size + 1 ≠ w5.heap.size := (by omega); have f3 := st2.out.c.c2; obtain ⟨t5, t6, t7, t8⟩ := st2.out.o.o3.cellAt q3.out j hj; rw [hzz.out] at t5; have nL : w5.heap.size ≠ gy := (by omega); have nM : gy ≠ w5.heap.size := (by omega); have s := And.intro f2 (And.intro f3 t5); obtain ⟨u, hu, cu⟩ := lit_cell (Beside.refl R (w5.alloc (.cells #[.int .i64 (-181), .int .i64 (z + 1)] 3))) [-181, z + 1] 3 (alloc1 w5 _) (by have := st2.out.r.lt; omega) (fun x => -181 ≤ x ∧ x ≤ 181) (by intro x hx; simp at hx; omega) x1 p1 p2; obtain ⟨hu1, hu2⟩ := hu))
            all_goals
              go_wp2_with fail
              go_meet
              have st3 := st2.out.put2 q2.out j u
              first | with_reducible exact st3.done (n1 := k) (n2 := k) (n3 := k) (by omega) q1.out (by rw [List.length_set]; exact q2.out) q3.out ⟨by omega, by omega, by omega⟩ hB.out.b1 (mem_set_bd hB.out.b2 ⟨hu1, hu2⟩) hB.out.c3 | with_reducible exact (st3.alloc _).done (n1 := k) (n2 := k) (n3 := k) (by omega) q1.out (by rw [List.length_set]; exact q2.out) q3.out ⟨by omega, by omega, by omega⟩ hB.out.b1 (mem_set_bd hB.out.b2 ⟨hu1, hu2⟩) hB.out.c3
          · obtain ⟨ax, cx, ex, _⟩ := s1.out.o.o3.view
            rw [q3.out] at ex
            subst ex
            obtain ⟨g, rfl⟩ := slot_at s1.out.o.o3 q3.out (by omega)
            obtain ⟨k0, k1', k2, k3, k4, k5⟩ := s1.out.c
            have hAw := s1.out.lt
            have hcap := s1.out.o.o3.capOf q3.out
            by_cases hc : cx = 1
            · have hc1 : k = 1 := by omega
              subst hc
              subst hc1
              go_wp2_with fail
              go_meet
              with_reducible exact s1.out.cut3 (by omega) q1.out q2.out q3.out (by omega) (.inr rfl) hB.out.b1 hB.out.b2 hB.out.c3
            · have hc2 : (1 : Int) < (cx : Int) := by omega
              have hc3 : (1 : Int) ≤ (k : Int) := by omega
              have hc4 : (k : Int) ≤ (cx : Int) := by omega
              go_wp2_with fail
              go_meet
              with_reducible exact s1.out.cut3 (by omega) q1.out q2.out q3.out (by omega) (.inl rfl) hB.out.b1 hB.out.b2 hB.out.c3
          · have hdr := Lib.hid (show Hid (DrSt w w4 R (m + 20) w.heap.size (w.heap.size + 1) v1 v2 v3 l1 l2 l3) from s1.out.mono (by omega))
            go_wp2_with fail
            go_loopg [56] (5 - k) (fun i _ wx => ∃ (u1 : Value) (y1 : List Int), y1.length = 5 - i ∧ i ≤ 5 ∧ Hid (DrSt w wx R (m + 20) w.heap.size (w.heap.size + 1) u1 v2 v3 y1 l2 l3) ∧ Hid (∀ x ∈ y1, 0 ≤ x ∧ x ≤ 501))
            case atStart => exact ⟨v1, l1, by rw [q1.out]; omega, by omega, hdr, hB.out.b1⟩
            case round =>
              obtain ⟨u1, y1, hy, hi5, hd, hb⟩ := hrel
              obtain ⟨ax, cx, rfl, _⟩ := hd.out.o.o1.view
              obtain ⟨ny, hny⟩ : ∃ n, y1.length = n := ⟨_, rfl⟩
              rw [hny] at hd hy
              have hy1 : ny ≤ 5 - gk := by omega
              have hy2 : 5 - gk ≤ ny := by omega
              clear hy
              replace hny := Lib.hid hny
              obtain ⟨k0, k1', k2, k3, k4, k5⟩ := hd.out.c
              have hAw := hd.out.lt
              by_cases hle : ny ≤ 4
              · have hle2 : (ny : Int) ≤ 4 := by omega
                go_wp2_with (at_builtin; refine wpList_append_lies _ rfl _ _ 23 rfl (w.heap.size + 1 + 1) 3 i0 (.int .i64 0) 1 8 Tryd.underlying23 hi0 hz0 hz1 hz2 rfl (by decide) _ _ _ rfl (World.ownsRow.alloc hd.out.o.o1 _) ⟨wr.heap.size, 0, none⟩ 1 1 [.int .i64 5] rfl rfl (one_new _ _ _) (one_one _) (by decide) ?d3 ?d4 ?d5 (wr.heap.size + 1) (by simp) ?_)
                case d3 => rw [hny.out]; unfold maxLen; omega
                case d4 => rw [hny.out]; omega
                case d5 => simp; omega
                intro g cap w6 hown hgrow hat hlt6
                obtain ⟨cc, st3⟩ := hd.out.push1 hown hgrow (Nat.le_succ _) hat
                have g0 := cc.c0
                have g1 := cc.f0
                replace st3 := Lib.hid st3
                clear cc hown hgrow hat
                go_wp2_with fail
                go_roundg (gk - 1)
                case rel => exact ⟨_, y1 ++ [5], by rw [List.length_append, hny.out, List.length_singleton]; omega, by omega, st3, by intro x hx; rcases List.mem_append.1 hx with hx | hx; exact hb.out x hx; (simp at hx; subst hx; omega)⟩
                case measure => omega
              · have hle2 : ¬ ((ny : Int) ≤ 4) := by omega
                go_wp2_with fail
                go_meet
                with_reducible exact hd.out.done (n1 := 5) (n2 := k) (n3 := k) (Nat.le_refl _) (by rw [hny.out]; omega) q2.out q3.out ⟨by omega, by omega, by omega⟩ hb.out hB.out.b2 hB.out.c3
        case rest =>
          obtain ⟨a1, n1, c1, a2, n2, c2, a3, n3, c3, l, lo, hi, en⟩ := hcut
          replace en := Lib.hid en
          obtain ⟨k0, k1, k2, k3, k4, k5⟩ := en.out.c
          obtain ⟨k6, k7, k8, k9, k10, k11⟩ := en.out.s
          have hAw := en.out.c.lt
          obtain ⟨wf, hwf, q9, hd9⟩ := arm_end (m' := m + 30) en.out (by omega)
          replace hwf := Lib.hid hwf.symm
          replace hd9 := Lib.hid hd9
          obtain ⟨u0, u1, u2, u3, u4, u5⟩ := q9
          go_wp2_with fail
          rw [hwf.out]
          exact bodyPost_ret (v := .agg #[.slice a1 n1 c1, .slice a2 n2 c2, .slice a3 n3 c3]) (by simp [results, Tryd.results34, go_sem, u0, u1, u2]) rfl hd9.out
end Go.Proofs.YtmainffjekjlnaaDoor
