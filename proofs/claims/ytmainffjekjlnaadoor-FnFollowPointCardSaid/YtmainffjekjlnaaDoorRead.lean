/- Contracts of the reader of drawn codes (open, pick, odd): each returns some number of its range, and writes its own position alone. -/
import Derived.Test.YtmainffjekjlnaaDoorProg
import Derived.WalkKit
import Derived.ProofKit
import Derived.OpenShut
import Derived.Below
import Derived.Outline
import Derived.Deep.QuietTactic
import Derived.BigQuiet
import Derived.WalkLawsBesides
import Derived.WalkSpells
import Derived.Lib.Hide
import Derived.Laws.Bits64
namespace Go.Proofs.YtmainffjekjlnaaDoor
open Go.ChangeShapes Go.WideShapes Go.ChangeAt Go.RowKit
set_option linter.unusedVariables false
theorem ret_int {k : IntKind} {a b : Int} (h : a = b) : Ending.returned (.int k a) = .returned (.int k b) := by rw [h]
theorem ret_bool {a b : Bool} (h : a = b) : Ending.returned (.bool a) = .returned (.bool b) := by rw [h]

/-- a slice of integers that came in: nil, or a row of cells -/
def IsRow (k : IntKind) (w : World) (a : Option Addr) (len cap : Nat) (zs : List Int) : Prop :=
  (a = none ∧ len = 0 ∧ cap = 0 ∧ zs = []) ∨
  ∃ x, a = some x ∧ len ≤ cap ∧ cap ≤ maxLen ∧ zs.length = cap ∧ (∀ i, i < zs.length → w.cell? (x.add i) = some (.int k (zs.getD i 0))) ∧ ∀ n ∈ zs, (Lit.int k n).wf = true

theorem IsRow.below {k : IntKind} {w w' : World} {a : Option Addr} {len cap : Nat} {zs : List Int} (h : IsRow k w a len cap zs) (hb : Below w.heap.size w w') : IsRow k w' a len cap zs := by
  rcases h with h | ⟨x, e, hl, hm, hz, hc, hw⟩
  · exact .inl h
  · refine .inr ⟨x, e, hl, hm, hz, fun i hi => ?_, hw⟩
    rw [hb.cell (World.block_lt_of_cell? w _ (hc i hi))]
    exact hc i hi

/-- the code that a reader reads: at most 2000 bytes, in a block below B -/
def Code (w : World) (B : Nat) (a : Option Addr) (len : Nat) : Prop :=
  len ≤ 2000 ∧ (len = 0 ∨ ∃ b o, a = some ⟨b, o, none⟩ ∧ b < B ∧ ∀ i, i < len → ∃ x : Int, 0 ≤ x ∧ x ≤ 255 ∧ w.cell? ⟨b, o + i, none⟩ = some (.int .u8 x))

/-- the reader in block R, at a position of at most p -/
def Rd (w : World) (R : Nat) (m : Nat) : Prop :=
  ∃ a len cap p, p ≤ m ∧ R < w.heap.size ∧ Code w R a len ∧ w.cell? ⟨R, 0, none⟩ = some (.slice a len cap) ∧ w.cell? ⟨R, 1, none⟩ = some (.int .i64 (p : Nat)) ∧ w.frozen? ⟨R, 1, none⟩ = false

/-- every block but R is as it was -/
structure Beside (R : Nat) (w w' : World) : Prop where
  os : w'.os = w.os
  tape : w'.tape = w.tape
  output : w'.output = w.output
  size : w.heap.size ≤ w'.heap.size
  block : ∀ k, k < w.heap.size → k ≠ R → w'.heap[k]? = w.heap[k]?

theorem Beside.refl (R : Nat) (w : World) : Beside R w w := ⟨rfl, rfl, rfl, Nat.le_refl _, fun _ _ _ => rfl⟩
theorem Beside.trans {R : Nat} {a b c : World} (h : Beside R a b) (k : Beside R b c) : Beside R a c :=
  ⟨k.os.trans h.os, k.tape.trans h.tape, k.output.trans h.output, Nat.le_trans h.size k.size, fun i hi hr => (k.block i (Nat.lt_of_lt_of_le hi h.size) hr).trans (h.block i hi hr)⟩
theorem Beside.drewN {R : Nat} {a w : World} (h : Beside R a w) (n : Nat) : Beside R a (w.drewN n) := ⟨h.os, h.tape, h.output, h.size, h.block⟩
theorem Beside.alloc {R : Nat} {a w : World} (h : Beside R a w) (o : Obj) : Beside R a (w.alloc o) :=
  h.trans ⟨rfl, rfl, rfl, by simp, fun k hk _ => Below.heap_alloc _ _ _ hk⟩
theorem Beside.setCell {R : Nat} {a w : World} (h : Beside R a w) {p : Addr} (hp : p.block = R ∨ a.heap.size ≤ p.block) (u : Value) : Beside R a (w.setCell p u) :=
  ⟨h.os, h.tape, h.output, by simpa [World.setCell] using h.size, fun k hk hr => by
    rw [Below.heap_setCell _ _ _ _ (by rcases hp with hp | hp <;> omega)]; exact h.block k hk hr⟩
theorem Beside.below {R B : Nat} {w w' : World} (h : Beside R w w') (hB : B ≤ R) (hw : B ≤ w.heap.size) : Below B w w' := ⟨h.os, h.tape, h.output, h.size, fun k hk => h.block k (by omega) (by omega)⟩
theorem Beside.of_below {R B : Nat} {w w' : World} (h : Below B w w') (hw : w.heap.size ≤ B) : Beside R w w' := ⟨h.os, h.tape, h.output, h.size, fun k hk _ => h.block k (by omega)⟩
theorem Beside.cell {R : Nat} {w w' : World} (h : Beside R w w') {b o : Nat} (hb : b < w.heap.size) (hr : b ≠ R) : w'.cell? ⟨b, o, none⟩ = w.cell? ⟨b, o, none⟩ := World.cell?_of_block (w := w) (h.block b hb hr)
theorem Beside.frozen {R : Nat} {w w' : World} (h : Beside R w w') {b o : Nat} (hb : b < w.heap.size) (hr : b ≠ R) : w'.frozen? ⟨b, o, none⟩ = w.frozen? ⟨b, o, none⟩ := World.frozen?_of_block (w := w) (h.block b hb hr)

/-- the reader is where it was, wherever its block and the older ones are as they were -/
theorem Rd.of_below {w w' : World} {R m : Nat} (h : Rd w R m) (hb : Below (R + 1) w w') : Rd w' R m := by
  obtain ⟨a, len, cap, p, h1, h2, ⟨h3, h4⟩, h5, h6, h7⟩ := h
  refine ⟨a, len, cap, p, h1, Nat.lt_of_lt_of_le h2 hb.size, ⟨h3, ?_⟩, ?_, ?_, ?_⟩
  · rcases h4 with h4 | ⟨b, o, e, hlt, hc⟩
    · exact .inl h4
    · refine .inr ⟨b, o, e, hlt, fun i hi => ?_⟩
      obtain ⟨x, x1, x2, x3⟩ := hc i hi
      exact ⟨x, x1, x2, by rw [hb.cell (p := ⟨b, o + i, none⟩) (by show b < R + 1; omega)]; exact x3⟩
  · rw [hb.cell (p := ⟨R, 0, none⟩) (by show R < R + 1; omega)]; exact h5
  · rw [hb.cell (p := ⟨R, 1, none⟩) (by show R < R + 1; omega)]; exact h6
  · rw [hb.frozen (p := ⟨R, 1, none⟩) (by show R < R + 1; omega)]; exact h7
theorem Rd.lt {w : World} {R m : Nat} (h : Rd w R m) : R < w.heap.size := by obtain ⟨a, len, cap, p, h1, h2, _⟩ := h; exact h2
theorem Rd.mono {w : World} {R m m' : Nat} (h : Rd w R m) (hm : m ≤ m') : Rd w R m' := by obtain ⟨a, len, cap, p, h1, h2⟩ := h; exact ⟨a, len, cap, p, by omega, h2⟩
theorem Rd.alloc {w : World} {R m : Nat} (h : Rd w R m) (o : Obj) : Rd (w.alloc o) R m := h.of_below ((Below.refl _ _).alloc (by have := h.lt; omega) o)
theorem Rd.drewN {w : World} {R m : Nat} (h : Rd w R m) (n : Nat) : Rd (w.drewN n) R m := h
theorem Rd.setCell {w : World} {R m : Nat} (h : Rd w R m) {p : Addr} (hp : R < p.block) (u : Value) : Rd (w.setCell p u) R m := h.of_below ((Below.refl _ _).setCell (by omega) u)

/-- one step of the reader -/
theorem Rd.step {w : World} {R m : Nat} (a : Option Addr) (len cap p : Nat) (h1 : p ≤ m) (h2 : R < w.heap.size) (h3 : Code w R a len) (h5 : w.cell? ⟨R, 0, none⟩ = some (.slice a len cap)) (h6 : w.cell? ⟨R, 1, none⟩ = some (.int .i64 (p : Nat))) (h7 : w.frozen? ⟨R, 1, none⟩ = false) (k : Nat) :
    Rd ((w.setCell ⟨R, 1, none⟩ (.int .i64 ((p : Int) + 1))).drewN k) R (m + 1) ∧ Beside R w ((w.setCell ⟨R, 1, none⟩ (.int .i64 ((p : Int) + 1))).drewN k) := by
  have hb : Below R w (w.setCell ⟨R, 1, none⟩ (.int .i64 ((p : Int) + 1))) := (Below.refl _ _).setCell (p := ⟨R, 1, none⟩) (Nat.le_refl R) _
  refine ⟨⟨a, len, cap, p + 1, by omega, by simpa [World.setCell] using h2, ⟨h3.1, ?_⟩, ?_, ?_, ?_⟩, ((Beside.refl R w).setCell (p := ⟨R, 1, none⟩) (Or.inl rfl) _).drewN _⟩
  · rcases h3.2 with h4 | ⟨b, o, e, hlt, hc⟩
    · exact .inl h4
    · refine .inr ⟨b, o, e, hlt, fun i hi => ?_⟩
      obtain ⟨x, x1, x2, x3⟩ := hc i hi
      refine ⟨x, x1, x2, ?_⟩
      show (w.setCell _ _).cell? _ = _
      rw [hb.cell (p := ⟨b, o + i, none⟩) hlt]; exact x3
  · show (w.setCell _ _).cell? _ = _
    rw [World.cell?_setCell_other _ _ _ _ (by simp)]; exact h5
  · show (w.setCell _ _).cell? _ = _
    have := World.cell?_setCell_same w ⟨R, 1, none⟩ (.int .i64 ((p : Int) + 1)) h6
    rw [this]; simp
  · show (w.setCell _ _).frozen? _ = _
    simp [h7]

theorem xor_i64_nat (a b : Nat) (ha : a < 4611686018427387904) (hb : b < 4611686018427387904) : bits .xor .i64 (a : Int) (b : Int) = ((a ^^^ b : Nat) : Int) := by
  have hx : a ^^^ b < 2 ^ 62 := Nat.xor_lt_two_pow (by omega) (by omega)
  have h1 : (BitVec.ofInt 64 (a : Int)).toNat = a := by
    rw [BitVec.ofInt_natCast, BitVec.toNat_ofNat]; exact Nat.mod_eq_of_lt (by omega)
  have h2 : (BitVec.ofInt 64 (b : Int)).toNat = b := by
    rw [BitVec.ofInt_natCast, BitVec.toNat_ofNat]; exact Nat.mod_eq_of_lt (by omega)
  show IntKind.i64.wrap ((BitVec.ofInt 64 (a : Int) ^^^ BitVec.ofInt 64 (b : Int)).toNat : Int) = _
  rw [BitVec.toNat_xor, h1, h2, IntKind.wrap_i64]

  omega
theorem xor_i64_nonneg (a b : Int) (h0 : 0 ≤ a) (h1 : a ≤ 100000000) (h2 : 0 ≤ b) (h3 : b ≤ 100000000) : 0 ≤ bits .xor .i64 a b := by
  obtain ⟨x, rfl⟩ := Int.eq_ofNat_of_zero_le h0
  obtain ⟨y, rfl⟩ := Int.eq_ofNat_of_zero_le h2
  rw [xor_i64_nat x y (by omega) (by omega)]; omega
theorem tmod_range (a n : Int) (h : 0 ≤ a) (hn : 1 ≤ n) : 0 ≤ a.tmod n ∧ a.tmod n < n := by
  rw [Int.tmod_eq_emod_of_nonneg h]
  exact ⟨Int.emod_nonneg _ (by omega), Int.emod_lt_of_pos _ (by omega)⟩

/-- what a pick gives: a number of 0..n-1, one step of the reader, nothing else -/
def Picked (w : World) (R m : Nat) (n : Int) (e : Ending) (w' : World) : Prop := ∃ v : Int, 0 ≤ v ∧ v < n ∧ e = .returned (.int .i64 v) ∧ Rd w' R (m + 1) ∧ Beside R w w'

theorem pick0 (R : Nat) (a : Option Addr) (cap : Nat) (p : Nat) (n : Int) (w : World) (hn : 1 ≤ n) (hp : p ≤ 1000000)
   (c0 : w.cell? ⟨R, 0, none⟩ = some (.slice a 0 cap)) (c1 : w.cell? ⟨R, 1, none⟩ = some (.int .i64 p)) (f1 : w.frozen? ⟨R, 1, none⟩ = false) :
    Calls Tryd.prog 58 #[.pointer (some ⟨R, 0, none⟩), .int .i64 n] w fun e w' => e = .returned (.int .i64 0) ∧ w' = w.setCell ⟨R, 1, none⟩ (.int .i64 (p + 1)) := by
  have hn3 : decide (n < 1) = false := by simp; omega
  go_enter Tryd.func58, Tryd.ntmps58
  go_wp2
  go_ret
  exact ⟨rfl, rfl⟩
theorem pick1 (R : Nat) (b o len cap : Nat) (x : Int) (p : Nat) (n : Int) (w : World) (hn : 1 ≤ n) (hn2 : n ≤ 1000000) (hp : p ≤ 1000000) (hlt : p < len)
   (hx : 0 ≤ x) (hx2 : x ≤ 255) (hbR : b ≠ R)
   (c0 : w.cell? ⟨R, 0, none⟩ = some (.slice (some ⟨b, o, none⟩) len cap)) (c1 : w.cell? ⟨R, 1, none⟩ = some (.int .i64 p)) (f1 : w.frozen? ⟨R, 1, none⟩ = false)
   (hc : w.cell? ⟨b, o + p, none⟩ = some (.int .u8 x)) :
    Calls Tryd.prog 58 #[.pointer (some ⟨R, 0, none⟩), .int .i64 n] w fun e w' => e = .returned (.int .i64 (x % n)) ∧ w' = w.setCell ⟨R, 1, none⟩ (.int .i64 (p + 1)) := by
  have hn3 : decide (n < 1) = false := by simp; omega
  have hl3 : ((len : Int) == 0) = false := by simp; omega
  have hl3 : decide (p < len) = true := by simp; omega
  have hn0 : (n == 0) = false := by simp; omega
  go_enter Tryd.func58, Tryd.ntmps58
  go_wp2
  go_ret
  exact ⟨rfl, rfl⟩
theorem pick2 (R : Nat) (b o len cap : Nat) (x y : Int) (p : Nat) (n : Int) (w : World) (hn : 1 ≤ n) (hn2 : n ≤ 1000000) (hp : p ≤ 1000000) (hlt : len ≤ p) (hl1 : 1 ≤ len)
   (hx : 0 ≤ x) (hx2 : x ≤ 255) (hy : 0 ≤ y) (hy2 : y ≤ 255) (hbR : b ≠ R)
   (c0 : w.cell? ⟨R, 0, none⟩ = some (.slice (some ⟨b, o, none⟩) len cap)) (c1 : w.cell? ⟨R, 1, none⟩ = some (.int .i64 p)) (f1 : w.frozen? ⟨R, 1, none⟩ = false)
   (hc : w.cell? ⟨b, o + p % len, none⟩ = some (.int .u8 x))
   (hd : w.cell? ⟨b, o + (p * 7 + 3) % len, none⟩ = some (.int .u8 y)) :
    Calls Tryd.prog 58 #[.pointer (some ⟨R, 0, none⟩), .int .i64 n] w fun e w' => ∃ v : Int, e = .returned (.int .i64 v) ∧ (0 ≤ v ∧ v < n) ∧ ∃ k, w' = (w.setCell ⟨R, 1, none⟩ (.int .i64 (p + 1))).drewN k := by
  have hn3 : decide (n < 1) = false := by simp; omega
  have hl3 : ((len : Int) == 0) = false := by simp; omega
  have hl4 : decide (p < len) = false := by simp; omega
  have hn0 : (n == 0) = false := by simp; omega
  have i1 : (0 : Int) ≤ ↑p % ↑len := Int.emod_nonneg _ (by omega)
  have i2 : (p : Int) % ↑len < ↑len := Int.emod_lt_of_pos _ (by omega)
  have j1 : (0 : Int) ≤ (↑p * 7 + 3) % ↑len := Int.emod_nonneg _ (by omega)
  have j2 : ((p : Int) * 7 + 3) % ↑len < ↑len := Int.emod_lt_of_pos _ (by omega)
  have q1 : (0 : Int) ≤ ↑p / ↑len := Int.ediv_nonneg (by omega) (by omega)
  have q2 : (p : Int) / ↑len ≤ ↑p := Int.ediv_le_self _ (by omega)
  go_enter Tryd.func58, Tryd.ntmps58
  go_wp2
  go_quiet (fail)
  go_wp2
  go_ret
  exact ⟨_, rfl, tmod_range _ _ (xor_i64_nonneg _ _ (by omega) (by omega) (by omega) (by omega)) hn, _, rfl⟩
theorem pick_any (R m : Nat) (n : Int) (w : World) (h : Rd w R m) (hm : m ≤ 1000000) (hn : 1 ≤ n) (hn2 : n ≤ 1000000) :
    Calls Tryd.prog 58 #[.pointer (some ⟨R, 0, none⟩), .int .i64 n] w (Picked w R m n) := by
  obtain ⟨a, len, cap, p, h1, h2, h3, h5, h6, h7⟩ := h
  have hst := fun k => Rd.step a len cap p h1 h2 h3 h5 h6 h7 k
  by_cases hl : len = 0
  · subst hl
    refine (pick0 R a cap p n w hn (by omega) h5 h6 h7).mono ?_
    rintro e w' ⟨rfl, rfl⟩
    exact ⟨0, by omega, by omega, rfl, hst 0⟩
  · rcases h3.2 with h4 | ⟨b, o, rfl, hlt, hc⟩
    · exact absurd h4 hl
    · by_cases hp : p < len
      · obtain ⟨x, x1, x2, x3⟩ := hc p hp
        refine (pick1 R b o len cap x p n w hn hn2 (by omega) hp x1 x2 (by omega) h5 h6 h7 x3).mono ?_
        rintro e w' ⟨rfl, rfl⟩
        exact ⟨x % n, Int.emod_nonneg _ (by omega), Int.emod_lt_of_pos _ (by omega), rfl, hst 0⟩
      · obtain ⟨x, x1, x2, x3⟩ := hc (p % len) (Nat.mod_lt _ (by omega))
        obtain ⟨y, y1, y2, y3⟩ := hc ((p * 7 + 3) % len) (Nat.mod_lt _ (by omega))
        refine (pick2 R b o len cap x y p n w hn hn2 (by omega) (by omega) (by omega) x1 x2 y1 y2 (by omega) h5 h6 h7 x3 y3).mono ?_
        rintro e w' ⟨v, rfl, ⟨v1, v2⟩, k, rfl⟩
        exact ⟨v, v1, v2, rfl, hst k⟩
end Go.Proofs.YtmainffjekjlnaaDoor
