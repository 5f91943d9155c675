/- Contract of the draw of joint angles. -/
import Derived.Test.YtmainffjekjlnaaDoorDrawArm
namespace Go.Proofs.YtmainffjekjlnaaDoor
open Go.ChangeShapes Go.WideShapes Go.ChangeAt Go.RowKit
set_option linter.unusedVariables false
theorem Span.beside {w w' : World} {B R : Nat} {a : Option Addr} {l : List Int} (h : Span w B a l) (hb : Beside R w w') (hR : R < B) : Span w' B a l := h.keptBy (Kept.of_beside hb) (fun k hk => by omega)
theorem Span.form {w : World} {B : Nat} {a : Option Addr} {l : List Int} (h : Span w B a l) (hl : 0 < l.length) : ∃ b o, a = some ⟨b, o, none⟩ ∧ B ≤ b ∧ b < w.heap.size := by
  rcases h with h | ⟨b, o, e, h1, h2, _⟩
  · rw [h] at hl; simp at hl
  · exact ⟨b, o, e, h1, h2⟩
theorem Span.at {w : World} {B b o k : Nat} {l : List Int} (h : Span w B (some ⟨b, o, none⟩) l) (hk : k < l.length) : w.cell? ⟨b, o + k, none⟩ = some (.int .i64 (l.getD k 0)) := by
  rcases h with h | ⟨b', o', e, _, _, hc⟩
  · rw [h] at hk; simp at hk
  · injection e with e
    injection e with e1 e2
    subst e1; subst e2
    exact (hc k hk).1
theorem getD_bd {l : List Int} {a b : Int} {k : Nat} (h : ∀ x ∈ l, a ≤ x ∧ x ≤ b) (hk : k < l.length) : a ≤ l.getD k 0 ∧ l.getD k 0 ≤ b := h _ (by rw [List.getD_eq_getElem?_getD, List.getElem?_eq_getElem hk]; exact List.getElem_mem _)
/-- angles are drawn, in the call's own memory; the reader moves on -/
def JointsDrawn (w : World) (R m' N : Nat) (e : Ending) (w' : World) : Prop := ∃ a n c J, e = .returned (.slice a n c) ∧ (J.length = n ∧ n ≤ 4 ∧ n ≤ N) ∧ (∀ x ∈ J, -1000 ≤ x ∧ x ≤ 1000) ∧ Span w' w.heap.size a J ∧ Rd w' R m' ∧ Beside R w w'
/-- the bounds under which the arm of a draw lies -/
structure ArmDraw (w : World) (B : Nat) (a1 : Option Addr) (n1 : Nat) (a2 : Option Addr) (n2 : Nat) (a3 : Option Addr) (n3 : Nat) (l lo hi : List Int) : Prop where
  len : l.length = n1 ∧ lo.length = n2 ∧ hi.length = n3
  le : n1 ≤ 5 ∧ n2 ≤ 4 ∧ n3 ≤ 4
  b1 : ∀ x ∈ l, -900 ≤ x ∧ x ≤ 900
  b2 : ∀ x ∈ lo, -300 ≤ x ∧ x ≤ 300
  b3 : ∀ x ∈ hi, -300 ≤ x ∧ x ≤ 300
  s1 : Span w B a1 l
  s2 : Span w B a2 lo
  s3 : Span w B a3 hi
theorem ArmDraw.beside {w w' : World} {B R n1 n2 n3 : Nat} {a1 a2 a3 : Option Addr} {l lo hi : List Int} (h : ArmDraw w B a1 n1 a2 n2 a3 n3 l lo hi) (hb : Beside R w w') (hR : R < B) : ArmDraw w' B a1 n1 a2 n2 a3 n3 l lo hi :=
  ⟨h.len, h.le, h.b1, h.b2, h.b3, h.s1.beside hb hR, h.s2.beside hb hR, h.s3.beside hb hR⟩
theorem ArmDraw.row {w : World} {B n1 n2 n3 : Nat} {a1 a2 a3 : Option Addr} {l lo hi : List Int} (h : ArmDraw w B a1 n1 a2 n2 a3 n3 l lo hi) : ArmAt w w.heap.size a1 a2 a3 l lo hi := ⟨h.s1.row, h.s2.row, h.s3.row⟩
theorem ArmFacts.draw {w : World} {B n1 c1 n2 c2 n3 c3 : Nat} {a1 a2 a3 : Option Addr} {l lo hi : List Int} (h : ArmFacts w B a1 n1 c1 a2 n2 c2 a3 n3 c3 l lo hi) : ArmDraw w B a1 n1 a2 n2 a3 n3 l lo hi :=
  ⟨h.len, h.le, fun x hx => by have := h.b1 x hx; omega, fun x hx => by have := h.b2 x hx; omega, fun x hx => by have := h.b3 x hx; omega, h.s1, h.s2, h.s3⟩
theorem Beside.cellT {R : Nat} {w w' : World} {b o : Nat} {v : Value} (hb : Beside R w w') (hr : b ≠ R) (h : w.cell? ⟨b, o, none⟩ = some v) : w'.cell? ⟨b, o, none⟩ = some v :=
  (hb.cell (World.block_lt_of_cell? w _ h) hr).trans h
theorem keep4b {R : Nat} {w w' : World} {b1 b2 b3 o1 o2 o3 o4 : Nat} {v1 v2 v3 v4 : Value} (hb : Beside R w w') (h1 : b1 ≠ R) (h2 : b2 ≠ R) (h3 : b3 ≠ R)
    (h : (w.cell? ⟨b1, o1, none⟩ = some v1 ∧ w.cell? ⟨b1, o2, none⟩ = some v2) ∧ (w.cell? ⟨b2, o3, none⟩ = some v3 ∧ w.cell? ⟨b3, o4, none⟩ = some v4)) :
    (w'.cell? ⟨b1, o1, none⟩ = some v1 ∧ w'.cell? ⟨b1, o2, none⟩ = some v2) ∧ (w'.cell? ⟨b2, o3, none⟩ = some v3 ∧ w'.cell? ⟨b3, o4, none⟩ = some v4) :=
  ⟨⟨hb.cellT h1 h.1.1, hb.cellT h1 h.1.2⟩, ⟨hb.cellT h2 h.2.1, hb.cellT h3 h.2.2⟩⟩
theorem mem_snoc_bd {l : List Int} {y a b : Int} (h : ∀ x ∈ l, a ≤ x ∧ x ≤ b) (hy : a ≤ y ∧ y ≤ b) : ∀ x ∈ l ++ [y], a ≤ x ∧ x ≤ b := by
  intro x hx
  rcases List.mem_append.1 hx with hx | hx
  · exact h x hx
  · simp at hx; subst hx; exact hy
theorem Owns.grows {w w9 : World} {B : Nat} {v v' : Value} {l : List Int} {x : Int} {o : Obj} {R : Nat} {w0 : World} (h : Owns w B v l) (hb : Beside R w0 w) (hB : w0.heap.size ≤ B) (hRB : R < B) {m : Nat} (hr : Rd w R m)
    (hown : w9.ownsRow B 3 1 v' (l.length + 1) (l.map (Value.int .i64) ++ [.int .i64 x])) (hg : (w.alloc o).grownBy w9 v.ownBlock) : Owns w9 B v' (l ++ [x]) ∧ Beside R w0 w9 ∧ Rd w9 R m := by
  refine ⟨by unfold Owns; simpa using hown, (hb.alloc o).grown hg (fun k hk => Nat.le_trans hB (h.lt hk).1), ?_⟩
  exact hr.of_below (((Below.refl (R + 1) w).alloc (by have := hr.lt; omega) o).grown hg (by have := hr.lt; simp; omega) (fun k hk => by have := (h.lt hk).1; omega))
theorem joints_ret {w w' : World} {R m' N n c : Nat} {a : Option Addr} {J : List Int} (hn : J.length = n) (h4 : n ≤ 4 ∧ n ≤ N) (hb : ∀ x ∈ J, -1000 ≤ x ∧ x ≤ 1000) (hs : Span w' w.heap.size a J) (hr : Rd w' R m') (hb2 : Beside R w w') : JointsDrawn w R m' N (.returned (.slice a n c)) w' :=
  ⟨a, n, c, J, rfl, ⟨hn, h4⟩, hb, hs, hr, hb2⟩
theorem joints_put {w W : World} {R m' N n c g : Nat} {J : List Int} (ho : Owns W (w.heap.size + 1) (.slice (some ⟨g, 0, none⟩) n c) J) (hn : J.length = n) (i : Nat) (y : Int) (h4 : n ≤ 4 ∧ n ≤ N) (hb : ∀ x ∈ J, -1000 ≤ x ∧ x ≤ 1000) (hy1 : -1000 ≤ y ∧ y ≤ 1000) (hR : R < w.heap.size) (hr : Rd W R m') (hb2 : Beside R w W) :
    JointsDrawn w R m' N (.returned (.slice (some ⟨g, 0, none⟩) n c)) (W.setCell ⟨g, i, none⟩ (.int .i64 y)) := by
  have hg := (ho.lt (k := g) rfl).1
  have := ho.put hn i y
  exact joints_ret (by rw [List.length_set]; exact hn) h4 (mem_set_bd hb hy1) (this.base2 (by omega)).span (hr.setCell (by show R < g; omega) _) (hb2.setCell (.inr (by show w.heap.size ≤ g; omega)) _)
theorem joints_cut {w W : World} {R m' N n c g o : Nat} {J : List Int} (ho : Owns W (w.heap.size + 1) (.slice (some ⟨g, 0, none⟩) n c) J) (hn : J.length = n) (h4 : n ≤ 4 ∧ n ≤ N) (ho1 : o = 1 ∨ n = 1) (hb : ∀ x ∈ J, -1000 ≤ x ∧ x ≤ 1000) (hn1 : 1 ≤ n) (hr : Rd W R m') (hb2 : Beside R w W) :
    JointsDrawn w R m' N (.returned (.slice (some ⟨g, o, none⟩) (n - 1) (c - 1))) W := by
  refine joints_ret (J := J.drop 1) (by rw [List.length_drop, hn]) (by omega) (fun x hx => hb x (List.mem_of_mem_drop hx)) ?_ hr hb2
  have hg := ho.lt (k := g) rfl
  by_cases h1 : n = 1
  · left
    exact List.eq_nil_of_length_eq_zero (by rw [List.length_drop, hn]; omega)
  · obtain rfl : o = 1 := by omega
    refine .inr ⟨g, 1, rfl, by omega, hg.2, fun i hi => ?_⟩
    rw [List.length_drop, hn] at hi
    obtain ⟨q1, q2, _, _⟩ := ho.cellAt hn (1 + i) (by omega)
    refine ⟨?_, q2⟩
    rw [q1, List.getD_eq_getElem?_getD, List.getD_eq_getElem?_getD, List.getElem?_drop]
set_option maxRecDepth 100000 in
set_option maxHeartbeats 8000000 in
theorem l20_joints (R m B : Nat) (a1 a2 a3 : Option Addr) (n1 c1 n2 c2 n3 c3 : Nat) (l lo hi : List Int) (n : Int) (w : World) (rd : Rd w R m) (hm : m ≤ 900000) (hn : 0 ≤ n) (hn2 : n ≤ 1000000) (hB : R < B) (ha : ArmDraw w B a1 n1 a2 n2 a3 n3 l lo hi) :
    Calls Tryd.prog 59 #[.pointer (some ⟨R, 0, none⟩), .agg #[.slice a1 n1 c1, .slice a2 n2 c2, .slice a3 n3 c3], .int .i64 n] w (JointsDrawn w R (m + 10) n1) := by
  obtain ⟨i0, hi0, hz0, hz1, hz2⟩ := info_parts infoInt
  have hRw := rd.lt
  obtain ⟨⟨h1, h2, h3⟩, ⟨z1, z2, z3⟩, q1, q2, q3, s1, s2, s3⟩ := ha
  replace h1 := Lib.hid h1
  replace h2 := Lib.hid h2
  replace h3 := Lib.hid h3
  replace q1 := Lib.hid q1
  replace q2 := Lib.hid q2
  replace q3 := Lib.hid q3
  have C : Obj := .cells #[] 3
  have k0 := (Cell3.new w (.slice a1 n1 c1) (.slice a2 n2 c2) (.slice a3 n3 c3) 25)
  have b0 : Beside R w (w.alloc (.cells #[.slice a1 n1 c1, .slice a2 n2 c2, .slice a3 n3 c3] 25)) := (Beside.refl R w).alloc _
  replace s2 := Lib.hid (s2.beside b0 hB)
  replace s3 := Lib.hid (s3.beside b0 hB)
  have hrd := Lib.hid ((rd.alloc (.cells #[.slice a1 n1 c1, .slice a2 n2 c2, .slice a3 n3 c3] 25)).alloc (.cells #[] 3))
  have om := Lib.hid (Owns.made (w := w.alloc (.cells #[.slice a1 n1 c1, .slice a2 n2 c2, .slice a3 n3 c3] 25)) (Nat.le_refl _))
  have e0 := Lib.hid (World.size_alloc w (.cells #[.slice a1 n1 c1, .slice a2 n2 c2, .slice a3 n3 c3] 25))
  rw [e0.out] at om
  replace b0 := Lib.hid b0
  have hRB : R < w.heap.size + 1 := by omega
  go_enter Tryd.func59, Tryd.ntmps59
  go_upto_block 0 with fail
  have hb1 := Lib.hid ((Beside.refl R (w.alloc (.cells #[.slice a1 n1 c1, .slice a2 n2 c2, .slice a3 n3 c3] 25))).alloc (.cells #[] 3))
  generalize hw0 : w.alloc (.cells #[.slice a1 n1 c1, .slice a2 n2 c2, .slice a3 n3 c3] 25) = w0 at *
  replace hw0 := Lib.hid hw0
  have hsv : w.heap.size + 1 < (w0.alloc (.cells #[] 3)).heap.size := by rw [World.size_alloc, e0.out]; omega
  generalize w0.alloc (.cells #[] 3) = v0 at *
  go_cut [7] (fun v wx => ∃ (k : Nat) (J : List Int), k ≤ 4 ∧ J.length = k ∧ Hid (Owns wx (w.heap.size + 1) v J) ∧ Hid (∀ x ∈ J, -1000 ≤ x ∧ x ≤ 1000) ∧ Hid (Rd wx R (m + 5)) ∧ Hid (Beside R w0 wx) ∧ w.heap.size + 1 < wx.heap.size ∧ (k ≤ n1 ∧ k ≤ n2 ∧ k ≤ n3))
  case first =>
    go_wp2_with fail
    go_loopw [7, 8] (fun v i wr => ∃ (k : Nat) (J : List Int), i = .int .i64 k ∧ (k ≤ n1 ∧ k ≤ n2 ∧ k ≤ n3) ∧ J.length = k ∧ Hid (Owns wr (w.heap.size + 1) v J) ∧ Hid (∀ x ∈ J, -1000 ≤ x ∧ x ≤ 1000) ∧ Hid (Rd wr R (m + k)) ∧ Hid (Beside R w0 wr) ∧ w.heap.size + 1 < wr.heap.size) (fun _ i _ => 5 - (intOf i).toNat)
    case atStart => exact ⟨0, [], rfl, ⟨Nat.zero_le _, Nat.zero_le _, Nat.zero_le _⟩, rfl, om, (by intro x hx; cases hx), hrd, hb1, hsv⟩
    case round =>
      obtain ⟨k, J, rfl, ⟨hk1, hk2, hk3⟩, hlen, ho, hbd2, hrd, hbb, hsz⟩ := hrel
      replace hlen := Lib.hid hlen
      obtain ⟨x0, x1, x2, x3, x4, x5⟩ := k0.beside hbb.out (by omega)
      by_cases hlt : k < n1 ∧ k < n2 ∧ k < n3
      · obtain ⟨t1, t2, t3⟩ := hlt
        have t4 : (k : Int) < (n1 : Int) := by omega
        have t5 : (k : Int) < (n2 : Int) := by omega
        have t6 : (k : Int) < (n3 : Int) := by omega
        obtain ⟨b2_, o2, rfl, v2, v2'⟩ := s2.out.form (by rw [h2.out]; omega)
        obtain ⟨b3_, o3, rfl, v3, v3'⟩ := s3.out.form (by rw [h3.out]; omega)
        have base := Lib.hid (And.intro (And.intro k0.c1 k0.c2) (And.intro (s2.out.at (k := k) (by rw [h2.out]; omega)) (s3.out.at (k := k) (by rw [h3.out]; omega))))
        have hy := getD_bd q2.out (k := k) (by rw [h2.out]; omega)
        have hz := getD_bd q3.out (k := k) (by rw [h3.out]; omega)
        generalize lo.getD k 0 = y at *
        generalize hi.getD k 0 = z at *
        obtain ⟨hy1, hy2⟩ := hy
        obtain ⟨hz1', hz2'⟩ := hz
        have g1 : w.heap.size ≠ R := by omega
        have g2 : b2_ ≠ R := by omega
        have g3 : b3_ ≠ R := by omega
        have u2 : b2_ < wr.heap.size := by have := hbb.out.size; omega
        have u3 : b3_ < wr.heap.size := by have := hbb.out.size; omega
        obtain ⟨⟨_, _⟩, ⟨y1, y2⟩⟩ := keep4b hbb.out g1 g2 g3 base.out
        have ew1 : IntKind.i64.wrap (z - y) = z - y := IntWalk.i64_in _ (by omega)
        have ew2 : IntKind.i64.wrap (z - y + 1) = z - y + 1 := IntWalk.i64_in _ (by omega)
        by_cases hmx : 1 < z - y + 1
        · go_wp2_with fail
          have rd1 : Rd wr.drew R (m + k) := hrd.out.drewN 1
          have hbd := Lib.hid (hbb.out.drewN 1)
          have ho1 := Lib.hid (show Owns wr.drew (w.heap.size + 1) _ J from ho.out)
          have s := keep4b hbd.out g1 g2 g3 base.out
          go_region_held3 (fun w' => (w'.cell? ⟨w.heap.size, 1, none⟩ = some (.slice (some ⟨b2_, o2, none⟩) n2 c2) ∧ w'.cell? ⟨w.heap.size, 2, none⟩ = some (.slice (some ⟨b3_, o3, none⟩) n3 c3)) ∧ (w'.cell? ⟨b2_, o2 + k, none⟩ = some (.int .i64 y) ∧ w'.cell? ⟨b3_, o3 + k, none⟩ = some (.int .i64 z))) (first | (with_reducible assumption) | go_keep) (first | (go_at_call 58; (with_reducible refine (pick_any R (m + k) _ _ rd1 (by omega) (by omega) (by omega)).mono ?_); rintro e w2 ⟨x, p1, p2, rfl, r2, b2⟩; have hb2 := Lib.hid (hbd.out.trans b2); have ho2 := Lib.hid (ho1.out.beside2 b2 hRB); have s := keep4b hb2.out g1 g2 g3 base.out; obtain ⟨⟨s1', s2'⟩, ⟨s3', s4'⟩⟩ := id s; have hs2 : w.heap.size + 1 < w2.heap.size := Nat.lt_of_lt_of_le hsz b2.size; have r2 := Lib.hid r2; have t2 : b2_ < w2.heap.size := Nat.lt_of_lt_of_le u2 b2.size; have t3 : b3_ < w2.heap.size := Nat.lt_of_lt_of_le u3 b2.size; have m1 : w2.heap.size ≠ w.heap.size := (by omega); have m2 : w.heap.size ≠ w2.heap.size := (by omega); have m3 : w2.heap.size ≠ b2_ := (by omega); have m4 : b2_ ≠ w2.heap.size := (by omega); have m5 : w2.heap.size ≠ b3_ := (by omega); have m6 : b3_ ≠ w2.heap.size := (by omega); have ew : IntKind.i64.wrap (y + x) = y + x := IntWalk.i64_in _ (by omega)) | (rw [if_pos (by rfl)]; refine wp_append_own _ _ _ 23 rfl (w.heap.size + 1) 3 i0 (.int .i64 0) 1 8 Tryd.underlying23 hi0 hz0 hz1 hz2 rfl (by decide) _ _ _ rfl (World.ownsRow.alloc ho2.out _) ⟨w2.heap.size, 0, none⟩ 1 1 [.int .i64 (y + x)] rfl rfl (one_new _ _ _) (one_one _) (by rw [hlen.out]; unfold maxLen; omega) (by rw [hlen.out]; omega) (by simp; omega) ?_; intro v' w9 hown' hgrow _; have hp := Lib.hid (ho2.out.grows hb2.out (by rw [e0.out]; exact Nat.le_refl _) hRB r2.out hown' hgrow); have s := keep4b hp.out.2.1 g1 g2 g3 base.out; have hs9 : w.heap.size + 1 < w9.heap.size := (by have := hgrow.size; simp at this; omega)))
          all_goals
            go_wp2_with fail
            go_roundw
            case rel => exact ⟨k + 1, J ++ [y + x], by go_num, ⟨by omega, by omega, by omega⟩, by rw [List.length_append, hlen.out]; rfl, hp.out.1, mem_snoc_bd hbd2.out ⟨by omega, by omega⟩, hp.out.2.2.mono (by omega), hp.out.2.1, hs9⟩
            case measure => simp [intOf]; omega
        · go_wp2_with fail
          have rd1 : Rd wr.drew R (m + k) := hrd.out.drewN 1
          have hbd := Lib.hid (hbb.out.drewN 1)
          have ho1 := Lib.hid (show Owns wr.drew (w.heap.size + 1) _ J from ho.out)
          have s := keep4b hbd.out g1 g2 g3 base.out
          go_region_held3 (fun w' => (w'.cell? ⟨w.heap.size, 1, none⟩ = some (.slice (some ⟨b2_, o2, none⟩) n2 c2) ∧ w'.cell? ⟨w.heap.size, 2, none⟩ = some (.slice (some ⟨b3_, o3, none⟩) n3 c3)) ∧ (w'.cell? ⟨b2_, o2 + k, none⟩ = some (.int .i64 y) ∧ w'.cell? ⟨b3_, o3 + k, none⟩ = some (.int .i64 z))) (first | (with_reducible assumption) | go_keep) (first | (go_at_call 58; (with_reducible refine (pick_any R (m + k) _ _ rd1 (by omega) (by omega) (by omega)).mono ?_); rintro e w2 ⟨x, p1, p2, rfl, r2, b2⟩; have hb2 := Lib.hid (hbd.out.trans b2); have ho2 := Lib.hid (ho1.out.beside2 b2 hRB); have s := keep4b hb2.out g1 g2 g3 base.out; obtain ⟨⟨s1', s2'⟩, ⟨s3', s4'⟩⟩ := id s; have hs2 : w.heap.size + 1 < w2.heap.size := Nat.lt_of_lt_of_le hsz b2.size; have r2 := Lib.hid r2; have t2 : b2_ < w2.heap.size := Nat.lt_of_lt_of_le u2 b2.size; have t3 : b3_ < w2.heap.size := Nat.lt_of_lt_of_le u3 b2.size; have m1 : w2.heap.size ≠ w.heap.size := (by omega); have m2 : w.heap.size ≠ w2.heap.size := (by omega); have m3 : w2.heap.size ≠ b2_ := (by omega); have m4 : b2_ ≠ w2.heap.size := (by omega); have m5 : w2.heap.size ≠ b3_ := (by omega); have m6 : b3_ ≠ w2.heap.size := (by omega); have ew : IntKind.i64.wrap (y + x) = y + x := IntWalk.i64_in _ (by omega)) | (rw [if_pos (by rfl)]; refine wp_append_own _ _ _ 23 rfl (w.heap.size + 1) 3 i0 (.int .i64 0) 1 8 Tryd.underlying23 hi0 hz0 hz1 hz2 rfl (by decide) _ _ _ rfl (World.ownsRow.alloc ho2.out _) ⟨w2.heap.size, 0, none⟩ 1 1 [.int .i64 (y + x)] rfl rfl (one_new _ _ _) (one_one _) (by rw [hlen.out]; unfold maxLen; omega) (by rw [hlen.out]; omega) (by simp; omega) ?_; intro v' w9 hown' hgrow _; have hp := Lib.hid (ho2.out.grows hb2.out (by rw [e0.out]; exact Nat.le_refl _) hRB r2.out hown' hgrow); have s := keep4b hp.out.2.1 g1 g2 g3 base.out; have hs9 : w.heap.size + 1 < w9.heap.size := (by have := hgrow.size; simp at this; omega)))
          all_goals
            go_wp2_with fail
            go_roundw
            case rel => exact ⟨k + 1, J ++ [y + x], by go_num, ⟨by omega, by omega, by omega⟩, by rw [List.length_append, hlen.out]; rfl, hp.out.1, mem_snoc_bd hbd2.out ⟨by omega, by omega⟩, hp.out.2.2.mono (by omega), hp.out.2.1, hs9⟩
            case measure => simp [intOf]; omega
      · have hk5 : k ≤ 4 := by omega
        have hcase : (¬ ((k : Int) < (n1 : Int))) ∨ ((k : Int) < (n1 : Int) ∧ ¬ ((k : Int) < (n2 : Int))) ∨ ((k : Int) < (n1 : Int) ∧ (k : Int) < (n2 : Int) ∧ ¬ ((k : Int) < (n3 : Int))) := by omega
        rcases hcase with e1 | ⟨e1, e2⟩ | ⟨e1, e2, e3⟩
        all_goals
          go_wp2_with fail
          go_meet
          exact ⟨k, J, hk5, hlen.out, ho, hbd2, hrd.out.mono (by omega), hbb, hsz, hk1, hk2, hk3⟩
  case rest =>
    obtain ⟨k, J, hk4, hlen, ho, hbd2, hrd, hbb, hsz, hk1, hk2, hk3⟩ := hcut
    replace hlen := Lib.hid hlen
    obtain ⟨a, c, rfl, _⟩ := ho.out.view
    rw [hlen.out] at ho
    rw [hlen.out]
    have hbw := Lib.hid (b0.out.trans hbb.out)
    by_cases hk0 : k = 0
    · have hk0' : ¬ ((0 : Int) < (k : Int)) := by omega
      replace hk0 := Lib.hid hk0
      have hfin := Lib.hid (joints_ret (a := a) (c := c) (m' := m + 10) hlen.out ⟨hk4, hk1⟩ hbd2.out (ho.out.base2 (B' := w.heap.size) (by omega)).span (hrd.out.mono (by omega)) hbw.out)
      go_wp2_with fail
      go_ret
      exact hfin.out
    · have hk0' : (0 : Int) < (k : Int) := by omega
      go_wp2_with fail
      refine (odd_any0 R (m + 5) n _ hrd.out (by omega) hn hn2).mono ?_
      rintro e w2 ⟨⟨b, rfl⟩, r2, b2⟩
      replace ho := Lib.hid (ho.out.beside2 b2 hRB)
      replace hbb := Lib.hid (hbb.out.trans b2)
      replace hbw := Lib.hid (hbw.out.trans b2)
      clear hrd b2
      cases b
      · have hfin := Lib.hid (joints_ret (a := a) (c := c) (m' := m + 10) hlen.out ⟨hk4, hk1⟩ hbd2.out (ho.out.base2 (B' := w.heap.size) (by omega)).span (r2.mono (by omega)) hbw.out)
        go_wp2_with fail
        go_ret
        exact hfin.out
      · go_wp2_with fail
        refine (pick_any R (m + 5 + 1) _ _ r2 (by omega) (by omega) (by omega)).mono ?_
        rintro e w3 ⟨ii, p1, p2, rfl, r3, b3⟩
        replace ho := Lib.hid (ho.out.beside2 b3 hRB)
        replace hbb := Lib.hid (hbb.out.trans b3)
        replace hbw := Lib.hid (hbw.out.trans b3)
        clear r2 b3
        obtain ⟨i, rfl⟩ := Int.eq_ofNat_of_zero_le p1
        have hik : i < k := by omega
        clear p1
        go_wp2_with fail
        refine (pick_any R (m + 5 + 1 + 1) _ _ r3 (by omega) (by omega) (by omega)).mono ?_
        rintro e w4 ⟨sw, p1, p2', rfl, r4, b4⟩
        replace ho := Lib.hid (ho.out.beside2 b4 hRB)
        replace hbb := Lib.hid (hbb.out.trans b4)
        replace hbw := Lib.hid (hbw.out.trans b4)
        clear r3 b4
        obtain ⟨g, rfl⟩ := slot_at ho.out hlen.out (by omega)
        obtain ⟨y1, y2, y3, y4⟩ := ho.out.cellAt hlen.out i hik
        obtain ⟨b2_, o2, rfl, v2, v2'⟩ := s2.out.form (by rw [h2.out]; omega)
        obtain ⟨b3_, o3, rfl, v3, v3'⟩ := s3.out.form (by rw [h3.out]; omega)
        have base := Lib.hid (And.intro (And.intro k0.c1 k0.c2) (And.intro (s2.out.at (k := i) (by rw [h2.out]; omega)) (s3.out.at (k := i) (by rw [h3.out]; omega))))
        have hy := getD_bd q2.out (k := i) (by rw [h2.out]; omega)
        have hz := getD_bd q3.out (k := i) (by rw [h3.out]; omega)
        generalize lo.getD i 0 = y at *
        generalize hi.getD i 0 = z at *
        obtain ⟨hy1, hy2⟩ := hy
        obtain ⟨hz1', hz2'⟩ := hz
        obtain ⟨⟨x1, x2⟩, ⟨x3, x4⟩⟩ := keep4b hbb.out (by omega) (by omega) (by omega) base.out
        have t2 : (i : Int) < (n2 : Int) := by omega
        have t3 : (i : Int) < (n3 : Int) := by omega
        have t4 : (i : Int) < (k : Int) := by omega
        have hcap := ho.out.capOf hlen.out
        have hsw : sw = 0 ∨ sw = 1 ∨ sw = 2 := by omega
        rcases hsw with rfl | rfl | rfl
        · have hfin := Lib.hid (joints_put (m' := m + 10) ho.out hlen.out i (z + 1) ⟨hk4, hk1⟩ hbd2.out ⟨by omega, by omega⟩ hRw (r4.mono (by omega)) hbw.out)
          go_wp2_with fail
          go_ret
          exact hfin.out
        · have hfin := Lib.hid (joints_put (m' := m + 10) ho.out hlen.out i (y - 1) ⟨hk4, hk1⟩ hbd2.out ⟨by omega, by omega⟩ hRw (r4.mono (by omega)) hbw.out)
          go_wp2_with fail
          go_ret
          exact hfin.out
        · by_cases hc : c = 1
          · have hk1' : k = 1 := by omega
            subst hc
            subst hk1'
            have hfin := Lib.hid (joints_cut (m' := m + 10) ho.out hlen.out ⟨hk4, hk1⟩ (o := 0) (.inr rfl) hbd2.out (by omega) (r4.mono (by omega)) hbw.out)
            go_wp2_with fail
            go_ret
            exact hfin.out
          · have hc2 : (1 : Int) < (c : Int) := by omega
            have hc3 : (1 : Int) ≤ (k : Int) := by omega
            have hc4 : (k : Int) ≤ (c : Int) := by omega
            have hfin := Lib.hid (joints_cut (m' := m + 10) ho.out hlen.out ⟨hk4, hk1⟩ (o := 1) (.inl rfl) hbd2.out (by omega) (r4.mono (by omega)) hbw.out)
            go_wp2_with fail
            go_ret
            exact hfin.out
end Go.Proofs.YtmainffjekjlnaaDoor
