/- Contracts of the laws' comparison of two arms, and of the marks on an arm. -/
import Derived.Test.YtmainffjekjlnaaDoorMem
namespace Go.Proofs.YtmainffjekjlnaaDoor
open Go.ChangeShapes Go.WideShapes Go.ChangeAt Go.RowKit
set_option linter.unusedVariables false
set_option maxHeartbeats 2000000 in
theorem eq_arm_yes (a1 a2 a3 b1 b2 b3 : Option Addr) (n1 n2 n3 c1 c2 c3 d1 d2 d3 : Nat) (l lo hi : List Int) (w : World) (h1 : l.length = n1) (h2 : lo.length = n2) (h3 : hi.length = n3) (m : n1 ≤ 1000000000 ∧ n2 ≤ 1000000000 ∧ n3 ≤ 1000000000) (hr : ArmAt w w.heap.size a1 a2 a3 l lo hi) (hs : ArmAt w w.heap.size b1 b2 b3 l lo hi) :
    Calls Tryd.prog 22 #[.agg #[.slice a1 n1 c1, .slice a2 n2 c2, .slice a3 n3 c3], .agg #[.slice b1 n1 d1, .slice b2 n2 d2, .slice b3 n3 d3]] w fun e w' => e = .returned (.bool true) ∧ Below w.heap.size w w' := by
  obtain ⟨m1, m2, m3⟩ := m
  replace h1 := Lib.hid h1
  replace h2 := Lib.hid h2
  replace h3 := Lib.hid h3
  replace hr := Lib.hid hr
  replace hs := Lib.hid hs
  have bb := Lib.hid (((Below.refl w.heap.size w).alloc (Nat.le_refl _) (.cells #[.slice a1 n1 c1, .slice a2 n2 c2, .slice a3 n3 c3] 25)).alloc (by simp) (.cells #[.slice b1 n1 d1, .slice b2 n2 d2, .slice b3 n3 d3] 25))
  have k0 := (Cell3.new w (.slice a1 n1 c1) (.slice a2 n2 c2) (.slice a3 n3 c3) 25).alloc (.cells #[.slice b1 n1 d1, .slice b2 n2 d2, .slice b3 n3 d3] 25)
  have k1 := Cell3.new (w.alloc (.cells #[.slice a1 n1 c1, .slice a2 n2 c2, .slice a3 n3 c3] 25)) (.slice b1 n1 d1) (.slice b2 n2 d2) (.slice b3 n3 d3) 25
  rw [World.size_alloc] at k1
  go_enter Tryd.func22, Tryd.ntmps22
  go_wp2_with fail
  generalize (w.alloc (.cells #[.slice a1 n1 c1, .slice a2 n2 c2, .slice a3 n3 c3] 25)).alloc (.cells #[.slice b1 n1 d1, .slice b2 n2 d2, .slice b3 n3 d3] 25) = v0 at *
  have e1 := Lib.hid (((hr.out.after bb.out).1))
  have g1 := Lib.hid (((hs.out.after bb.out).1))
  have s1 := k1.lt
  refine (eq_ints_yes a1 b1 n1 c1 d1 l _ h1.out m1 e1.out g1.out).mono ?_
  rintro e w1 ⟨rfl, q⟩
  replace k0 := k0.below q (by omega)
  replace k1 := k1.below q (by omega)
  replace bb := Lib.hid (bb.out.trans (q.mono bb.out.size))
  clear q e1 g1 s1
  have j0 := k0
  have j1 := k1
  obtain ⟨x0, x1, x2, _, _, _⟩ := k0
  obtain ⟨y0, y1, y2, _, _, _⟩ := k1
  go_wp2_with fail
  clear x0 x1 x2 y0 y1 y2
  have k0 := j0
  have k1 := j1
  clear j0 j1
  have e2 := Lib.hid (((hr.out.after bb.out).2.1))
  have g2 := Lib.hid (((hs.out.after bb.out).2.1))
  have s2 := k1.lt
  refine (eq_ints_yes a2 b2 n2 c2 d2 lo _ h2.out m2 e2.out g2.out).mono ?_
  rintro e w2 ⟨rfl, q⟩
  replace k0 := k0.below q (by omega)
  replace k1 := k1.below q (by omega)
  replace bb := Lib.hid (bb.out.trans (q.mono bb.out.size))
  clear q e2 g2 s2
  have j0 := k0
  have j1 := k1
  obtain ⟨x0, x1, x2, _, _, _⟩ := k0
  obtain ⟨y0, y1, y2, _, _, _⟩ := k1
  go_wp2_with fail
  clear x0 x1 x2 y0 y1 y2
  have k0 := j0
  have k1 := j1
  clear j0 j1
  have e3 := Lib.hid (((hr.out.after bb.out).2.2))
  have g3 := Lib.hid (((hs.out.after bb.out).2.2))
  have s3 := k1.lt
  refine (eq_ints_yes a3 b3 n3 c3 d3 hi _ h3.out m3 e3.out g3.out).mono ?_
  rintro e w3 ⟨rfl, q⟩
  replace k0 := k0.below q (by omega)
  replace k1 := k1.below q (by omega)
  replace bb := Lib.hid (bb.out.trans (q.mono bb.out.size))
  clear q e3 g3 s3
  clear k0 k1
  go_wp2_with fail
  go_ret
  exact ⟨rfl, bb.out⟩
theorem grown_refl (w : World) (r : Option Nat) : w.grownBy w r := ⟨rfl, rfl, rfl, Nat.le_refl _, fun _ _ _ => rfl⟩
theorem grownBy_trans {a b c : World} {r : Option Nat} (h : a.grownBy b r) (k : b.grownBy c r) : a.grownBy c r :=
  ⟨k.os.trans h.os, k.tape.trans h.tape, k.output.trans h.output, Nat.le_trans h.size k.size, fun i hi hn => (k.block i (Nat.lt_of_lt_of_le hi h.size) hn).trans (h.block i hi hn)⟩
set_option maxHeartbeats 1000000 in
theorem mark_grown (a : Option Addr) (cap : Nat) (l : List Int) (k0 : Int) (n B : Nat) (w : World) (hn : l.length = n) (hm : n ≤ 1000000000) (h0 : 0 ≤ k0) (h1 : k0 ≤ 1000000000000) (hown : Owns w B (.slice a n cap) l) :
    Calls Tryd.prog 24 #[.slice a n cap, .int .i64 k0] w fun e w' => e = .returned (.int .i64 (k0 + n)) ∧ w.grownBy w' (Value.ownBlock (.slice a n cap)) := by
  replace hn := Lib.hid hn
  go_enter Tryd.func24, Tryd.ntmps24
  go_wp2
  go_loopw [1, 5] (fun q i wr => ∃ k : Nat, q = .int .i64 (k0 + (k : Int)) ∧ i = .int .i64 k ∧ k ≤ n ∧ Owns wr B (.slice a n cap) (M.mk k0 k ++ l.drop k) ∧ Hid (w.grownBy wr (Value.ownBlock (.slice a n cap)))) (fun _ i _ => n - (intOf i).toNat)
  case atStart => exact ⟨0, by simp, rfl, Nat.zero_le _, by simpa [M.mk] using hown, grown_refl _ _⟩
  case round =>
    obtain ⟨k, rfl, rfl, hk, ho, hb⟩ := hrel
    clear hown
    by_cases hlt : k < n
    · have hlen : (M.mk k0 k ++ l.drop k).length = n := by rw [List.length_append, M.mk_len, List.length_drop, hn.out]; omega
      obtain ⟨g, rfl⟩ : ∃ g, a = some ⟨g, 0, none⟩ := by
        have h2 := ho.2
        rcases h2 with ⟨h2, h3⟩ | ⟨g, cap', cur, h2, _⟩
        · rw [hlen] at h3; omega
        · injection h2 with h2; exact ⟨g, h2⟩
      obtain ⟨q1, q2, q3, q4⟩ := ho.cellAt hlen k hlt
      obtain ⟨y, hy⟩ : ∃ y, y = (M.mk k0 k ++ l.drop k).getD k 0 := ⟨_, rfl⟩
      rw [← hy] at q1
      have hst := Lib.hid (ho.put hlen k (k0 + (k : Int)))
      clear ho hy hlen
      go_wp2
      go_roundw
      case rel => exact ⟨k + 1, by go_num, by go_num, by omega, by rw [← mk_set (by rw [hn.out]; exact hlt)]; exact hst.out, grownBy_trans hb.out (grown_set wr g k (.int .i64 (k0 + (k : Int))))⟩
      case measure => simp [intOf]; omega
    · have hkn : k = n := by omega
      subst hkn
      clear ho
      go_wp2
      go_ret
      exact ⟨rfl, hb.out⟩
theorem Owns.ne {w : World} {B k : Nat} {v : Value} {l : List Int} (h : Owns w B v l) (hk : w.heap.size ≤ k) : some k ≠ v.ownBlock := by
  intro e; have := (h.lt e.symm).2; omega
set_option maxHeartbeats 2000000 in
theorem mark_arm (may : Nat → Prop) (a1 a2 a3 : Option Addr) (n1 n2 n3 c1 c2 c3 B : Nat) (l lo hi : List Int) (k : Int) (w : World) (h1 : l.length = n1) (h2 : lo.length = n2) (h3 : hi.length = n3) (m : n1 ≤ 1000000000 ∧ n2 ≤ 1000000000 ∧ n3 ≤ 1000000000) (hk : 0 ≤ k ∧ k ≤ 1000000000) (hr : Arm3 w B (.slice a1 n1 c1) (.slice a2 n2 c2) (.slice a3 n3 c3) l lo hi)
    (hy1 : ∀ i, Value.ownBlock (.slice a1 n1 c1) = some i → may i) (hy2 : ∀ i, Value.ownBlock (.slice a2 n2 c2) = some i → may i) (hy3 : ∀ i, Value.ownBlock (.slice a3 n3 c3) = some i → may i) :
    Calls Tryd.prog 23 #[.agg #[.slice a1 n1 c1, .slice a2 n2 c2, .slice a3 n3 c3], .int .i64 k] w fun e w' => e = .returned (.int .i64 (k + n1 + n2 + n3)) ∧ Kept may w w' := by
  obtain ⟨m1, m2, m3⟩ := m
  obtain ⟨u1, u2⟩ := hk
  replace h1 := Lib.hid h1
  replace h2 := Lib.hid h2
  replace h3 := Lib.hid h3
  replace hy1 := Lib.hid hy1
  replace hy2 := Lib.hid hy2
  replace hy3 := Lib.hid hy3
  obtain ⟨o1, o2, o3, p12, p13, p23⟩ := hr
  replace p12 := Lib.hid p12
  replace p13 := Lib.hid p13
  replace p23 := Lib.hid p23
  have t1 := Lib.hid (o1.ne (Nat.le_refl _))
  have t2 := Lib.hid (o2.ne (Nat.le_refl _))
  have t3 := Lib.hid (o3.ne (Nat.le_refl _))
  have bb := Lib.hid (Kept.of_below (may := may) ((Below.refl w.heap.size w).alloc (Nat.le_refl _) (.cells #[.slice a1 n1 c1, .slice a2 n2 c2, .slice a3 n3 c3] 25)))
  have k0 := Cell3.new w (.slice a1 n1 c1) (.slice a2 n2 c2) (.slice a3 n3 c3) 25
  have q1 := Lib.hid (o1.grown (World.grownBy_alloc w (.cells #[.slice a1 n1 c1, .slice a2 n2 c2, .slice a3 n3 c3] 25) none) (by cases Value.ownBlock (.slice a1 n1 c1) <;> simp))
  have q2 := Lib.hid (o2.grown (World.grownBy_alloc w (.cells #[.slice a1 n1 c1, .slice a2 n2 c2, .slice a3 n3 c3] 25) none) (by cases Value.ownBlock (.slice a2 n2 c2) <;> simp))
  have q3 := Lib.hid (o3.grown (World.grownBy_alloc w (.cells #[.slice a1 n1 c1, .slice a2 n2 c2, .slice a3 n3 c3] 25) none) (by cases Value.ownBlock (.slice a3 n3 c3) <;> simp))
  clear o1 o2 o3
  go_enter Tryd.func23, Tryd.ntmps23
  have j0 := k0
  obtain ⟨x0, x1, x2, _, _, _⟩ := k0
  go_wp2_with fail
  clear x0 x1 x2
  generalize w.alloc (.cells #[.slice a1 n1 c1, .slice a2 n2 c2, .slice a3 n3 c3] 25) = v0 at *
  refine (mark_grown a1 c1 l k n1 B _ h1.out m1 (by omega) (by omega) q1.out).mono ?_
  rintro e w1 ⟨rfl, g⟩
  replace bb := Lib.hid (bb.out.trans (Kept.of_grown g hy1.out))
  replace j0 := j0.grown g t1.out
  replace q2 := Lib.hid (q2.out.grown g p12.out.symm)
  replace q3 := Lib.hid (q3.out.grown g p13.out.symm)
  clear g
  have k0 := j0
  obtain ⟨x0, x1, x2, _, _, _⟩ := k0
  go_wp2_with fail
  clear x0 x1 x2
  refine (mark_grown a2 c2 lo (k + n1) n2 B _ h2.out m2 (by omega) (by omega) q2.out).mono ?_
  rintro e w2 ⟨rfl, g⟩
  replace bb := Lib.hid (bb.out.trans (Kept.of_grown g hy2.out))
  replace j0 := j0.grown g t2.out
  replace q3 := Lib.hid (q3.out.grown g p23.out.symm)
  clear g
  have k0 := j0
  obtain ⟨x0, x1, x2, _, _, _⟩ := k0
  go_wp2_with fail
  clear x0 x1 x2
  refine (mark_grown a3 c3 hi (k + n1 + n2) n3 B _ h3.out m3 (by omega) (by omega) q3.out).mono ?_
  rintro e w3 ⟨rfl, g⟩
  replace bb := Lib.hid (bb.out.trans (Kept.of_grown g hy3.out))
  replace j0 := j0.grown g t3.out
  clear g j0
  go_wp2_with fail
  go_ret
  exact ⟨rfl, bb.out⟩
theorem Owns.keptAt {may : Nat → Prop} {w w' : World} {B : Nat} {v : Value} {l : List Int} (h : Owns w B v l) (hk : Kept may w w') (hm : ∀ i, v.ownBlock = some i → ¬ may i) : Owns w' B v l := by
  obtain ⟨h1, h2⟩ := h
  refine ⟨h1, ?_⟩
  rcases h2 with h2 | ⟨g, cap, cur, e, hg, hh, r⟩
  · exact .inl h2
  · exact .inr ⟨g, cap, cur, e, hg, (hk.block g (Array.getElem?_eq_some_iff.1 hh).1 (hm g (by rw [e]; rfl))).trans hh, r⟩
theorem Cell3.keptBy {may : Nat → Prop} {w w' : World} {k : Nat} {x y z : Value} (h : Cell3 w k x y z) (hk : Kept may w w') (hm : ¬ may k) : Cell3 w' k x y z := h.of_block (hk.block k h.lt hm)
theorem Kept.bel {may : Nat → Prop} {w a b : World} (h : Kept may a b) (bb : Below w.heap.size w a) (hm : ∀ k, may k → w.heap.size ≤ k) : Below w.heap.size w b :=
  bb.trans (h.below bb.size (fun k hk hy => by have := hm k hy; omega))
theorem Kept.of_belowB {B : Nat} {a b : World} (h : Below B a b) : Kept (fun i => B ≤ i) a b := ⟨h.os, h.tape, h.output, h.size, fun k hk hm => h.block k (by simp at hm; exact hm)⟩
theorem Owns.own_lt {w : World} {B T : Nat} {v : Value} {l : List Int} (h : Owns w B v l) (hT : w.heap.size ≤ T) : ∀ i, v.ownBlock = some i → B ≤ i ∧ i < T := fun i hi => ⟨(h.lt hi).1, Nat.lt_of_lt_of_le (h.lt hi).2 hT⟩
theorem Owns.own_ge {w : World} {B : Nat} {v : Value} {l : List Int} (h : Owns w B v l) : ∀ i, v.ownBlock = some i → B ≤ i := fun i hi => (h.lt hi).1
theorem Arm3.own_lt {w : World} {B T : Nat} {v1 v2 v3 : Value} {l lo hi : List Int} (h : Arm3 w B v1 v2 v3 l lo hi) (hT : w.heap.size ≤ T) : (∀ i, v1.ownBlock = some i → B ≤ i ∧ i < T) ∧ (∀ i, v2.ownBlock = some i → B ≤ i ∧ i < T) ∧ (∀ i, v3.ownBlock = some i → B ≤ i ∧ i < T) := ⟨h.o1.own_lt hT, h.o2.own_lt hT, h.o3.own_lt hT⟩
end Go.Proofs.YtmainffjekjlnaaDoor
