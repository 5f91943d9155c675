/- Contract of the draw of an arm of two links with small ranges. -/
import Derived.Test.YtmainffjekjlnaaDoorDraws2
import Derived.Test.YtmainffjekjlnaaDoorAt
import Derived.Deep.QuietTactic
namespace Go.Proofs.YtmainffjekjlnaaDoor
open Go.ChangeShapes Go.WideShapes Go.ChangeAt Go.RowKit
set_option linter.unusedVariables false
theorem Span.apart {w : World} {B g o k n c n3 c3 : Nat} {a : Option Addr} {l : List Int} {u : Value} (h : Span w B a l) (p : Apart (.slice a n c) (.slice (some ⟨g, o, none⟩) n3 c3)) : Span (w.setCell ⟨g, k, none⟩ u) B a l := by
  refine h.of_blocks (by simp [World.setCell]) (fun i h1 h2 h3 => ?_)
  refine Below.heap_setCell _ _ _ _ ?_
  rcases p with p | p
  · have e : Value.ownBlock (.slice a n c) = Value.ownBlock (.slice a 0 0) := by cases a <;> rfl
    rw [← e, p] at h3; cases h3
  · have e : Value.ownBlock (.slice a n c) = Value.ownBlock (.slice a 0 0) := by cases a <;> rfl
    rw [e, h3] at p
    intro e2
    exact p (by rw [e2]; rfl)
theorem Span.put {w : World} {B g o k : Nat} {l : List Int} (h : Span w B (some ⟨g, o, none⟩) l) (hk : k < l.length) (y : Int) : Span (w.setCell ⟨g, o + k, none⟩ (.int .i64 y)) B (some ⟨g, o, none⟩) (l.set k y) := by
  rcases h with h | ⟨b, o', e, hB, hlt, hc⟩
  · rw [h] at hk; cases hk
  · injection e with e; injection e with e1 e2; subst e1; subst e2
    refine .inr ⟨g, o, rfl, hB, by simpa [World.setCell] using hlt, fun i hi => ?_⟩
    rw [List.length_set] at hi
    refine ⟨?_, ?_⟩
    · by_cases hik : i = k
      · subst hik
        rw [World.cell?_setCell_same w ⟨g, o + i, none⟩ (.int .i64 y) (hc i hi).1]
        simp [hi]
      · rw [World.cell?_setCell_other _ _ _ _ (by simp <;> omega), (hc i hi).1]
        simp [List.getD_eq_getElem?_getD, hi, Ne.symm hik]
    · simp [(hc i hi).2]
theorem ArmFacts.put3 {w : World} {B g o n1 c1 n2 c2 n3 c3 k : Nat} {a1 a2 : Option Addr} {l lo hi : List Int} (h : ArmFacts w B a1 n1 c1 a2 n2 c2 (some ⟨g, o, none⟩) n3 c3 l lo hi) (hk : k < n3) (y : Int) (hy : -181 ≤ y ∧ y ≤ 181) : ArmFacts (w.setCell ⟨g, o + k, none⟩ (.int .i64 y)) B a1 n1 c1 a2 n2 c2 (some ⟨g, o, none⟩) n3 c3 l lo (hi.set k y) :=
  ⟨⟨h.len.1, h.len.2.1, by rw [List.length_set]; exact h.len.2.2⟩, h.le, h.cap, h.b1, h.b2, mem_set_bd h.b3 hy, h.s1.apart h.p13, h.s2.apart h.p23, h.s3.put (by rw [h.len.2.2]; exact hk) y, h.p13, h.p23⟩
/-- the state of the draw: the result's block S, the arm's box A -/
structure SmSt (w W : World) (R m S A : Nat) (a1 : Option Addr) (n1 c1 : Nat) (a2 : Option Addr) (n2 c2 : Nat) (a3 : Option Addr) (n3 c3 : Nat) (l lo hi : List Int) : Prop where
  s : Cell3 W S (.slice none 0 0) (.slice none 0 0) (.slice none 0 0)
  c : Cell3 W A (.slice a1 n1 c1) (.slice a2 n2 c2) (.slice a3 n3 c3)
  f : ArmFacts W (S + 1) a1 n1 c1 a2 n2 c2 a3 n3 c3 l lo hi
  r : Rd W R m
  b : Beside R w W
  h : R < S ∧ S < A ∧ w.heap.size ≤ S
  d : ∀ b o, a3 = some ⟨b, o, none⟩ → 0 < n3 → b < A
theorem SmSt.beside {w W W' : World} {R m m' S A n1 c1 n2 c2 n3 c3 : Nat} {a1 a2 a3 : Option Addr} {l lo hi : List Int} (h : SmSt w W R m S A a1 n1 c1 a2 n2 c2 a3 n3 c3 l lo hi) (r : Rd W' R m') (b : Beside R W W') : SmSt w W' R m' S A a1 n1 c1 a2 n2 c2 a3 n3 c3 l lo hi := by
  have hh := h.h
  exact ⟨h.s.beside b (by omega), h.c.beside b (by omega), h.f.beside b (by omega), r, h.b.trans b, hh, h.d⟩
theorem SmSt.drew {w W : World} {R m S A n1 c1 n2 c2 n3 c3 : Nat} {a1 a2 a3 : Option Addr} {l lo hi : List Int} (h : SmSt w W R m S A a1 n1 c1 a2 n2 c2 a3 n3 c3 l lo hi) : SmSt w W.drew R m S A a1 n1 c1 a2 n2 c2 a3 n3 c3 l lo hi := h.beside (h.r.drewN 1) (beside_drew R W)
theorem SmSt.drewN {w W : World} {R m S A n1 c1 n2 c2 n3 c3 : Nat} {a1 a2 a3 : Option Addr} {l lo hi : List Int} (h : SmSt w W R m S A a1 n1 c1 a2 n2 c2 a3 n3 c3 l lo hi) (n : Nat) : SmSt w (W.drewN n) R m S A a1 n1 c1 a2 n2 c2 a3 n3 c3 l lo hi := h.beside (h.r.drewN n) ((Beside.refl R W).drewN n)
theorem SmSt.mono {w W : World} {R m m' S A n1 c1 n2 c2 n3 c3 : Nat} {a1 a2 a3 : Option Addr} {l lo hi : List Int} (h : SmSt w W R m S A a1 n1 c1 a2 n2 c2 a3 n3 c3 l lo hi) (hm : m ≤ m') : SmSt w W R m' S A a1 n1 c1 a2 n2 c2 a3 n3 c3 l lo hi := ⟨h.s, h.c, h.f, h.r.mono hm, h.b, h.h, h.d⟩
theorem SmSt.put {w W : World} {R m S A g o n1 c1 n2 c2 n3 c3 k : Nat} {a1 a2 : Option Addr} {l lo hi : List Int} (h : SmSt w W R m S A a1 n1 c1 a2 n2 c2 (some ⟨g, o, none⟩) n3 c3 l lo hi) (hk : k < n3) (y : Int) (hy : -181 ≤ y ∧ y ≤ 181) : SmSt w (W.setCell ⟨g, o + k, none⟩ (.int .i64 y)) R m S A a1 n1 c1 a2 n2 c2 (some ⟨g, o, none⟩) n3 c3 l lo (hi.set k y) := by
  have hh := h.h
  have hd := h.d g o rfl (by omega)
  have gs := grown_set W g (o + k) (.int .i64 y)
  obtain ⟨b, o', e, hB, hlt⟩ := h.f.s3.form (by rw [h.f.len.2.2]; omega)
  injection e with e; injection e with e1 e2; subst e1; subst e2
  exact ⟨h.s.grown gs (by intro e; injection e; omega), h.c.grown gs (by intro e; injection e; omega), h.f.put3 hk y hy, h.r.setCell (by show R < g; omega) _, h.b.setCell (.inr (by show w.heap.size ≤ g; omega)) _, hh, h.d⟩
theorem SmSt.first {w W : World} {R m S n1 c1 n2 c2 n3 c3 : Nat} {a1 a2 a3 : Option Addr} {l lo hi : List Int} (s : Cell3 W S (.slice none 0 0) (.slice none 0 0) (.slice none 0 0)) (f : ArmFacts W (S + 1) a1 n1 c1 a2 n2 c2 a3 n3 c3 l lo hi) (r : Rd W R m) (b : Beside R w W) (hR : R < S) (hS : w.heap.size ≤ S) (t : TypeId) :
    SmSt w (W.alloc (.cells #[.slice a1 n1 c1, .slice a2 n2 c2, .slice a3 n3 c3] t)) R m S W.heap.size a1 n1 c1 a2 n2 c2 a3 n3 c3 l lo hi := by
  refine ⟨s.alloc _, Cell3.new W _ _ _ t, f.after (bel_new W _), r.alloc _, b.alloc _, ⟨hR, s.lt, hS⟩, fun g o e hp => ?_⟩
  obtain ⟨g', o', e', _, hlt⟩ := f.s3.form (by rw [f.len.2.2]; exact hp)
  rw [e] at e'; injection e' with e'; injection e' with e1 e2; omega
theorem SmSt.out {w W : World} {R m m' A n1 c1 n2 c2 n3 c3 : Nat} {a1 a2 a3 : Option Addr} {l lo hi : List Int} (h : SmSt w W R m w.heap.size A a1 n1 c1 a2 n2 c2 a3 n3 c3 l lo hi) (hm : m ≤ m') :
    ∃ wf, wf = ((W.setCell ⟨w.heap.size, 0, none⟩ (.slice a1 n1 c1)).setCell ⟨w.heap.size, 1, none⟩ (.slice a2 n2 c2)).setCell ⟨w.heap.size, 2, none⟩ (.slice a3 n3 c3) ∧ Cell3 wf w.heap.size (.slice a1 n1 c1) (.slice a2 n2 c2) (.slice a3 n3 c3) ∧ ArmDrawn w R m' (.returned (.agg #[.slice a1 n1 c1, .slice a2 n2 c2, .slice a3 n3 c3])) wf := by
  have hh := h.h
  refine ⟨_, rfl, ((h.s.put0 _).put1 _).put2 _, a1, n1, c1, a2, n2, c2, a3, n3, c3, _, _, _, rfl, (h.f.keptBy (grown3 W w.heap.size _ _ _) (fun k hk => by omega)).base (by omega), ?_, ?_⟩
  · exact (((h.r.mono hm).setCell (p := ⟨w.heap.size, 0, none⟩) hh.1 _).setCell (p := ⟨w.heap.size, 1, none⟩) hh.1 _).setCell (p := ⟨w.heap.size, 2, none⟩) hh.1 _
  · exact ((h.b.setCell (.inr (Nat.le_refl _)) _).setCell (.inr (Nat.le_refl _)) _).setCell (.inr (Nat.le_refl _)) _
set_option maxRecDepth 20000 in
set_option maxHeartbeats 4000000 in
theorem l20_small (R m : Nat) (n : Int) (w : World) (rd : Rd w R m) (hm : m ≤ 800000) (hn : 0 ≤ n) (hn2 : n ≤ 1000000) :
    Calls Tryd.prog 32 #[.pointer (some ⟨R, 0, none⟩), .int .i64 n] w (ArmDrawn w R (m + 40)) := by
  have hRw := rd.lt
  have ks := Cell3.new w (.slice none 0 0) (.slice none 0 0) (.slice none 0 0) 25
  have hsz := World.size_alloc w (.cells #[.slice none 0 0, .slice none 0 0, .slice none 0 0] 25)
  have bw := (Beside.refl R w).alloc (.cells #[.slice none 0 0, .slice none 0 0, .slice none 0 0] 25)
  replace rd := rd.alloc (.cells #[.slice none 0 0, .slice none 0 0, .slice none 0 0] 25)
  go_enter Tryd.func32, Tryd.ntmps32
  go_upto_region 1 with fail
  generalize w.alloc (.cells #[.slice none 0 0, .slice none 0 0, .slice none 0 0] 25) = w0 at *
  go_wp2_with fail
  refine (l20_arm R m 2 n _ rd (by omega) (by omega) (by omega) hn hn2).mono ?_
  rintro e w1 ⟨a1, n1, c1, a2, n2, c2, a3, n3, c3, l, lo, hi, rfl, f, r1, b1⟩
  rw [hsz] at f
  replace ks := ks.beside b1 (by omega)
  replace bw := bw.trans b1
  clear b1 rd hsz
  replace f := Lib.hid f
  replace bw := Lib.hid bw
  have nS : w.heap.size ≠ w1.heap.size := by have := ks.lt; omega
  go_upto_region 2 with fail
  obtain ⟨A, hA⟩ : ∃ A, A = w1.heap.size := ⟨_, rfl⟩
  have hkA : Cell3 (w1.alloc (.cells #[.slice a1 n1 c1, .slice a2 n2 c2, .slice a3 n3 c3] 25)) w1.heap.size (.slice a1 n1 c1) (.slice a2 n2 c2) (.slice a3 n3 c3) := Cell3.new w1 _ _ _ 25
  rw [← hA] at hkA ⊢
  obtain ⟨hl1, hl2, hl3⟩ := f.out.len
  obtain ⟨m1, m2, m3⟩ := f.out.le
  have st : Hid (SmSt w (w1.alloc (.cells #[.slice a1 n1 c1, .slice a2 n2 c2, .slice a3 n3 c3] 25)) R (m + 30 + 0) w.heap.size A a1 n1 c1 a2 n2 c2 a3 n3 c3 l lo hi) := by
    refine Lib.hid ?_
    rw [hA]
    exact SmSt.first ks f.out r1 bw.out hRw (Nat.le_refl _) 25
  clear hkA ks f r1 bw nS hA hl3
  generalize w1.alloc (.cells #[.slice a1 n1 c1, .slice a2 n2 c2, .slice a3 n3 c3] 25) = v at *
  go_wp2_with fail
  go_loopw [6] (fun i wr => ∃ (k : Nat) (hk_ : List Int), i = .int .i64 k ∧ k ≤ 4 ∧ Hid (SmSt w wr R (m + 30 + k) w.heap.size A a1 n1 c1 a2 n2 c2 a3 n3 c3 l lo hk_)) (fun i _ => 4 - (intOf i).toNat)
  case atStart => exact ⟨0, hi, rfl, by omega, st⟩
  case round =>
    clear st
    obtain ⟨k, ho, rfl, hk4, st⟩ := hrel
    have hl3 := st.out.f.len.2.2
    obtain ⟨x0, x1, x2, x3, x4, x5⟩ := st.out.c
    by_cases hlt : k < n3 ∧ k < n2
    · obtain ⟨q3, q2⟩ := hlt
      have q3i : (k : Int) < (n3 : Int) := by omega
      have q2i : (k : Int) < (n2 : Int) := by omega
      obtain ⟨g3, o3, rfl, hg3, hg3l⟩ := st.out.f.s3.form (by rw [hl3]; omega)
      obtain ⟨g2, o2, rfl, hg2, hg2l⟩ := st.out.f.s2.form (by rw [hl2]; omega)
      have y3 := st.out.f.s3.at (k := k) (by rw [hl3]; omega)
      have y2 := st.out.f.s2.at (k := k) (by rw [hl2]; omega)
      obtain ⟨t1, t2⟩ := getD_bd (k := k) st.out.f.b3 (by rw [hl3]; omega)
      obtain ⟨t3, t4⟩ := getD_bd (k := k) st.out.f.b2 (by rw [hl2]; omega)
      generalize ho.getD k 0 = z at *
      generalize hy : lo.getD k 0 = y at *
      have ew1 : IntKind.i64.wrap (y + 25) = y + 25 := IntWalk.i64_in _ (by omega)
      go_upto_region 5 with fail
      by_cases hbig : y + 25 < z
      · have hbd : decide (y + 25 < z) = true := by simp; omega
        go_quiet (fail)
        go_upto_region 6 with fail
        clear x0 x1 x2 x3 x4 x5 y2 y3
        replace st := Lib.hid (st.out.drewN nq)
        generalize wr.drewN nq = u0 at *
        replace st := Lib.hid st.out.drew
        have ew2 : IntKind.i64.wrap (y + 5) = y + 5 := IntWalk.i64_in _ (by omega)
        have s2 := st.out.f.s2.at (k := k) (by rw [hl2]; omega)
        rw [hy] at s2
        have s := And.intro (And.intro st.out.c.c1 st.out.c.c2) s2
        clear s2
        refine wp_region_held_drew (S := (fun w' => (w'.cell? ⟨A, 1, none⟩ = some (.slice (some ⟨g2, o2, none⟩) n2 c2) ∧ w'.cell? ⟨A, 2, none⟩ = some (.slice (some ⟨g3, o3, none⟩) n3 c3)) ∧ w'.cell? ⟨g2, o2 + k, none⟩ = some (.int .i64 y))) (by kernel_rfl) s (fun hHeld => ?_)
        generalize u0.drew = u1 at *
        refine wpAnyH_take (i := 0) (v := ?vq1x0) nth0 (by kernel_rfl) (by kernel_rfl) (by kernel_rfl) (fun _ _ _ h => h) (Or.inl ⟨by rfl, ?hyq1x0⟩) hHeld ?_
        case hyq1x0 => (intro wH hSw; (try dsimp only at hSw); go_simp; (try with_reducible rfl))
        simp only [Act.put, List.setIfInBounds_toArray, List.set_cons_zero, List.set_cons_succ]
        refine wpAnyH_take (i := 1) (v := ?vq1x1) nth1 (by kernel_rfl) (by kernel_rfl) (by kernel_rfl) (fun _ _ _ h => h) (Or.inl ⟨by rfl, ?hyq1x1⟩) hHeld ?_
        case hyq1x1 => (intro wH hSw; (try dsimp only at hSw); go_simp; (try with_reducible rfl))
        simp only [Act.put, List.setIfInBounds_toArray, List.set_cons_zero, List.set_cons_succ]
        refine wpAnyH_take (i := 2) (v := ?vq1x2) nth2 (by kernel_rfl) (by kernel_rfl) (by kernel_rfl) (fun _ _ _ h => h) (Or.inl ⟨by rfl, ?hyq1x2⟩) hHeld ?_
        case hyq1x2 => (intro wH hSw; (try dsimp only at hSw); go_simp; (try with_reducible rfl))
        simp only [Act.put, List.setIfInBounds_toArray, List.set_cons_zero, List.set_cons_succ]
        refine wpAnyH_take (i := 3) (v := ?vq1x3) nth3 (by kernel_rfl) (by kernel_rfl) (by kernel_rfl) (fun _ _ _ h => h) (Or.inl ⟨by rfl, ?hyq1x3⟩) hHeld ?_
        case hyq1x3 => (intro wH hSw; (try dsimp only at hSw); go_simp; (try with_reducible rfl))
        simp only [Act.put, List.setIfInBounds_toArray, List.set_cons_zero, List.set_cons_succ]
        refine wpAnyH_take (i := 4) (v := ?vq1x4) nth4 (by kernel_rfl) (by kernel_rfl) (by kernel_rfl) (fun _ _ _ h => h) (Or.inl ⟨by rfl, ?hyq1x4⟩) hHeld ?_
        case hyq1x4 => (intro wH hSw; (try dsimp only at hSw); go_simp; (try with_reducible rfl))
        simp only [Act.put, List.setIfInBounds_toArray, List.set_cons_zero, List.set_cons_succ]
        refine wpAnyH_take (i := 5) (v := ?vq1x5) nth5 (by kernel_rfl) (by kernel_rfl) (by kernel_rfl) (fun _ _ _ h => h) (Or.inl ⟨by rfl, ?hyq1x5⟩) hHeld ?_
        case hyq1x5 => (intro wH hSw; (try dsimp only at hSw); go_simp; (try with_reducible rfl))
        simp only [Act.put, List.setIfInBounds_toArray, List.set_cons_zero, List.set_cons_succ]
        refine wpAnyH_take (i := 6) (v := ?vq1x6) nth6 (by kernel_rfl) (by kernel_rfl) (by kernel_rfl) (fun _ _ _ h => h) (Or.inl ⟨by rfl, ?hyq1x6⟩) hHeld ?_
        case hyq1x6 => (intro wH hSw; (try dsimp only at hSw); go_simp; (try with_reducible rfl))
        simp only [Act.put, List.setIfInBounds_toArray, List.set_cons_zero, List.set_cons_succ]
        refine wpAnyH_take (i := 7) (v := ?vq1x7) nth7 (by kernel_rfl) (by kernel_rfl) (by kernel_rfl) (fun _ _ _ h => h) (Or.inl ⟨by rfl, ?hyq1x7⟩) hHeld ?_
        case hyq1x7 => (intro wH hSw; (try dsimp only at hSw); go_simp; (try with_reducible rfl))
        simp only [Act.put, List.setIfInBounds_toArray, List.set_cons_zero, List.set_cons_succ]
        refine wpAnyH_take (i := 8) (v := ?vq1x8) nth8 (by kernel_rfl) (by kernel_rfl) (by kernel_rfl) (fun _ _ _ h => h) (Or.inl ⟨by rfl, ?hyq1x8⟩) hHeld ?_
        case hyq1x8 => (intro wH hSw; (try dsimp only at hSw); go_simp; (try with_reducible rfl))
        simp only [Act.put, List.setIfInBounds_toArray, List.set_cons_zero, List.set_cons_succ]
        refine wpAnyH_take (i := 9) (v := ?vq1x9) nth9 (by kernel_rfl) (by kernel_rfl) (by kernel_rfl) (fun _ _ _ h => h) (Or.inl ⟨by rfl, ?hyq1x9⟩) hHeld ?_
        case hyq1x9 => (intro wH hSw; (try dsimp only at hSw); go_simp; (try with_reducible rfl))
        simp only [Act.put, List.setIfInBounds_toArray, List.set_cons_zero, List.set_cons_succ]
        refine wpAnyH_ready (rs := [10]) (by kernel_rfl) (by simp) ?_
        refine AllReadyH.cons nth10 (fun K hK => ?_) ?_
        · go_simp
          go_at_call 58
          refine (pick_any R _ _ _ st.out.r (by omega) (by omega) (by omega)).mono ?_
          rintro e u2 ⟨p, p1, p2, rfl, r2, b2⟩
          replace st := Lib.hid (st.out.beside r2 b2)
          clear r2 b2 s
          have ew3 : IntKind.i64.wrap (y + 5 + p) = y + 5 + p := IntWalk.i64_in _ (by omega)
          clear hHeld
          have s2 := st.out.f.s2.at (k := k) (by rw [hl2]; omega)
          rw [hy] at s2
          have s := And.intro (And.intro st.out.c.c1 st.out.c.c2) s2
          clear s2
          refine hK.out _ _ s (fun hHeld => ?_)
          clear hK K
          try simp only [Act.put, List.setIfInBounds_toArray, List.set_cons_zero, List.set_cons_succ]
          refine wpAnyH_take (i := 11) (v := ?vq1x11) nth11 (by kernel_rfl) (by kernel_rfl) (by kernel_rfl) (fun _ _ _ h => h) (Or.inl ⟨by rfl, ?hyq1x11⟩) hHeld ?_
          case hyq1x11 => (intro wH hSw; (try dsimp only at hSw); go_simp; (try with_reducible rfl))
          simp only [Act.put, List.setIfInBounds_toArray, List.set_cons_zero, List.set_cons_succ]
          refine wpAnyH_take (i := 12) (v := ?vq1x12) nth12 (by kernel_rfl) (by kernel_rfl) (by kernel_rfl) (fun _ _ _ h => h) (Or.inl ⟨by rfl, ?hyq1x12⟩) hHeld ?_
          case hyq1x12 => (intro wH hSw; (try dsimp only at hSw); go_simp; (try with_reducible rfl))
          simp only [Act.put, List.setIfInBounds_toArray, List.set_cons_zero, List.set_cons_succ]
          refine wpAnyH_ready (rs := [13]) (by kernel_rfl) (by simp) ?_
          refine AllReadyH.cons nth13 (fun K hK => ?_) ?_
          · have hl3u := st.out.f.len.2.2
            obtain ⟨c9, hc9⟩ : ∃ c9, u2.cell? ⟨g3, o3 + k, none⟩ = some (.int .i64 c9) ∧ u2.frozen? ⟨g3, o3 + k, none⟩ = false := by
              rcases st.out.f.s3 with e | ⟨b9, o9, e, _, _, h9⟩
              · rw [e] at hl3u; simp at hl3u; omega
              · injection e with e; injection e with e1 e2; subst e1; subst e2; exact ⟨_, h9 k (by rw [hl3u]; exact q3)⟩
            obtain ⟨c10, c11⟩ := hc9
            have stn := Lib.hid (st.out.put (k := k) q3 (y + 5 + p) (by omega))
            go_simp
            clear c10 c11 s st
            have st := stn
            clear stn
            generalize u2.setCell ⟨g3, o3 + k, none⟩ (.int .i64 (y + 5 + p)) = u3 at *
            clear hHeld
            have s2 := st.out.f.s2.at (k := k) (by rw [hl2]; omega)
            rw [hy] at s2
            have s := And.intro (And.intro st.out.c.c1 st.out.c.c2) s2
            clear s2
            refine hK.out _ _ s (fun hHeld => ?_)
            clear hK K
            try simp only [Act.put, List.setIfInBounds_toArray, List.set_cons_zero, List.set_cons_succ]
            refine wpAnyH_done (by kernel_rfl) ?_ _
            clear hHeld s
            go_wp2_with fail
            go_roundw
            case rel => exact ⟨k + 1, _, by go_num, by omega, Lib.hid (st.out.mono (by omega))⟩
            case measure => simp [intOf]; omega
          exact AllReadyH.nil
        exact AllReadyH.nil
      · have hbd : decide (y + 25 < z) = false := by simp; omega
        go_quiet (fail)
        clear x0 x1 x2 x3 x4 x5 y2 y3
        replace st := Lib.hid (st.out.drewN nq)
        go_wp2_with fail
        go_roundw
        case rel => exact ⟨k + 1, _, by go_num, by omega, Lib.hid (st.out.mono (by omega))⟩
        case measure => simp [intOf]; omega
    · have _e := True.intro
      obtain ⟨k6, k7, k8, k9, k10, k11⟩ := st.out.s
      have hAS := st.out.h
      have nAS : A ≠ w.heap.size := by omega
      have nSA : w.heap.size ≠ A := by omega
      obtain ⟨wf, hwf, q9, hd9⟩ := st.out.out (m' := m + 40) (by omega)
      replace hwf := Lib.hid hwf.symm
      replace hd9 := Lib.hid hd9
      obtain ⟨u0, u1, u2, u3, u4, u5⟩ := q9
      by_cases q3 : k < n3
      · have q2 : ¬ k < n2 := fun h => hlt ⟨q3, h⟩
        have q3i : decide ((k : Int) < (n3 : Int)) = true := by simp; omega
        have q2i : decide ((k : Int) < (n2 : Int)) = false := by simp; omega
        clear hlt
        go_wp2_with fail
        rw [hwf.out]
        exact bodyPost_ret (v := .agg #[.slice a1 n1 c1, .slice a2 n2 c2, .slice a3 n3 c3]) (by simp [results, Tryd.results32, go_sem, u0, u1, u2]) rfl hd9.out
      · have _e2 := True.intro
        have q3i : decide ((k : Int) < (n3 : Int)) = false := by simp; omega
        clear hlt
        go_wp2_with fail
        rw [hwf.out]
        exact bodyPost_ret (v := .agg #[.slice a1 n1 c1, .slice a2 n2 c2, .slice a3 n3 c3]) (by simp [results, Tryd.results32, go_sem, u0, u1, u2]) rfl hd9.out
end Go.Proofs.YtmainffjekjlnaaDoor
