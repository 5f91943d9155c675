/- Contract of the draw of a point for an arm to reach. -/
import Derived.Test.YtmainffjekjlnaaDoorDraws
import Derived.Test.YtmainffjekjlnaaDoorDrawPt
import Derived.Test.YtmainffjekjlnaaDoorTips
import Derived.Deep.DeepCutAuto
import Derived.Deep.CutBlock
namespace Go.Proofs.YtmainffjekjlnaaDoor
open Go.ChangeShapes Go.WideShapes Go.ChangeAt Go.RowKit
set_option linter.unusedVariables false
/-- some point is drawn; the reader moves on -/
def TargetDrawn (w : World) (R m' : Nat) (e : Ending) (w' : World) : Prop := ∃ x y : Int, e = .returned (.agg #[.int .i64 x, .int .i64 y]) ∧ Rd w' R m' ∧ Beside R w w'
theorem Rd.old {w w' : World} {R m : Nat} (h : Rd w R m) (q : Below w.heap.size w w') : Rd w' R m := h.of_below (q.mono (by have := h.lt; omega))
theorem Beside.old {R : Nat} {w a b : World} (h : Beside R w a) (q : Below a.heap.size a b) : Beside R w b := h.trans (Beside.of_below q (Nat.le_refl _))
theorem keepA {w : World} {k : Nat} {x y z : Value} {o : Obj} (h : w.cell? ⟨k, 0, none⟩ = some x ∧ w.cell? ⟨k, 1, none⟩ = some y ∧ w.cell? ⟨k, 2, none⟩ = some z) : (w.alloc o).cell? ⟨k, 0, none⟩ = some x ∧ (w.alloc o).cell? ⟨k, 1, none⟩ = some y ∧ (w.alloc o).cell? ⟨k, 2, none⟩ = some z := by
  obtain ⟨h1, h2, h3⟩ := h
  refine ⟨?_, ?_, ?_⟩
  · rw [World.cell?_alloc_some _ _ _ (by rw [h1]; rfl)]; exact h1
  · rw [World.cell?_alloc_some _ _ _ (by rw [h2]; rfl)]; exact h2
  · rw [World.cell?_alloc_some _ _ _ (by rw [h3]; rfl)]; exact h3
theorem keepAd {w : World} {k : Nat} {x y z : Value} {o : Obj} (h : w.drew.cell? ⟨k, 0, none⟩ = some x ∧ w.drew.cell? ⟨k, 1, none⟩ = some y ∧ w.drew.cell? ⟨k, 2, none⟩ = some z) : (w.alloc o).drew.cell? ⟨k, 0, none⟩ = some x ∧ (w.alloc o).drew.cell? ⟨k, 1, none⟩ = some y ∧ (w.alloc o).drew.cell? ⟨k, 2, none⟩ = some z := keepA h
/-- the point that is drawn lies in a block of its own -/
def TgtMid (w : World) (R m' : Nat) (p : Value) (wx : World) : Prop := ∃ (K : Nat) (px py : Int), p = .pointer (some ⟨K, 0, none⟩) ∧ ((-3000 ≤ px ∧ px ≤ 3000) ∧ (-3000 ≤ py ∧ py ≤ 3000)) ∧ Slot wx K px py ∧ (w.heap.size + 1 < K ∧ R < K) ∧ Slot wx (w.heap.size + 1) 0 0 ∧ Rd wx R m' ∧ Hid (Beside R w wx)
theorem tgt_a {w W : World} {R m m' : Nat} {x y : Int} {t : TypeId} (hb : (-3000 ≤ x ∧ x ≤ 3000) ∧ (-3000 ≤ y ∧ y ≤ 3000)) (hs : Slot W (w.heap.size + 1) 0 0) (rd : Rd W R m) (hm : m ≤ m') (bw : Beside R w W) :
    TgtMid w R m' (.pointer (some ⟨W.heap.size, 0, none⟩)) (W.alloc (.cells #[.int .i64 x, .int .i64 y] t)) :=
  ⟨W.heap.size, x, y, rfl, hb, Slot.new W x y t, ⟨hs.2.2.2.2, rd.lt⟩, hs.alloc _, (rd.mono hm).alloc _, bw.alloc _⟩
theorem tgt_b {w W : World} {R m m' K : Nat} {x y : Int} (hb : (-3000 ≤ x ∧ x ≤ 3000) ∧ (-3000 ≤ y ∧ y ≤ 3000)) (hp : Slot W K 0 0) (hK : w.heap.size + 1 < K) (hKR : R < K) (hs : Slot W (w.heap.size + 1) 0 0) (rd : Rd W R m) (hm : m ≤ m') (bw : Beside R w W) :
    TgtMid w R m' (.pointer (some ⟨K, 0, none⟩)) ((W.setCell ⟨K, 0, none⟩ (.int .i64 x)).setCell ⟨K, 1, none⟩ (.int .i64 y)) :=
  ⟨K, x, y, rfl, hb, hp.put2 x y, ⟨hK, hKR⟩, hs.grown (grown_set2 W K _ _) (by intro e; injection e; omega), ((rd.mono hm).setCell (by show R < K; exact hKR) _).setCell (by show R < K; exact hKR) _, (bw.setCell (.inr (by show w.heap.size ≤ K; omega)) _).setCell (.inr (by show w.heap.size ≤ K; omega)) _⟩
theorem getD_mem {l : List Int} {a b : Int} {m : Nat} (h : ∀ x ∈ l, a ≤ x ∧ x ≤ b) (hm : m ≤ l.length) : ∀ i, i < m → a ≤ l.getD i 0 ∧ l.getD i 0 ≤ b := fun i hi => getD_bd h (by omega)
set_option maxRecDepth 20000 in
set_option maxHeartbeats 4000000 in
theorem l20_target (R m B : Nat) (a1 a2 a3 : Option Addr) (n1 c1 n2 c2 n3 c3 : Nat) (l lo hi : List Int) (w : World) (rd : Rd w R m) (hm : m ≤ 800000) (hB : R < B) (ha : ArmDraw w B a1 n1 a2 n2 a3 n3 l lo hi) :
    Calls Tryd.prog 35 #[.pointer (some ⟨R, 0, none⟩), .agg #[.slice a1 n1 c1, .slice a2 n2 c2, .slice a3 n3 c3]] w (TargetDrawn w R (m + 30)) := by
  have hRw := rd.lt
  obtain ⟨⟨h1, h2, h3⟩, ⟨z1, z2, z3⟩, q1, q2, q3, _, _, _⟩ := id ha
  replace h1 := Lib.hid h1
  replace h2 := Lib.hid h2
  replace h3 := Lib.hid h3
  replace q1 := Lib.hid q1
  clear q2 q3
  have hS : w.heap.size ≠ R := by omega
  have hS1 : w.heap.size + 1 ≠ R := by omega
  have k0 := (Cell3.new w (.slice a1 n1 c1) (.slice a2 n2 c2) (.slice a3 n3 c3) 25).alloc (.cells #[.int .i64 0, .int .i64 0] 27)
  have hs := Slot.new (w.alloc (.cells #[.slice a1 n1 c1, .slice a2 n2 c2, .slice a3 n3 c3] 25)) 0 0 27
  rw [World.size_alloc] at hs
  have bw : Beside R w ((w.alloc (.cells #[.slice a1 n1 c1, .slice a2 n2 c2, .slice a3 n3 c3] 25)).alloc (.cells #[.int .i64 0, .int .i64 0] 27)) := ((Beside.refl R w).alloc _).alloc _
  replace ha := Lib.hid (ha.beside bw hB)
  replace bw := Lib.hid bw
  replace rd := (rd.alloc (.cells #[.slice a1 n1 c1, .slice a2 n2 c2, .slice a3 n3 c3] 25)).alloc (.cells #[.int .i64 0, .int .i64 0] 27)
  go_enter Tryd.func35, Tryd.ntmps35
  go_wp2_with fail
  generalize (w.alloc (.cells #[.slice a1 n1 c1, .slice a2 n2 c2, .slice a3 n3 c3] 25)).alloc (.cells #[.int .i64 0, .int .i64 0] 27) = v at *
  refine (pick_any R m _ _ rd (by omega) (by omega) (by omega)).mono ?_
  rintro e w1 ⟨x, p1, p2, rfl, r1, b⟩
  replace rd := r1
  clear r1
  replace k0 := k0.beside b hS
  replace hs := hs.beside b hS1
  replace ha := Lib.hid (ha.out.beside b hB)
  replace bw := Lib.hid (bw.out.trans b)
  clear b
  by_cases hx : 0 < x
  · obtain ⟨x0, x1, x2, x3, x4, x5⟩ := id k0
    go_wp2_with fail
    clear x0 x1 x2 x3 x4 x5
    refine (spec_arm a1 a2 a3 n1 c1 n2 c2 n3 c3 l lo hi _ h1.out h2.out h3.out (by omega) ha.out.row).mono ?_
    rintro e w2 ⟨rfl, q⟩
    replace k0 := k0.after q
    replace hs := hs.after q
    replace ha := Lib.hid (ha.out.beside (Beside.of_below q (Nat.le_refl _)) hB)
    replace bw := Lib.hid (bw.out.old q)
    replace rd := rd.old q
    clear q
    cases hA : M.armB l lo hi
    · replace hA := Lib.hid hA
      go_wp2_with fail
      refine (pt_any R _ _ _ rd (by omega) (by omega) (by omega)).mono ?_
      rintro e wz ⟨⟨x, y, rfl, _, _⟩, rd, b⟩
      replace k0 := k0.beside b hS
      replace hs := hs.beside b hS1
      replace ha := Lib.hid (ha.out.beside b hB)
      replace bw := Lib.hid (bw.out.trans b)
      clear b
      obtain ⟨p1, p2, p3, p4, p5⟩ := id hs
      have lz := rd.lt
      go_wp2_with fail
      refine bodyPost_ret (v := .agg #[.int .i64 x, .int .i64 y]) (by simp [results, Tryd.results35, go_sem, p1, p2]) rfl ⟨x, y, rfl, ?_, ?_⟩
      · exact ((rd.mono (by omega)).setCell (by show R < w.heap.size + 1; omega) _).setCell (by show R < w.heap.size + 1; omega) _
      · exact (bw.out.setCell (.inr (by show w.heap.size ≤ w.heap.size + 1; omega)) _).setCell (.inr (by show w.heap.size ≤ w.heap.size + 1; omega)) _
    · obtain ⟨⟨⟨e1, e2⟩, _, _⟩, hv⟩ := M.armB_true hA
      replace hv := Lib.hid (fun i hi => (hv i hi).1)
      rw [h1.out] at e1 e2
      replace hA := Lib.hid hA
      obtain ⟨x0, x1, x2, x3, x4, x5⟩ := id k0
      go_wp2_with fail
      clear x0 x1 x2 x3 x4 x5
      replace k0 := k0.after (bel_drew _)
      replace hs := hs.after (bel_drew _)
      replace ha := Lib.hid (ha.out.beside (Beside.of_below (bel_drew _) (Nat.le_refl _)) hB)
      replace bw := Lib.hid (bw.out.old (bel_drew _))
      replace rd := rd.old (bel_drew _)
      have nK0 : w2.heap.size ≠ w.heap.size := by have := k0.lt; exact Nat.ne_of_gt this
      go_cut [5] (fun p wx => TgtMid w R (m + 26) p wx)
      case first =>
        have s := And.intro k0.c0 (And.intro k0.c1 k0.c2)
        go_region_held3 (fun w' => (w'.cell? ⟨w.heap.size, 0, none⟩ = some (.slice a1 n1 c1) ∧ w'.cell? ⟨w.heap.size, 1, none⟩ = some (.slice a2 n2 c2) ∧ w'.cell? ⟨w.heap.size, 2, none⟩ = some (.slice a3 n3 c3))) (first | (with_reducible assumption) | (with_reducible exact keepA (by assumption)) | (with_reducible exact keepAd (by assumption)) | go_keep) (first | (go_at_call 59; have hRj := rd.lt; (with_reducible refine (l20_joints R _ B a1 a2 a3 n1 c1 n2 c2 n3 c3 l lo hi _ _ rd (by omega) (by omega) (by omega) hB ha.out).mono ?_); rintro e w5 ⟨aj, nj, cj, J, rfl, ⟨hj1, hj2, hj3⟩, hj4, hj5, r5, b⟩; replace rd := r5; clear r5 s; replace k0 := k0.beside b hS; replace hs := hs.beside b hS1; replace ha := Lib.hid (ha.out.beside b hB); replace bw := Lib.hid (bw.out.trans b); clear b; replace hj1 := Lib.hid hj1; replace hj4 := Lib.hid hj4; replace hj5 := Lib.hid hj5; have s := And.intro k0.c0 (And.intro k0.c1 k0.c2); have nK1 : w5.heap.size ≠ w.heap.size := (by have := k0.lt; omega)) | (go_at_call 59; have rd0 : Rd w2 R _ := rd; have hs0 : Slot w2 (w.heap.size + 1) 0 0 := hs; have hp := Lib.hid (show Slot (w2.alloc (.cells #[.int .i64 0, .int .i64 0] 27)).drew w2.heap.size 0 0 from Slot.new w2.drew 0 0 27); replace k0 := k0.after (show Below w2.drew.heap.size w2.drew (w2.alloc (.cells #[.int .i64 0, .int .i64 0] 27)).drew from bel_new w2.drew (.cells #[.int .i64 0, .int .i64 0] 27)); replace hs := hs.after (show Below w2.drew.heap.size w2.drew (w2.alloc (.cells #[.int .i64 0, .int .i64 0] 27)).drew from bel_new w2.drew (.cells #[.int .i64 0, .int .i64 0] 27)); replace ha := Lib.hid (ha.out.beside (Beside.of_below (show Below w2.drew.heap.size w2.drew (w2.alloc (.cells #[.int .i64 0, .int .i64 0] 27)).drew from bel_new w2.drew (.cells #[.int .i64 0, .int .i64 0] 27)) (Nat.le_refl _)) hB); replace bw := Lib.hid (bw.out.old (show Below w2.drew.heap.size w2.drew (w2.alloc (.cells #[.int .i64 0, .int .i64 0] 27)).drew from bel_new w2.drew (.cells #[.int .i64 0, .int .i64 0] 27))); replace rd := rd.old (show Below w2.drew.heap.size w2.drew (w2.alloc (.cells #[.int .i64 0, .int .i64 0] 27)).drew from bel_new w2.drew (.cells #[.int .i64 0, .int .i64 0] 27)); have hKS : w.heap.size + 1 < w2.heap.size := hs0.2.2.2.2; have hKR : R < w2.heap.size := rd0.lt; have hRj := rd.lt; (with_reducible refine (l20_joints R _ B a1 a2 a3 n1 c1 n2 c2 n3 c3 l lo hi _ _ rd (by omega) (by omega) (by omega) hB ha.out).mono ?_); rintro e w5 ⟨aj, nj, cj, J, rfl, ⟨hj1, hj2, hj3⟩, hj4, hj5, r5, b⟩; replace hp := Lib.hid (hp.out.beside b (by have := rd0.lt; exact Nat.ne_of_gt this)); replace rd := r5; clear r5 s; replace k0 := k0.beside b hS; replace hs := hs.beside b hS1; replace ha := Lib.hid (ha.out.beside b hB); replace bw := Lib.hid (bw.out.trans b); clear b; replace hj1 := Lib.hid hj1; replace hj4 := Lib.hid hj4; replace hj5 := Lib.hid hj5; have s := And.intro k0.c0 (And.intro k0.c1 k0.c2); have nK1 : w5.heap.size ≠ w.heap.size := (by have := k0.lt; omega)) | (go_at_call 61; refine (spec_tip a1 a2 a3 aj n1 c1 n2 c2 n3 c3 nj cj l J _ h1.out hj1.out (by omega) hj2 ha.out.row.1 hj5.out.row (fun i hi => by have := hv.out i (by rw [h1.out]; omega); omega) (getD_mem hj4.out (by rw [hj1.out]; omega))).mono ?_; rintro e w6 ⟨rfl, q⟩; clear s; (try (replace hp := Lib.hid (hp.out.after q))); replace k0 := k0.after q; replace hs := hs.after q; replace ha := Lib.hid (ha.out.beside (Beside.of_below q (Nat.le_refl _)) hB); replace bw := Lib.hid (bw.out.old q); replace rd := rd.old q; clear q; have s := And.intro k0.c0 (And.intro k0.c1 k0.c2); have nK : w6.heap.size ≠ w.heap.size := (by have := k0.lt; omega); (try (obtain ⟨g1, g2, g3, g4, g5⟩ := id hp.out))) | (go_at_call 61; have hKS : w.heap.size + 1 < w5.heap.size := hs.2.2.2.2; have hKR : R < w5.heap.size := rd.lt; have hp := Lib.hid (Slot.new w5 0 0 27); replace hj5 := Lib.hid (hj5.out.beside (Beside.of_below (bel_new w5 (.cells #[.int .i64 0, .int .i64 0] 27)) (Nat.le_refl _)) hRj); replace k0 := k0.after (bel_new w5 (.cells #[.int .i64 0, .int .i64 0] 27)); replace hs := hs.after (bel_new w5 (.cells #[.int .i64 0, .int .i64 0] 27)); replace ha := Lib.hid (ha.out.beside (Beside.of_below (bel_new w5 (.cells #[.int .i64 0, .int .i64 0] 27)) (Nat.le_refl _)) hB); replace bw := Lib.hid (bw.out.old (bel_new w5 (.cells #[.int .i64 0, .int .i64 0] 27))); replace rd := rd.old (bel_new w5 (.cells #[.int .i64 0, .int .i64 0] 27)); refine (spec_tip a1 a2 a3 aj n1 c1 n2 c2 n3 c3 nj cj l J _ h1.out hj1.out (by omega) hj2 ha.out.row.1 hj5.out.row (fun i hi => by have := hv.out i (by rw [h1.out]; omega); omega) (getD_mem hj4.out (by rw [hj1.out]; omega))).mono ?_; rintro e w6 ⟨rfl, q⟩; clear s; (try (replace hp := Lib.hid (hp.out.after q))); replace k0 := k0.after q; replace hs := hs.after q; replace ha := Lib.hid (ha.out.beside (Beside.of_below q (Nat.le_refl _)) hB); replace bw := Lib.hid (bw.out.old q); replace rd := rd.old q; clear q; have s := And.intro k0.c0 (And.intro k0.c1 k0.c2); have nK : w6.heap.size ≠ w.heap.size := (by have := k0.lt; omega); (try (obtain ⟨g1, g2, g3, g4, g5⟩ := id hp.out))))
        all_goals
          go_wp2_with fail
          go_meet
          obtain ⟨⟨y1, y2⟩, ⟨y3, y4⟩⟩ := M.pT_bd (l := l) (j := J) (k := nj) (fun i hi => by have := hv.out i (by rw [h1.out]; omega); omega)
          first
            | exact tgt_a ⟨⟨by omega, by omega⟩, ⟨by omega, by omega⟩⟩ hs rd (by omega) bw.out
            | exact tgt_b ⟨⟨by omega, by omega⟩, ⟨by omega, by omega⟩⟩ hp.out hKS hKR hs rd (by omega) bw.out
      case rest =>
        obtain ⟨K, px, py, rfl, ⟨⟨y1, y2⟩, ⟨y3, y4⟩⟩, kp, ⟨hKS, hKR⟩, hs, rd, bw⟩ := hcut
        have hKR2 : K ≠ R := by omega
        have nK1 : K ≠ w.heap.size + 1 := by omega
        have nK2 : w.heap.size + 1 ≠ K := by omega
        go_upto_region 3 with fail
        have dd := bel_drew wc
        replace kp := kp.after dd
        replace hs := hs.after dd
        replace rd := rd.old dd
        replace bw := Lib.hid (bw.out.old dd)
        clear dd
        have s := And.intro kp.1 kp.2.1
        obtain ⟨g1, g2, g3, g4, g5⟩ := id hs
        have tok := True.intro
        go_region_held3 (fun w' => w'.cell? ⟨K, 0, none⟩ = some (.int .i64 px) ∧ w'.cell? ⟨K, 1, none⟩ = some (.int .i64 py)) (first | (with_reducible assumption) | go_keep) (first | (clear tok; go_at_call 58; (with_reducible refine (pick_any R _ _ _ rd (by omega) (by omega) (by omega)).mono ?_); rintro e wp1 ⟨u1, pu1, qu1, rfl, r5, b⟩; replace rd := r5; clear r5 s g1 g2 g3 g4 g5; replace kp := kp.beside b hKR2; replace hs := hs.beside b hS1; replace bw := Lib.hid (bw.out.trans b); clear b; have s := And.intro kp.1 kp.2.1; obtain ⟨g1, g2, g3, g4, g5⟩ := id hs; have ea1 : IntKind.i64.wrap (px + u1) = px + u1 := IntWalk.i64_in _ (by omega); have eb1 : IntKind.i64.wrap (px + u1 - 4) = px + u1 - 4 := IntWalk.i64_in _ (by omega); have ec1 : IntKind.i64.wrap (py + u1) = py + u1 := IntWalk.i64_in _ (by omega); have ed1 : IntKind.i64.wrap (py + u1 - 4) = py + u1 - 4 := IntWalk.i64_in _ (by omega)) | (go_at_call 58; (with_reducible refine (pick_any R _ _ _ rd (by omega) (by omega) (by omega)).mono ?_); rintro e wp2 ⟨u2, pu2, qu2, rfl, r5, b⟩; replace rd := r5; clear r5 s g1 g2 g3 g4 g5; replace kp := kp.beside b hKR2; replace hs := hs.beside b hS1; replace bw := Lib.hid (bw.out.trans b); clear b; have s := And.intro kp.1 kp.2.1; obtain ⟨g1, g2, g3, g4, g5⟩ := id hs; have ea2 : IntKind.i64.wrap (px + u2) = px + u2 := IntWalk.i64_in _ (by omega); have eb2 : IntKind.i64.wrap (px + u2 - 4) = px + u2 - 4 := IntWalk.i64_in _ (by omega); have ec2 : IntKind.i64.wrap (py + u2) = py + u2 := IntWalk.i64_in _ (by omega); have ed2 : IntKind.i64.wrap (py + u2 - 4) = py + u2 - 4 := IntWalk.i64_in _ (by omega)))
        all_goals
          obtain ⟨p1, p2, p3, p4, p5⟩ := id hs
          have lz := rd.lt
          go_wp2_with fail
          refine bodyPost_ret (v := .agg #[.int .i64 (px + u1 - 4), .int .i64 (py + u2 - 4)]) (by simp [results, Tryd.results35, go_sem, p1, p2]) rfl ⟨px + u1 - 4, py + u2 - 4, rfl, ?_, ?_⟩
          · exact ((rd.mono (by omega)).setCell (by show R < w.heap.size + 1; omega) _).setCell (by show R < w.heap.size + 1; omega) _
          · exact (bw.out.setCell (.inr (by show w.heap.size ≤ w.heap.size + 1; omega)) _).setCell (.inr (by show w.heap.size ≤ w.heap.size + 1; omega)) _
  · replace hx : x = 0 := by omega
    subst hx
    go_wp2_with fail
    refine (pt_any R _ _ _ rd (by omega) (by omega) (by omega)).mono ?_
    rintro e wz ⟨⟨x, y, rfl, _, _⟩, rd, b⟩
    replace k0 := k0.beside b hS
    replace hs := hs.beside b hS1
    replace ha := Lib.hid (ha.out.beside b hB)
    replace bw := Lib.hid (bw.out.trans b)
    clear b
    obtain ⟨p1, p2, p3, p4, p5⟩ := id hs
    have lz := rd.lt
    go_wp2_with fail
    refine bodyPost_ret (v := .agg #[.int .i64 x, .int .i64 y]) (by simp [results, Tryd.results35, go_sem, p1, p2]) rfl ⟨x, y, rfl, ?_, ?_⟩
    · exact ((rd.mono (by omega)).setCell (by show R < w.heap.size + 1; omega) _).setCell (by show R < w.heap.size + 1; omega) _
    · exact (bw.out.setCell (.inr (by show w.heap.size ≤ w.heap.size + 1; omega)) _).setCell (.inr (by show w.heap.size ≤ w.heap.size + 1; omega)) _
end Go.Proofs.YtmainffjekjlnaaDoor
