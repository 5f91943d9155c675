/- Contracts of the draws of an arm with a point to reach. -/
import Derived.Test.YtegmhflbndnadaaDoorTarget
namespace Go.Proofs.YtegmhflbndnadaaDoor
open Go.ChangeShapes Go.WideShapes Go.ChangeAt Go.RowKit
set_option linter.unusedVariables false
theorem slot_kept {may : Nat → Prop} {w w' : World} {k : Nat} {x y : Int} (h : Slot w k x y) (hk : Kept may w w') (hm : ¬ may k) : Slot w' k x y := by
  have hb := hk.block k h.2.2.2.2 hm
  exact ⟨(World.cell?_of_block (w := w) hb).trans h.1, (World.cell?_of_block (w := w) hb).trans h.2.1, (World.frozen?_of_block (w := w) hb).trans h.2.2.1, (World.frozen?_of_block (w := w) hb).trans h.2.2.2.1, Nat.lt_of_lt_of_le h.2.2.2.2 hk.size⟩
/-- the cells of the results, an arm and a point, are written -/
theorem res_fin2 {w W : World} {S B n1 c1 n2 c2 n3 c3 : Nat} {a1 a2 a3 : Option Addr} {l lo hi : List Int} {z1 z2 z3 : Value} {a b : Int} (X Y : Int) (k : Cell3 W S z1 z2 z3) (hs : Slot W (S + 1) a b) (hf : ArmFacts W B a1 n1 c1 a2 n2 c2 a3 n3 c3 l lo hi) (hS : S + 1 < B) (hb : Below w.heap.size w W) (hw : w.heap.size ≤ S) :
    ∃ wf, wf = ((((W.setCell ⟨S, 0, none⟩ (.slice a1 n1 c1)).setCell ⟨S, 1, none⟩ (.slice a2 n2 c2)).setCell ⟨S, 2, none⟩ (.slice a3 n3 c3)).setCell ⟨S + 1, 0, none⟩ (.int .i64 X)).setCell ⟨S + 1, 1, none⟩ (.int .i64 Y) ∧ Cell3 wf S (.slice a1 n1 c1) (.slice a2 n2 c2) (.slice a3 n3 c3) ∧ Slot wf (S + 1) X Y ∧ ArmFacts wf B a1 n1 c1 a2 n2 c2 a3 n3 c3 l lo hi ∧ Below w.heap.size w wf ∧ (∀ B' a J, S + 1 < B' → Span W B' a J → Span wf B' a J) := by
  obtain ⟨w1, h1, k1, f1, b1, s1⟩ := res_fin k hf (by omega) hb hw
  rw [← h1]
  have g3 := grown3 W S (.slice a1 n1 c1) (.slice a2 n2 c2) (.slice a3 n3 c3)
  rw [← h1] at g3
  have hs1 : Slot w1 (S + 1) a b := slot_kept hs g3 (by omega)
  have g := grown_set2 w1 (S + 1) (.int .i64 X) (.int .i64 Y)
  have gk : Kept (fun i => i = S + 1) w1 ((w1.setCell ⟨S + 1, 0, none⟩ (.int .i64 X)).setCell ⟨S + 1, 1, none⟩ (.int .i64 Y)) := Kept.of_grown g (fun i hi => by injection hi with hi; exact hi.symm)
  exact ⟨_, rfl, k1.grown g (by simp), hs1.put2 X Y, f1.keptBy gk (fun i hi => by omega), b1.grown g b1.size (fun i hi => by injection hi with hi; omega), fun B' a' J hB' h => (s1 B' a' J (by omega) h).keptBy gk (fun i hi => by omega)⟩
def DrewAJP (w : World) (e : Ending) (w' : World) : Prop := ∃ a1 n1 c1 a2 n2 c2 a3 n3 c3 l lo hi aj nj cj J X Y, e = .returned (.tuple #[.agg #[.slice a1 n1 c1, .slice a2 n2 c2, .slice a3 n3 c3], .slice aj nj cj, .agg #[.int .i64 X, .int .i64 Y]]) ∧ ArmFacts w' w.heap.size a1 n1 c1 a2 n2 c2 a3 n3 c3 l lo hi ∧ JFacts w' w.heap.size aj nj J ∧ Below w.heap.size w w'
set_option maxHeartbeats 2000000 in
theorem draw_TipOf (a : Option Addr) (len cap : Nat) (zs : List Int) (w : World) (h : IsRow .u8 w a len cap zs) :
    Calls Tryd.prog 17 #[.slice a len cap] w (DrewAJ w) := by
  have kr := Cell3.new w (.slice none 0 0) (.slice none 0 0) (.slice none 0 0) 29
  have bb := Lib.hid (bel_new w (.cells #[.slice none 0 0, .slice none 0 0, .slice none 0 0] 29))
  have hsz : w.heap.size < (w.alloc (.cells #[.slice none 0 0, .slice none 0 0, .slice none 0 0] 29)).heap.size := by simp
  have hrow := Lib.hid (h.below bb.out)
  go_enter Tryd.func17, Tryd.ntmps17
  go_wp2_with fail
  generalize w.alloc (.cells #[.slice none 0 0, .slice none 0 0, .slice none 0 0] 29) = w0 at *
  refine (draw_ArmPoints a len cap zs _ hrow.out).mono ?_
  rintro e w1 ⟨a1, n1, c1, a2, n2, c2, a3, n3, c3, l, lo, hi, aj, nj, cj, J, rfl, hf, hjf, q⟩
  replace kr := kr.after q
  replace bb := Lib.hid (bel_after bb.out q)
  obtain ⟨wf, hwf, kf, hff, bf, sf⟩ := res_fin kr hf hsz bb.out (Nat.le_refl _)
  have hjs := Lib.hid (sf _ aj J hsz hjf.s)
  replace hwf := Lib.hid hwf.symm
  obtain ⟨u0, u1, u2, u3, u4, u5⟩ := kf
  obtain ⟨v0, v1, v2, v3, v4, v5⟩ := id kr
  replace hff := Lib.hid hff
  replace hjf := Lib.hid hjf
  clear q hrow hf
  go_wp2_with fail
  rw [hwf.out]
  exact bodyPost_ret (v := .tuple #[.agg #[.slice a1 n1 c1, .slice a2 n2 c2, .slice a3 n3 c3], .slice aj nj cj]) (by simp [results, Tryd.results17, go_sem, u0, u1, u2]) rfl ⟨a1, n1, c1, a2, n2, c2, a3, n3, c3, l, lo, hi, aj, nj, cj, J, rfl, hff.out.base (by omega), ⟨hjf.out.len, hjf.out.le, hjf.out.bd, hjs.out.base (by omega)⟩, bf⟩
set_option maxRecDepth 20000 in
set_option maxHeartbeats 4000000 in
theorem draw_StepJoints (a : Option Addr) (len cap : Nat) (zs : List Int) (w : World) (h : IsRow .u8 w a len cap zs) :
    Calls Tryd.prog 36 #[.slice a len cap] w (DrewAJP w) := by
  have kr := (Cell3.new w (.slice none 0 0) (.slice none 0 0) (.slice none 0 0) 29).alloc (.cells #[.int .i64 0, .int .i64 0] 27)
  have hs := Slot.new (w.alloc (.cells #[.slice none 0 0, .slice none 0 0, .slice none 0 0] 29)) 0 0 27
  rw [World.size_alloc] at hs
  have bb := bel_after (bel_new w (.cells #[.slice none 0 0, .slice none 0 0, .slice none 0 0] 29)) (bel_new (w.alloc (.cells #[.slice none 0 0, .slice none 0 0, .slice none 0 0] 29)) (.cells #[.int .i64 0, .int .i64 0] 27))
  have hrow := Lib.hid (h.below bb)
  replace bb := Lib.hid bb
  go_enter Tryd.func36, Tryd.ntmps36
  go_wp2_with fail
  generalize (w.alloc (.cells #[.slice none 0 0, .slice none 0 0, .slice none 0 0] 29)).alloc (.cells #[.int .i64 0, .int .i64 0] 27) = w0 at *
  have hsz : w.heap.size + 1 < w0.heap.size := hs.2.2.2.2
  refine (open_any a len cap zs _ hrow.out).mono ?_
  rintro e w1 ⟨R, rfl, hR, rd, q⟩
  replace kr := kr.after q
  replace hs := hs.after q
  replace bb := Lib.hid (bel_after bb.out q)
  have hS : w.heap.size ≠ R := by omega
  have hS1 : w.heap.size + 1 ≠ R := by omega
  have hRw : w.heap.size ≤ R := by omega
  clear q hrow
  go_wp2_with fail
  refine (pick_any R _ _ _ rd (by omega) (by omega) (by omega)).mono ?_
  rintro e w2 ⟨mn, p1, p2, rfl, r2, b2⟩
  replace kr := kr.beside b2 hS
  replace hs := hs.beside b2 hS1
  replace bb := Lib.hid (bel_beside bb.out b2 hRw)
  clear rd b2
  go_wp2_with fail
  refine (l20_arm R _ (1 + mn) _ _ r2 (by omega) (by omega) (by omega) (by omega) (by omega)).mono ?_
  rintro e w3 ⟨a1, n1, c1, a2, n2, c2, a3, n3, c3, l, lo, hi, rfl, hf, r3, b3⟩
  have hl2 := kr.lt
  have hl2s := hs.2.2.2.2
  replace kr := kr.beside b3 hS
  replace hs := hs.beside b3 hS1
  replace bb := Lib.hid (bel_beside bb.out b3 hRw)
  replace hf := Lib.hid hf
  have hl3 := b3.size
  have hR2 := r2.lt
  clear r2 b3
  go_upto_region 3 with fail
  have kb := Cell3.new w3 (.slice a1 n1 c1) (.slice a2 n2 c2) (.slice a3 n3 c3) 29
  have hsB : w3.heap.size < (w3.alloc (.cells #[.slice a1 n1 c1, .slice a2 n2 c2, .slice a3 n3 c3] 29)).heap.size := by simp
  have hK4 := Lib.hid (World.size_alloc w3 (.cells #[.slice a1 n1 c1, .slice a2 n2 c2, .slice a3 n3 c3] 29))
  replace kr := kr.after (bel_new w3 (.cells #[.slice a1 n1 c1, .slice a2 n2 c2, .slice a3 n3 c3] 29))
  replace hs := hs.after (bel_new w3 (.cells #[.slice a1 n1 c1, .slice a2 n2 c2, .slice a3 n3 c3] 29))
  replace bb := Lib.hid (bel_after bb.out (bel_new w3 (.cells #[.slice a1 n1 c1, .slice a2 n2 c2, .slice a3 n3 c3] 29)))
  replace hf := Lib.hid (hf.out.after (bel_new w3 (.cells #[.slice a1 n1 c1, .slice a2 n2 c2, .slice a3 n3 c3] 29)))
  replace r3 := r3.alloc (.cells #[.slice a1 n1 c1, .slice a2 n2 c2, .slice a3 n3 c3] 29)
  generalize hK : w3.heap.size = K at kb ⊢ hl3 hsB hK4
  generalize w3.alloc (.cells #[.slice a1 n1 c1, .slice a2 n2 c2, .slice a3 n3 c3] 29) = w4 at *
  have hKR : K ≠ R := by omega
  have hKS : K ≠ w.heap.size := by omega
  have hSK : w.heap.size ≠ K := by omega
  have hKS1 : K ≠ w.heap.size + 1 := by omega
  have hSK1 : w.heap.size + 1 ≠ K := by omega
  clear hK
  obtain ⟨y0, y1, y2, y3, y4, y5⟩ := id kb
  go_wp2_with fail
  clear y0 y1 y2 y3 y4 y5
  refine (l20_joints R _ w2.heap.size a1 a2 a3 n1 c1 n2 c2 n3 c3 l lo hi _ _ r3 (by omega) (by omega) (by omega) (by omega) hf.out.draw).mono ?_
  rintro e w5 ⟨aj, nj, cj, J, rfl, ⟨hj1, hj2⟩, hj3, hj4, rd, b⟩
  have hRj := r3.lt
  have hSj := hs.2.2.2.2
  replace kr := kr.beside b hS
  replace hs := hs.beside b hS1
  replace bb := Lib.hid (bel_beside bb.out b hRw)
  replace hf := Lib.hid (hf.out.beside b (by omega))
  replace kb := kb.beside b hKR
  replace hj1 := Lib.hid hj1
  replace hj3 := Lib.hid hj3
  replace hj4 := Lib.hid hj4
  clear b r3
  go_wp2_with fail
  have dd := beside_drew R w5
  replace kr := kr.beside dd hS
  replace hs := hs.beside dd hS1
  replace bb := Lib.hid (bel_beside bb.out dd hRw)
  replace hf := Lib.hid (hf.out.beside dd (by omega))
  replace kb := kb.beside dd hKR
  replace rd := rd.drewN 1
  replace hj4 := Lib.hid (hj4.out.beside dd (by omega))
  clear dd
  have s := And.intro kb.c0 (And.intro kb.c1 kb.c2)
  go_region_held3 (fun w' => (w'.cell? ⟨K, 0, none⟩ = some (.slice a1 n1 c1) ∧ w'.cell? ⟨K, 1, none⟩ = some (.slice a2 n2 c2) ∧ w'.cell? ⟨K, 2, none⟩ = some (.slice a3 n3 c3))) (first | (with_reducible assumption) | go_keep) (first | (go_at_call 61; refine (l20_target R _ w2.heap.size a1 a2 a3 n1 c1 n2 c2 n3 c3 l lo hi _ rd (by omega) (by omega) hf.out.draw).mono ?_; rintro e w6 ⟨X, Y, rfl, r6, b⟩; replace rd := r6; clear r6 s; replace kr := kr.beside b hS; replace hs := hs.beside b hS1; replace bb := Lib.hid (bel_beside bb.out b hRw); replace hf := Lib.hid (hf.out.beside b (by omega)); replace kb := kb.beside b hKR; replace hj4 := Lib.hid (hj4.out.beside b (by omega)); clear b; have s := And.intro kb.c0 (And.intro kb.c1 kb.c2); obtain ⟨v0, v1, v2, v3, v4, v5⟩ := id kr; obtain ⟨g0, g1, g2, g3, g4⟩ := id hs))
  all_goals
    obtain ⟨wf, hwf, kf, sf2, hff, bf, sf⟩ := res_fin2 X Y kr hs hf.out (by omega) bb.out (Nat.le_refl _)
    have hjs := Lib.hid (sf _ aj J hSj hj4.out)
    replace hwf := Lib.hid hwf.symm
    obtain ⟨u0, u1, u2, u3, u4, u5⟩ := kf
    obtain ⟨t0, t1, t2, t3, t4⟩ := sf2
    replace hff := Lib.hid hff
    go_wp2_with fail
    rw [hwf.out]
    exact bodyPost_ret (v := .tuple #[.agg #[.slice a1 n1 c1, .slice a2 n2 c2, .slice a3 n3 c3], .slice aj nj cj, .agg #[.int .i64 X, .int .i64 Y]]) (by simp [results, Tryd.results36, go_sem, u0, u1, u2, t0, t1]) rfl ⟨a1, n1, c1, a2, n2, c2, a3, n3, c3, l, lo, hi, aj, nj, cj, J, X, Y, rfl, hff.out.base (by omega), ⟨hj1.out, by omega, hj3.out, hjs.out.base (by omega)⟩, bf⟩
end Go.Proofs.YtegmhflbndnadaaDoor
