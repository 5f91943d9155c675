/- Contract of the draw of an arm of two links and a point. -/
import Derived.Test.YtmainffjekjlnaaDoorSmall
namespace Go.Proofs.YtmainffjekjlnaaDoor
open Go.ChangeShapes Go.WideShapes Go.ChangeAt Go.RowKit
set_option linter.unusedVariables false
def DrewAP (w : World) (e : Ending) (w' : World) : Prop := ∃ a1 n1 c1 a2 n2 c2 a3 n3 c3 l lo hi X Y, e = .returned (.tuple #[.agg #[.slice a1 n1 c1, .slice a2 n2 c2, .slice a3 n3 c3], .agg #[.int .i64 X, .int .i64 Y]]) ∧ ArmFacts w' w.heap.size a1 n1 c1 a2 n2 c2 a3 n3 c3 l lo hi ∧ Below w.heap.size w w'
set_option maxRecDepth 20000 in
set_option maxHeartbeats 4000000 in
theorem draw_SolveArm (a : Option Addr) (len cap : Nat) (zs : List Int) (w : World) (h : IsRow .u8 w a len cap zs) :
    Calls Tryd.prog 9 #[.slice a len cap] w (DrewAP w) := by
  have kr := (Cell3.new w (.slice none 0 0) (.slice none 0 0) (.slice none 0 0) 25).alloc (.cells #[.int .i64 0, .int .i64 0] 27)
  have hs := Slot.new (w.alloc (.cells #[.slice none 0 0, .slice none 0 0, .slice none 0 0] 25)) 0 0 27
  rw [World.size_alloc] at hs
  have bb := bel_after (bel_new w (.cells #[.slice none 0 0, .slice none 0 0, .slice none 0 0] 25)) (bel_new (w.alloc (.cells #[.slice none 0 0, .slice none 0 0, .slice none 0 0] 25)) (.cells #[.int .i64 0, .int .i64 0] 27))
  have hrow := Lib.hid (h.below bb)
  replace bb := Lib.hid bb
  go_enter Tryd.func9, Tryd.ntmps9
  go_wp2_with fail
  generalize (w.alloc (.cells #[.slice none 0 0, .slice none 0 0, .slice none 0 0] 25)).alloc (.cells #[.int .i64 0, .int .i64 0] 27) = w0 at *
  have hsz : w.heap.size + 1 < w0.heap.size := hs.2.2.2.2
  refine (open_any a len cap zs _ hrow.out).mono ?_
  rintro e w1 ⟨R, rfl, hR, rd, q⟩
  replace kr := kr.after q
  replace hs := hs.after q
  replace bb := Lib.hid (bel_after bb.out q)
  have hS : w.heap.size ≠ R := by omega
  have hS1 : w.heap.size + 1 ≠ R := by omega
  have hRw : w.heap.size ≤ R := by omega
  clear q hrow
  go_wp2_with fail
  obtain ⟨w2, rfl⟩ : ∃ u : World, u = w1 := ⟨_, rfl⟩
  have r2 := rd
  clear rd
  refine (l20_small R _ 14 _ r2 (by omega) (by omega) (by omega)).mono ?_
  rintro e w3 ⟨a1, n1, c1, a2, n2, c2, a3, n3, c3, l, lo, hi, rfl, hf, r3, b3⟩
  have hl2 := kr.lt
  have hl2s := hs.2.2.2.2
  replace kr := kr.beside b3 hS
  replace hs := hs.beside b3 hS1
  replace bb := Lib.hid (bel_beside bb.out b3 hRw)
  replace hf := Lib.hid hf
  have hl3 := b3.size
  have hR2 := r2.lt
  clear r2 b3
  go_upto_region 3 with fail
  have kb := Cell3.new w3 (.slice a1 n1 c1) (.slice a2 n2 c2) (.slice a3 n3 c3) 25
  have hsB : w3.heap.size < (w3.alloc (.cells #[.slice a1 n1 c1, .slice a2 n2 c2, .slice a3 n3 c3] 25)).heap.size := by simp
  have hK4 := Lib.hid (World.size_alloc w3 (.cells #[.slice a1 n1 c1, .slice a2 n2 c2, .slice a3 n3 c3] 25))
  replace kr := kr.after (bel_new w3 (.cells #[.slice a1 n1 c1, .slice a2 n2 c2, .slice a3 n3 c3] 25))
  replace hs := hs.after (bel_new w3 (.cells #[.slice a1 n1 c1, .slice a2 n2 c2, .slice a3 n3 c3] 25))
  replace bb := Lib.hid (bel_after bb.out (bel_new w3 (.cells #[.slice a1 n1 c1, .slice a2 n2 c2, .slice a3 n3 c3] 25)))
  replace hf := Lib.hid (hf.out.after (bel_new w3 (.cells #[.slice a1 n1 c1, .slice a2 n2 c2, .slice a3 n3 c3] 25)))
  replace r3 := r3.alloc (.cells #[.slice a1 n1 c1, .slice a2 n2 c2, .slice a3 n3 c3] 25)
  generalize hK : w3.heap.size = K at kb ⊢ hl3 hsB hK4
  generalize w3.alloc (.cells #[.slice a1 n1 c1, .slice a2 n2 c2, .slice a3 n3 c3] 25) = w4 at *
  have hKR : K ≠ R := by omega
  have hKS : K ≠ w.heap.size := by omega
  have hSK : w.heap.size ≠ K := by omega
  have hKS1 : K ≠ w.heap.size + 1 := by omega
  have hSK1 : w.heap.size + 1 ≠ K := by omega
  clear hK
  go_wp2_with fail
  refine (odd_any R _ 20 _ r3 (by omega) (by omega) (by omega)).mono ?_
  rintro e w5 ⟨⟨od, rfl⟩, rd, b⟩
  have hK5 := kb.lt
  have hz5 := b.size
  replace kr := kr.beside b hS
  replace hs := hs.beside b hS1
  replace bb := Lib.hid (bel_beside bb.out b hRw)
  replace hf := Lib.hid (hf.out.beside b (by omega))
  replace kb := kb.beside b hKR
  clear b r3
  cases od
  · have _o := True.intro
    go_upto_region 5 with fail
    have dd := beside_drew R w5
    replace kr := kr.beside dd hS
    replace hs := hs.beside dd hS1
    replace bb := Lib.hid (bel_beside bb.out dd hRw)
    replace hf := Lib.hid (hf.out.beside dd (by omega))
    replace kb := kb.beside dd hKR
    replace rd := rd.drewN 1
    clear dd
    have s := And.intro kb.c0 (And.intro kb.c1 kb.c2)
    go_region_held3 (fun w' => (w'.cell? ⟨K, 0, none⟩ = some (.slice a1 n1 c1) ∧ w'.cell? ⟨K, 1, none⟩ = some (.slice a2 n2 c2) ∧ w'.cell? ⟨K, 2, none⟩ = some (.slice a3 n3 c3))) (first | (with_reducible assumption) | go_keep) (first | (go_at_call 35; refine (l20_target R _ w2.heap.size a1 a2 a3 n1 c1 n2 c2 n3 c3 l lo hi _ rd (by omega) (by omega) hf.out.draw).mono ?_; rintro e w8 ⟨X, Y, rfl, r6, b⟩; replace rd := r6; clear r6 s; replace kr := kr.beside b hS; replace hs := hs.beside b hS1; replace bb := Lib.hid (bel_beside bb.out b hRw); replace hf := Lib.hid (hf.out.beside b (by omega)); replace kb := kb.beside b hKR; clear b; have s := And.intro kb.c0 (And.intro kb.c1 kb.c2); obtain ⟨v0, v1, v2, v3, v4, v5⟩ := id kr; obtain ⟨g0, g1, g2, g3, g4⟩ := id hs))
    all_goals
      obtain ⟨wf, hwf, kf, sf2, hff, bf, sf⟩ := res_fin2 X Y kr hs hf.out (by omega) bb.out (Nat.le_refl _)
      replace hwf := Lib.hid hwf.symm
      obtain ⟨u0, u1, u2, u3, u4, u5⟩ := kf
      obtain ⟨t0, t1, t2, t3, t4⟩ := sf2
      replace hff := Lib.hid hff
      go_wp2_with fail
      rw [hwf.out]
      exact bodyPost_ret (v := .tuple #[.agg #[.slice a1 n1 c1, .slice a2 n2 c2, .slice a3 n3 c3], .agg #[.int .i64 X, .int .i64 Y]]) (by simp [results, Tryd.results9, go_sem, u0, u1, u2, t0, t1]) rfl ⟨a1, n1, c1, a2, n2, c2, a3, n3, c3, l, lo, hi, X, Y, rfl, hff.out.base (by omega), bf⟩
  · have _o := True.intro
    go_wp2_with fail
    refine (l20_arm R _ 3 0 _ rd (by omega) (by omega) (by omega) (by omega) (by omega)).mono ?_
    clear hf
    rintro e w6 ⟨a4, n4, c4, a5, n5, c5, a6, n6, c6, l', lo', hi', rfl, hf, r6, b⟩
    replace kr := kr.beside b hS
    replace hs := hs.beside b hS1
    replace bb := Lib.hid (bel_beside bb.out b hRw)
    replace kb := kb.beside b hKR
    have hR5 := rd.lt
    have hS5 := hs.2.2.2.2
    clear rd b
    obtain ⟨y0, y1, y2, y3, y4, y5⟩ := id kb
    go_upto_region 5 with fail
    clear y0 y1 y2 y3 y4 y5
    have gk := grown3 w6 K (.slice a4 n4 c4) (.slice a5 n5 c5) (.slice a6 n6 c6)
    replace kb := ((kb.put0 (.slice a4 n4 c4)).put1 (.slice a5 n5 c5)).put2 (.slice a6 n6 c6)
    replace kr := kr.of_block (gk.block _ kr.lt hSK)
    replace hs := slot_kept hs gk hSK1
    replace hf := Lib.hid (hf.keptBy gk (fun i hi => by omega))
    have rd : Rd (((w6.setCell ⟨K, 0, none⟩ (.slice a4 n4 c4)).setCell ⟨K, 1, none⟩ (.slice a5 n5 c5)).setCell ⟨K, 2, none⟩ (.slice a6 n6 c6)) R _ := ((r6.setCell (p := ⟨K, 0, none⟩) (by show R < K; omega) _).setCell (p := ⟨K, 1, none⟩) (by show R < K; omega) _).setCell (p := ⟨K, 2, none⟩) (by show R < K; omega) _
    replace bb := Lib.hid (((bb.out.setCell (p := ⟨K, 0, none⟩) (by show w.heap.size ≤ K; omega) (.slice a4 n4 c4)).setCell (p := ⟨K, 1, none⟩) (by show w.heap.size ≤ K; omega) (.slice a5 n5 c5)).setCell (p := ⟨K, 2, none⟩) (by show w.heap.size ≤ K; omega) (.slice a6 n6 c6))
    clear gk r6
    generalize ((w6.setCell ⟨K, 0, none⟩ (.slice a4 n4 c4)).setCell ⟨K, 1, none⟩ (.slice a5 n5 c5)).setCell ⟨K, 2, none⟩ (.slice a6 n6 c6) = w7 at *
    skip
    have dd := beside_drew R w7
    replace kr := kr.beside dd hS
    replace hs := hs.beside dd hS1
    replace bb := Lib.hid (bel_beside bb.out dd hRw)
    replace hf := Lib.hid (hf.out.beside dd (by omega))
    replace kb := kb.beside dd hKR
    replace rd := rd.drewN 1
    clear dd
    have s := And.intro kb.c0 (And.intro kb.c1 kb.c2)
    go_region_held3 (fun w' => (w'.cell? ⟨K, 0, none⟩ = some (.slice a4 n4 c4) ∧ w'.cell? ⟨K, 1, none⟩ = some (.slice a5 n5 c5) ∧ w'.cell? ⟨K, 2, none⟩ = some (.slice a6 n6 c6))) (first | (with_reducible assumption) | go_keep) (first | (go_at_call 35; refine (l20_target R _ w5.heap.size a4 a5 a6 n4 c4 n5 c5 n6 c6 l' lo' hi' _ rd (by omega) (by omega) hf.out.draw).mono ?_; rintro e w8 ⟨X, Y, rfl, r6, b⟩; replace rd := r6; clear r6 s; replace kr := kr.beside b hS; replace hs := hs.beside b hS1; replace bb := Lib.hid (bel_beside bb.out b hRw); replace hf := Lib.hid (hf.out.beside b (by omega)); replace kb := kb.beside b hKR; clear b; have s := And.intro kb.c0 (And.intro kb.c1 kb.c2); obtain ⟨v0, v1, v2, v3, v4, v5⟩ := id kr; obtain ⟨g0, g1, g2, g3, g4⟩ := id hs))
    all_goals
      obtain ⟨wf, hwf, kf, sf2, hff, bf, sf⟩ := res_fin2 X Y kr hs hf.out (by omega) bb.out (Nat.le_refl _)
      replace hwf := Lib.hid hwf.symm
      obtain ⟨u0, u1, u2, u3, u4, u5⟩ := kf
      obtain ⟨t0, t1, t2, t3, t4⟩ := sf2
      replace hff := Lib.hid hff
      go_wp2_with fail
      rw [hwf.out]
      exact bodyPost_ret (v := .tuple #[.agg #[.slice a4 n4 c4, .slice a5 n5 c5, .slice a6 n6 c6], .agg #[.int .i64 X, .int .i64 Y]]) (by simp [results, Tryd.results9, go_sem, u0, u1, u2, t0, t1]) rfl ⟨a4, n4, c4, a5, n5, c5, a6, n6, c6, l', lo', hi', X, Y, rfl, hff.out.base (by omega), bf⟩
end Go.Proofs.YtmainffjekjlnaaDoor
