/- Proves the tied card of the law FnTipOf: it returns true for every input, the tables of the sine being as laid by the program text. -/
import Derived.Test.YtegmhflbndnadaaDoorCards
import Derived.Test.YtegmhflbndnadaaDoorTie
import Derived.Test.YtegmhflbndnadaaDoorLaid
import Derived.Test.YtegmhflbndnadaaDoorDraws2
import Derived.Test.YtegmhflbndnadaaDoorAt
import Derived.Test.YtegmhflbndnadaaDoorTipMath
import Derived.Test.YtegmhflbndnadaaDoorAlive
import Derived.ChangeOld
import Derived.ShutString
import Derived.Lib.SmallJoins
import Derived.LaidMore
import Derived.Stop.Joined
import Derived.SevenTiedAt
import Derived.Deep.RegionHeld3
import Derived.Deep.DeepCutAuto
import Derived.Deep.CutBlock
namespace Go.Proofs.YtegmhflbndnadaaDoor.fnTipOf
open Go.ChangeShapes Go.WideShapes Go.ChangeAt Go.RowKit
set_option linter.unusedVariables false
theorem ptsView {w w' : World} {n : Nat} {l : List (Int × Int)} {e : Ending} (hn : l.length = n) (h : PtsOut w l e w') : ∃ p d, e = .returned (.slice p n d) ∧ OwnsP w' w.heap.size (.slice p n d) l ∧ Below w.heap.size w w' := by
  obtain ⟨v, he, ho, hb⟩ := h
  obtain ⟨p, d, rfl, _⟩ := ho.view
  rw [hn] at he ho
  exact ⟨p, d, he, ho, hb⟩
theorem ptsKept {may : Nat → Prop} {w w' : World} {B : Nat} {v : Value} {l : List (Int × Int)} (h : OwnsP w B v l) (hk : Kept may w w') (hm : ∀ i, v.ownBlock = some i → ¬ may i) : OwnsP w' B v l := by
  obtain ⟨h1, h2⟩ := h
  refine ⟨h1, ?_⟩
  rcases h2 with h2 | ⟨g, cap, cur, e, hg, hh, r⟩
  · exact .inl h2
  · exact .inr ⟨g, cap, cur, e, hg, (hk.block g (Array.getElem?_eq_some_iff.1 hh).1 (hm g (by rw [e]; rfl))).trans hh, r⟩
theorem ptsLt {w : World} {B T : Nat} {v : Value} {l : List (Int × Int)} (h : OwnsP w B v l) (hT : w.heap.size ≤ T) : ∀ i, v.ownBlock = some i → B ≤ i ∧ i < T := fun i hi => ⟨(World.ownsRow.lt h i hi).1, Nat.lt_of_lt_of_le (World.ownsRow.lt h i hi).2 hT⟩
theorem M.apts_len {l lo hi j : List Int} : (M.apts l lo hi j).length ≤ j.length + 1 := by
  unfold M.apts
  split
  · rw [M.pts_len]; exact Nat.le_refl _
  · exact Nat.zero_le _
theorem pts_last {w : World} {B g n cap : Nat} {l j : List Int} {m : Nat} (h : OwnsP w B (.slice (some ⟨g, 0, none⟩) n cap) (M.pts l j m)) (hn : n = m + 1) : w.cell? ⟨g, m * 2, none⟩ = some (.int .i64 (M.pxT l j m)) ∧ w.cell? ⟨g, m * 2 + 1, none⟩ = some (.int .i64 (M.pyT l j m)) := by
  obtain ⟨⟨c1, _⟩, ⟨c2, _⟩, _, _⟩ := h.cellAt (by rw [M.pts_len]; exact hn.symm) m (by omega)
  rw [M.pts_at l j (Nat.le_refl m)] at c1 c2
  exact ⟨c1, c2⟩
/-- what the law says of the tip -/
theorem M.tip_law {l lo hi j : List Int} (h : M.jointsB l lo hi j = true) : M.sq 0 0 (M.pxT l j j.length) (M.pyT l j j.length) ≤ (M.far l lo hi + j.length) * (M.far l lo hi + j.length) ∧ (0 ≤ M.far l lo hi ∧ M.far l lo hi ≤ 2000) ∧ (0 ≤ M.sq 0 0 (M.pxT l j j.length) (M.pyT l j j.length)) := by
  obtain ⟨⟨e1, e2⟩, e3, bl, _⟩ := M.joints_bds h
  obtain ⟨ha, _, _⟩ := M.joints_true h
  rw [(M.reach_yes ha).1, ← e3, M.sq_yes (by decide) (M.tip_pv h)]
  have hf := M.tip_far (l := l) (j := j) (k := j.length) bl
  have hs := M.sumT_bd (l := l) (B := 500) (k := j.length) bl
  generalize M.pxT l j j.length = px at *
  generalize M.pyT l j j.length = py at *
  have g1 : (0 - px) * (0 - px) = px * px := by rw [Int.zero_sub, Int.neg_mul_neg]
  have g2 : (0 - py) * (0 - py) = py * py := by rw [Int.zero_sub, Int.neg_mul_neg]
  have p1 := sq_nn px
  have p2 := sq_nn py
  rw [g1, g2]
  exact ⟨hf, ⟨by omega, by omega⟩, by omega⟩
theorem M.tip_zero_law {l lo hi : List Int} {m : Nat} (h : M.jointsB l lo hi (List.replicate m 0) = true) : M.tipX l lo hi (List.replicate m 0) = M.far l lo hi ∧ M.tipY l lo hi (List.replicate m 0) = 0 := by
  obtain ⟨ha, e3, _⟩ := M.joints_true h
  rw [(M.tip_yes h).1, (M.tip_yes h).2, (M.reach_yes ha).1, (M.tip_zero l m _).1, (M.tip_zero l m _).2, e3]
  exact ⟨rfl, rfl⟩
theorem pts_last2 {w : World} {g k : Nat} {x y px py : Int} (ex : x = px) (ey : y = py) (h : w.cell? ⟨g, k * 2, none⟩ = some (.int .i64 px) ∧ w.cell? ⟨g, k * 2 + 1, none⟩ = some (.int .i64 py)) : w.cell? ⟨g, k * 2, none⟩ = some (.int .i64 x) ∧ w.cell? ⟨g, k * 2 + 1, none⟩ = some (.int .i64 y) := by rw [ex, ey]; exact h
set_option maxRecDepth 20000 in
set_option maxHeartbeats 8000000 in
theorem walk (a0 : Option Addr) (len0 cap0 : Nat) (z0 : List Int) (w : World) (w0 : IsRow .u8 w a0 len0 cap0 z0) (hT : Tables w) :
    Calls Tryd.prog 4 #[.slice a0 len0 cap0] w fun e w' => e = .returned (.bool true) ∧ Below w.heap.size w w' := by
  replace hT := Lib.hid hT
  by_cases hlen : (1048576 : Int) < len0
  · go_enter Tryd.func4, Tryd.ntmps4
    go_wp2
    go_ret
    exact ⟨rfl, Below.refl _ _⟩
  · go_enter Tryd.func4, Tryd.ntmps4
    go_wp2_with fail
    refine (draw_TipOf a0 len0 cap0 z0 _ w0).mono ?_
    rintro e w1 ⟨a1, n1, c1, a2, n2, c2, a3, n3, c3, l, lo, hi, aj, nj, cj, J, rfl, hf, hjf, q⟩
    have bb := Lib.hid q
    clear w0 hlen q
    replace hT := Lib.hid (hT.out.later bb.out)
    obtain ⟨h1, h2, h3⟩ := hf.len
    obtain ⟨m1, m2, m3⟩ := hf.le
    obtain ⟨cp1, cp3⟩ := hf.cap
    have hr := Lib.hid hf.row
    have hr1 := hr
    have bc := Lib.hid (Below.refl w1.heap.size w1)
    have hq1 := bb
    have hj4 := hjf.len
    have hj6 := hjf.le
    have hj := Lib.hid hjf.s.row
    have hjb := Lib.hid hjf.bd
    clear hjf
    replace hj4 := Lib.hid hj4
    replace h1 := Lib.hid h1
    replace h2 := Lib.hid h2
    replace h3 := Lib.hid h3
    clear hf
    obtain ⟨tX, hX⟩ : ∃ x, M.tipX l lo hi J = x := ⟨_, rfl⟩
    obtain ⟨tY, hY⟩ : ∃ x, M.tipY l lo hi J = x := ⟨_, rfl⟩
    replace hX := Lib.hid hX
    replace hY := Lib.hid hY
    have hnb : (M.apts l lo hi J).length ≤ 1000000 := (by have := M.apts_len (l := l) (lo := lo) (hi := hi) (j := J); rw [hj4.out] at this; omega)
    obtain ⟨nL, hn⟩ : ∃ n, (M.apts l lo hi J).length = n := ⟨_, rfl⟩
    rw [hn] at hnb
    generalize hL : M.apts l lo hi J = L at *
    replace hL := Lib.hid hL
    replace hn := Lib.hid hn
    go_wp2_with fail
    have k0 := Cell3.new w1 (.slice a1 n1 c1) (.slice a2 n2 c2) (.slice a3 n3 c3) 29
    have hsB : w1.heap.size < (w1.alloc (.cells #[.slice a1 n1 c1, .slice a2 n2 c2, .slice a3 n3 c3] 29)).heap.size := by simp
    replace bb := Lib.hid (bel_after bb.out (bel_new w1 (.cells #[.slice a1 n1 c1, .slice a2 n2 c2, .slice a3 n3 c3] 29)))
    replace hT := Lib.hid (hT.out.later (bel_new w1 (.cells #[.slice a1 n1 c1, .slice a2 n2 c2, .slice a3 n3 c3] 29)))
    replace hr := Lib.hid (hr.out.after (bel_new w1 (.cells #[.slice a1 n1 c1, .slice a2 n2 c2, .slice a3 n3 c3] 29)))
    replace bc := Lib.hid (bel_after bc.out (bel_new w1 (.cells #[.slice a1 n1 c1, .slice a2 n2 c2, .slice a3 n3 c3] 29)))
    replace hj := Lib.hid (hj.out.after (bel_new w1 (.cells #[.slice a1 n1 c1, .slice a2 n2 c2, .slice a3 n3 c3] 29)))
    generalize hK : w1.heap.size = K at k0 ⊢ hsB
    have hKw : w1.heap.size ≤ K := Nat.le_of_eq hK
    clear hK
    generalize w1.alloc (.cells #[.slice a1 n1 c1, .slice a2 n2 c2, .slice a3 n3 c3] 29) = v at *
    obtain ⟨w2, rfl⟩ : ∃ u : World, u = v := ⟨_, rfl⟩
    refine (impl_tipOf a1 a2 a3 aj n1 c1 n2 c2 n3 c3 nj cj l lo hi J _ hT.out h1.out h2.out h3.out hj4.out (by omega) (by omega) hr.out hj.out).mono ?_
    rintro e w3 ⟨rfl, q⟩
    have z3 := q.size
    replace bb := Lib.hid (bel_after bb.out q)
    replace hT := Lib.hid (hT.out.later q)
    replace hr := Lib.hid (hr.out.after q)
    replace bc := Lib.hid (bel_after bc.out q)
    replace hj := Lib.hid (hj.out.after q)
    replace k0 := k0.after q
    clear q
    rw [hX.out, hY.out]
    obtain ⟨x0, x1, x2, x3, x4, x5⟩ := id k0
    go_upto_region 5 with fail
    clear x0 x1 x2 x3 x4 x5
    have kg := Box.new w3 tX tY 27
    replace bb := Lib.hid (bel_after bb.out (bel_new w3 (.cells #[.int .i64 tX, .int .i64 tY] 27)))
    replace hT := Lib.hid (hT.out.later (bel_new w3 (.cells #[.int .i64 tX, .int .i64 tY] 27)))
    replace hr := Lib.hid (hr.out.after (bel_new w3 (.cells #[.int .i64 tX, .int .i64 tY] 27)))
    replace bc := Lib.hid (bel_after bc.out (bel_new w3 (.cells #[.int .i64 tX, .int .i64 tY] 27)))
    replace hj := Lib.hid (hj.out.after (bel_new w3 (.cells #[.int .i64 tX, .int .i64 tY] 27)))
    replace k0 := k0.after (bel_new w3 (.cells #[.int .i64 tX, .int .i64 tY] 27))
    generalize w3.heap.size = G at kg ⊢
    generalize w3.alloc (.cells #[.int .i64 tX, .int .i64 tY] 27) = v at *
    obtain ⟨w4, rfl⟩ : ∃ u : World, u = v := ⟨_, rfl⟩
    obtain ⟨x0, x1, x2, x3, x4, x5⟩ := id k0
    obtain ⟨t0, t1, t2⟩ := id kg
    go_wp2_with fail
    clear x0 x1 x2 x3 x4 x5 t0 t1 t2
    replace bb := Lib.hid (bel_after bb.out (bel_drew _))
    replace hT := Lib.hid (hT.out.later (bel_drew _))
    replace hr := Lib.hid (hr.out.after (bel_drew _))
    replace bc := Lib.hid (bel_after bc.out (bel_drew _))
    replace hj := Lib.hid (hj.out.after (bel_drew _))
    replace k0 := k0.after (bel_drew _)
    replace kg := kg.after (bel_drew _)
    have s := And.intro (And.intro k0.c0 (And.intro k0.c1 k0.c2)) (And.intro kg.1 kg.2.1)
    go_region_held3 (fun w' => (w'.cell? ⟨K, 0, none⟩ = some (.slice a1 n1 c1) ∧ w'.cell? ⟨K, 1, none⟩ = some (.slice a2 n2 c2) ∧ w'.cell? ⟨K, 2, none⟩ = some (.slice a3 n3 c3)) ∧ (w'.cell? ⟨G, 0, none⟩ = some (.int .i64 tX) ∧ w'.cell? ⟨G, 1, none⟩ = some (.int .i64 tY))) (first | (with_reducible assumption) | go_keep) (first | (go_at_call 10; refine (spec_tipOf a1 a2 a3 aj n1 c1 n2 c2 n3 c3 nj cj l lo hi J _ h1.out h2.out h3.out hj4.out (by omega) (by omega) hr.out hj.out).mono ?_; rintro e wt ⟨rfl, q⟩; rw [hX.out, hY.out]; replace bb := Lib.hid (bel_after bb.out q); replace hT := Lib.hid (hT.out.later q); replace hr := Lib.hid (hr.out.after q); replace bc := Lib.hid (bel_after bc.out q); replace hj := Lib.hid (hj.out.after q); replace k0 := k0.after q; replace kg := kg.after q; clear q s; have s := And.intro (And.intro k0.c0 (And.intro k0.c1 k0.c2)) (And.intro kg.1 kg.2.1)))
    all_goals
      clear s
      obtain ⟨w5, rfl⟩ : ∃ u : World, u = wt := ⟨_, rfl⟩
      obtain ⟨k0x, k0y, k0z, k0u, k0v, k0w⟩ := id k0
      go_wp2_with fail
      clear k0x k0y k0z k0u k0v k0w
      refine (impl_apts a1 a2 a3 aj n1 c1 n2 c2 n3 c3 nj cj l lo hi J _ hT.out h1.out h2.out h3.out hj4.out (by omega) (by omega) hr.out hj.out).mono ?_
      rintro e w6 hq
      rw [hL.out] at hq
      obtain ⟨xg, yg, rfl, mg, q⟩ := ptsView hn.out hq
      replace bb := Lib.hid (bel_after bb.out q)
      replace hT := Lib.hid (hT.out.later q)
      replace hr := Lib.hid (hr.out.after q)
      replace bc := Lib.hid (bel_after bc.out q)
      replace hj := Lib.hid (hj.out.after q)
      replace k0 := k0.after q
      replace kg := kg.after q
      clear q hq
      replace mg := Lib.hid mg
      cases hA : M.jointsB l lo hi J
      · have hz : nL = 0 := by have h9 := hn.out; rw [← hL.out, ← M.apts_no hA] at h9; exact h9.symm
        obtain rfl : tX = 0 := by rw [← hX.out]; exact (M.tip_no hA).1
        obtain rfl : tY = 0 := by rw [← hY.out]; exact (M.tip_no hA).2
        replace hA := Lib.hid hA
        subst hz
        obtain ⟨x0, x1, x2, x3, x4, x5⟩ := id k0
        obtain ⟨t0, t1, t2⟩ := id kg
        go_wp2_with (go_at_call 19; refine (alive _).mono ?_; rintro e w' ⟨rfl, rfl⟩)
        go_ret
        exact ⟨rfl, bb.out⟩
      · have hLp := Lib.hid (show L = M.pts l J nj from by rw [← hL.out, ← M.apts_yes hA, hj4.out])
        have hnl : nL = nj + 1 := by have h9 := hn.out; rw [hLp.out, M.pts_len] at h9; exact h9.symm
        subst hnl
        rw [hLp.out] at mg
        obtain ⟨hle, ⟨hf1, hf2⟩, hsq0⟩ := M.tip_law hA
        rw [hj4.out] at hle hsq0
        have ex := (M.tip_yes hA).1
        have ey := (M.tip_yes hA).2
        rw [hj4.out] at ex ey
        rw [hX.out] at ex
        rw [hY.out] at ey
        rw [← ex, ← ey] at hle hsq0
        replace ex := Lib.hid ex
        replace ey := Lib.hid ey
        obtain ⟨⟨e1, e2⟩, e3, _, _⟩ := M.joints_bds hA
        rw [hj4.out] at e1 e2
        clear e3
        replace hA := Lib.hid hA
        have hzl := Lib.hid (fun h => M.tip_zero_law (l := l) (lo := lo) (hi := hi) (m := nj) h)
        generalize hF : M.far l lo hi = F at *
        replace hF := Lib.hid hF
        have hz2 : ((nj : Int) + 1 == 0) = false := by simp; omega
        obtain ⟨k0x, k0y, k0z, k0u, k0v, k0w⟩ := id k0
        go_wp2_with fail
        clear k0x k0y k0z k0u k0v k0w
        refine (impl_reach a1 a2 a3 n1 c1 n2 c2 n3 c3 l lo hi _ h1.out h2.out h3.out (by omega) hr.out).mono ?_
        rintro e w7 ⟨rfl, q⟩
        have z7 := q.size
        replace bb := Lib.hid (bel_after bb.out q)
        replace hT := Lib.hid (hT.out.later q)
        replace hr := Lib.hid (hr.out.after q)
        replace bc := Lib.hid (bel_after bc.out q)
        replace hj := Lib.hid (hj.out.after q)
        replace k0 := k0.after q
        replace kg := kg.after q
        replace mg := Lib.hid (mg.out.after q)
        clear q
        rw [hF.out]
        obtain ⟨i0, hi0, hz0, hz1, hz2_⟩ := info_parts infoInt
        obtain ⟨x0, x1, x2, x3, x4, x5⟩ := id k0
        go_upto_region 12 with (at_make; refine wpList_make_full _ rfl _ _ 22 rfl w7.heap.size 3 i0 (.int .i64 0) 1 Tryd.underlying22 hi0 hz0 hz1 .i64 .i64 _ _ nj rfl rfl rfl rfl ?b2 ?b3 ?b4 ?_)
        case b2 => rw [hz2_]; omega
        case b3 => unfold maxLen; omega
        case b4 => exact Nat.le_refl _
        intro wm hown hgrow
        have mz := Lib.hid (Owns.zeros hown)
        have q : Below w7.heap.size w7 wm := (Below.refl w7.heap.size w7).grown hgrow (Nat.le_refl _) (by intro k hk; cases hk)
        clear hown hgrow x0 x1 x2 x3 x4 x5
        replace bb := Lib.hid (bel_after bb.out q)
        replace hT := Lib.hid (hT.out.later q)
        replace hr := Lib.hid (hr.out.after q)
        replace bc := Lib.hid (bel_after bc.out q)
        replace hj := Lib.hid (hj.out.after q)
        replace k0 := k0.after q
        replace kg := kg.after q
        replace mg := Lib.hid (mg.out.after q)
        clear q
        have hzlen := Lib.hid (show (List.replicate nj (0 : Int)).length = nj from List.length_replicate)
        generalize hZ : List.replicate nj (0 : Int) = Z at *
        replace hZ := Lib.hid hZ
        obtain ⟨g, rfl, hgs, _⟩ := mg.out.row.at (by intro e9; have h9 := M.pts_len l J nj; rw [e9] at h9; simp at h9)
        have hq := Lib.hid (show M.sq 0 0 tX tY = M.sq 0 0 tX tY from rfl)
        generalize hD : M.sq 0 0 tX tY = D at *
        clear hq
        replace hD := Lib.hid hD
        obtain ⟨mp1, mp2⟩ := M.mul_bd (x := F + (nj : Int)) (y := F + (nj : Int)) (B := 3000) (C := 3000) (by omega) (by omega) (by omega) (by omega) (by omega)
        have ew1 : IntKind.i64.wrap ((F + (nj : Int)) * (F + (nj : Int))) = (F + (nj : Int)) * (F + (nj : Int)) := IntWalk.i64_in _ (by omega)
        have ew2 : IntKind.i64.wrap (F + (nj : Int)) = F + (nj : Int) := IntWalk.i64_in _ (by omega)
        have hk5 : (nj : Int) < (nj : Int) + 1 := by omega
        have ew3 : IntKind.i64.wrap (nj : Int) = (nj : Int) := IntWalk.i64_in _ (by omega)
        have ed1 : decide (D ≤ (F + (nj : Int)) * (F + (nj : Int))) = true := by simp; omega
        go_upto_region 12 with fail
        replace bb := Lib.hid (bel_after bb.out (bel_drew _))
        replace hT := Lib.hid (hT.out.later (bel_drew _))
        replace hr := Lib.hid (hr.out.after (bel_drew _))
        replace bc := Lib.hid (bel_after bc.out (bel_drew _))
        replace hj := Lib.hid (hj.out.after (bel_drew _))
        replace k0 := k0.after (bel_drew _)
        replace kg := kg.after (bel_drew _)
        replace mg := Lib.hid (mg.out.after (bel_drew _))
        replace mz := Lib.hid (mz.out.after (bel_drew _))
        have s := And.intro (And.intro (And.intro k0.c0 (And.intro k0.c1 k0.c2)) (And.intro kg.1 kg.2.1)) (pts_last2 ex.out ey.out (pts_last mg.out rfl))
        cases hV : M.jointsB l lo hi Z
        · replace hV := Lib.hid hV
          refine wp_region_held_drew (S := (fun w' => ((w'.cell? ⟨K, 0, none⟩ = some (.slice a1 n1 c1) ∧ w'.cell? ⟨K, 1, none⟩ = some (.slice a2 n2 c2) ∧ w'.cell? ⟨K, 2, none⟩ = some (.slice a3 n3 c3)) ∧ (w'.cell? ⟨G, 0, none⟩ = some (.int .i64 tX) ∧ w'.cell? ⟨G, 1, none⟩ = some (.int .i64 tY))) ∧ (w'.cell? ⟨g, nj * 2, none⟩ = some (.int .i64 tX) ∧ w'.cell? ⟨g, nj * 2 + 1, none⟩ = some (.int .i64 tY)))) (by kernel_rfl) s (fun hHeld => ?_)
          refine wpAnyH_take (i := 0) (v := ?va0) nth0 (by kernel_rfl) (by kernel_rfl) (by kernel_rfl) (fun _ _ _ h => h) (Or.inl ⟨by rfl, ?hya0⟩) hHeld ?_
          case hya0 => (intro wH hSw; (try dsimp only at hSw); go_simp; (try with_reducible rfl))
          simp only [Act.put, List.setIfInBounds_toArray, List.set_cons_zero, List.set_cons_succ]
          refine wpAnyH_take (i := 1) (v := ?va1) nth1 (by kernel_rfl) (by kernel_rfl) (by kernel_rfl) (fun _ _ _ h => h) (Or.inl ⟨by rfl, ?hya1⟩) hHeld ?_
          case hya1 => (intro wH hSw; (try dsimp only at hSw); go_simp; (try with_reducible rfl))
          simp only [Act.put, List.setIfInBounds_toArray, List.set_cons_zero, List.set_cons_succ]
          refine wpAnyH_take (i := 2) (v := ?va2) nth2 (by kernel_rfl) (by kernel_rfl) (by kernel_rfl) (fun _ _ _ h => h) (Or.inl ⟨by rfl, ?hya2⟩) hHeld ?_
          case hya2 => (intro wH hSw; (try dsimp only at hSw); go_simp; (try with_reducible rfl))
          simp only [Act.put, List.setIfInBounds_toArray, List.set_cons_zero, List.set_cons_succ]
          refine wpAnyH_take (i := 3) (v := ?va3) nth3 (by kernel_rfl) (by kernel_rfl) (by kernel_rfl) (fun _ _ _ h => h) (Or.inl ⟨by rfl, ?hya3⟩) hHeld ?_
          case hya3 => (intro wH hSw; (try dsimp only at hSw); go_simp; (try with_reducible rfl))
          simp only [Act.put, List.setIfInBounds_toArray, List.set_cons_zero, List.set_cons_succ]
          refine wpAnyH_take (i := 4) (v := ?va4) nth4 (by kernel_rfl) (by kernel_rfl) (by kernel_rfl) (fun _ _ _ h => h) (Or.inl ⟨by rfl, ?hya4⟩) hHeld ?_
          case hya4 => (intro wH hSw; (try dsimp only at hSw); go_simp; (try with_reducible rfl))
          simp only [Act.put, List.setIfInBounds_toArray, List.set_cons_zero, List.set_cons_succ]
          refine wpAnyH_take (i := 5) (v := ?va5) nth5 (by kernel_rfl) (by kernel_rfl) (by kernel_rfl) (fun _ _ _ h => h) (Or.inl ⟨by rfl, ?hya5⟩) hHeld ?_
          case hya5 => (intro wH hSw; (try dsimp only at hSw); go_simp; (try with_reducible rfl))
          simp only [Act.put, List.setIfInBounds_toArray, List.set_cons_zero, List.set_cons_succ]
          refine wpAnyH_take (i := 6) (v := ?va6) nth6 (by kernel_rfl) (by kernel_rfl) (by kernel_rfl) (fun _ _ _ h => h) (Or.inl ⟨by rfl, ?hya6⟩) hHeld ?_
          case hya6 => (intro wH hSw; (try dsimp only at hSw); go_simp; (try with_reducible rfl))
          simp only [Act.put, List.setIfInBounds_toArray, List.set_cons_zero, List.set_cons_succ]
          refine wpAnyH_take (i := 7) (v := ?va7) nth7 (by kernel_rfl) (by kernel_rfl) (by kernel_rfl) (fun _ _ _ h => h) (Or.inl ⟨by rfl, ?hya7⟩) hHeld ?_
          case hya7 => (intro wH hSw; (try dsimp only at hSw); go_simp; (try with_reducible rfl))
          simp only [Act.put, List.setIfInBounds_toArray, List.set_cons_zero, List.set_cons_succ]
          refine wpAnyH_take (i := 8) (v := ?va8) nth8 (by kernel_rfl) (by kernel_rfl) (by kernel_rfl) (fun _ _ _ h => h) (Or.inl ⟨by rfl, ?hya8⟩) hHeld ?_
          case hya8 => (intro wH hSw; (try dsimp only at hSw); go_simp; (try with_reducible rfl))
          simp only [Act.put, List.setIfInBounds_toArray, List.set_cons_zero, List.set_cons_succ]
          refine wpAnyH_take (i := 9) (v := ?va9) nth9 (by kernel_rfl) (by kernel_rfl) (by kernel_rfl) (fun _ _ _ h => h) (Or.inl ⟨by rfl, ?hya9⟩) hHeld ?_
          case hya9 => (intro wH hSw; (try dsimp only at hSw); go_simp; (try with_reducible rfl))
          simp only [Act.put, List.setIfInBounds_toArray, List.set_cons_zero, List.set_cons_succ]
          refine wpAnyH_take (i := 10) (v := ?va10) nth10 (by kernel_rfl) (by kernel_rfl) (by kernel_rfl) (fun _ _ _ h => h) (Or.inl ⟨by rfl, ?hya10⟩) hHeld ?_
          case hya10 => (intro wH hSw; (try dsimp only at hSw); go_simp; (try with_reducible rfl))
          simp only [Act.put, List.setIfInBounds_toArray, List.set_cons_zero, List.set_cons_succ]
          refine wpAnyH_take (i := 12) (v := ?va12) nth12 (by kernel_rfl) (by kernel_rfl) (by kernel_rfl) (fun _ _ _ h => h) (Or.inl ⟨by rfl, ?hya12⟩) hHeld ?_
          case hya12 => (intro wH hSw; (try dsimp only at hSw); go_simp; (try with_reducible rfl))
          simp only [Act.put, List.setIfInBounds_toArray, List.set_cons_zero, List.set_cons_succ]
          refine wpAnyH_take (i := 13) (v := ?va13) nth13 (by kernel_rfl) (by kernel_rfl) (by kernel_rfl) (fun _ _ _ h => h) (Or.inl ⟨by rfl, ?hya13⟩) hHeld ?_
          case hya13 => (intro wH hSw; (try dsimp only at hSw); go_simp; (try with_reducible rfl))
          simp only [Act.put, List.setIfInBounds_toArray, List.set_cons_zero, List.set_cons_succ]
          refine wpAnyH_take (i := 14) (v := ?va14) nth14 (by kernel_rfl) (by kernel_rfl) (by kernel_rfl) (fun _ _ _ h => h) (Or.inl ⟨by rfl, ?hya14⟩) hHeld ?_
          case hya14 => (intro wH hSw; (try dsimp only at hSw); go_simp; (try with_reducible rfl))
          simp only [Act.put, List.setIfInBounds_toArray, List.set_cons_zero, List.set_cons_succ]
          refine wpAnyH_take (i := 15) (v := ?va15) nth15 (by kernel_rfl) (by kernel_rfl) (by kernel_rfl) (fun _ _ _ h => h) (Or.inl ⟨by rfl, ?hya15⟩) hHeld ?_
          case hya15 => (intro wH hSw; (try dsimp only at hSw); go_simp; (try with_reducible rfl))
          simp only [Act.put, List.setIfInBounds_toArray, List.set_cons_zero, List.set_cons_succ]
          refine wpAnyH_take (i := 16) (v := ?va16) nth16 (by kernel_rfl) (by kernel_rfl) (by kernel_rfl) (fun _ _ _ h => h) (Or.inl ⟨by rfl, ?hya16⟩) hHeld ?_
          case hya16 => (intro wH hSw; (try dsimp only at hSw); go_simp; (try with_reducible rfl))
          simp only [Act.put, List.setIfInBounds_toArray, List.set_cons_zero, List.set_cons_succ]
          refine wpAnyH_take (i := 17) (v := ?va17) nth17 (by kernel_rfl) (by kernel_rfl) (by kernel_rfl) (fun _ _ _ h => h) (Or.inl ⟨by rfl, ?hya17⟩) hHeld ?_
          case hya17 => (intro wH hSw; (try dsimp only at hSw); go_simp; (try with_reducible rfl))
          simp only [Act.put, List.setIfInBounds_toArray, List.set_cons_zero, List.set_cons_succ]
          refine wpAnyH_take (i := 18) (v := ?va18) nth18 (by kernel_rfl) (by kernel_rfl) (by kernel_rfl) (fun _ _ _ h => h) (Or.inl ⟨by rfl, ?hya18⟩) hHeld ?_
          case hya18 => (intro wH hSw; (try dsimp only at hSw); go_simp; (try with_reducible rfl))
          simp only [Act.put, List.setIfInBounds_toArray, List.set_cons_zero, List.set_cons_succ]
          refine wpAnyH_take (i := 19) (v := ?va19) nth19 (by kernel_rfl) (by kernel_rfl) (by kernel_rfl) (fun _ _ _ h => h) (Or.inl ⟨by rfl, ?hya19⟩) hHeld ?_
          case hya19 => (intro wH hSw; (try dsimp only at hSw); go_simp; (try with_reducible rfl))
          simp only [Act.put, List.setIfInBounds_toArray, List.set_cons_zero, List.set_cons_succ]
          refine wpAnyH_take (i := 20) (v := ?va20) nth20 (by kernel_rfl) (by kernel_rfl) (by kernel_rfl) (fun _ _ _ h => h) (Or.inl ⟨by rfl, ?hya20⟩) hHeld ?_
          case hya20 => (intro wH hSw; (try dsimp only at hSw); go_simp; (try with_reducible rfl))
          simp only [Act.put, List.setIfInBounds_toArray, List.set_cons_zero, List.set_cons_succ]
          refine wpAnyH_ready (rs := [11]) (by kernel_rfl) (by simp) ?_
          refine AllReadyH.cons nth11 (fun K hK => ?_) AllReadyH.nil
          go_simp
          (go_at_call 21; refine (impl_sq 0 0 tX tY _).mono ?_; rintro e wq1 ⟨rfl, q⟩; rw [hD.out]; replace bb := Lib.hid (bel_after bb.out q); replace hT := Lib.hid (hT.out.later q); replace hr := Lib.hid (hr.out.after q); replace bc := Lib.hid (bel_after bc.out q); replace hj := Lib.hid (hj.out.after q); replace k0 := k0.after q; replace kg := kg.after q; replace mg := Lib.hid (mg.out.after q); replace mz := Lib.hid (mz.out.after q); clear q s; have s := And.intro (And.intro (And.intro k0.c0 (And.intro k0.c1 k0.c2)) (And.intro kg.1 kg.2.1)) (pts_last2 ex.out ey.out (pts_last mg.out rfl)))
          clear hHeld
          refine hK.out _ _ s (fun hHeld => ?_)
          clear hK K
          refine wpAnyH_take (i := 21) (v := ?va21) nth21 (by kernel_rfl) (by kernel_rfl) (by kernel_rfl) (fun _ _ _ h => h) (Or.inl ⟨by rfl, ?hya21⟩) hHeld ?_
          case hya21 => (intro wH hSw; (try dsimp only at hSw); go_simp; (try with_reducible rfl))
          simp only [Act.put, List.setIfInBounds_toArray, List.set_cons_zero, List.set_cons_succ]
          refine wpAnyH_take (i := 22) (v := ?va22) nth22 (by kernel_rfl) (by kernel_rfl) (by kernel_rfl) (fun _ _ _ h => h) (Or.inl ⟨by rfl, ?hya22⟩) hHeld ?_
          case hya22 => (intro wH hSw; (try dsimp only at hSw); go_simp; (try with_reducible rfl))
          simp only [Act.put, List.setIfInBounds_toArray, List.set_cons_zero, List.set_cons_succ]
          refine wpAnyH_take (i := 23) (v := ?va23) nth23 (by kernel_rfl) (by kernel_rfl) (by kernel_rfl) (fun _ _ _ h => h) (Or.inl ⟨by rfl, ?hya23⟩) hHeld ?_
          case hya23 => (intro wH hSw; (try dsimp only at hSw); go_simp; (try with_reducible rfl))
          simp only [Act.put, List.setIfInBounds_toArray, List.set_cons_zero, List.set_cons_succ]
          refine wpAnyH_take (i := 24) (v := ?va24) nth24 (by kernel_rfl) (by kernel_rfl) (by kernel_rfl) (fun _ _ _ h => h) (Or.inl ⟨by rfl, ?hya24⟩) hHeld ?_
          case hya24 => (intro wH hSw; (try dsimp only at hSw); go_simp; (try with_reducible rfl))
          simp only [Act.put, List.setIfInBounds_toArray, List.set_cons_zero, List.set_cons_succ]
          refine wpAnyH_take (i := 25) (v := ?va25) nth25 (by kernel_rfl) (by kernel_rfl) (by kernel_rfl) (fun _ _ _ h => h) (Or.inl ⟨by rfl, ?hya25⟩) hHeld ?_
          case hya25 => (intro wH hSw; (try dsimp only at hSw); go_simp; (try with_reducible rfl))
          simp only [Act.put, List.setIfInBounds_toArray, List.set_cons_zero, List.set_cons_succ]
          refine wpAnyH_ready (rs := [26]) (by kernel_rfl) (by simp) ?_
          refine AllReadyH.cons nth26 (fun K hK => ?_) AllReadyH.nil
          go_simp
          (go_at_call 22; refine (impl_joints a1 a2 a3 _ n1 c1 n2 c2 n3 c3 nj _ l lo hi Z _ h1.out h2.out h3.out hzlen.out (by omega) (by omega) hr.out mz.out.row).mono ?_; rintro e wq2 ⟨rfl, q⟩; rw [hV.out]; replace bb := Lib.hid (bel_after bb.out q); replace hT := Lib.hid (hT.out.later q); replace hr := Lib.hid (hr.out.after q); replace bc := Lib.hid (bel_after bc.out q); replace hj := Lib.hid (hj.out.after q); replace k0 := k0.after q; replace kg := kg.after q; replace mg := Lib.hid (mg.out.after q); replace mz := Lib.hid (mz.out.after q); clear q s; have s := And.intro (And.intro (And.intro k0.c0 (And.intro k0.c1 k0.c2)) (And.intro kg.1 kg.2.1)) (pts_last2 ex.out ey.out (pts_last mg.out rfl)))
          clear hHeld
          refine hK.out _ _ s (fun hHeld => ?_)
          clear hK K
          refine wpAnyH_take (i := 27) (v := ?va27) nth27 (by kernel_rfl) (by kernel_rfl) (by kernel_rfl) (fun _ _ _ h => h) (Or.inl ⟨by rfl, ?hya27⟩) hHeld ?_
          case hya27 => (intro wH hSw; (try dsimp only at hSw); go_simp; (try with_reducible rfl))
          simp only [Act.put, List.setIfInBounds_toArray, List.set_cons_zero, List.set_cons_succ]
          refine wpAnyH_take (i := 28) (v := ?va28) nth28 (by kernel_rfl) (by kernel_rfl) (by kernel_rfl) (fun _ _ _ h => h) (Or.inl ⟨by rfl, ?hya28⟩) hHeld ?_
          case hya28 => (intro wH hSw; (try dsimp only at hSw); go_simp; (try with_reducible rfl))
          simp only [Act.put, List.setIfInBounds_toArray, List.set_cons_zero, List.set_cons_succ]
          refine wpAnyH_take (i := 29) (v := undef) nth29 (by kernel_rfl) (by kernel_rfl) (by kernel_rfl) (fun _ _ _ h => h) (Or.inr ⟨by rfl, rfl⟩) hHeld ?_
          simp only [Act.put, List.setIfInBounds_toArray, List.set_cons_zero, List.set_cons_succ]
          refine wpAnyH_take (i := 30) (v := undef) nth30 (by kernel_rfl) (by kernel_rfl) (by kernel_rfl) (fun _ _ _ h => h) (Or.inr ⟨by rfl, rfl⟩) hHeld ?_
          simp only [Act.put, List.setIfInBounds_toArray, List.set_cons_zero, List.set_cons_succ]
          refine wpAnyH_take (i := 31) (v := undef) nth31 (by kernel_rfl) (by kernel_rfl) (by kernel_rfl) (fun _ _ _ h => h) (Or.inr ⟨by rfl, rfl⟩) hHeld ?_
          simp only [Act.put, List.setIfInBounds_toArray, List.set_cons_zero, List.set_cons_succ]
          refine wpAnyH_take (i := 32) (v := undef) nth32 (by kernel_rfl) (by kernel_rfl) (by kernel_rfl) (fun _ _ _ h => h) (Or.inr ⟨by rfl, rfl⟩) hHeld ?_
          simp only [Act.put, List.setIfInBounds_toArray, List.set_cons_zero, List.set_cons_succ]
          refine wpAnyH_take (i := 33) (v := undef) nth33 (by kernel_rfl) (by kernel_rfl) (by kernel_rfl) (fun _ _ _ h => h) (Or.inr ⟨by rfl, rfl⟩) hHeld ?_
          simp only [Act.put, List.setIfInBounds_toArray, List.set_cons_zero, List.set_cons_succ]
          refine wpAnyH_take (i := 34) (v := undef) nth34 (by kernel_rfl) (by kernel_rfl) (by kernel_rfl) (fun _ _ _ h => h) (Or.inr ⟨by rfl, rfl⟩) hHeld ?_
          simp only [Act.put, List.setIfInBounds_toArray, List.set_cons_zero, List.set_cons_succ]
          refine wpAnyH_take (i := 35) (v := ?va35) nth35 (by kernel_rfl) (by kernel_rfl) (by kernel_rfl) (fun _ _ _ h => h) (Or.inl ⟨by rfl, ?hya35⟩) hHeld ?_
          case hya35 => (intro wH hSw; (try dsimp only at hSw); go_simp; (try with_reducible rfl))
          simp only [Act.put, List.setIfInBounds_toArray, List.set_cons_zero, List.set_cons_succ]
          refine wpAnyH_take (i := 36) (v := ?va36) nth36 (by kernel_rfl) (by kernel_rfl) (by kernel_rfl) (fun _ _ _ h => h) (Or.inl ⟨by rfl, ?hya36⟩) hHeld ?_
          case hya36 => (intro wH hSw; (try dsimp only at hSw); go_simp; (try with_reducible rfl))
          simp only [Act.put, List.setIfInBounds_toArray, List.set_cons_zero, List.set_cons_succ]
          refine wpAnyH_take (i := 37) (v := ?va37) nth37 (by kernel_rfl) (by kernel_rfl) (by kernel_rfl) (fun _ _ _ h => h) (Or.inl ⟨by rfl, ?hya37⟩) hHeld ?_
          case hya37 => (intro wH hSw; (try dsimp only at hSw); go_simp; (try with_reducible rfl))
          simp only [Act.put, List.setIfInBounds_toArray, List.set_cons_zero, List.set_cons_succ]
          refine wpAnyH_done (by kernel_rfl) ?_ _
          go_wp2_with fail
          go_ret
          exact ⟨rfl, bb.out⟩
        · have hzx := Lib.hid ((hzl.out hV).1)
          have hzy := Lib.hid ((hzl.out hV).2)
          replace hV := Lib.hid hV
          refine wp_region_held_drew (S := (fun w' => ((w'.cell? ⟨K, 0, none⟩ = some (.slice a1 n1 c1) ∧ w'.cell? ⟨K, 1, none⟩ = some (.slice a2 n2 c2) ∧ w'.cell? ⟨K, 2, none⟩ = some (.slice a3 n3 c3)) ∧ (w'.cell? ⟨G, 0, none⟩ = some (.int .i64 tX) ∧ w'.cell? ⟨G, 1, none⟩ = some (.int .i64 tY))) ∧ (w'.cell? ⟨g, nj * 2, none⟩ = some (.int .i64 tX) ∧ w'.cell? ⟨g, nj * 2 + 1, none⟩ = some (.int .i64 tY)))) (by kernel_rfl) s (fun hHeld => ?_)
          refine wpAnyH_take (i := 0) (v := ?vb0) nth0 (by kernel_rfl) (by kernel_rfl) (by kernel_rfl) (fun _ _ _ h => h) (Or.inl ⟨by rfl, ?hyb0⟩) hHeld ?_
          case hyb0 => (intro wH hSw; (try dsimp only at hSw); go_simp; (try with_reducible rfl))
          simp only [Act.put, List.setIfInBounds_toArray, List.set_cons_zero, List.set_cons_succ]
          refine wpAnyH_take (i := 1) (v := ?vb1) nth1 (by kernel_rfl) (by kernel_rfl) (by kernel_rfl) (fun _ _ _ h => h) (Or.inl ⟨by rfl, ?hyb1⟩) hHeld ?_
          case hyb1 => (intro wH hSw; (try dsimp only at hSw); go_simp; (try with_reducible rfl))
          simp only [Act.put, List.setIfInBounds_toArray, List.set_cons_zero, List.set_cons_succ]
          refine wpAnyH_take (i := 2) (v := ?vb2) nth2 (by kernel_rfl) (by kernel_rfl) (by kernel_rfl) (fun _ _ _ h => h) (Or.inl ⟨by rfl, ?hyb2⟩) hHeld ?_
          case hyb2 => (intro wH hSw; (try dsimp only at hSw); go_simp; (try with_reducible rfl))
          simp only [Act.put, List.setIfInBounds_toArray, List.set_cons_zero, List.set_cons_succ]
          refine wpAnyH_take (i := 3) (v := ?vb3) nth3 (by kernel_rfl) (by kernel_rfl) (by kernel_rfl) (fun _ _ _ h => h) (Or.inl ⟨by rfl, ?hyb3⟩) hHeld ?_
          case hyb3 => (intro wH hSw; (try dsimp only at hSw); go_simp; (try with_reducible rfl))
          simp only [Act.put, List.setIfInBounds_toArray, List.set_cons_zero, List.set_cons_succ]
          refine wpAnyH_take (i := 4) (v := ?vb4) nth4 (by kernel_rfl) (by kernel_rfl) (by kernel_rfl) (fun _ _ _ h => h) (Or.inl ⟨by rfl, ?hyb4⟩) hHeld ?_
          case hyb4 => (intro wH hSw; (try dsimp only at hSw); go_simp; (try with_reducible rfl))
          simp only [Act.put, List.setIfInBounds_toArray, List.set_cons_zero, List.set_cons_succ]
          refine wpAnyH_take (i := 5) (v := ?vb5) nth5 (by kernel_rfl) (by kernel_rfl) (by kernel_rfl) (fun _ _ _ h => h) (Or.inl ⟨by rfl, ?hyb5⟩) hHeld ?_
          case hyb5 => (intro wH hSw; (try dsimp only at hSw); go_simp; (try with_reducible rfl))
          simp only [Act.put, List.setIfInBounds_toArray, List.set_cons_zero, List.set_cons_succ]
          refine wpAnyH_take (i := 6) (v := ?vb6) nth6 (by kernel_rfl) (by kernel_rfl) (by kernel_rfl) (fun _ _ _ h => h) (Or.inl ⟨by rfl, ?hyb6⟩) hHeld ?_
          case hyb6 => (intro wH hSw; (try dsimp only at hSw); go_simp; (try with_reducible rfl))
          simp only [Act.put, List.setIfInBounds_toArray, List.set_cons_zero, List.set_cons_succ]
          refine wpAnyH_take (i := 7) (v := ?vb7) nth7 (by kernel_rfl) (by kernel_rfl) (by kernel_rfl) (fun _ _ _ h => h) (Or.inl ⟨by rfl, ?hyb7⟩) hHeld ?_
          case hyb7 => (intro wH hSw; (try dsimp only at hSw); go_simp; (try with_reducible rfl))
          simp only [Act.put, List.setIfInBounds_toArray, List.set_cons_zero, List.set_cons_succ]
          refine wpAnyH_take (i := 8) (v := ?vb8) nth8 (by kernel_rfl) (by kernel_rfl) (by kernel_rfl) (fun _ _ _ h => h) (Or.inl ⟨by rfl, ?hyb8⟩) hHeld ?_
          case hyb8 => (intro wH hSw; (try dsimp only at hSw); go_simp; (try with_reducible rfl))
          simp only [Act.put, List.setIfInBounds_toArray, List.set_cons_zero, List.set_cons_succ]
          refine wpAnyH_take (i := 9) (v := ?vb9) nth9 (by kernel_rfl) (by kernel_rfl) (by kernel_rfl) (fun _ _ _ h => h) (Or.inl ⟨by rfl, ?hyb9⟩) hHeld ?_
          case hyb9 => (intro wH hSw; (try dsimp only at hSw); go_simp; (try with_reducible rfl))
          simp only [Act.put, List.setIfInBounds_toArray, List.set_cons_zero, List.set_cons_succ]
          refine wpAnyH_take (i := 10) (v := ?vb10) nth10 (by kernel_rfl) (by kernel_rfl) (by kernel_rfl) (fun _ _ _ h => h) (Or.inl ⟨by rfl, ?hyb10⟩) hHeld ?_
          case hyb10 => (intro wH hSw; (try dsimp only at hSw); go_simp; (try with_reducible rfl))
          simp only [Act.put, List.setIfInBounds_toArray, List.set_cons_zero, List.set_cons_succ]
          refine wpAnyH_take (i := 12) (v := ?vb12) nth12 (by kernel_rfl) (by kernel_rfl) (by kernel_rfl) (fun _ _ _ h => h) (Or.inl ⟨by rfl, ?hyb12⟩) hHeld ?_
          case hyb12 => (intro wH hSw; (try dsimp only at hSw); go_simp; (try with_reducible rfl))
          simp only [Act.put, List.setIfInBounds_toArray, List.set_cons_zero, List.set_cons_succ]
          refine wpAnyH_take (i := 13) (v := ?vb13) nth13 (by kernel_rfl) (by kernel_rfl) (by kernel_rfl) (fun _ _ _ h => h) (Or.inl ⟨by rfl, ?hyb13⟩) hHeld ?_
          case hyb13 => (intro wH hSw; (try dsimp only at hSw); go_simp; (try with_reducible rfl))
          simp only [Act.put, List.setIfInBounds_toArray, List.set_cons_zero, List.set_cons_succ]
          refine wpAnyH_take (i := 14) (v := ?vb14) nth14 (by kernel_rfl) (by kernel_rfl) (by kernel_rfl) (fun _ _ _ h => h) (Or.inl ⟨by rfl, ?hyb14⟩) hHeld ?_
          case hyb14 => (intro wH hSw; (try dsimp only at hSw); go_simp; (try with_reducible rfl))
          simp only [Act.put, List.setIfInBounds_toArray, List.set_cons_zero, List.set_cons_succ]
          refine wpAnyH_take (i := 15) (v := ?vb15) nth15 (by kernel_rfl) (by kernel_rfl) (by kernel_rfl) (fun _ _ _ h => h) (Or.inl ⟨by rfl, ?hyb15⟩) hHeld ?_
          case hyb15 => (intro wH hSw; (try dsimp only at hSw); go_simp; (try with_reducible rfl))
          simp only [Act.put, List.setIfInBounds_toArray, List.set_cons_zero, List.set_cons_succ]
          refine wpAnyH_take (i := 16) (v := ?vb16) nth16 (by kernel_rfl) (by kernel_rfl) (by kernel_rfl) (fun _ _ _ h => h) (Or.inl ⟨by rfl, ?hyb16⟩) hHeld ?_
          case hyb16 => (intro wH hSw; (try dsimp only at hSw); go_simp; (try with_reducible rfl))
          simp only [Act.put, List.setIfInBounds_toArray, List.set_cons_zero, List.set_cons_succ]
          refine wpAnyH_take (i := 17) (v := ?vb17) nth17 (by kernel_rfl) (by kernel_rfl) (by kernel_rfl) (fun _ _ _ h => h) (Or.inl ⟨by rfl, ?hyb17⟩) hHeld ?_
          case hyb17 => (intro wH hSw; (try dsimp only at hSw); go_simp; (try with_reducible rfl))
          simp only [Act.put, List.setIfInBounds_toArray, List.set_cons_zero, List.set_cons_succ]
          refine wpAnyH_take (i := 18) (v := ?vb18) nth18 (by kernel_rfl) (by kernel_rfl) (by kernel_rfl) (fun _ _ _ h => h) (Or.inl ⟨by rfl, ?hyb18⟩) hHeld ?_
          case hyb18 => (intro wH hSw; (try dsimp only at hSw); go_simp; (try with_reducible rfl))
          simp only [Act.put, List.setIfInBounds_toArray, List.set_cons_zero, List.set_cons_succ]
          refine wpAnyH_take (i := 19) (v := ?vb19) nth19 (by kernel_rfl) (by kernel_rfl) (by kernel_rfl) (fun _ _ _ h => h) (Or.inl ⟨by rfl, ?hyb19⟩) hHeld ?_
          case hyb19 => (intro wH hSw; (try dsimp only at hSw); go_simp; (try with_reducible rfl))
          simp only [Act.put, List.setIfInBounds_toArray, List.set_cons_zero, List.set_cons_succ]
          refine wpAnyH_take (i := 20) (v := ?vb20) nth20 (by kernel_rfl) (by kernel_rfl) (by kernel_rfl) (fun _ _ _ h => h) (Or.inl ⟨by rfl, ?hyb20⟩) hHeld ?_
          case hyb20 => (intro wH hSw; (try dsimp only at hSw); go_simp; (try with_reducible rfl))
          simp only [Act.put, List.setIfInBounds_toArray, List.set_cons_zero, List.set_cons_succ]
          refine wpAnyH_ready (rs := [11]) (by kernel_rfl) (by simp) ?_
          refine AllReadyH.cons nth11 (fun K hK => ?_) AllReadyH.nil
          go_simp
          (go_at_call 21; refine (impl_sq 0 0 tX tY _).mono ?_; rintro e wq1 ⟨rfl, q⟩; rw [hD.out]; replace bb := Lib.hid (bel_after bb.out q); replace hT := Lib.hid (hT.out.later q); replace hr := Lib.hid (hr.out.after q); replace bc := Lib.hid (bel_after bc.out q); replace hj := Lib.hid (hj.out.after q); replace k0 := k0.after q; replace kg := kg.after q; replace mg := Lib.hid (mg.out.after q); replace mz := Lib.hid (mz.out.after q); clear q s; have s := And.intro (And.intro (And.intro k0.c0 (And.intro k0.c1 k0.c2)) (And.intro kg.1 kg.2.1)) (pts_last2 ex.out ey.out (pts_last mg.out rfl)))
          clear hHeld
          refine hK.out _ _ s (fun hHeld => ?_)
          clear hK K
          refine wpAnyH_take (i := 21) (v := ?vb21) nth21 (by kernel_rfl) (by kernel_rfl) (by kernel_rfl) (fun _ _ _ h => h) (Or.inl ⟨by rfl, ?hyb21⟩) hHeld ?_
          case hyb21 => (intro wH hSw; (try dsimp only at hSw); go_simp; (try with_reducible rfl))
          simp only [Act.put, List.setIfInBounds_toArray, List.set_cons_zero, List.set_cons_succ]
          refine wpAnyH_take (i := 22) (v := ?vb22) nth22 (by kernel_rfl) (by kernel_rfl) (by kernel_rfl) (fun _ _ _ h => h) (Or.inl ⟨by rfl, ?hyb22⟩) hHeld ?_
          case hyb22 => (intro wH hSw; (try dsimp only at hSw); go_simp; (try with_reducible rfl))
          simp only [Act.put, List.setIfInBounds_toArray, List.set_cons_zero, List.set_cons_succ]
          refine wpAnyH_take (i := 23) (v := ?vb23) nth23 (by kernel_rfl) (by kernel_rfl) (by kernel_rfl) (fun _ _ _ h => h) (Or.inl ⟨by rfl, ?hyb23⟩) hHeld ?_
          case hyb23 => (intro wH hSw; (try dsimp only at hSw); go_simp; (try with_reducible rfl))
          simp only [Act.put, List.setIfInBounds_toArray, List.set_cons_zero, List.set_cons_succ]
          refine wpAnyH_take (i := 24) (v := ?vb24) nth24 (by kernel_rfl) (by kernel_rfl) (by kernel_rfl) (fun _ _ _ h => h) (Or.inl ⟨by rfl, ?hyb24⟩) hHeld ?_
          case hyb24 => (intro wH hSw; (try dsimp only at hSw); go_simp; (try with_reducible rfl))
          simp only [Act.put, List.setIfInBounds_toArray, List.set_cons_zero, List.set_cons_succ]
          refine wpAnyH_take (i := 25) (v := ?vb25) nth25 (by kernel_rfl) (by kernel_rfl) (by kernel_rfl) (fun _ _ _ h => h) (Or.inl ⟨by rfl, ?hyb25⟩) hHeld ?_
          case hyb25 => (intro wH hSw; (try dsimp only at hSw); go_simp; (try with_reducible rfl))
          simp only [Act.put, List.setIfInBounds_toArray, List.set_cons_zero, List.set_cons_succ]
          refine wpAnyH_ready (rs := [26]) (by kernel_rfl) (by simp) ?_
          refine AllReadyH.cons nth26 (fun K hK => ?_) AllReadyH.nil
          go_simp
          (go_at_call 22; refine (impl_joints a1 a2 a3 _ n1 c1 n2 c2 n3 c3 nj _ l lo hi Z _ h1.out h2.out h3.out hzlen.out (by omega) (by omega) hr.out mz.out.row).mono ?_; rintro e wq2 ⟨rfl, q⟩; rw [hV.out]; replace bb := Lib.hid (bel_after bb.out q); replace hT := Lib.hid (hT.out.later q); replace hr := Lib.hid (hr.out.after q); replace bc := Lib.hid (bel_after bc.out q); replace hj := Lib.hid (hj.out.after q); replace k0 := k0.after q; replace kg := kg.after q; replace mg := Lib.hid (mg.out.after q); replace mz := Lib.hid (mz.out.after q); clear q s; have s := And.intro (And.intro (And.intro k0.c0 (And.intro k0.c1 k0.c2)) (And.intro kg.1 kg.2.1)) (pts_last2 ex.out ey.out (pts_last mg.out rfl)))
          clear hHeld
          refine hK.out _ _ s (fun hHeld => ?_)
          clear hK K
          refine wpAnyH_take (i := 27) (v := ?vb27) nth27 (by kernel_rfl) (by kernel_rfl) (by kernel_rfl) (fun _ _ _ h => h) (Or.inl ⟨by rfl, ?hyb27⟩) hHeld ?_
          case hyb27 => (intro wH hSw; (try dsimp only at hSw); go_simp; (try with_reducible rfl))
          simp only [Act.put, List.setIfInBounds_toArray, List.set_cons_zero, List.set_cons_succ]
          refine wpAnyH_take (i := 28) (v := ?vb28) nth28 (by kernel_rfl) (by kernel_rfl) (by kernel_rfl) (fun _ _ _ h => h) (Or.inl ⟨by rfl, ?hyb28⟩) hHeld ?_
          case hyb28 => (intro wH hSw; (try dsimp only at hSw); go_simp; (try with_reducible rfl))
          simp only [Act.put, List.setIfInBounds_toArray, List.set_cons_zero, List.set_cons_succ]
          refine wpAnyH_take (i := 29) (v := ?vb29) nth29 (by kernel_rfl) (by kernel_rfl) (by kernel_rfl) (fun _ _ _ h => h) (Or.inl ⟨by rfl, ?hyb29⟩) hHeld ?_
          case hyb29 => (intro wH hSw; (try dsimp only at hSw); go_simp; (try with_reducible rfl))
          simp only [Act.put, List.setIfInBounds_toArray, List.set_cons_zero, List.set_cons_succ]
          refine wpAnyH_take (i := 30) (v := ?vb30) nth30 (by kernel_rfl) (by kernel_rfl) (by kernel_rfl) (fun _ _ _ h => h) (Or.inl ⟨by rfl, ?hyb30⟩) hHeld ?_
          case hyb30 => (intro wH hSw; (try dsimp only at hSw); go_simp; (try with_reducible rfl))
          simp only [Act.put, List.setIfInBounds_toArray, List.set_cons_zero, List.set_cons_succ]
          refine wpAnyH_take (i := 32) (v := ?vb32) nth32 (by kernel_rfl) (by kernel_rfl) (by kernel_rfl) (fun _ _ _ h => h) (Or.inl ⟨by rfl, ?hyb32⟩) hHeld ?_
          case hyb32 => (intro wH hSw; (try dsimp only at hSw); go_simp; (try with_reducible rfl))
          simp only [Act.put, List.setIfInBounds_toArray, List.set_cons_zero, List.set_cons_succ]
          refine wpAnyH_take (i := 33) (v := ?vb33) nth33 (by kernel_rfl) (by kernel_rfl) (by kernel_rfl) (fun _ _ _ h => h) (Or.inl ⟨by rfl, ?hyb33⟩) hHeld ?_
          case hyb33 => (intro wH hSw; (try dsimp only at hSw); go_simp; (try with_reducible rfl))
          simp only [Act.put, List.setIfInBounds_toArray, List.set_cons_zero, List.set_cons_succ]
          refine wpAnyH_ready (rs := [31]) (by kernel_rfl) (by simp) ?_
          refine AllReadyH.cons nth31 (fun K hK => ?_) AllReadyH.nil
          go_simp
          (go_at_call 13; refine (impl_tipOf a1 a2 a3 _ n1 c1 n2 c2 n3 c3 nj _ l lo hi Z _ hT.out h1.out h2.out h3.out hzlen.out (by omega) (by omega) hr.out mz.out.row).mono ?_; rintro e wq3 ⟨rfl, q⟩; rw [hzx.out, hzy.out]; replace bb := Lib.hid (bel_after bb.out q); replace hT := Lib.hid (hT.out.later q); replace hr := Lib.hid (hr.out.after q); replace bc := Lib.hid (bel_after bc.out q); replace hj := Lib.hid (hj.out.after q); replace k0 := k0.after q; replace kg := kg.after q; replace mg := Lib.hid (mg.out.after q); replace mz := Lib.hid (mz.out.after q); clear q s; have s := And.intro (And.intro (And.intro k0.c0 (And.intro k0.c1 k0.c2)) (And.intro kg.1 kg.2.1)) (pts_last2 ex.out ey.out (pts_last mg.out rfl)))
          clear hHeld
          refine hK.out _ _ s (fun hHeld => ?_)
          clear hK K
          refine wpAnyH_take (i := 34) (v := ?vb34) nth34 (by kernel_rfl) (by kernel_rfl) (by kernel_rfl) (fun _ _ _ h => h) (Or.inl ⟨by rfl, ?hyb34⟩) hHeld ?_
          case hyb34 => (intro wH hSw; (try dsimp only at hSw); go_simp; (try with_reducible rfl))
          simp only [Act.put, List.setIfInBounds_toArray, List.set_cons_zero, List.set_cons_succ]
          refine wpAnyH_take (i := 35) (v := ?vb35) nth35 (by kernel_rfl) (by kernel_rfl) (by kernel_rfl) (fun _ _ _ h => h) (Or.inl ⟨by rfl, ?hyb35⟩) hHeld ?_
          case hyb35 => (intro wH hSw; (try dsimp only at hSw); go_simp; (try with_reducible rfl))
          simp only [Act.put, List.setIfInBounds_toArray, List.set_cons_zero, List.set_cons_succ]
          refine wpAnyH_take (i := 36) (v := ?vb36) nth36 (by kernel_rfl) (by kernel_rfl) (by kernel_rfl) (fun _ _ _ h => h) (Or.inl ⟨by rfl, ?hyb36⟩) hHeld ?_
          case hyb36 => (intro wH hSw; (try dsimp only at hSw); go_simp; (try with_reducible rfl))
          simp only [Act.put, List.setIfInBounds_toArray, List.set_cons_zero, List.set_cons_succ]
          refine wpAnyH_take (i := 37) (v := ?vb37) nth37 (by kernel_rfl) (by kernel_rfl) (by kernel_rfl) (fun _ _ _ h => h) (Or.inl ⟨by rfl, ?hyb37⟩) hHeld ?_
          case hyb37 => (intro wH hSw; (try dsimp only at hSw); go_simp; (try with_reducible rfl))
          simp only [Act.put, List.setIfInBounds_toArray, List.set_cons_zero, List.set_cons_succ]
          refine wpAnyH_done (by kernel_rfl) ?_ _
          go_wp2_with fail
          go_ret
          exact ⟨rfl, bb.out⟩
theorem own : ownKnob Tryd.prog.godebug = none := by kernel_rfl
theorem laidOut : laidOutB Tryd.prog = true := by kernel_rfl
set_option maxRecDepth 100000 in
theorem lifted (os : Os) (started : os.Started) (H : Type) (enc : TypeId × Value → H) :
    ReturnsInHanded {} Tryd.checked os 4 .any (fun w args => (Rows.fnTipOfSpec.pre enc Tryd.prog Tryd.f4 [] false w args ∧ laidMetH Tryd.prog laid3 w) ∧ sizedMet enc Tryd.prog Tryd.f4 (OpenSpec.ofChange Rows.fnTipOfSpec) false w args)
      (Rows.fnTipOfSpec.post enc Tryd.prog Tryd.f4 false true false false) := by
  refine returnsInHanded_of_change_and (C := Tryd.checked) (X := fun w _ => laidMetH Tryd.prog laid3 w) (fun _ _ _ hh h => h.of_heap hh) own started (by kernel_rfl) Tryd.func4
    (ChangeSpec.witness_shaped (enc := enc) (C := Tryd.checked) (os := os) (X := fun w _ => laidMetH Tryd.prog laid3 w) false (World.doorLaid Tryd.prog 24 os) #[.slice none 0 0] 8 rfl (World.shaped_of_RefB (by kernel_rfl) (by kernel_rfl)) (by kernel_rfl) (by kernel_rfl) (by kernel_rfl) (door_met os _)) ?_
  intro W base args ds gs before hval0 hW _ _ hL _
  have hval : ∀ (j : Nat) t v, Tryd.f4.params[j]? = some t → args[j]? = some v → Value.okWide Tryd.prog W .any base t v := hval0
  have hW' := hW
  obtain ⟨p, q, hA0, hV, rfl, hfz, hnd⟩ := hW
  have hA : DataW.TrodAll enc Tryd.prog W 0 (fun _ => true) true Tryd.f4.params.toList args.toList ds p := hA0
  rw [Tryd.params4] at hA hval
  obtain ⟨v0_, vs0, d0, ds0, p0, q0, hargs, rfl, rfl, h0, r0⟩ := trodAll_cons hA
  obtain ⟨rfl, rfl, rfl⟩ := trodAll_nil r0
  obtain rfl : args = #[v0_] := by cases args; simp_all
  obtain ⟨rfl, rfl⟩ := trodVars_none hV
  obtain ⟨a0, len0, cap0, rfl⟩ := okWide_slice Tryd.underlying36 (hval 0 36 v0_ rfl rfl)
  have k0 := h0
  have lt0 : ∀ x ∈ p0, x.block < W.heap.size := by obtain ⟨m, hm⟩ := k0; exact DataW.trod_lt m _ _ _ hm
  obtain ⟨z0, w0⟩ : ∃ zs, IsRow .u8 W a0 len0 cap0 zs := by
    obtain ⟨fuel, hf⟩ := h0
    rcases open_ints Tryd.underlying36 Tryd.underlying5 (by kernel_rfl) hf with ⟨hcs, _⟩ | ⟨x, l, c, zs, hcs, _, hl, hm, hz, _, hcell, hwz⟩
    · simp [Value.cells] at hcs
      obtain ⟨rfl, rfl, rfl⟩ := hcs
      exact ⟨[], .inl ⟨rfl, rfl, rfl, rfl⟩⟩
    · simp [Value.cells] at hcs
      obtain ⟨rfl, rfl, rfl⟩ := hcs
      exact ⟨zs, .inr ⟨_, rfl, hl, hm, by simpa using hz, hcell, hwz⟩⟩
  clear hA0 hval0
  refine (walk a0 len0 cap0 z0 W w0 (of_laid hL)).mono fun e W' ⟨he, bel⟩ => ?_
  subst he
  exact ⟨_, rfl, _, _, _, [], _, [], hW', trodAll_mk1 (shut_bool Tryd.underlying4 _), (trodAll_cons_mk (Below.trod laidOut (by kernel_rfl) (of_decide_eq_true (by kernel_rfl)) k0 bel lt0) trodAll_mk0), rfl, bel.frame _, fun h => by cases h⟩
theorem over : Rows.FnTipOfSaid :=
  OpenClaim.holds_of_wide 4 Tryd.f4 rfl rfl rfl rfl rfl rfl rfl ⟨rfl, rfl, rfl, rfl, rfl⟩ rfl rfl rfl rfl rfl (by kernel_rfl) Tryd.func4 (by kernel_rfl)
    (of_decide_eq_true (by kernel_rfl)) (by unfold Func.isWrapper; first | (rw [if_pos (by decide +kernel)]; kernel_rfl) | (rw [if_neg (by decide +kernel)]; exact ⟨rfl, rfl⟩))
    (fun os started H enc _ => lifted os started H enc)
theorem proved : Rows.FnTipOfCardSaid :=
  Claim7.holds_tied_plain_at .later [] [.data, .data, .data] true (true, "03f185bd6a0039b5c2354483eb655e47d0847bbe158a00b79e0488207aa63ddd") false
    over (fun _ h => by cases h) (by kernel_rfl) (fun _ h => by cases h) fnTipOf_row_tie rfl ⟨rfl, rfl⟩ (by kernel_rfl) rfl
    (fun f fn hf hfn => by
      obtain rfl : f = 4 := Option.some.inj ((show Tryd.prog.funcNamed "loop.example/robotcell/laws.FnTipOf" = some 4 by kernel_rfl).symm.trans hf) |>.symm
      obtain rfl : fn = Tryd.f4 := (Option.some.inj (Tryd.func4.symm.trans hfn)).symm
      exact ⟨by kernel_rfl, fun j t ht => by
        rw [Tryd.params4] at ht
        have hm : t ∈ [36] := by simpa using Array.mem_of_getElem? ht
        have hall : ([36].all fun u => !Tryd.prog.wantsStandIn u) = true := by kernel_rfl
        exact (show Tryd.prog.wantsStandIn t = false by simpa using List.all_eq_true.1 hall t hm)⟩)
    (by kernel_rfl)
#print axioms proved
end Go.Proofs.YtegmhflbndnadaaDoor.fnTipOf
