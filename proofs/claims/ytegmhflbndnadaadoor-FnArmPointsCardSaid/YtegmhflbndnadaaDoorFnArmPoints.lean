/- Proves the tied card of the law FnArmPoints: it returns true for every input, the tables of the sine being as laid by the program text. -/
import Derived.Test.YtegmhflbndnadaaDoorCards
import Derived.Test.YtegmhflbndnadaaDoorTie
import Derived.Test.YtegmhflbndnadaaDoorLaid
import Derived.Test.YtegmhflbndnadaaDoorDraws2
import Derived.Test.YtegmhflbndnadaaDoorTipMath
import Derived.Test.YtegmhflbndnadaaDoorAlive
import Derived.ChangeOld
import Derived.ShutString
import Derived.Lib.SmallJoins
import Derived.LaidMore
import Derived.Stop.Joined
import Derived.SevenTiedAt
import Derived.Deep.RegionHeld3
import Derived.Deep.DeepCutAuto
import Derived.Deep.CutBlock
namespace Go.Proofs.YtegmhflbndnadaaDoor.fnArmPoints
open Go.ChangeShapes Go.WideShapes Go.ChangeAt Go.RowKit
set_option linter.unusedVariables false
theorem ptsView {w w' : World} {n : Nat} {l : List (Int × Int)} {e : Ending} (hn : l.length = n) (h : PtsOut w l e w') : ∃ p d, e = .returned (.slice p n d) ∧ OwnsP w' w.heap.size (.slice p n d) l ∧ Below w.heap.size w w' := by
  obtain ⟨v, he, ho, hb⟩ := h
  obtain ⟨p, d, rfl, _⟩ := ho.view
  rw [hn] at he ho
  exact ⟨p, d, he, ho, hb⟩
theorem ptsKept {may : Nat → Prop} {w w' : World} {B : Nat} {v : Value} {l : List (Int × Int)} (h : OwnsP w B v l) (hk : Kept may w w') (hm : ∀ i, v.ownBlock = some i → ¬ may i) : OwnsP w' B v l := by
  obtain ⟨h1, h2⟩ := h
  refine ⟨h1, ?_⟩
  rcases h2 with h2 | ⟨g, cap, cur, e, hg, hh, r⟩
  · exact .inl h2
  · exact .inr ⟨g, cap, cur, e, hg, (hk.block g (Array.getElem?_eq_some_iff.1 hh).1 (hm g (by rw [e]; rfl))).trans hh, r⟩
theorem ptsLt {w : World} {B T : Nat} {v : Value} {l : List (Int × Int)} (h : OwnsP w B v l) (hT : w.heap.size ≤ T) : ∀ i, v.ownBlock = some i → B ≤ i ∧ i < T := fun i hi => ⟨(World.ownsRow.lt h i hi).1, Nat.lt_of_lt_of_le (World.ownsRow.lt h i hi).2 hT⟩
theorem M.apts_len {l lo hi j : List Int} : (M.apts l lo hi j).length ≤ j.length + 1 := by
  unfold M.apts
  split
  · rw [M.pts_len]; exact Nat.le_refl _
  · exact Nat.zero_le _
/-- two neighbouring points, as the law asks -/
theorem M.near_pts {l lo hi j : List Int} (h : M.jointsB l lo hi j = true) {k : Nat} (hk : k < j.length) :
    (M.pvB (M.pxT l j k) (M.pyT l j k) = true ∧ M.pvB (M.pxT l j (k + 1)) (M.pyT l j (k + 1)) = true) ∧ (1 ≤ l.getD k 0 ∧ l.getD k 0 ≤ 500) ∧
    ((l.getD k 0 - 1) * (l.getD k 0 - 1) ≤ M.sq (M.pxT l j k) (M.pyT l j k) (M.pxT l j (k + 1)) (M.pyT l j (k + 1)) ∧ M.sq (M.pxT l j k) (M.pyT l j k) (M.pxT l j (k + 1)) (M.pyT l j (k + 1)) ≤ (l.getD k 0 + 1) * (l.getD k 0 + 1)) := by
  obtain ⟨⟨e1, e2⟩, e3, bl, bj⟩ := M.joints_bds h
  have p : ∀ n, n ≤ j.length → M.pvB (M.pxT l j n) (M.pyT l j n) = true := fun n hn => by
    obtain ⟨⟨a, b⟩, ⟨c, d⟩⟩ := M.pT_bd (l := l) (j := j) (k := n) (fun i hi => by have := bl i (by omega); omega)
    exact M.pvB_true.2 (by omega)
  obtain ⟨q1, q2⟩ := bl k hk
  refine ⟨⟨p k (by omega), p (k + 1) (by omega)⟩, ⟨q1, q2⟩, ?_⟩
  rw [M.sq_yes (p k (by omega)) (p (k + 1) (by omega))]
  exact M.pts_step q1 q2
theorem keepPts {w w' : World} {g k : Nat} {x y z u : Value} (q : Below w.heap.size w w') (hg : g < w.heap.size) (h : (w.cell? ⟨g, k * 2, none⟩ = some x ∧ w.cell? ⟨g, k * 2 + 1, none⟩ = some y) ∧ (w.cell? ⟨g, (k + 1) * 2, none⟩ = some z ∧ w.cell? ⟨g, (k + 1) * 2 + 1, none⟩ = some u)) :
    (w'.cell? ⟨g, k * 2, none⟩ = some x ∧ w'.cell? ⟨g, k * 2 + 1, none⟩ = some y) ∧ (w'.cell? ⟨g, (k + 1) * 2, none⟩ = some z ∧ w'.cell? ⟨g, (k + 1) * 2 + 1, none⟩ = some u) := by
  obtain ⟨⟨h1, h2⟩, ⟨h3, h4⟩⟩ := h
  exact ⟨⟨(q.cell (p := ⟨g, k * 2, none⟩) hg).trans h1, (q.cell (p := ⟨g, k * 2 + 1, none⟩) hg).trans h2⟩, ⟨(q.cell (p := ⟨g, (k + 1) * 2, none⟩) hg).trans h3, (q.cell (p := ⟨g, (k + 1) * 2 + 1, none⟩) hg).trans h4⟩⟩
set_option maxRecDepth 20000 in
set_option maxHeartbeats 8000000 in
theorem walk (a0 : Option Addr) (len0 cap0 : Nat) (z0 : List Int) (w : World) (w0 : IsRow .u8 w a0 len0 cap0 z0) (hT : Tables w) :
    Calls Tryd.prog 6 #[.slice a0 len0 cap0] w fun e w' => e = .returned (.bool true) ∧ Below w.heap.size w w' := by
  replace hT := Lib.hid hT
  by_cases hlen : (1048576 : Int) < len0
  · go_enter Tryd.func6, Tryd.ntmps6
    go_wp2
    go_ret
    exact ⟨rfl, Below.refl _ _⟩
  · go_enter Tryd.func6, Tryd.ntmps6
    go_wp2_with fail
    refine (draw_ArmPoints a0 len0 cap0 z0 _ w0).mono ?_
    rintro e w1 ⟨a1, n1, c1, a2, n2, c2, a3, n3, c3, l, lo, hi, aj, nj, cj, J, rfl, hf, hjf, q⟩
    have bb := Lib.hid q
    clear w0 hlen q
    replace hT := Lib.hid (hT.out.later bb.out)
    obtain ⟨h1, h2, h3⟩ := hf.len
    obtain ⟨m1, m2, m3⟩ := hf.le
    obtain ⟨cp1, cp3⟩ := hf.cap
    have hr := Lib.hid hf.row
    have hr1 := hr
    have bc := Lib.hid (Below.refl w1.heap.size w1)
    have hq1 := bb
    have hj4 := hjf.len
    have hj6 := hjf.le
    have hj := Lib.hid hjf.s.row
    have hjb := Lib.hid hjf.bd
    clear hjf
    replace hj4 := Lib.hid hj4
    replace h1 := Lib.hid h1
    replace h2 := Lib.hid h2
    replace h3 := Lib.hid h3
    clear hf
    have hnb : (M.apts l lo hi J).length ≤ 1000000 := (by have := M.apts_len (l := l) (lo := lo) (hi := hi) (j := J); rw [hj4.out] at this; omega)
    obtain ⟨nL, hn⟩ : ∃ n, (M.apts l lo hi J).length = n := ⟨_, rfl⟩
    rw [hn] at hnb
    generalize hL : M.apts l lo hi J = L at *
    replace hL := Lib.hid hL
    replace hn := Lib.hid hn
    go_wp2_with fail
    have k0 := Cell3.new w1 (.slice a1 n1 c1) (.slice a2 n2 c2) (.slice a3 n3 c3) 29
    have hsB : w1.heap.size < (w1.alloc (.cells #[.slice a1 n1 c1, .slice a2 n2 c2, .slice a3 n3 c3] 29)).heap.size := by simp
    replace bb := Lib.hid (bel_after bb.out (bel_new w1 (.cells #[.slice a1 n1 c1, .slice a2 n2 c2, .slice a3 n3 c3] 29)))
    replace hT := Lib.hid (hT.out.later (bel_new w1 (.cells #[.slice a1 n1 c1, .slice a2 n2 c2, .slice a3 n3 c3] 29)))
    replace hr := Lib.hid (hr.out.after (bel_new w1 (.cells #[.slice a1 n1 c1, .slice a2 n2 c2, .slice a3 n3 c3] 29)))
    replace bc := Lib.hid (bel_after bc.out (bel_new w1 (.cells #[.slice a1 n1 c1, .slice a2 n2 c2, .slice a3 n3 c3] 29)))
    replace hj := Lib.hid (hj.out.after (bel_new w1 (.cells #[.slice a1 n1 c1, .slice a2 n2 c2, .slice a3 n3 c3] 29)))
    generalize hK : w1.heap.size = K at k0 ⊢ hsB
    have hKw : w1.heap.size ≤ K := Nat.le_of_eq hK
    clear hK
    generalize w1.alloc (.cells #[.slice a1 n1 c1, .slice a2 n2 c2, .slice a3 n3 c3] 29) = v at *
    obtain ⟨w2, rfl⟩ : ∃ u : World, u = v := ⟨_, rfl⟩
    refine (impl_apts a1 a2 a3 aj n1 c1 n2 c2 n3 c3 nj cj l lo hi J _ hT.out h1.out h2.out h3.out hj4.out (by omega) (by omega) hr.out hj.out).mono ?_
    rintro e w3 hq
    rw [hL.out] at hq
    obtain ⟨xg, yg, rfl, mg, q⟩ := ptsView hn.out hq
    replace bb := Lib.hid (bel_after bb.out q)
    replace hT := Lib.hid (hT.out.later q)
    replace hr := Lib.hid (hr.out.after q)
    replace bc := Lib.hid (bel_after bc.out q)
    replace hj := Lib.hid (hj.out.after q)
    replace k0 := k0.after q
    clear q hq
    replace mg := Lib.hid mg
    obtain ⟨k0x, k0y, k0z, k0u, k0v, k0w⟩ := id k0
    go_wp2_with fail
    clear k0x k0y k0z k0u k0v k0w
    refine (spec_apts a1 a2 a3 aj n1 c1 n2 c2 n3 c3 nj cj l lo hi J _ h1.out h2.out h3.out hj4.out (by omega) (by omega) hr.out hj.out).mono ?_
    rintro e w4 hq
    rw [hL.out] at hq
    obtain ⟨xw, yw, rfl, mw, q⟩ := ptsView hn.out hq
    replace bb := Lib.hid (bel_after bb.out q)
    replace hT := Lib.hid (hT.out.later q)
    replace hr := Lib.hid (hr.out.after q)
    replace bc := Lib.hid (bel_after bc.out q)
    replace hj := Lib.hid (hj.out.after q)
    replace k0 := k0.after q
    replace mg := Lib.hid (mg.out.after q)
    clear q hq
    replace mw := Lib.hid mw
    obtain ⟨k0x, k0y, k0z, k0u, k0v, k0w⟩ := id k0
    go_wp2_with fail
    clear k0x k0y k0z k0u k0v k0w
    refine (same_pts_yes xg xw nL yg yw L _ hn.out (by omega) mg.out.row mw.out.row).mono ?_
    rintro e w5 ⟨rfl, q⟩
    have z5 := q.size
    replace bb := Lib.hid (bel_after bb.out q)
    replace hT := Lib.hid (hT.out.later q)
    replace hr := Lib.hid (hr.out.after q)
    replace bc := Lib.hid (bel_after bc.out q)
    replace hj := Lib.hid (hj.out.after q)
    replace k0 := k0.after q
    replace mg := Lib.hid (mg.out.after q)
    replace mw := Lib.hid (mw.out.after q)
    clear q
    clear mw
    cases hA : M.jointsB l lo hi J
    · have hz : nL = 0 := by have h9 := hn.out; rw [← hL.out, ← M.apts_no hA] at h9; exact h9.symm
      replace hA := Lib.hid hA
      subst hz
      obtain ⟨k0x, k0y, k0z, k0u, k0v, k0w⟩ := id k0
      go_wp2_with fail
      clear k0x k0y k0z k0u k0v k0w
      refine (spec_joints a1 a2 a3 aj n1 c1 n2 c2 n3 c3 nj cj l lo hi J _ h1.out h2.out h3.out hj4.out (by omega) (by omega) hr.out hj.out).mono ?_
      rintro e w6 ⟨rfl, q⟩
      have z6 := q.size
      replace bb := Lib.hid (bel_after bb.out q)
      replace hT := Lib.hid (hT.out.later q)
      replace hr := Lib.hid (hr.out.after q)
      replace bc := Lib.hid (bel_after bc.out q)
      replace hj := Lib.hid (hj.out.after q)
      replace k0 := k0.after q
      replace mg := Lib.hid (mg.out.after q)
      clear q
      rw [hA.out]
      obtain ⟨x0, x1, x2, x3, x4, x5⟩ := id k0
      go_wp2_with (go_at_call 19; refine (alive _).mono ?_; rintro e w' ⟨rfl, rfl⟩)
      go_ret
      exact ⟨rfl, bb.out⟩
    · have hLp := Lib.hid (show L = M.pts l J nj from by rw [← hL.out, ← M.apts_yes hA, hj4.out])
      have hnl : nL = nj + 1 := by have h9 := hn.out; rw [hLp.out, M.pts_len] at h9; exact h9.symm
      subst hnl
      rw [hLp.out] at mg
      have hnear := Lib.hid (fun k hk => M.near_pts hA (k := k) hk)
      rw [hj4.out] at hnear
      obtain ⟨⟨e1, e2⟩, e3, _, _⟩ := M.joints_bds hA
      rw [hj4.out] at e1 e2 e3
      rw [h1.out] at e3
      have e5 : nj ≤ n1 := by omega
      have e6 : n1 ≤ nj := by omega
      clear e3
      replace hA := Lib.hid hA
      obtain ⟨bl, ol, rfl⟩ := hr.out.1.form (by rw [h1.out]; omega)
      obtain ⟨g, rfl, hgs, hgc⟩ := mg.out.row.at (by intro e9; have h9 := M.pts_len l J nj; rw [e9] at h9; simp at h9)
      have hz2 : ((nj : Int) + 1 == 0) = false := by simp; omega
      have hcell := Lib.hid (show ∀ i, i ≤ nj → _ ∧ _ from fun i hi => hgc i (by rw [M.pts_len]; omega))
      clear hgc
      obtain ⟨k0x, k0y, k0z, k0u, k0v, k0w⟩ := id k0
      go_wp2_with fail
      clear k0x k0y k0z k0u k0v k0w
      clear hq1 bc
      go_loopw [6] (fun i wr => ∃ k : Nat, i = .int .i64 k ∧ k ≤ nj ∧ Hid (Below w5.heap.size w5 wr)) (fun i _ => nj - (intOf i).toNat)
      case atStart => exact ⟨0, rfl, Nat.zero_le _, Below.refl _ _⟩
      case round =>
        obtain ⟨k, rfl, hk, bd⟩ := hrel
        replace bb := Lib.hid (bel_after bb.out bd.out)
        replace hT := Lib.hid (hT.out.later bd.out)
        replace hr := Lib.hid (hr.out.after bd.out)
        replace hj := Lib.hid (hj.out.after bd.out)
        replace k0 := k0.after bd.out
        replace mg := Lib.hid (mg.out.after bd.out)
        by_cases hlt : k < nj
        · have hk2 : (k : Int) < (nj : Int) := by omega
          have hk3 : (k : Int) < (n1 : Int) := by omega
          have hk5 : (k : Int) < (nj : Int) + 1 := by omega
          have hk6 : (k : Int) + 1 < (nj : Int) + 1 := by omega
          have hk7 : (0 : Int) ≤ (k : Int) + 1 := by omega
          have hk8 : IntKind.i64.wrap ((k : Int) + 1) = (k : Int) + 1 := IntWalk.i64_in _ (by omega)
          have y1 := hr.out.1.cell (Below.refl _ _) (k := k) (by rw [h1.out]; omega)
          obtain ⟨c1_, c2_⟩ := hcell.out k (by omega)
          obtain ⟨c3_, c4_⟩ := hcell.out (k + 1) (by omega)
          rw [M.pts_at l J (by omega)] at c1_ c2_ c3_ c4_
          rw [← bd.out.cell (p := ⟨g, k * 2, none⟩) hgs] at c1_
          rw [← bd.out.cell (p := ⟨g, k * 2 + 1, none⟩) hgs] at c2_
          rw [← bd.out.cell (p := ⟨g, (k + 1) * 2, none⟩) hgs] at c3_
          rw [← bd.out.cell (p := ⟨g, (k + 1) * 2 + 1, none⟩) hgs] at c4_
          obtain ⟨⟨v1, v2⟩, ⟨v3, v4⟩, v5, v6⟩ := hnear.out k hlt
          generalize hD : M.sq (M.pxT l J k) (M.pyT l J k) (M.pxT l J (k + 1)) (M.pyT l J (k + 1)) = D at *
          replace hD := Lib.hid hD
          generalize l.getD k 0 = x at *
          generalize M.pxT l J k = px at *
          generalize M.pyT l J k = py at *
          generalize M.pxT l J (k + 1) = qx at *
          generalize M.pyT l J (k + 1) = qy at *
          clear v1 v2
          obtain ⟨mp1, mp2⟩ := M.mul_bd (x := x - 1) (y := x - 1) (B := 501) (C := 501) (by omega) (by omega) (by omega) (by omega) (by omega)
          obtain ⟨mq1, mq2⟩ := M.mul_bd (x := x + 1) (y := x + 1) (B := 501) (C := 501) (by omega) (by omega) (by omega) (by omega) (by omega)
          have ew1 : IntKind.i64.wrap ((x - 1) * (x - 1)) = (x - 1) * (x - 1) := IntWalk.i64_in _ (by omega)
          have ew2 : IntKind.i64.wrap ((x + 1) * (x + 1)) = (x + 1) * (x + 1) := IntWalk.i64_in _ (by omega)
          have ed1 : decide (D < (x - 1) * (x - 1)) = false := by simp; omega
          have ed2 : decide ((x + 1) * (x + 1) < D) = false := by simp; omega
          obtain ⟨k0x, k0y, k0z, k0u, k0v, k0w⟩ := id k0
          go_wp2_with fail
          clear k0x k0y k0z k0u k0v k0w
          clear y1
          replace bb := Lib.hid (bel_after bb.out (bel_drew _))
          replace hT := Lib.hid (hT.out.later (bel_drew _))
          replace hr := Lib.hid (hr.out.after (bel_drew _))
          replace hj := Lib.hid (hj.out.after (bel_drew _))
          replace k0 := k0.after (bel_drew _)
          replace mg := Lib.hid (mg.out.after (bel_drew _))
          replace bd := Lib.hid (bel_after bd.out (bel_drew _))
          have s := And.intro (And.intro c1_ c2_) (And.intro c3_ c4_)
          have hgs3 := Nat.lt_of_lt_of_le hgs bd.out.size
          go_region_held3 (fun w' => (w'.cell? ⟨g, k * 2, none⟩ = some (.int .i64 px) ∧ w'.cell? ⟨g, k * 2 + 1, none⟩ = some (.int .i64 py)) ∧ (w'.cell? ⟨g, (k + 1) * 2, none⟩ = some (.int .i64 qx) ∧ w'.cell? ⟨g, (k + 1) * 2 + 1, none⟩ = some (.int .i64 qy))) (first | (with_reducible assumption) | go_keep) (first | (go_at_call 21; refine (impl_sq px py qx qy _).mono ?_; rintro e wq ⟨rfl, q⟩; rw [hD.out]; have hgs2 : g < _ := hgs3; have s := keepPts q hgs2 s; replace bb := Lib.hid (bel_after bb.out q); replace hT := Lib.hid (hT.out.later q); replace hr := Lib.hid (hr.out.after q); replace hj := Lib.hid (hj.out.after q); replace k0 := k0.after q; replace mg := Lib.hid (mg.out.after q); replace bd := Lib.hid (bel_after bd.out q); clear q))
          all_goals
            go_wp2_with fail
            go_roundw
            case rel => exact ⟨k + 1, by go_num, by omega, bd.out⟩
            case measure => simp [intOf]; omega
        · obtain rfl : k = nj := by omega
          obtain ⟨c1_, c2_⟩ := hcell.out 0 (by omega)
          rw [M.pts_at l J (Nat.zero_le _)] at c1_ c2_
          rw [← bd.out.cell (p := ⟨g, 0 * 2, none⟩) hgs] at c1_
          rw [← bd.out.cell (p := ⟨g, 0 * 2 + 1, none⟩) hgs] at c2_
          have ez : ((k : Int) + 1 == (n1 : Int) + 1) = true := by simp; omega
          obtain ⟨k0x, k0y, k0z, k0u, k0v, k0w⟩ := id k0
          go_wp2_with fail
          clear k0x k0y k0z k0u k0v k0w
          go_ret
          exact ⟨rfl, bb.out⟩
theorem own : ownKnob Tryd.prog.godebug = none := by kernel_rfl
theorem laidOut : laidOutB Tryd.prog = true := by kernel_rfl
set_option maxRecDepth 100000 in
theorem lifted (os : Os) (started : os.Started) (H : Type) (enc : TypeId × Value → H) :
    ReturnsInHanded {} Tryd.checked os 6 .any (fun w args => (Rows.fnArmPointsSpec.pre enc Tryd.prog Tryd.f6 [] false w args ∧ laidMetH Tryd.prog laid3 w) ∧ sizedMet enc Tryd.prog Tryd.f6 (OpenSpec.ofChange Rows.fnArmPointsSpec) false w args)
      (Rows.fnArmPointsSpec.post enc Tryd.prog Tryd.f6 false true false false) := by
  refine returnsInHanded_of_change_and (C := Tryd.checked) (X := fun w _ => laidMetH Tryd.prog laid3 w) (fun _ _ _ hh h => h.of_heap hh) own started (by kernel_rfl) Tryd.func6
    (ChangeSpec.witness_shaped (enc := enc) (C := Tryd.checked) (os := os) (X := fun w _ => laidMetH Tryd.prog laid3 w) false (World.doorLaid Tryd.prog 24 os) #[.slice none 0 0] 8 rfl (World.shaped_of_RefB (by kernel_rfl) (by kernel_rfl)) (by kernel_rfl) (by kernel_rfl) (by kernel_rfl) (door_met os _)) ?_
  intro W base args ds gs before hval0 hW _ _ hL _
  have hval : ∀ (j : Nat) t v, Tryd.f6.params[j]? = some t → args[j]? = some v → Value.okWide Tryd.prog W .any base t v := hval0
  have hW' := hW
  obtain ⟨p, q, hA0, hV, rfl, hfz, hnd⟩ := hW
  have hA : DataW.TrodAll enc Tryd.prog W 0 (fun _ => true) true Tryd.f6.params.toList args.toList ds p := hA0
  rw [Tryd.params6] at hA hval
  obtain ⟨v0_, vs0, d0, ds0, p0, q0, hargs, rfl, rfl, h0, r0⟩ := trodAll_cons hA
  obtain ⟨rfl, rfl, rfl⟩ := trodAll_nil r0
  obtain rfl : args = #[v0_] := by cases args; simp_all
  obtain ⟨rfl, rfl⟩ := trodVars_none hV
  obtain ⟨a0, len0, cap0, rfl⟩ := okWide_slice Tryd.underlying36 (hval 0 36 v0_ rfl rfl)
  have k0 := h0
  have lt0 : ∀ x ∈ p0, x.block < W.heap.size := by obtain ⟨m, hm⟩ := k0; exact DataW.trod_lt m _ _ _ hm
  obtain ⟨z0, w0⟩ : ∃ zs, IsRow .u8 W a0 len0 cap0 zs := by
    obtain ⟨fuel, hf⟩ := h0
    rcases open_ints Tryd.underlying36 Tryd.underlying5 (by kernel_rfl) hf with ⟨hcs, _⟩ | ⟨x, l, c, zs, hcs, _, hl, hm, hz, _, hcell, hwz⟩
    · simp [Value.cells] at hcs
      obtain ⟨rfl, rfl, rfl⟩ := hcs
      exact ⟨[], .inl ⟨rfl, rfl, rfl, rfl⟩⟩
    · simp [Value.cells] at hcs
      obtain ⟨rfl, rfl, rfl⟩ := hcs
      exact ⟨zs, .inr ⟨_, rfl, hl, hm, by simpa using hz, hcell, hwz⟩⟩
  clear hA0 hval0
  refine (walk a0 len0 cap0 z0 W w0 (of_laid hL)).mono fun e W' ⟨he, bel⟩ => ?_
  subst he
  exact ⟨_, rfl, _, _, _, [], _, [], hW', trodAll_mk1 (shut_bool Tryd.underlying4 _), (trodAll_cons_mk (Below.trod laidOut (by kernel_rfl) (of_decide_eq_true (by kernel_rfl)) k0 bel lt0) trodAll_mk0), rfl, bel.frame _, fun h => by cases h⟩
theorem over : Rows.FnArmPointsSaid :=
  OpenClaim.holds_of_wide 6 Tryd.f6 rfl rfl rfl rfl rfl rfl rfl ⟨rfl, rfl, rfl, rfl, rfl⟩ rfl rfl rfl rfl rfl (by kernel_rfl) Tryd.func6 (by kernel_rfl)
    (of_decide_eq_true (by kernel_rfl)) (by unfold Func.isWrapper; first | (rw [if_pos (by decide +kernel)]; kernel_rfl) | (rw [if_neg (by decide +kernel)]; exact ⟨rfl, rfl⟩))
    (fun os started H enc _ => lifted os started H enc)
theorem proved : Rows.FnArmPointsCardSaid :=
  Claim7.holds_tied_plain_at .later [] [.data, .data, .data] true (true, "03f185bd6a0039b5c2354483eb655e47d0847bbe158a00b79e0488207aa63ddd") false
    over (fun _ h => by cases h) (by kernel_rfl) (fun _ h => by cases h) fnArmPoints_row_tie rfl ⟨rfl, rfl⟩ (by kernel_rfl) rfl
    (fun f fn hf hfn => by
      obtain rfl : f = 6 := Option.some.inj ((show Tryd.prog.funcNamed "loop.example/robotcell/laws.FnArmPoints" = some 6 by kernel_rfl).symm.trans hf) |>.symm
      obtain rfl : fn = Tryd.f6 := (Option.some.inj (Tryd.func6.symm.trans hfn)).symm
      exact ⟨by kernel_rfl, fun j t ht => by
        rw [Tryd.params6] at ht
        have hm : t ∈ [36] := by simpa using Array.mem_of_getElem? ht
        have hall : ([36].all fun u => !Tryd.prog.wantsStandIn u) = true := by kernel_rfl
        exact (show Tryd.prog.wantsStandIn t = false by simpa using List.all_eq_true.1 hall t hm)⟩)
    (by kernel_rfl)
#print axioms proved
end Go.Proofs.YtegmhflbndnadaaDoor.fnArmPoints
