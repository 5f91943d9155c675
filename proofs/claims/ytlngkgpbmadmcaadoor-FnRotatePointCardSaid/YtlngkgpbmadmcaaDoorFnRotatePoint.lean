/- Proves the tied card of the law FnRotatePoint: it returns true for every input, the tables of the sine being as laid by the program text. -/
import Derived.Test.YtlngkgpbmadmcaaDoorCards
import Derived.Test.YtlngkgpbmadmcaaDoorTie
import Derived.Test.YtlngkgpbmadmcaaDoorLaid
import Derived.Test.YtlngkgpbmadmcaaDoorRotMath
import Derived.Test.YtlngkgpbmadmcaaDoorDrawRot
import Derived.Test.YtlngkgpbmadmcaaDoorRootA
import Derived.Test.YtlngkgpbmadmcaaDoorAlive
import Derived.ChangeOld
import Derived.ShutString
import Derived.Lib.SmallJoins
import Derived.LaidMore
import Derived.Stop.Joined
import Derived.SevenTiedAt
namespace Go.Proofs.YtlngkgpbmadmcaaDoor.fnRotatePoint
open Go.ChangeShapes Go.WideShapes Go.ChangeAt Go.RowKit
set_option linter.unusedVariables false
theorem rot90 (x y : Int) (w : World) (hT : Tables w) (hv : M.pvB x y = true) :
    Calls Tryd.prog 21 #[.agg #[.int .i64 x, .int .i64 y], .int .i64 90] w fun e w' => e = .returned (.agg #[.int .i64 (-y), .int .i64 x]) ∧ Below w.heap.size w w' := by
  have z := impl_rot x y 90 w hT
  rw [(M.rot_yes 90 hv).1, (M.rot_yes 90 hv).2, (turn_90 x y).1, (turn_90 x y).2] at z
  exact z
theorem rot0 (x y : Int) (w : World) (hT : Tables w) (hv : M.pvB x y = true) :
    Calls Tryd.prog 21 #[.agg #[.int .i64 x, .int .i64 y], .int .i64 0] w fun e w' => e = .returned (.agg #[.int .i64 x, .int .i64 y]) ∧ Below w.heap.size w w' := by
  have z := impl_rot x y 0 w hT
  rw [(M.rot_yes 0 hv).1, (M.rot_yes 0 hv).2, (turn_0 x y).1, (turn_0 x y).2] at z
  exact z
theorem abs_le (n b : Int) (w : World) (h1 : -4611686018427387904 ≤ n) (h2 : n ≤ 4611686018427387904) (h3 : n ≤ b) (h4 : -n ≤ b) :
    Calls Tryd.prog 17 #[.int .i64 n] w fun e w' => ∃ A, e = .returned (.int .i64 A) ∧ A ≤ b ∧ w = w' := by
  refine (laws_abs n w h1 h2).mono ?_
  rintro e w' ⟨rfl, rfl⟩
  exact ⟨_, rfl, by split <;> omega, rfl⟩
set_option maxRecDepth 20000 in
set_option maxHeartbeats 4000000 in
theorem walk (a0 : Option Addr) (len0 cap0 : Nat) (z0 : List Int) (w : World) (w0 : IsRow .u8 w a0 len0 cap0 z0) (hT : Tables w) :
    Calls Tryd.prog 8 #[.slice a0 len0 cap0] w fun e w' => e = .returned (.bool true) ∧ Below w.heap.size w w' := by
  by_cases hlen : (1048576 : Int) < len0
  · go_enter Tryd.func8, Tryd.ntmps8
    go_wp2
    go_ret
    exact ⟨rfl, Below.refl _ _⟩
  · replace hT := Lib.hid hT
    go_enter Tryd.func8, Tryd.ntmps8
    go_wp2_with fail
    refine (draw_rot a0 len0 cap0 z0 _ w0).mono ?_
    rintro e wd ⟨⟨x, y, d, rfl, ⟨x1, x2⟩, ⟨y1, y2⟩⟩, hb⟩
    have B0 := Box.new wd x y 29
    have hq := Lib.hid (bel_alloc hb (.cells #[.int .i64 x, .int .i64 y] 29))
    replace hT := Lib.hid (hT.out.later hq.out)
    clear w0 hlen hb
    obtain ⟨g, hg⟩ : ∃ g, wd.heap.size = g := ⟨_, rfl⟩
    rw [hg] at B0
    obtain ⟨c1, c2, c3⟩ := B0
    go_wp2_with fail
    refine (impl_rot x y d _ hT.out).mono ?_
    rintro e w1 ⟨rfl, b⟩
    have B0 := (Box.below ⟨c1, c2, c3⟩ b c3).alloc (.cells #[.int .i64 (M.rx x y d), .int .i64 (M.ry x y d)] 29)
    have B1 := Box.new w1 (M.rx x y d) (M.ry x y d) 29
    have hb1 := (bel_alloc b (.cells #[.int .i64 (M.rx x y d), .int .i64 (M.ry x y d)] 29))
    replace hT := Lib.hid (hT.out.later hb1)
    replace hq := Lib.hid (bel_trans hq.out (Lib.hid hb1))
    clear b c1 c2 c3 hb1
    obtain ⟨h, hh⟩ : ∃ h, w1.heap.size = h := ⟨_, rfl⟩
    rw [hh] at B1
    obtain ⟨c1, c2, c3⟩ := B0
    obtain ⟨c4, c5, c6⟩ := B1
    go_wp2_with fail
    have s := And.intro (And.intro c1 c2) (And.intro c4 c5)
    generalize w1.alloc (.cells #[.int .i64 (M.rx x y d), .int .i64 (M.ry x y d)] 29) = v at *
    clear c1 c2 c3 c4 c5 c6
    go_region_held3 (fun w' => (w'.cell? ⟨g, 0, none⟩ = some (.int .i64 x) ∧ w'.cell? ⟨g, 1, none⟩ = some (.int .i64 y)) ∧ (w'.cell? ⟨h, 0, none⟩ = some (.int .i64 (M.rx x y d)) ∧ w'.cell? ⟨h, 1, none⟩ = some (.int .i64 (M.ry x y d)))) (first | (with_reducible assumption) | go_keep) (first | (go_at_call 19; refine (spec_rot _ _ _ _).mono ?_; rintro e w2 ⟨rfl, b⟩; have s := keep4 b (by with_reducible assumption); have hb2 := Lib.hid b; clear b))
    all_goals
      have hT2 := Lib.hid (show Tables w2 from Tables.later (w := v.drew) hT.out hb2.out)
      have hq2 := Lib.hid (show Below w.heap.size w w2 from bel_trans hq.out.drew hb2)
      obtain ⟨⟨c1, c2⟩, ⟨c4, c5⟩⟩ := s
      clear hT hq hb2
      cases hv : M.pvB x y
      · obtain ⟨e1, e2⟩ := M.rot_no d hv
        rw [e1] at c4
        rw [e2] at c5
        rw [e1, e2]
        go_wp2_with fail
        refine (spec_pv _ _ _).mono ?_
        rintro e w3 ⟨rfl, b⟩
        rw [hv]
        have s4 := keep4 b ⟨⟨c1, c2⟩, ⟨c4, c5⟩⟩
        replace hq2 := Lib.hid (bel_trans hq2.out (Lib.hid b))
        clear b c1 c2 c4 c5
        obtain ⟨⟨c1, c2⟩, ⟨c4, c5⟩⟩ := s4
        go_wp2_with (go_at_call 25; refine (alive _).mono ?_; rintro e w' ⟨rfl, rfl⟩)
        go_ret
        exact ⟨ret_bool (by simp), hq2.out⟩
      · obtain ⟨e1, e2⟩ := M.rot_yes d hv
        obtain ⟨v1, v2, v3, v4⟩ := M.pvB_true.1 hv
        obtain ⟨⟨t1, t2⟩, ⟨t3, t4⟩⟩ := turn_small (d := d) v1 v2 v3 v4
        have hlen := Lib.hid (fun a b => rot_len (x := x) (y := y) (d := d) (w := a) (i := b))
        rw [e1] at c4
        rw [e2] at c5
        rw [e1, e2]
        generalize M.tx x y d = p at *
        generalize M.ty x y d = q at *
        go_wp2_with fail
        refine (spec_pv _ _ _).mono ?_
        rintro e w3 ⟨rfl, b⟩
        rw [hv]
        have s4 := keep4 b ⟨⟨c1, c2⟩, ⟨c4, c5⟩⟩
        replace hq2 := Lib.hid (bel_trans hq2.out (Lib.hid b))
        replace hT2 := Lib.hid (hT2.out.later b)
        clear b c1 c2 c4 c5
        obtain ⟨⟨c1, c2⟩, ⟨c4, c5⟩⟩ := s4
        obtain ⟨m1, m2⟩ := M.mul_bd (x := x) (y := x) (B := 10000) (C := 10000) (by omega) (by omega) (by omega) (by omega) (by omega)
        obtain ⟨m3, m4⟩ := M.mul_bd (x := y) (y := y) (B := 10000) (C := 10000) (by omega) (by omega) (by omega) (by omega) (by omega)
        obtain ⟨m5, m6⟩ := M.mul_bd (x := p) (y := p) (B := 20001) (C := 20001) (by omega) (by omega) (by omega) (by omega) (by omega)
        obtain ⟨m7, m8⟩ := M.mul_bd (x := q) (y := q) (B := 20001) (C := 20001) (by omega) (by omega) (by omega) (by omega) (by omega)
        have z1 := sq_nn x
        have z2 := sq_nn y
        have z3 := sq_nn p
        have z4 := sq_nn q
        go_wp2_with fail
        refine (impl_root (x * x + y * y) _).mono ?_
        rintro e w' ⟨r, rfl, hr, rfl⟩
        go_wp2_with fail
        refine (impl_root (p * p + q * q) _).mono ?_
        rintro e w' ⟨i, rfl, hi, rfl⟩
        unfold IsRoot at hr hi
        rw [if_pos (by omega)] at hr hi
        obtain ⟨l1, l2⟩ := hlen.out r i hr hi
        have rs := root_small hr.1 hr.2.1 (by omega)
        have is := root_small hi.1 hi.2.1 (by omega)
        have r0 := hr.1
        have i0 := hi.1
        clear hlen hr hi m1 m2 m3 m4 m5 m6 m7 m8 z1 z2 z3 z4
        have k1 : IntKind.i64.wrap (-y) = -y := IntWalk.i64_in _ (by omega)
        have k2 : IntKind.i64.wrap (r - i) = r - i := IntWalk.i64_in _ (by omega)
        have k3 : r.tdiv 1000 = r / 1000 := Int.tdiv_eq_ediv_of_nonneg (by omega)
        have k4 : IntKind.i64.wrap (r / 1000) = r / 1000 := IntWalk.i64_in _ (by omega)
        have k5 : IntKind.i64.wrap (2 + r / 1000) = 2 + r / 1000 := IntWalk.i64_in _ (by omega)
        have s := And.intro (And.intro c1 c2) (And.intro c4 c5)
        have j1 : r - i ≤ 2 + r / 1000 := by omega
        have j2 : -(r - i) ≤ 2 + r / 1000 := by omega
        clear c1 c2 c4 c5 l1 l2 t1 t2 t3 t4 e1 e2
        go_wp2_with fail
        go_region_held3 (fun w' => (w'.cell? ⟨g, 0, none⟩ = some (.int .i64 x) ∧ w'.cell? ⟨g, 1, none⟩ = some (.int .i64 y)) ∧ (w'.cell? ⟨h, 0, none⟩ = some (.int .i64 p) ∧ w'.cell? ⟨h, 1, none⟩ = some (.int .i64 q))) (first | (with_reducible assumption) | go_keep) (first | (go_at_call_of 21 (Value.int IntKind.i64 90); refine (rot90 x y _ (by exact hT2.out) hv).mono ?_; rintro e wn ⟨rfl, b⟩; have hb := Lib.hid b; have s := keep4 b (by with_reducible assumption); have hT3 := Lib.hid (Tables.later (hb := b) (by exact hT2.out)); clear b) | (go_at_call 21; refine (rot0 x y _ (by first | exact hT3.out | exact hT2.out) hv).mono ?_; rintro e wm ⟨rfl, b⟩; have hb := Lib.hid b; have s := keep4 b (by with_reducible assumption); clear b) | (go_at_call 17; refine (abs_le _ (2 + r / 1000) _ (by omega) (by omega) j1 j2).mono ?_; rintro e w9 ⟨A, rfl, hA, rfl⟩))
        all_goals
          go_wp2_with fail
          go_ret
          exact ⟨ret_bool (by first | (simp; done) | (simp; omega)), by repeat (first | exact hq2.out | refine Below.drew ?_ | refine bel_trans ?_ (by with_reducible assumption))⟩
theorem own : ownKnob Tryd.prog.godebug = none := by kernel_rfl
theorem laidOut : laidOutB Tryd.prog = true := by kernel_rfl
set_option maxRecDepth 100000 in
theorem lifted (os : Os) (started : os.Started) (H : Type) (enc : TypeId × Value → H) :
    ReturnsInHanded {} Tryd.checked os 8 .any (fun w args => (Rows.fnRotatePointSpec.pre enc Tryd.prog Tryd.f8 [] false w args ∧ laidMetH Tryd.prog laid3 w) ∧ sizedMet enc Tryd.prog Tryd.f8 (OpenSpec.ofChange Rows.fnRotatePointSpec) false w args)
      (Rows.fnRotatePointSpec.post enc Tryd.prog Tryd.f8 false true false false) := by
  refine returnsInHanded_of_change_and (C := Tryd.checked) (X := fun w _ => laidMetH Tryd.prog laid3 w) (fun _ _ _ hh h => h.of_heap hh) own started (by kernel_rfl) Tryd.func8
    (ChangeSpec.witness_shaped (enc := enc) (C := Tryd.checked) (os := os) (X := fun w _ => laidMetH Tryd.prog laid3 w) false (World.doorLaid Tryd.prog 24 os) #[.slice none 0 0] 8 rfl (World.shaped_of_RefB (by kernel_rfl) (by kernel_rfl)) (by kernel_rfl) (by kernel_rfl) (by kernel_rfl) (door_met os _)) ?_
  intro W base args ds gs before hval0 hW _ _ hL _
  have hval : ∀ (j : Nat) t v, Tryd.f8.params[j]? = some t → args[j]? = some v → Value.okWide Tryd.prog W .any base t v := hval0
  have hW' := hW
  obtain ⟨p, q, hA0, hV, rfl, hfz, hnd⟩ := hW
  have hA : DataW.TrodAll enc Tryd.prog W 0 (fun _ => true) true Tryd.f8.params.toList args.toList ds p := hA0
  rw [Tryd.params8] at hA hval
  obtain ⟨v0_, vs0, d0, ds0, p0, q0, hargs, rfl, rfl, h0, r0⟩ := trodAll_cons hA
  obtain ⟨rfl, rfl, rfl⟩ := trodAll_nil r0
  obtain rfl : args = #[v0_] := by cases args; simp_all
  obtain ⟨rfl, rfl⟩ := trodVars_none hV
  obtain ⟨a0, len0, cap0, rfl⟩ := okWide_slice Tryd.underlying24 (hval 0 24 v0_ rfl rfl)
  have k0 := h0
  have lt0 : ∀ x ∈ p0, x.block < W.heap.size := by obtain ⟨m, hm⟩ := k0; exact DataW.trod_lt m _ _ _ hm
  obtain ⟨z0, w0⟩ : ∃ zs, IsRow .u8 W a0 len0 cap0 zs := by
    obtain ⟨fuel, hf⟩ := h0
    rcases open_ints Tryd.underlying24 Tryd.underlying5 (by kernel_rfl) hf with ⟨hcs, _⟩ | ⟨x, l, c, zs, hcs, _, hl, hm, hz, _, hcell, hwz⟩
    · simp [Value.cells] at hcs
      obtain ⟨rfl, rfl, rfl⟩ := hcs
      exact ⟨[], .inl ⟨rfl, rfl, rfl, rfl⟩⟩
    · simp [Value.cells] at hcs
      obtain ⟨rfl, rfl, rfl⟩ := hcs
      exact ⟨zs, .inr ⟨_, rfl, hl, hm, by simpa using hz, hcell, hwz⟩⟩
  clear hA0 hval0
  refine (walk a0 len0 cap0 z0 W w0 (of_laid hL)).mono fun e W' ⟨he, bel⟩ => ?_
  subst he
  exact ⟨_, rfl, _, _, _, [], _, [], hW', trodAll_mk1 (shut_bool Tryd.underlying4 _), (trodAll_cons_mk (Below.trod laidOut (by kernel_rfl) (of_decide_eq_true (by kernel_rfl)) k0 bel lt0) trodAll_mk0), rfl, bel.frame _, fun h => by cases h⟩
theorem over : Rows.FnRotatePointSaid :=
  OpenClaim.holds_of_wide 8 Tryd.f8 rfl rfl rfl rfl rfl rfl rfl ⟨rfl, rfl, rfl, rfl, rfl⟩ rfl rfl rfl rfl rfl (by kernel_rfl) Tryd.func8 (by kernel_rfl)
    (of_decide_eq_true (by kernel_rfl)) (by unfold Func.isWrapper; first | (rw [if_pos (by decide +kernel)]; kernel_rfl) | (rw [if_neg (by decide +kernel)]; exact ⟨rfl, rfl⟩))
    (fun os started H enc _ => lifted os started H enc)
theorem proved : Rows.FnRotatePointCardSaid :=
  Claim7.holds_tied_plain_at .later [] [.data, .data, .data] true (true, "ea8374f85c4f9e5ce2e7bf72290c1c4fbe94408adb395a757af16f730ae64a0b") false
    over (fun _ h => by cases h) (by kernel_rfl) (fun _ h => by cases h) fnRotatePoint_row_tie rfl ⟨rfl, rfl⟩ (by kernel_rfl) rfl
    (fun f fn hf hfn => by
      obtain rfl : f = 8 := Option.some.inj ((show Tryd.prog.funcNamed "loop.example/robotcell/laws.FnRotatePoint" = some 8 by kernel_rfl).symm.trans hf) |>.symm
      obtain rfl : fn = Tryd.f8 := (Option.some.inj (Tryd.func8.symm.trans hfn)).symm
      exact ⟨by kernel_rfl, fun j t ht => by
        rw [Tryd.params8] at ht
        have hm : t ∈ [24] := by simpa using Array.mem_of_getElem? ht
        have hall : ([24].all fun u => !Tryd.prog.wantsStandIn u) = true := by kernel_rfl
        exact (show Tryd.prog.wantsStandIn t = false by simpa using List.all_eq_true.1 hall t hm)⟩)
    (by kernel_rfl)
#print axioms proved
end Go.Proofs.YtlngkgpbmadmcaaDoor.fnRotatePoint
