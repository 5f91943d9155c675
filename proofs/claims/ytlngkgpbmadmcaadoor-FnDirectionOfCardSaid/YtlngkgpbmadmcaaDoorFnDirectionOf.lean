/- Proves the tied card of the law FnDirectionOf: it returns true for every input, the tables of the sine being as laid by the program text. -/
import Derived.Test.YtlngkgpbmadmcaaDoorCards
import Derived.Test.YtlngkgpbmadmcaaDoorTie
import Derived.Test.YtlngkgpbmadmcaaDoorLaid
import Derived.Test.YtlngkgpbmadmcaaDoorDirMath
import Derived.Test.YtlngkgpbmadmcaaDoorDrawDir
import Derived.Test.YtlngkgpbmadmcaaDoorAlive
import Derived.ChangeOld
import Derived.ShutString
import Derived.Lib.SmallJoins
import Derived.LaidMore
import Derived.Stop.Joined
import Derived.SevenTiedAt
namespace Go.Proofs.YtlngkgpbmadmcaaDoor.fnDirectionOf
open Go.ChangeShapes Go.WideShapes Go.ChangeAt Go.RowKit
set_option linter.unusedVariables false
set_option maxRecDepth 20000 in
set_option maxHeartbeats 4000000 in
theorem walk (a0 : Option Addr) (len0 cap0 : Nat) (z0 : List Int) (w : World) (w0 : IsRow .u8 w a0 len0 cap0 z0) (hT : Tables w) :
    Calls Tryd.prog 10 #[.slice a0 len0 cap0] w fun e w' => e = .returned (.bool true) ∧ Below w.heap.size w w' := by
  by_cases hlen : (1048576 : Int) < len0
  · go_enter Tryd.func10, Tryd.ntmps10
    go_wp2
    go_ret
    exact ⟨rfl, Below.refl _ _⟩
  · replace hT := Lib.hid hT
    go_enter Tryd.func10, Tryd.ntmps10
    go_wp2_with fail
    refine (draw_dir a0 len0 cap0 z0 _ w0).mono ?_
    rintro e wd ⟨⟨x, y, rfl, ⟨x1, x2⟩, ⟨y1, y2⟩⟩, hb⟩
    have B0 := Box.new wd x y 29
    have hq := Lib.hid (bel_alloc hb (.cells #[.int .i64 x, .int .i64 y] 29))
    replace hT := Lib.hid (hT.out.later hq.out)
    clear w0 hlen hb
    obtain ⟨g, hg⟩ : ∃ g, wd.heap.size = g := ⟨_, rfl⟩
    rw [hg] at B0
    obtain ⟨c1, c2, c3⟩ := B0
    go_wp2_with fail
    refine (impl_dir x y _ hT.out).mono ?_
    rintro e w1 ⟨rfl, b⟩
    have B0 := Box.below ⟨c1, c2, c3⟩ b c3
    replace hT := Lib.hid (hT.out.later b)
    replace hq := Lib.hid (bel_trans hq.out (Lib.hid b))
    clear b c1 c2 c3
    obtain ⟨c1, c2, c3⟩ := B0
    go_wp2_with fail
    refine (spec_dir x y _).mono ?_
    rintro e w2 ⟨rfl, b⟩
    have B0 := Box.below ⟨c1, c2, c3⟩ b c3
    replace hT := Lib.hid (hT.out.later b)
    replace hq := Lib.hid (bel_trans hq.out (Lib.hid b))
    clear b c1 c2 c3
    obtain ⟨c1, c2, c3⟩ := B0
    by_cases hv : M.pvB x y = true ∧ ¬ (x = 0 ∧ y = 0)
    · obtain ⟨hv, h0⟩ := hv
      have hop := Lib.hid (dir_opp hv h0)
      have hax := Lib.hid (dir_axis (x := x) (y := y))
      have hmx := Lib.hid (arg_max x y 359).1
      have hle := arg_le x y 359
      rw [M.dir_yes hv h0]
      obtain ⟨v1, v2, v3, v4⟩ := M.pvB_true.1 hv
      clear hv h0
      generalize M.arg x y 359 = n at *
      obtain ⟨⟨⟨f1, f2⟩, ⟨f3, f4⟩⟩, _⟩ := turn_bd (x := x) (y := y) (n : Int) (by omega) (by omega) (by omega) (by omega)
      have f5 : IntKind.i64.wrap (x * M.cosine (n : Int)) = x * M.cosine (n : Int) := IntWalk.i64_in _ (by omega)
      have f6 : IntKind.i64.wrap (y * M.sine (n : Int)) = y * M.sine (n : Int) := IntWalk.i64_in _ (by omega)
      have f7 : IntKind.i64.wrap (x * M.cosine (n : Int) + y * M.sine (n : Int)) = x * M.cosine (n : Int) + y * M.sine (n : Int) := IntWalk.i64_in _ (by omega)
      go_wp2_with fail
      go_quiet (first | (go_at_call 14; refine Calls.quiet_of_same (flip (impl_cosine _ _ (tdn _ hT.out)))) | (go_at_call 12; refine Calls.quiet_of_same (flip (impl_sine _ _ (tdn _ hT.out)))))
      go_wp2_with fail
      go_loopw [6] (fun i wr => ∃ k : Nat, k ≤ 72 ∧ i = .int .i64 (5 * (k : Int)) ∧ Tables wr ∧ Box wr g x y ∧ Below w.heap.size w wr) (fun i _ => 360 - (intOf i).toNat)
      case atStart => exact ⟨0, by omega, rfl, by exact hT.out, ⟨c1, c2, c3⟩, by first | exact hq.out | exact bdn _ hq.out⟩
      case round =>
        obtain ⟨k, hk, rfl, hT, ⟨d1, d2, d3⟩, hq⟩ := hrel
        replace hq := Lib.hid hq
        replace hT := Lib.hid hT
        clear c1 c2 c3
        by_cases hlt : k < 72
        · have hm := hmx.out (5 * k) (by omega)
          rw [show ((5 * k : Nat) : Int) = 5 * (k : Int) by omega] at hm
          unfold M.pj at hm
          obtain ⟨⟨⟨g1, g2⟩, ⟨g3, g4⟩⟩, _⟩ := turn_bd (x := x) (y := y) (5 * (k : Int)) (by omega) (by omega) (by omega) (by omega)
          have g5 : IntKind.i64.wrap (x * M.cosine (5 * (k : Int))) = x * M.cosine (5 * (k : Int)) := IntWalk.i64_in _ (by omega)
          have g6 : IntKind.i64.wrap (y * M.sine (5 * (k : Int))) = y * M.sine (5 * (k : Int)) := IntWalk.i64_in _ (by omega)
          have g7 : IntKind.i64.wrap (x * M.cosine (5 * (k : Int)) + y * M.sine (5 * (k : Int))) = x * M.cosine (5 * (k : Int)) + y * M.sine (5 * (k : Int)) := IntWalk.i64_in _ (by omega)
          go_wp2_with fail
          go_quiet (first | (go_at_call 14; refine Calls.quiet_of_same (flip (impl_cosine _ _ (tdn _ hT.out)))) | (go_at_call 12; refine Calls.quiet_of_same (flip (impl_sine _ _ (tdn _ hT.out)))))
          go_wp2_with fail
          go_roundw
          case rel => exact ⟨k + 1, by omega, by go_num, by exact hT.out, ⟨d1, d2, d3⟩, by first | exact hq.out | exact bdn _ hq.out⟩
          case measure => simp [intOf]; omega
        · obtain rfl : k = 72 := (by omega)
          have hfin : y ≠ 0 ∨ x < 0 ∨ n = 0 := by
            by_cases hy : y = 0
            · by_cases hx : x < 0
              · exact .inr (.inl hx)
              · exact .inr (.inr (hax.out (by omega) hy))
            · exact .inl hy
          clear hmx hax
          replace hop := hop.out
          go_wp2_with fail
          refine (impl_dir (-x) (-y) _ hT.out).mono ?_
          rintro e w3 ⟨rfl, b⟩
          have B0 := Box.below ⟨d1, d2, d3⟩ b d3
          replace hq := Lib.hid (bel_trans hq.out (Lib.hid b))
          clear b d1 d2 d3
          obtain ⟨d1, d2, d3⟩ := B0
          generalize M.dir (-x) (-y) = q at *
          go_wp2_with (go_at_call 30; refine (impl_ab _ _ _).mono ?_; rintro e w' ⟨rfl, rfl⟩)
          all_goals
            go_ret
            exact ⟨ret_bool (by first | (simp; done) | (simp; omega) | omega), by with_reducible exact hq.out⟩
    · have hd : M.dir x y = -1 := by unfold M.dir; rw [if_neg hv]
      rw [hd]
      go_wp2_with (go_at_call 25; refine (alive _).mono ?_; rintro e w' ⟨rfl, rfl⟩)
      go_ret
      exact ⟨ret_bool (by simp), hq.out⟩
theorem own : ownKnob Tryd.prog.godebug = none := by kernel_rfl
theorem laidOut : laidOutB Tryd.prog = true := by kernel_rfl
set_option maxRecDepth 100000 in
theorem lifted (os : Os) (started : os.Started) (H : Type) (enc : TypeId × Value → H) :
    ReturnsInHanded {} Tryd.checked os 10 .any (fun w args => (Rows.fnDirectionOfSpec.pre enc Tryd.prog Tryd.f10 [] false w args ∧ laidMetH Tryd.prog laid3 w) ∧ sizedMet enc Tryd.prog Tryd.f10 (OpenSpec.ofChange Rows.fnDirectionOfSpec) false w args)
      (Rows.fnDirectionOfSpec.post enc Tryd.prog Tryd.f10 false true false false) := by
  refine returnsInHanded_of_change_and (C := Tryd.checked) (X := fun w _ => laidMetH Tryd.prog laid3 w) (fun _ _ _ hh h => h.of_heap hh) own started (by kernel_rfl) Tryd.func10
    (ChangeSpec.witness_shaped (enc := enc) (C := Tryd.checked) (os := os) (X := fun w _ => laidMetH Tryd.prog laid3 w) false (World.doorLaid Tryd.prog 24 os) #[.slice none 0 0] 8 rfl (World.shaped_of_RefB (by kernel_rfl) (by kernel_rfl)) (by kernel_rfl) (by kernel_rfl) (by kernel_rfl) (door_met os _)) ?_
  intro W base args ds gs before hval0 hW _ _ hL _
  have hval : ∀ (j : Nat) t v, Tryd.f10.params[j]? = some t → args[j]? = some v → Value.okWide Tryd.prog W .any base t v := hval0
  have hW' := hW
  obtain ⟨p, q, hA0, hV, rfl, hfz, hnd⟩ := hW
  have hA : DataW.TrodAll enc Tryd.prog W 0 (fun _ => true) true Tryd.f10.params.toList args.toList ds p := hA0
  rw [Tryd.params10] at hA hval
  obtain ⟨v0_, vs0, d0, ds0, p0, q0, hargs, rfl, rfl, h0, r0⟩ := trodAll_cons hA
  obtain ⟨rfl, rfl, rfl⟩ := trodAll_nil r0
  obtain rfl : args = #[v0_] := by cases args; simp_all
  obtain ⟨rfl, rfl⟩ := trodVars_none hV
  obtain ⟨a0, len0, cap0, rfl⟩ := okWide_slice Tryd.underlying24 (hval 0 24 v0_ rfl rfl)
  have k0 := h0
  have lt0 : ∀ x ∈ p0, x.block < W.heap.size := by obtain ⟨m, hm⟩ := k0; exact DataW.trod_lt m _ _ _ hm
  obtain ⟨z0, w0⟩ : ∃ zs, IsRow .u8 W a0 len0 cap0 zs := by
    obtain ⟨fuel, hf⟩ := h0
    rcases open_ints Tryd.underlying24 Tryd.underlying5 (by kernel_rfl) hf with ⟨hcs, _⟩ | ⟨x, l, c, zs, hcs, _, hl, hm, hz, _, hcell, hwz⟩
    · simp [Value.cells] at hcs
      obtain ⟨rfl, rfl, rfl⟩ := hcs
      exact ⟨[], .inl ⟨rfl, rfl, rfl, rfl⟩⟩
    · simp [Value.cells] at hcs
      obtain ⟨rfl, rfl, rfl⟩ := hcs
      exact ⟨zs, .inr ⟨_, rfl, hl, hm, by simpa using hz, hcell, hwz⟩⟩
  clear hA0 hval0
  refine (walk a0 len0 cap0 z0 W w0 (of_laid hL)).mono fun e W' ⟨he, bel⟩ => ?_
  subst he
  exact ⟨_, rfl, _, _, _, [], _, [], hW', trodAll_mk1 (shut_bool Tryd.underlying4 _), (trodAll_cons_mk (Below.trod laidOut (by kernel_rfl) (of_decide_eq_true (by kernel_rfl)) k0 bel lt0) trodAll_mk0), rfl, bel.frame _, fun h => by cases h⟩
theorem over : Rows.FnDirectionOfSaid :=
  OpenClaim.holds_of_wide 10 Tryd.f10 rfl rfl rfl rfl rfl rfl rfl ⟨rfl, rfl, rfl, rfl, rfl⟩ rfl rfl rfl rfl rfl (by kernel_rfl) Tryd.func10 (by kernel_rfl)
    (of_decide_eq_true (by kernel_rfl)) (by unfold Func.isWrapper; first | (rw [if_pos (by decide +kernel)]; kernel_rfl) | (rw [if_neg (by decide +kernel)]; exact ⟨rfl, rfl⟩))
    (fun os started H enc _ => lifted os started H enc)
theorem proved : Rows.FnDirectionOfCardSaid :=
  Claim7.holds_tied_plain_at .later [] [.data, .data, .data] true (true, "ea8374f85c4f9e5ce2e7bf72290c1c4fbe94408adb395a757af16f730ae64a0b") false
    over (fun _ h => by cases h) (by kernel_rfl) (fun _ h => by cases h) fnDirectionOf_row_tie rfl ⟨rfl, rfl⟩ (by kernel_rfl) rfl
    (fun f fn hf hfn => by
      obtain rfl : f = 10 := Option.some.inj ((show Tryd.prog.funcNamed "loop.example/robotcell/laws.FnDirectionOf" = some 10 by kernel_rfl).symm.trans hf) |>.symm
      obtain rfl : fn = Tryd.f10 := (Option.some.inj (Tryd.func10.symm.trans hfn)).symm
      exact ⟨by kernel_rfl, fun j t ht => by
        rw [Tryd.params10] at ht
        have hm : t ∈ [24] := by simpa using Array.mem_of_getElem? ht
        have hall : ([24].all fun u => !Tryd.prog.wantsStandIn u) = true := by kernel_rfl
        exact (show Tryd.prog.wantsStandIn t = false by simpa using List.all_eq_true.1 hall t hm)⟩)
    (by kernel_rfl)
#print axioms proved
end Go.Proofs.YtlngkgpbmadmcaaDoor.fnDirectionOf
