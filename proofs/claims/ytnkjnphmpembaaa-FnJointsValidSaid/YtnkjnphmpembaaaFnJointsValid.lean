/- Proves that the law FnJointsValid returns true for every input. Conditions: none. -/
import Derived.Test.YtnkjnphmpembaaaRows
import Derived.Test.YtnkjnphmpembaaaDraws
import Derived.Test.YtnkjnphmpembaaaJoints
import Derived.Test.YtnkjnphmpembaaaAlive
import Derived.ChangeOld
import Derived.ShutString
import Derived.Lib.SmallJoins
import Derived.Deep.RegionHeld3
import Derived.Deep.DeepCutAuto
import Derived.Deep.CutBlock
namespace Go.Proofs.Ytnkjnphmpembaaa.fnJointsValid
open Go.ChangeShapes Go.WideShapes Go.ChangeAt Go.RowKit
set_option linter.unusedVariables false
theorem M.joints_low {l lo hi : List Int} (h : M.armB l lo hi = true) : M.jointsB l lo hi lo = true := by
  obtain ⟨⟨⟨e1, e2⟩, e3, e4⟩, hv⟩ := M.armB_true h
  exact (M.joints_ok h e3 (fun k hk => M.inB_iff.2 (by have := hv k (by omega); omega))).symm
theorem M.joints_high {l lo hi : List Int} (h : M.armB l lo hi = true) : M.jointsB l lo hi hi = true := by
  obtain ⟨⟨⟨e1, e2⟩, e3, e4⟩, hv⟩ := M.armB_true h
  exact (M.joints_ok h e4 (fun k hk => M.inB_iff.2 (by have := hv k (by omega); omega))).symm
theorem M.joints_over {l lo hi : List Int} (h : M.armB l lo hi = true) : M.jointsB l lo hi (hi.set 0 (hi.getD 0 0 + 1)) = false := by
  obtain ⟨⟨⟨e1, e2⟩, e3, e4⟩, hv⟩ := M.armB_true h
  refine (M.joints_bad (k := 0) (by rw [List.length_set]; omega) (M.inB_no ?_)).symm
  cases hi with
  | nil => simp at e4; omega
  | cons x t => simp; omega
theorem M.joints_nil {l lo hi : List Int} (h : M.armB l lo hi = true) : M.jointsB l lo hi [] = false := by
  obtain ⟨⟨⟨e1, e2⟩, e3, e4⟩, hv⟩ := M.armB_true h
  exact (M.joints_len (by simp; omega)).symm
set_option maxRecDepth 20000 in
set_option maxHeartbeats 8000000 in
theorem walk (a0 : Option Addr) (len0 cap0 : Nat) (z0 : List Int) (w : World) (w0 : IsRow .u8 w a0 len0 cap0 z0) :
    Calls Try.prog 8 #[.slice a0 len0 cap0] w fun e w' => e = .returned (.bool true) ∧ Below w.heap.size w w' := by
  by_cases hlen : (1048576 : Int) < len0
  · go_enter Try.func8, Try.ntmps8
    go_wp2
    go_ret
    exact ⟨rfl, Below.refl _ _⟩
  · go_enter Try.func8, Try.ntmps8
    go_wp2_with fail
    refine (draw_JointsValid a0 len0 cap0 z0 _ w0).mono ?_
    rintro e w1 ⟨a1, n1, c1, a2, n2, c2, a3, n3, c3, l, lo, hi, aj, nj, cj, J, rfl, hf, hjf, q⟩
    have bb := Lib.hid q
    clear w0 hlen q
    obtain ⟨h1, h2, h3⟩ := hf.len
    obtain ⟨m1, m2, m3⟩ := hf.le
    obtain ⟨cp1, cp3⟩ := hf.cap
    have hr := Lib.hid hf.row
    have hr1 := hr
    have bc := Lib.hid (Below.refl w1.heap.size w1)
    have hq1 := bb
    have hj4 := hjf.len
    have hj6 := hjf.le
    have hj := Lib.hid hjf.s.row
    have hjb := Lib.hid hjf.bd
    clear hjf
    replace hj4 := Lib.hid hj4
    replace h1 := Lib.hid h1
    replace h2 := Lib.hid h2
    replace h3 := Lib.hid h3
    clear hf
    go_wp2_with fail
    have k0 := Cell3.new w1 (.slice a1 n1 c1) (.slice a2 n2 c2) (.slice a3 n3 c3) 25
    have hsB : w1.heap.size < (w1.alloc (.cells #[.slice a1 n1 c1, .slice a2 n2 c2, .slice a3 n3 c3] 25)).heap.size := by simp
    replace bb := Lib.hid (bel_after bb.out (bel_new w1 (.cells #[.slice a1 n1 c1, .slice a2 n2 c2, .slice a3 n3 c3] 25)))
    replace hr := Lib.hid (hr.out.after (bel_new w1 (.cells #[.slice a1 n1 c1, .slice a2 n2 c2, .slice a3 n3 c3] 25)))
    replace bc := Lib.hid (bel_after bc.out (bel_new w1 (.cells #[.slice a1 n1 c1, .slice a2 n2 c2, .slice a3 n3 c3] 25)))
    replace hj := Lib.hid (hj.out.after (bel_new w1 (.cells #[.slice a1 n1 c1, .slice a2 n2 c2, .slice a3 n3 c3] 25)))
    generalize hK : w1.heap.size = K at k0 ⊢ hsB
    have hKw : w1.heap.size ≤ K := Nat.le_of_eq hK
    clear hK
    generalize w1.alloc (.cells #[.slice a1 n1 c1, .slice a2 n2 c2, .slice a3 n3 c3] 25) = v at *
    obtain ⟨w2, rfl⟩ : ∃ u : World, u = v := ⟨_, rfl⟩
    refine (impl_joints a1 a2 a3 aj n1 c1 n2 c2 n3 c3 nj cj l lo hi J _ h1.out h2.out h3.out hj4.out (by omega) (by omega) hr.out hj.out).mono ?_
    rintro e w3 ⟨rfl, q⟩
    have z3 := q.size
    replace bb := Lib.hid (bel_after bb.out q)
    replace hr := Lib.hid (hr.out.after q)
    replace bc := Lib.hid (bel_after bc.out q)
    replace hj := Lib.hid (hj.out.after q)
    replace k0 := k0.after q
    clear q
    obtain ⟨k0x, k0y, k0z, k0u, k0v, k0w⟩ := id k0
    go_wp2_with fail
    clear k0x k0y k0z k0u k0v k0w
    refine (spec_joints a1 a2 a3 aj n1 c1 n2 c2 n3 c3 nj cj l lo hi J _ h1.out h2.out h3.out hj4.out (by omega) (by omega) hr.out hj.out).mono ?_
    rintro e w4 ⟨rfl, q⟩
    have z4 := q.size
    replace bb := Lib.hid (bel_after bb.out q)
    replace hr := Lib.hid (hr.out.after q)
    replace bc := Lib.hid (bel_after bc.out q)
    replace hj := Lib.hid (hj.out.after q)
    replace k0 := k0.after q
    clear q
    cases hA : M.armB l lo hi
    · have hno := M.joints_arm (j := J) hA
      rw [← hno]
      clear hno
      obtain ⟨k0x, k0y, k0z, k0u, k0v, k0w⟩ := id k0
      go_wp2_with fail
      clear k0x k0y k0z k0u k0v k0w
      refine (spec_arm a1 a2 a3 n1 c1 n2 c2 n3 c3 l lo hi _ h1.out h2.out h3.out (by omega) hr.out).mono ?_
      rintro e w5 ⟨rfl, q⟩
      have z5 := q.size
      replace bb := Lib.hid (bel_after bb.out q)
      replace hr := Lib.hid (hr.out.after q)
      replace bc := Lib.hid (bel_after bc.out q)
      replace hj := Lib.hid (hj.out.after q)
      replace k0 := k0.after q
      clear q
      rw [hA]
      clear hA
      obtain ⟨x0, x1, x2, x3, x4, x5⟩ := id k0
      go_wp2_with (go_at_call 16; refine (alive _).mono ?_; rintro e w' ⟨rfl, rfl⟩)
      go_ret
      exact ⟨rfl, bb.out⟩
    · have hlow := Lib.hid (M.joints_low hA)
      have hhigh := Lib.hid (M.joints_high hA)
      have hover := Lib.hid (M.joints_over hA)
      have hnil := Lib.hid (M.joints_nil hA)
      obtain ⟨⟨⟨e1, e2⟩, e3, e4⟩, hv⟩ := M.armB_true hA
      have hv0 := (hv 0 (by omega)).2.2
      have hx3 := Lib.hid (show -180 ≤ hi.getD 0 0 from by have := hv 0 (by omega); omega)
      rw [h1.out] at e1 e2 e3 e4
      rw [h2.out] at e3
      rw [h3.out] at e4
      have g3 : 1 ≤ n3 := by omega
      clear e3 e4 hv
      replace hA := Lib.hid hA
      generalize M.jointsB l lo hi J = ok at *
      obtain ⟨k0x, k0y, k0z, k0u, k0v, k0w⟩ := id k0
      go_wp2_with fail
      clear k0x k0y k0z k0u k0v k0w
      refine (spec_arm a1 a2 a3 n1 c1 n2 c2 n3 c3 l lo hi _ h1.out h2.out h3.out (by omega) hr.out).mono ?_
      rintro e w6 ⟨rfl, q⟩
      have z6 := q.size
      replace bb := Lib.hid (bel_after bb.out q)
      replace hr := Lib.hid (hr.out.after q)
      replace bc := Lib.hid (bel_after bc.out q)
      replace hj := Lib.hid (hj.out.after q)
      replace k0 := k0.after q
      clear q
      rw [hA.out]
      obtain ⟨i0, hi0, hz0, hz1, hz2⟩ := info_parts infoInt
      obtain ⟨b3, o3, rfl⟩ := hr.out.2.2.form (by rw [h3.out]; omega)
      have hnews := Lib.hid (row_news hr.out.2.2 (bel_new w6 (.cells #[] 3)))
      have hlit := Lib.hid (Owns.made (w := w6) (Nat.le_refl _))
      obtain ⟨x0, x1, x2, x3, x4, x5⟩ := id k0
      have hK9 := k0.lt
      go_wp2_with (at_builtin; refine wpList_append_own _ rfl _ _ 23 rfl w6.heap.size 3 i0 (.int .i64 0) 1 8 Try.underlying23 hi0 hz0 hz1 hz2 rfl (by decide) _ _ _ rfl hlit.out ⟨b3, o3, none⟩ n3 c3 (hi.map (Value.int .i64)) rfl (by (rw [List.length_map, h3.out]) <;> omega) hnews.out (int_one _) (by unfold maxLen; simp; omega) (by simp; omega) (by simp) ?_)
      intro v' w9 hown hgrow _
      have oc : Owns w9 w6.heap.size v' hi := by unfold Owns; rw [h3.out]; simpa using hown
      have q : Below w6.heap.size w6 w9 := ((Below.refl _ _).alloc (Nat.le_refl _) _).grown hgrow (Nat.le_of_lt (by simp)) (fun k hk => by simp [Value.ownBlock] at hk; omega)
      replace bb := Lib.hid (bel_after bb.out q)
      replace hr := Lib.hid (hr.out.after q)
      replace bc := Lib.hid (bel_after bc.out q)
      replace hj := Lib.hid (hj.out.after q)
      replace k0 := k0.after q
      clear q hown hgrow hnews hlit x0 x1 x2 x3 x4 x5
      obtain ⟨pa, pd, rfl, _⟩ := oc.view
      rw [h3.out] at oc
      rw [h3.out]
      obtain ⟨g, rfl⟩ := slot_at oc h3.out (by omega)
      obtain ⟨y1, y2, y3, y4⟩ := oc.cellAt h3.out 0 (by omega)
      have oc2 := Lib.hid (oc.put h3.out 0 (hi.getD 0 0 + 1))
      have hlo := Lib.hid (show (hi.set 0 (hi.getD 0 0 + 1)).length = n3 from by rw [List.length_set]; exact h3.out)
      generalize hx : hi.getD 0 0 = x at *
      replace hx := Lib.hid hx
      have d3 : (0 : Int) < (n3 : Int) := by omega
      obtain ⟨x0, x1, x2, x3, x4, x5⟩ := id k0
      obtain ⟨v1, v2⟩ := hv0
      have nKg : K ≠ g := by omega
      have ngK : g ≠ K := by omega
      have hxb : x ≤ 180 := v2
      have hxc : -181 ≤ x := by have := hx3.out; omega
      go_wp2_with fail
      clear x0 x1 x2 x3 x4 x5 y1 y2
      have gs := grown_set w9 g 0 (.int .i64 (x + 1))
      have hbs : w1.heap.size ≤ g := by omega
      replace bc := Lib.hid (bel_grown bc.out gs hbs)
      replace k0 := k0.grown gs (by simp; omega)
      clear gs oc
      generalize w9.setCell ⟨g, 0, none⟩ (.int .i64 (x + 1)) = u at *
      have hru := Lib.hid (hr1.out.after bc.out)
      clear hr bb hj
      obtain ⟨x0, x1, x2, x3, x4, x5⟩ := id k0
      clear x0 x1 x2 x3 x4 x5
      refine (impl_joints a1 a2 (some ⟨b3, o3, none⟩) a2 n1 c1 n2 c2 n3 c3 n2 c2 l lo hi lo _ h1.out h2.out h3.out h2.out (by omega) (by omega) hru.out hru.out.2.1).mono ?_
      rintro e w10 ⟨rfl, q⟩
      rw [hlow.out]
      replace bc := Lib.hid (bel_after bc.out q)
      replace k0 := k0.after q
      replace hru := Lib.hid (hru.out.after q)
      replace oc2 := Lib.hid (oc2.out.after q)
      clear q
      obtain ⟨k0x, k0y, k0z, k0u, k0v, k0w⟩ := id k0
      go_wp2_with fail
      clear k0x k0y k0z k0u k0v k0w
      refine (impl_joints a1 a2 (some ⟨b3, o3, none⟩) (some ⟨b3, o3, none⟩) n1 c1 n2 c2 n3 c3 n3 c3 l lo hi hi _ h1.out h2.out h3.out h3.out (by omega) (by omega) hru.out hru.out.2.2).mono ?_
      rintro e w11 ⟨rfl, q⟩
      rw [hhigh.out]
      replace bc := Lib.hid (bel_after bc.out q)
      replace k0 := k0.after q
      replace hru := Lib.hid (hru.out.after q)
      replace oc2 := Lib.hid (oc2.out.after q)
      clear q
      obtain ⟨k0x, k0y, k0z, k0u, k0v, k0w⟩ := id k0
      go_wp2_with fail
      clear k0x k0y k0z k0u k0v k0w
      refine (impl_joints a1 a2 (some ⟨b3, o3, none⟩) (some ⟨g, 0, none⟩) n1 c1 n2 c2 n3 c3 n3 pd l lo hi (hi.set 0 (x + 1)) _ h1.out h2.out h3.out hlo.out (by omega) (by omega) hru.out oc2.out.row).mono ?_
      rintro e w12 ⟨rfl, q⟩
      rw [hover.out]
      replace bc := Lib.hid (bel_after bc.out q)
      replace k0 := k0.after q
      replace hru := Lib.hid (hru.out.after q)
      replace oc2 := Lib.hid (oc2.out.after q)
      clear q
      obtain ⟨k0x, k0y, k0z, k0u, k0v, k0w⟩ := id k0
      go_wp2_with fail
      clear k0x k0y k0z k0u k0v k0w
      refine (impl_joints a1 a2 (some ⟨b3, o3, none⟩) none n1 c1 n2 c2 n3 c3 0 0 l lo hi [] _ h1.out h2.out h3.out rfl (by omega) (by omega) hru.out (.inl rfl)).mono ?_
      rintro e w13 ⟨rfl, q⟩
      rw [hnil.out]
      replace bc := Lib.hid (bel_after bc.out q)
      replace k0 := k0.after q
      replace hru := Lib.hid (hru.out.after q)
      replace oc2 := Lib.hid (oc2.out.after q)
      clear q
      obtain ⟨k0x, k0y, k0z, k0u, k0v, k0w⟩ := id k0
      go_wp2_with fail
      clear k0x k0y k0z k0u k0v k0w
      go_ret
      exact ⟨rfl, bel_after hq1.out bc.out⟩
theorem own : ownKnob Try.prog.godebug = none := by kernel_rfl
theorem laidOut : laidOutB Try.prog = true := by kernel_rfl
set_option maxRecDepth 100000 in
theorem lifted (os : Os) (started : os.Started) (H : Type) (enc : TypeId × Value → H) :
    ReturnsInHanded {} Try.checked os 8 .any (Rows.fnJointsValidSpec.pre6 enc Try.prog Try.f8 Rows.fnJointsValidRow.domain false) (Rows.fnJointsValidSpec.post enc Try.prog Try.f8 false true false false) := by
  refine returnsInHanded_of_change (C := Try.checked) own started (by kernel_rfl) Try.func8
    (ChangeSpec.witness6 (enc := enc) (C := Try.checked) false ⟨#[], #[.slice none 0 0], []⟩ 8 (by kernel_rfl) (by kernel_rfl) (by kernel_rfl) (by kernel_rfl)) ?_
  intro W base args ds gs before hval0 hW hcnd _
  have hval : ∀ (j : Nat) t v, Try.f8.params[j]? = some t → args[j]? = some v → Value.okWide Try.prog W .any base t v := hval0
  have hW' := hW
  obtain ⟨p, q, hA0, hV, rfl, hfz, hnd⟩ := hW
  have hA : DataW.TrodAll enc Try.prog W 0 (fun _ => true) true Try.f8.params.toList args.toList ds p := hA0
  rw [Try.params8] at hA hval
  obtain ⟨v0_, vs0, d0, ds0, p0, q0, hargs, rfl, rfl, h0, r0⟩ := trodAll_cons hA
  obtain ⟨rfl, rfl, rfl⟩ := trodAll_nil r0
  obtain rfl : args = #[v0_] := by cases args; simp_all
  obtain ⟨rfl, rfl⟩ := trodVars_none hV
  obtain ⟨a0, len0, cap0, rfl⟩ := okWide_slice Try.underlying22 (hval 0 22 v0_ rfl rfl)
  have k0 := h0
  have lt0 : ∀ x ∈ p0, x.block < W.heap.size := by obtain ⟨m, hm⟩ := k0; exact DataW.trod_lt m _ _ _ hm
  obtain ⟨z0, w0⟩ : ∃ zs, IsRow .u8 W a0 len0 cap0 zs := by
    obtain ⟨fuel, hf⟩ := h0
    rcases open_ints Try.underlying22 Try.underlying5 (by kernel_rfl) hf with ⟨hcs, _⟩ | ⟨x, l, c, zs, hcs, _, hl, hm, hz, _, hcell, hwz⟩
    · simp [Value.cells] at hcs
      obtain ⟨rfl, rfl, rfl⟩ := hcs
      exact ⟨[], .inl ⟨rfl, rfl, rfl, rfl⟩⟩
    · simp [Value.cells] at hcs
      obtain ⟨rfl, rfl, rfl⟩ := hcs
      exact ⟨zs, .inr ⟨_, rfl, hl, hm, by simpa using hz, hcell, hwz⟩⟩
  clear hA0 hval0
  refine (walk a0 len0 cap0 z0 W w0).mono fun e W' ⟨he, bel⟩ => ?_
  subst he
  exact ⟨_, rfl, _, _, _, [], _, [], hW', trodAll_mk1 (shut_bool Try.underlying4 _), (trodAll_cons_mk (Below.trod laidOut (by kernel_rfl) (of_decide_eq_true (by kernel_rfl)) k0 bel lt0) trodAll_mk0), rfl, bel.frame _, fun h => by cases h⟩
theorem over : Rows.fnJointsValidRow.holds Try.pinned (OpenSpec.ofChange Rows.fnJointsValidSpec) :=
  OpenClaim.holds_of_wide 8 Try.f8 rfl rfl rfl rfl rfl rfl rfl ⟨rfl, rfl, rfl, rfl, rfl⟩ rfl rfl rfl rfl rfl (by kernel_rfl) Try.func8 (by kernel_rfl)
    (of_decide_eq_true (by kernel_rfl)) (by unfold Func.isWrapper; first | (rw [if_pos (by decide +kernel)]; kernel_rfl) | (rw [if_neg (by decide +kernel)]; exact ⟨rfl, rfl⟩))
    (fun os started H enc _ => lifted os started H enc)
theorem proved : Rows.FnJointsValidSaid := over
#print axioms proved
end Go.Proofs.Ytnkjnphmpembaaa.fnJointsValid
