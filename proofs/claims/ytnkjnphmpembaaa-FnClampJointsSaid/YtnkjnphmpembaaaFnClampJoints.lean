/- Proves that the law FnClampJoints returns true for every input. Conditions: none. -/
import Derived.Test.YtnkjnphmpembaaaRows
import Derived.Test.YtnkjnphmpembaaaDraws
import Derived.Test.YtnkjnphmpembaaaClamp
import Derived.Test.YtnkjnphmpembaaaAlive
import Derived.ChangeOld
import Derived.ShutString
import Derived.Lib.SmallJoins
import Derived.Deep.RegionHeld3
import Derived.Deep.DeepCutAuto
import Derived.Deep.CutBlock
namespace Go.Proofs.Ytnkjnphmpembaaa.fnClampJoints
open Go.ChangeShapes Go.WideShapes Go.ChangeAt Go.RowKit
set_option linter.unusedVariables false
theorem M.clamp_valid {l lo hi j : List Int} (h : M.armB l lo hi = true) (h2 : j.length = l.length) : M.jointsB l lo hi (M.clamp l lo hi j) = true := by
  obtain ⟨⟨⟨e1, e2⟩, e3, e4⟩, hv⟩ := M.armB_true h
  rw [← M.clamp_yes h h2]
  refine (M.joints_ok h (by rw [M.clipT_len]; exact h2) (fun k hk => ?_)).symm
  rw [M.clipT_len] at hk
  rw [M.clipT_at hk]
  have := hv k (by omega)
  have := M.clip_at (n := j.getD k 0) (show lo.getD k 0 ≤ hi.getD k 0 by omega)
  exact M.inB_iff.2 (by omega)
theorem M.clamp_id {l lo hi j : List Int} (h : M.jointsB l lo hi j = true) : M.clamp l lo hi j = j := by
  obtain ⟨ha, h2, hj⟩ := M.joints_true h
  obtain ⟨⟨⟨e1, e2⟩, e3, e4⟩, hv⟩ := M.armB_true ha
  rw [← M.clamp_yes ha h2]
  apply List.ext_getElem
  · exact M.clipT_len _ _ _ _
  · intro i hi1 hi2
    have e : (M.clipT lo hi j j.length).getD i 0 = j.getD i 0 := by
      rw [M.clipT_at hi2]
      have := hv i (by omega)
      have h3 := hj i hi2
      exact (M.clip_at (n := j.getD i 0) (show lo.getD i 0 ≤ hi.getD i 0 by omega)).2.2 h3.1 h3.2
    rwa [List.getD_eq_getElem?_getD, List.getD_eq_getElem?_getD, List.getElem?_eq_getElem hi1, List.getElem?_eq_getElem hi2] at e
/-- what the law says of the clamped angles -/
theorem M.clamp_law (l lo hi j : List Int) : M.clamp l lo hi j = [] ∨ (M.jointsB l lo hi (M.clamp l lo hi j) = true ∧ M.clamp l lo hi (M.clamp l lo hi j) = M.clamp l lo hi j ∧ (M.jointsB l lo hi j = true → M.clamp l lo hi j = j)) := by
  by_cases h : M.armB l lo hi = true ∧ j.length = l.length
  · right
    have hv := M.clamp_valid h.1 h.2
    exact ⟨hv, M.clamp_id hv, fun hj => M.clamp_id hj⟩
  · left
    unfold M.clamp
    exact if_neg h
set_option maxRecDepth 20000 in
set_option maxHeartbeats 8000000 in
theorem walk (a0 : Option Addr) (len0 cap0 : Nat) (z0 : List Int) (w : World) (w0 : IsRow .u8 w a0 len0 cap0 z0) :
    Calls Try.prog 10 #[.slice a0 len0 cap0] w fun e w' => e = .returned (.bool true) ∧ Below w.heap.size w w' := by
  by_cases hlen : (1048576 : Int) < len0
  · go_enter Try.func10, Try.ntmps10
    go_wp2
    go_ret
    exact ⟨rfl, Below.refl _ _⟩
  · go_enter Try.func10, Try.ntmps10
    go_wp2_with fail
    refine (draw_ClampJoints a0 len0 cap0 z0 _ w0).mono ?_
    rintro e w1 ⟨a1, n1, c1, a2, n2, c2, a3, n3, c3, l, lo, hi, aj, nj, cj, J, rfl, hf, hjf, q⟩
    have bb := Lib.hid q
    clear w0 hlen q
    obtain ⟨h1, h2, h3⟩ := hf.len
    obtain ⟨m1, m2, m3⟩ := hf.le
    obtain ⟨cp1, cp3⟩ := hf.cap
    have hr := Lib.hid hf.row
    have hr1 := hr
    have bc := Lib.hid (Below.refl w1.heap.size w1)
    have hq1 := bb
    have hj4 := hjf.len
    have hj6 := hjf.le
    have hj := Lib.hid hjf.s.row
    have hjb := Lib.hid hjf.bd
    clear hjf
    replace hj4 := Lib.hid hj4
    replace h1 := Lib.hid h1
    replace h2 := Lib.hid h2
    replace h3 := Lib.hid h3
    clear hf
    have hlw := Lib.hid (M.clamp_law l lo hi J)
    have hnb : (M.clamp l lo hi J).length ≤ 6 := by have := M.clamp_len l lo hi J; rw [hj4.out] at this; omega
    obtain ⟨nL, hn⟩ : ∃ n, (M.clamp l lo hi J).length = n := ⟨_, rfl⟩
    rw [hn] at hnb
    generalize hL : M.clamp l lo hi J = L at *
    replace hL := Lib.hid hL
    replace hn := Lib.hid hn
    go_wp2_with fail
    have k0 := Cell3.new w1 (.slice a1 n1 c1) (.slice a2 n2 c2) (.slice a3 n3 c3) 25
    have hsB : w1.heap.size < (w1.alloc (.cells #[.slice a1 n1 c1, .slice a2 n2 c2, .slice a3 n3 c3] 25)).heap.size := by simp
    replace bb := Lib.hid (bel_after bb.out (bel_new w1 (.cells #[.slice a1 n1 c1, .slice a2 n2 c2, .slice a3 n3 c3] 25)))
    replace hr := Lib.hid (hr.out.after (bel_new w1 (.cells #[.slice a1 n1 c1, .slice a2 n2 c2, .slice a3 n3 c3] 25)))
    replace bc := Lib.hid (bel_after bc.out (bel_new w1 (.cells #[.slice a1 n1 c1, .slice a2 n2 c2, .slice a3 n3 c3] 25)))
    replace hj := Lib.hid (hj.out.after (bel_new w1 (.cells #[.slice a1 n1 c1, .slice a2 n2 c2, .slice a3 n3 c3] 25)))
    generalize hK : w1.heap.size = K at k0 ⊢ hsB
    have hKw : w1.heap.size ≤ K := Nat.le_of_eq hK
    clear hK
    generalize w1.alloc (.cells #[.slice a1 n1 c1, .slice a2 n2 c2, .slice a3 n3 c3] 25) = v at *
    obtain ⟨w2, rfl⟩ : ∃ u : World, u = v := ⟨_, rfl⟩
    refine (impl_clampj a1 a2 a3 aj n1 c1 n2 c2 n3 c3 nj cj l lo hi J _ h1.out h2.out h3.out hj4.out (by omega) (by omega) hr.out hj.out).mono ?_
    rintro e w3 hq
    rw [hL.out] at hq
    obtain ⟨xg, yg, rfl, mg, q⟩ := ints_view hn.out hq
    replace bb := Lib.hid (bel_after bb.out q)
    replace hr := Lib.hid (hr.out.after q)
    replace bc := Lib.hid (bel_after bc.out q)
    replace hj := Lib.hid (hj.out.after q)
    replace k0 := k0.after q
    clear q hq
    replace mg := Lib.hid mg
    obtain ⟨k0x, k0y, k0z, k0u, k0v, k0w⟩ := id k0
    go_wp2_with fail
    clear k0x k0y k0z k0u k0v k0w
    refine (spec_clampj a1 a2 a3 aj n1 c1 n2 c2 n3 c3 nj cj l lo hi J _ h1.out h2.out h3.out hj4.out (by omega) (by omega) hr.out hj.out).mono ?_
    rintro e w4 hq
    rw [hL.out] at hq
    obtain ⟨xw, yw, rfl, mw, q⟩ := ints_view hn.out hq
    replace bb := Lib.hid (bel_after bb.out q)
    replace hr := Lib.hid (hr.out.after q)
    replace bc := Lib.hid (bel_after bc.out q)
    replace hj := Lib.hid (hj.out.after q)
    replace k0 := k0.after q
    replace mg := Lib.hid (mg.out.after q)
    clear q hq
    replace mw := Lib.hid mw
    obtain ⟨k0x, k0y, k0z, k0u, k0v, k0w⟩ := id k0
    go_wp2_with fail
    clear k0x k0y k0z k0u k0v k0w
    refine (same_ints_yes xg xw nL yg yw L _ hn.out (by omega) mg.out.row mw.out.row).mono ?_
    rintro e w5 ⟨rfl, q⟩
    have z5 := q.size
    replace bb := Lib.hid (bel_after bb.out q)
    replace hr := Lib.hid (hr.out.after q)
    replace bc := Lib.hid (bel_after bc.out q)
    replace hj := Lib.hid (hj.out.after q)
    replace k0 := k0.after q
    replace mg := Lib.hid (mg.out.after q)
    replace mw := Lib.hid (mw.out.after q)
    clear q
    clear mw
    by_cases hz : nL = 0
    · have hz2 : ((nL : Int) == 0) = true := by simp [hz]
      replace hz := Lib.hid hz
      obtain ⟨x0, x1, x2, x3, x4, x5⟩ := id k0
      go_wp2_with (go_at_call 16; refine (alive _).mono ?_; rintro e w' ⟨rfl, rfl⟩)
      go_ret
      exact ⟨rfl, bb.out⟩
    · have hz2 : ((nL : Int) == 0) = false := by simp; exact hz
      obtain ⟨f1, f2, f3⟩ : M.jointsB l lo hi L = true ∧ M.clamp l lo hi L = L ∧ (M.jointsB l lo hi J = true → L = J) := by
        rcases hlw.out with h | h
        · have := hn.out; rw [h] at this; simp at this; omega
        · exact h
      replace f1 := Lib.hid f1
      replace f2 := Lib.hid f2
      replace f3 := Lib.hid f3
      replace hz := Lib.hid hz
      obtain ⟨k0x, k0y, k0z, k0u, k0v, k0w⟩ := id k0
      go_wp2_with fail
      clear k0x k0y k0z k0u k0v k0w
      refine (impl_joints a1 a2 a3 xg n1 c1 n2 c2 n3 c3 nL yg l lo hi L _ h1.out h2.out h3.out hn.out (by omega) (by omega) hr.out mg.out.row).mono ?_
      rintro e w6 ⟨rfl, q⟩
      have z6 := q.size
      replace bb := Lib.hid (bel_after bb.out q)
      replace hr := Lib.hid (hr.out.after q)
      replace bc := Lib.hid (bel_after bc.out q)
      replace hj := Lib.hid (hj.out.after q)
      replace k0 := k0.after q
      replace mg := Lib.hid (mg.out.after q)
      clear q
      rw [f1.out]
      obtain ⟨k0x, k0y, k0z, k0u, k0v, k0w⟩ := id k0
      go_wp2_with fail
      clear k0x k0y k0z k0u k0v k0w
      refine (impl_clampj a1 a2 a3 xg n1 c1 n2 c2 n3 c3 nL yg l lo hi L _ h1.out h2.out h3.out hn.out (by omega) (by omega) hr.out mg.out.row).mono ?_
      rintro e w7 hq
      rw [f2.out] at hq
      obtain ⟨xh, yh, rfl, mh, q⟩ := ints_view hn.out hq
      replace bb := Lib.hid (bel_after bb.out q)
      replace hr := Lib.hid (hr.out.after q)
      replace bc := Lib.hid (bel_after bc.out q)
      replace hj := Lib.hid (hj.out.after q)
      replace k0 := k0.after q
      replace mg := Lib.hid (mg.out.after q)
      clear q hq
      replace mh := Lib.hid mh
      obtain ⟨k0x, k0y, k0z, k0u, k0v, k0w⟩ := id k0
      go_wp2_with fail
      clear k0x k0y k0z k0u k0v k0w
      refine (same_ints_yes xh xg nL yh yg L _ hn.out (by omega) mh.out.row mg.out.row).mono ?_
      rintro e w8 ⟨rfl, q⟩
      have z8 := q.size
      replace bb := Lib.hid (bel_after bb.out q)
      replace hr := Lib.hid (hr.out.after q)
      replace bc := Lib.hid (bel_after bc.out q)
      replace hj := Lib.hid (hj.out.after q)
      replace k0 := k0.after q
      replace mg := Lib.hid (mg.out.after q)
      replace mh := Lib.hid (mh.out.after q)
      clear q
      clear mh
      obtain ⟨k0x, k0y, k0z, k0u, k0v, k0w⟩ := id k0
      go_wp2_with fail
      clear k0x k0y k0z k0u k0v k0w
      refine (impl_joints a1 a2 a3 aj n1 c1 n2 c2 n3 c3 nj cj l lo hi J _ h1.out h2.out h3.out hj4.out (by omega) (by omega) hr.out hj.out).mono ?_
      rintro e w9 ⟨rfl, q⟩
      have z9 := q.size
      replace bb := Lib.hid (bel_after bb.out q)
      replace hr := Lib.hid (hr.out.after q)
      replace bc := Lib.hid (bel_after bc.out q)
      replace hj := Lib.hid (hj.out.after q)
      replace k0 := k0.after q
      replace mg := Lib.hid (mg.out.after q)
      clear q
      cases hok : M.jointsB l lo hi J
      · replace hok := Lib.hid hok
        obtain ⟨x0, x1, x2, x3, x4, x5⟩ := id k0
        go_wp2_with fail
        go_ret
        exact ⟨rfl, bb.out⟩
      · have hLJ := Lib.hid (f3.out hok)
        replace hok := Lib.hid hok
        have hnj := Lib.hid (show nL = nj from by rw [← hn.out, hLJ.out]; exact hj4.out)
        have hjL := Lib.hid (show L = J from hLJ.out)
        obtain ⟨k0x, k0y, k0z, k0u, k0v, k0w⟩ := id k0
        go_wp2_with fail
        clear k0x k0y k0z k0u k0v k0w
        refine (same_ints xg aj nL nj yg cj 0 L J _ hn.out hj4.out (by omega) mg.out.row hj.out).mono ?_
        rintro e w10 ⟨rfl, q⟩
        have z10 := q.size
        replace bb := Lib.hid (bel_after bb.out q)
        replace hr := Lib.hid (hr.out.after q)
        replace bc := Lib.hid (bel_after bc.out q)
        replace hj := Lib.hid (hj.out.after q)
        replace k0 := k0.after q
        replace mg := Lib.hid (mg.out.after q)
        clear q
        rw [decide_eq_true hjL.out]
        obtain ⟨x0, x1, x2, x3, x4, x5⟩ := id k0
        go_wp2_with fail
        go_ret
        exact ⟨rfl, bb.out⟩
theorem own : ownKnob Try.prog.godebug = none := by kernel_rfl
theorem laidOut : laidOutB Try.prog = true := by kernel_rfl
set_option maxRecDepth 100000 in
theorem lifted (os : Os) (started : os.Started) (H : Type) (enc : TypeId × Value → H) :
    ReturnsInHanded {} Try.checked os 10 .any (Rows.fnClampJointsSpec.pre6 enc Try.prog Try.f10 Rows.fnClampJointsRow.domain false) (Rows.fnClampJointsSpec.post enc Try.prog Try.f10 false true false false) := by
  refine returnsInHanded_of_change (C := Try.checked) own started (by kernel_rfl) Try.func10
    (ChangeSpec.witness6 (enc := enc) (C := Try.checked) false ⟨#[], #[.slice none 0 0], []⟩ 8 (by kernel_rfl) (by kernel_rfl) (by kernel_rfl) (by kernel_rfl)) ?_
  intro W base args ds gs before hval0 hW hcnd _
  have hval : ∀ (j : Nat) t v, Try.f10.params[j]? = some t → args[j]? = some v → Value.okWide Try.prog W .any base t v := hval0
  have hW' := hW
  obtain ⟨p, q, hA0, hV, rfl, hfz, hnd⟩ := hW
  have hA : DataW.TrodAll enc Try.prog W 0 (fun _ => true) true Try.f10.params.toList args.toList ds p := hA0
  rw [Try.params10] at hA hval
  obtain ⟨v0_, vs0, d0, ds0, p0, q0, hargs, rfl, rfl, h0, r0⟩ := trodAll_cons hA
  obtain ⟨rfl, rfl, rfl⟩ := trodAll_nil r0
  obtain rfl : args = #[v0_] := by cases args; simp_all
  obtain ⟨rfl, rfl⟩ := trodVars_none hV
  obtain ⟨a0, len0, cap0, rfl⟩ := okWide_slice Try.underlying22 (hval 0 22 v0_ rfl rfl)
  have k0 := h0
  have lt0 : ∀ x ∈ p0, x.block < W.heap.size := by obtain ⟨m, hm⟩ := k0; exact DataW.trod_lt m _ _ _ hm
  obtain ⟨z0, w0⟩ : ∃ zs, IsRow .u8 W a0 len0 cap0 zs := by
    obtain ⟨fuel, hf⟩ := h0
    rcases open_ints Try.underlying22 Try.underlying5 (by kernel_rfl) hf with ⟨hcs, _⟩ | ⟨x, l, c, zs, hcs, _, hl, hm, hz, _, hcell, hwz⟩
    · simp [Value.cells] at hcs
      obtain ⟨rfl, rfl, rfl⟩ := hcs
      exact ⟨[], .inl ⟨rfl, rfl, rfl, rfl⟩⟩
    · simp [Value.cells] at hcs
      obtain ⟨rfl, rfl, rfl⟩ := hcs
      exact ⟨zs, .inr ⟨_, rfl, hl, hm, by simpa using hz, hcell, hwz⟩⟩
  clear hA0 hval0
  refine (walk a0 len0 cap0 z0 W w0).mono fun e W' ⟨he, bel⟩ => ?_
  subst he
  exact ⟨_, rfl, _, _, _, [], _, [], hW', trodAll_mk1 (shut_bool Try.underlying4 _), (trodAll_cons_mk (Below.trod laidOut (by kernel_rfl) (of_decide_eq_true (by kernel_rfl)) k0 bel lt0) trodAll_mk0), rfl, bel.frame _, fun h => by cases h⟩
theorem over : Rows.fnClampJointsRow.holds Try.pinned (OpenSpec.ofChange Rows.fnClampJointsSpec) :=
  OpenClaim.holds_of_wide 10 Try.f10 rfl rfl rfl rfl rfl rfl rfl ⟨rfl, rfl, rfl, rfl, rfl⟩ rfl rfl rfl rfl rfl (by kernel_rfl) Try.func10 (by kernel_rfl)
    (of_decide_eq_true (by kernel_rfl)) (by unfold Func.isWrapper; first | (rw [if_pos (by decide +kernel)]; kernel_rfl) | (rw [if_neg (by decide +kernel)]; exact ⟨rfl, rfl⟩))
    (fun os started H enc _ => lifted os started H enc)
theorem proved : Rows.FnClampJointsSaid := over
#print axioms proved
end Go.Proofs.Ytnkjnphmpembaaa.fnClampJoints
