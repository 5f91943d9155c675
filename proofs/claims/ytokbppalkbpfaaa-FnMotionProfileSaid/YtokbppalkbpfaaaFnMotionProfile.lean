/- Proves that the law FnMotionProfile returns true for every input. Conditions: none. -/
import Derived.Test.YtokbppalkbpfaaaRows
import Derived.Test.YtokbppalkbpfaaaProf
import Derived.Test.YtokbppalkbpfaaaPvalid
import Derived.Test.YtokbppalkbpfaaaSlices
import Derived.Test.YtokbppalkbpfaaaDrawMp
import Derived.Test.YtokbppalkbpfaaaAlive
import Derived.ChangeOld
import Derived.ShutString
import Derived.Lib.SmallJoins
namespace Go.Proofs.Ytokbppalkbpfaaa.fnMotionProfile
open Go.ChangeShapes Go.WideShapes Go.ChangeAt Go.RowKit
set_option linter.unusedVariables false
theorem sum_take {l : List Int} (h : ∀ x ∈ l, 1 ≤ x ∧ x ≤ 200) (k : Nat) : 0 ≤ (l.take k).sum ∧ (l.take k).sum ≤ 200 * k := by
  induction l generalizing k with
  | nil => simp; omega
  | cons a l ih =>
    cases k with
    | zero => simp
    | succ k =>
      have i := ih (fun x hx => h x (List.mem_cons_of_mem _ hx)) k
      have j := h a List.mem_cons_self
      rw [List.take_succ_cons, List.sum_cons]
      omega
theorem sum_step {l : List Int} {k : Nat} (hk : k < l.length) : (l.take (k + 1)).sum = (l.take k).sum + l.getD k 0 := by
  rw [List.take_add_one, List.getElem?_eq_getElem hk, List.sum_append, List.getD_eq_getElem?_getD, List.getElem?_eq_getElem hk]
  simp
theorem mem_at {l : List Int} {k : Nat} (hk : k < l.length) : l.getD k 0 ∈ l := by
  rw [List.getD_eq_getElem?_getD, List.getElem?_eq_getElem hk]; exact List.getElem_mem hk
set_option maxHeartbeats 4000000 in
theorem walk (a0 : Option Addr) (len0 cap0 : Nat) (z0 : List Int) (w : World) (w0 : IsRow .u8 w a0 len0 cap0 z0) :
    Calls Try.prog 13 #[.slice a0 len0 cap0] w fun e w' => e = .returned (.bool true) ∧ Below w.heap.size w w' := by
  by_cases hlen : (1048576 : Int) < len0
  · go_enter Try.func13, Try.ntmps13
    go_wp2
    go_ret
    exact ⟨rfl, Below.refl _ _⟩
  · go_enter Try.func13, Try.ntmps13
    go_wp2_with fail
    refine (draw_mp a0 len0 cap0 z0 _ w0).mono ?_
    rintro e wd ⟨⟨d, t, r, rfl, ⟨d1, d2⟩, ⟨t1, t2⟩, ⟨r1, r2⟩⟩, hbd⟩
    clear w0 hlen
    have hlen := M.prof_len d t r
    go_wp2_with fail
    refine (impl_prof d t r _).mono ?_
    rintro e wa ⟨v, rfl, ho0, hb0⟩
    obtain ⟨p0, c0, rfl, q0⟩ := ho0.view
    clear ho0
    go_wp2_with fail
    refine (spec_prof d t r _).mono ?_
    rintro e wb ⟨v, rfl, ho1, hb1⟩
    obtain ⟨p1, c1, rfl, q1⟩ := ho1.view
    clear ho1
    have q0 := (q0.below hb1).mono hb1.size
    go_wp2_with fail
    refine (same_ints_yes p0 p1 _ c0 c1 _ _ rfl (by omega) q0 q1).mono ?_
    rintro e wc ⟨rfl, hb2⟩
    have q0 := (q0.below hb2).mono hb2.size
    have hs := hbd.size
    have hs0 := hb0.size
    have hs1 := hb1.size
    have hB := Lib.hid ((hbd.trans (hb0.mono (by omega))).trans (hb1.mono (by omega)) |>.trans (hb2.mono (by omega)))
    clear hbd hb0 hb1 hb2 q1
    have hel := Lib.hid (M.prof_bd d t r)
    have hok : Hid (M.okProf d t r → (M.prof d t r).sum = d ∧ M.pok (M.prof d t r) t r = true) := Lib.hid (fun h => ⟨(M.prof_facts h).1, M.pok_prof h⟩)
    have hno : Hid (¬ M.okProf d t r → (M.prof d t r).length = 0) := Lib.hid (fun h => by rw [M.prof_no h]; rfl)
    generalize M.prof d t r = L at *
    obtain ⟨n, hn⟩ : ∃ n, L.length = n := ⟨_, rfl⟩
    rw [hn] at hlen
    rw [hn]
    replace hn := Lib.hid hn
    go_wp2_with fail
    go_loop [7, 8] (fun s i => ∃ (k : Nat) (x : Int), i = .int .i64 k ∧ s = .int .i64 x ∧ k ≤ n ∧ x = (L.take k).sum) (fun _ i => n - (intOf i).toNat)
    case atStart => exact ⟨0, 0, rfl, rfl, Nat.zero_le _, rfl⟩
    case round =>
      obtain ⟨k, x, rfl, rfl, hk, hx⟩ := hrel
      obtain ⟨x1, x2⟩ := sum_take hel.out k
      rw [← hx] at x1 x2
      replace hx := Lib.hid hx
      by_cases hlt : k < n
      · obtain ⟨b, o, rfl, hbb, hc⟩ := q0.at (by intro e; have := hn.out; rw [e] at this; simp at this; omega)
        have hcx := hc k (by rw [hn.out]; exact hlt)
        have hm := hel.out _ (mem_at (show k < L.length by rw [hn.out]; exact hlt))
        have hst := sum_step (show k < L.length by rw [hn.out]; exact hlt)
        rw [← hx.out] at hst
        generalize L.getD k 0 = y at *
        obtain ⟨m1, m2⟩ := hm
        replace hst := Lib.hid hst
        clear hc q0
        go_wp2
        go_round
        case rel => exact ⟨k + 1, x + y, by go_num, rfl, by omega, hst.out.symm⟩
        case measure => simp [intOf]; omega
      · have hkn : k = n := by omega
        subst hkn
        have hfin : x = L.sum := by have := hx.out; rwa [List.take_of_length_le (by rw [hn.out]; exact Nat.le_refl _)] at this
        clear hx
        by_cases h : M.okProf d t r
        · obtain ⟨h1, h2⟩ := hok.out h
          rw [h1] at hfin
          obtain ⟨⟨a1, a2⟩, ⟨⟨a3, a4⟩, ⟨a5, a6⟩⟩⟩ := h
          subst hfin
          clear hok hno h1
          go_wp2_with (go_at_call 20; refine (impl_pvalid _ _ _ _ _ _ _ hn.out (by omega) q0).mono ?_; rintro e w' ⟨rfl, rfl⟩)
          go_ret
          exact ⟨ret_bool (by simp), hB.out⟩
        · have h0 := hno.out h
          have hk0 : k = 0 := by rw [← hn.out]; exact h0
          subst hk0
          have ho := prof_out h
          clear hok hno h0 h hfin
          rcases ho with (h | h) | ⟨⟨a1, a2⟩, (h | h)⟩ | ⟨⟨a1, a2⟩, ⟨⟨a3, a4⟩, (h | h)⟩⟩
          all_goals
            go_wp2_with (go_at_call 23; refine (alive _).mono ?_; rintro e w' ⟨rfl, rfl⟩)
            go_ret
            exact ⟨ret_bool (by simp), hB.out⟩
theorem own : ownKnob Try.prog.godebug = none := by kernel_rfl
theorem laidOut : laidOutB Try.prog = true := by kernel_rfl
set_option maxRecDepth 100000 in
theorem lifted (os : Os) (started : os.Started) (H : Type) (enc : TypeId × Value → H) :
    ReturnsInHanded {} Try.checked os 13 .any (Rows.fnMotionProfileSpec.pre6 enc Try.prog Try.f13 Rows.fnMotionProfileRow.domain false) (Rows.fnMotionProfileSpec.post enc Try.prog Try.f13 false true false false) := by
  refine returnsInHanded_of_change (C := Try.checked) own started (by kernel_rfl) Try.func13
    (ChangeSpec.witness6 (enc := enc) (C := Try.checked) false ⟨#[], #[.slice none 0 0], []⟩ 8 (by kernel_rfl) (by kernel_rfl) (by kernel_rfl) (by kernel_rfl)) ?_
  intro W base args ds gs before hval0 hW hcnd _
  have hval : ∀ (j : Nat) t v, Try.f13.params[j]? = some t → args[j]? = some v → Value.okWide Try.prog W .any base t v := hval0
  have hW' := hW
  obtain ⟨p, q, hA0, hV, rfl, hfz, hnd⟩ := hW
  have hA : DataW.TrodAll enc Try.prog W 0 (fun _ => true) true Try.f13.params.toList args.toList ds p := hA0
  rw [Try.params13] at hA hval
  obtain ⟨v0_, vs0, d0, ds0, p0, q0, hargs, rfl, rfl, h0, r0⟩ := trodAll_cons hA
  obtain ⟨rfl, rfl, rfl⟩ := trodAll_nil r0
  obtain rfl : args = #[v0_] := by cases args; simp_all
  obtain ⟨rfl, rfl⟩ := trodVars_none hV
  obtain ⟨a0, len0, cap0, rfl⟩ := okWide_slice Try.underlying30 (hval 0 30 v0_ rfl rfl)
  have k0 := h0
  have lt0 : ∀ x ∈ p0, x.block < W.heap.size := by obtain ⟨m, hm⟩ := k0; exact DataW.trod_lt m _ _ _ hm
  obtain ⟨z0, w0⟩ : ∃ zs, IsRow .u8 W a0 len0 cap0 zs := by
    obtain ⟨fuel, hf⟩ := h0
    rcases open_ints Try.underlying30 Try.underlying5 (by kernel_rfl) hf with ⟨hcs, _⟩ | ⟨x, l, c, zs, hcs, _, hl, hm, hz, _, hcell, hwz⟩
    · simp [Value.cells] at hcs
      obtain ⟨rfl, rfl, rfl⟩ := hcs
      exact ⟨[], .inl ⟨rfl, rfl, rfl, rfl⟩⟩
    · simp [Value.cells] at hcs
      obtain ⟨rfl, rfl, rfl⟩ := hcs
      exact ⟨zs, .inr ⟨_, rfl, hl, hm, by simpa using hz, hcell, hwz⟩⟩
  clear hA0 hval0
  refine (walk a0 len0 cap0 z0 W w0).mono fun e W' ⟨he, bel⟩ => ?_
  subst he
  exact ⟨_, rfl, _, _, _, [], _, [], hW', trodAll_mk1 (shut_bool Try.underlying4 _), (trodAll_cons_mk (Below.trod laidOut (by kernel_rfl) (of_decide_eq_true (by kernel_rfl)) k0 bel lt0) trodAll_mk0), rfl, bel.frame _, fun h => by cases h⟩
theorem over : Rows.fnMotionProfileRow.holds Try.pinned (OpenSpec.ofChange Rows.fnMotionProfileSpec) :=
  OpenClaim.holds_of_wide 13 Try.f13 rfl rfl rfl rfl rfl rfl rfl ⟨rfl, rfl, rfl, rfl, rfl⟩ rfl rfl rfl rfl rfl (by kernel_rfl) Try.func13 (by kernel_rfl)
    (of_decide_eq_true (by kernel_rfl)) (by unfold Func.isWrapper; first | (rw [if_pos (by decide +kernel)]; kernel_rfl) | (rw [if_neg (by decide +kernel)]; exact ⟨rfl, rfl⟩))
    (fun os started H enc _ => lifted os started H enc)
theorem proved : Rows.FnMotionProfileSaid := over
#print axioms proved
end Go.Proofs.Ytokbppalkbpfaaa.fnMotionProfile
