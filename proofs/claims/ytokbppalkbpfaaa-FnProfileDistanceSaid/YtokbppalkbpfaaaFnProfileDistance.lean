/- Proves that the law FnProfileDistance returns true for every input. Conditions: none. -/
import Derived.Test.YtokbppalkbpfaaaRows
import Derived.Test.YtokbppalkbpfaaaProf
import Derived.Test.YtokbppalkbpfaaaSlices
import Derived.Test.YtokbppalkbpfaaaDrawMp
import Derived.Test.YtokbppalkbpfaaaAlive
import Derived.ChangeOld
import Derived.ShutString
import Derived.Lib.SmallJoins
namespace Go.Proofs.Ytokbppalkbpfaaa.fnProfileDistance
open Go.ChangeShapes Go.WideShapes Go.ChangeAt Go.RowKit
set_option linter.unusedVariables false
theorem sum_take {l : List Int} (h : ∀ x ∈ l, 1 ≤ x ∧ x ≤ 200) (k : Nat) : 0 ≤ (l.take k).sum ∧ (l.take k).sum ≤ 200 * k := by
  induction l generalizing k with
  | nil => simp; omega
  | cons a l ih =>
    cases k with
    | zero => simp
    | succ k =>
      have i := ih (fun x hx => h x (List.mem_cons_of_mem _ hx)) k
      have j := h a List.mem_cons_self
      rw [List.take_succ_cons, List.sum_cons]
      omega
theorem sum_step {l : List Int} {k : Nat} (hk : k < l.length) : (l.take (k + 1)).sum = (l.take k).sum + l.getD k 0 := by
  rw [List.take_add_one, List.getElem?_eq_getElem hk, List.sum_append, List.getD_eq_getElem?_getD, List.getElem?_eq_getElem hk]
  simp
theorem mem_at {l : List Int} {k : Nat} (hk : k < l.length) : l.getD k 0 ∈ l := by
  rw [List.getD_eq_getElem?_getD, List.getElem?_eq_getElem hk]; exact List.getElem_mem hk
theorem safe_cons {r x : Int} {l : List Int} {k : Nat} (hk : k < l.length) (h : M.safe r x (l.drop k)) : ((1 ≤ l.getD k 0 ∧ l.getD k 0 ≤ 200) ∧ l.getD k 0 + M.SD (l.getD k 0) r ≤ x) ∧ M.safe r (x - l.getD k 0) (l.drop (k + 1)) := by
  rw [List.drop_eq_getElem_cons hk] at h
  rw [List.getD_eq_getElem?_getD, List.getElem?_eq_getElem hk]
  exact h
theorem flip {P : Program} {f : FuncId} {args : Array Value} {w : World} {v : Value} (h : Calls P f args w fun e w' => e = .returned v ∧ w = w') : Calls P f args w fun e w' => e = .returned v ∧ w' = w := h.mono fun _ _ ⟨a, b⟩ => ⟨a, b.symm⟩
def LeftRel (L : List Int) (d r : Int) (k : Nat) (x : Int) : Prop := x = d - (L.take k).sum ∧ M.safe r x (L.drop k)
set_option maxHeartbeats 4000000 in
theorem walk (a0 : Option Addr) (len0 cap0 : Nat) (z0 : List Int) (w : World) (w0 : IsRow .u8 w a0 len0 cap0 z0) :
    Calls Try.prog 11 #[.slice a0 len0 cap0] w fun e w' => e = .returned (.bool true) ∧ Below w.heap.size w w' := by
  by_cases hlen : (1048576 : Int) < len0
  · go_enter Try.func11, Try.ntmps11
    go_wp2
    go_ret
    exact ⟨rfl, Below.refl _ _⟩
  · go_enter Try.func11, Try.ntmps11
    go_wp2_with fail
    refine (draw_mp a0 len0 cap0 z0 _ w0).mono ?_
    rintro e wd ⟨⟨d, t, r, rfl, ⟨d1, d2⟩, ⟨t1, t2⟩, ⟨r1, r2⟩⟩, hbd⟩
    clear w0 hlen
    have hlen := M.prof_len d t r
    go_wp2_with fail
    refine (impl_prof d t r _).mono ?_
    rintro e wa ⟨v, rfl, ho0, hb0⟩
    obtain ⟨p0, c0, rfl, q0⟩ := ho0.view
    clear ho0
    go_wp2_with fail
    refine (spec_prof d t r _).mono ?_
    rintro e wb ⟨v, rfl, ho1, hb1⟩
    obtain ⟨p1, c1, rfl, q1⟩ := ho1.view
    clear ho1
    have q0 := (q0.below hb1).mono hb1.size
    go_wp2_with fail
    refine (same_ints_yes p0 p1 _ c0 c1 _ _ rfl (by omega) q0 q1).mono ?_
    rintro e wc ⟨rfl, hb2⟩
    have q0 := (q0.below hb2).mono hb2.size
    have hs := hbd.size
    have hs0 := hb0.size
    have hs1 := hb1.size
    have hB := Lib.hid ((hbd.trans (hb0.mono (by omega))).trans (hb1.mono (by omega)) |>.trans (hb2.mono (by omega)))
    clear hbd hb0 hb1 hb2 q1
    have hel := Lib.hid (M.prof_bd d t r)
    have hsafe : Hid (M.safe r d (M.prof d t r)) := by
      by_cases h : M.okProf d t r
      · rw [M.prof_yes h]; exact M.safe_mp t r 5000 0 d h.first (by have := h.1; omega)
      · rw [M.prof_no h]; trivial
    have hok : Hid ((M.prof d t r).length ≠ 0 → M.okProf d t r ∧ (M.prof d t r).sum = d) := Lib.hid (fun h => by
      by_cases h' : M.okProf d t r
      · exact ⟨h', (M.prof_facts h').1⟩
      · rw [M.prof_no h'] at h; exact absurd rfl h)
    generalize M.prof d t r = L at *
    obtain ⟨n, hn⟩ : ∃ n, L.length = n := ⟨_, rfl⟩
    rw [hn] at hlen
    rw [hn]
    replace hn := Lib.hid hn
    go_wp2_with fail
    go_loopw [7, 8] (fun s i wr => ∃ (k : Nat) (x : Int), i = .int .i64 k ∧ s = .int .i64 x ∧ k ≤ n ∧ LeftRel L d r k x ∧ Below wc.heap.size wc wr) (fun _ i _ => n - (intOf i).toNat)
    case atStart => exact ⟨0, d, rfl, rfl, Nat.zero_le _, ⟨by simp, hsafe.out⟩, Below.refl _ _⟩
    case round =>
      obtain ⟨k, x, rfl, rfl, hk, hrel, hbr⟩ := hrel
      obtain ⟨x1, x2⟩ := sum_take hel.out k
      have hx := hrel.1
      by_cases hlt : k < n
      · obtain ⟨⟨⟨o1, o2⟩, ⟨⟨o3, o4⟩, ⟨o5, o6⟩⟩⟩, _⟩ := hok.out (by rw [hn.out]; omega)
        obtain ⟨b, o, rfl, hbb, hc⟩ := q0.at (by intro e; have := hn.out; rw [e] at this; simp at this; omega)
        have hcx := hc k (by rw [hn.out]; exact hlt)
        rw [← hbr.cell (p := ⟨b, o + k, none⟩) hbb] at hcx
        have hst := sum_step (show k < L.length by rw [hn.out]; exact hlt)
        obtain ⟨⟨⟨m1, m2⟩, m3⟩, hsf⟩ := safe_cons (show k < L.length by rw [hn.out]; exact hlt) hrel.2
        have hb4 := hbr
        generalize hy : L.getD k 0 = y at *
        have e1 : M.stop y r = M.SD y r := M.stop_yes ⟨⟨by omega, m2⟩, ⟨o5, o6⟩⟩
        obtain ⟨s1, s2⟩ := M.SD_bd y r (by omega) m2
        have hnew : LeftRel L d r (k + 1) (x - y) := ⟨by rw [hst, hx]; omega, hsf⟩
        have hx5 : x ≤ 5000 := by omega
        replace hnew := Lib.hid hnew
        clear hst hsf hrel hx hc hy q0 x1 x2
        have hk3 : (k : Int) < (n : Int) := by omega
        generalize hS : M.SD y r = S at *
        go_wp2_with fail
        go_quiet (first | (go_at_call 15; refine Calls.quiet_of_same (flip (impl_stop _ _ _))))
        go_wp2_with fail
        go_roundw
        case rel => exact ⟨k + 1, x - y, by go_num, rfl, by omega, hnew.out, ⟨hbr.os, hbr.tape, hbr.output, hbr.size, hbr.block⟩⟩
        case measure => simp [intOf]; omega
      · have hkn : k = n := by omega
        subst hkn
        rw [List.take_of_length_le (by rw [hn.out]; exact Nat.le_refl _)] at hx
        clear hrel x1 x2
        by_cases h0 : k = 0
        · subst h0
          clear hx
          go_wp2_with (go_at_call 23; refine (alive _).mono ?_; rintro e w' ⟨rfl, rfl⟩)
          go_ret
          exact ⟨ret_bool (by simp), hB.out.trans (hbr.mono (by have := hB.out.size; omega))⟩
        · obtain ⟨_, h1⟩ := hok.out (by rw [hn.out]; exact h0)
          rw [h1] at hx
          have hx0 : x = 0 := by omega
          subst hx0
          clear hx h1
          have h0 : ((k : Int) == 0) = false := by simp; omega
          go_wp2_with (go_at_call 23; refine (alive _).mono ?_; rintro e w' ⟨rfl, rfl⟩)
          go_ret
          exact ⟨ret_bool (by simp), hB.out.trans (hbr.mono (by have := hB.out.size; omega))⟩
theorem own : ownKnob Try.prog.godebug = none := by kernel_rfl
theorem laidOut : laidOutB Try.prog = true := by kernel_rfl
set_option maxRecDepth 100000 in
theorem lifted (os : Os) (started : os.Started) (H : Type) (enc : TypeId × Value → H) :
    ReturnsInHanded {} Try.checked os 11 .any (Rows.fnProfileDistanceSpec.pre6 enc Try.prog Try.f11 Rows.fnProfileDistanceRow.domain false) (Rows.fnProfileDistanceSpec.post enc Try.prog Try.f11 false true false false) := by
  refine returnsInHanded_of_change (C := Try.checked) own started (by kernel_rfl) Try.func11
    (ChangeSpec.witness6 (enc := enc) (C := Try.checked) false ⟨#[], #[.slice none 0 0], []⟩ 8 (by kernel_rfl) (by kernel_rfl) (by kernel_rfl) (by kernel_rfl)) ?_
  intro W base args ds gs before hval0 hW hcnd _
  have hval : ∀ (j : Nat) t v, Try.f11.params[j]? = some t → args[j]? = some v → Value.okWide Try.prog W .any base t v := hval0
  have hW' := hW
  obtain ⟨p, q, hA0, hV, rfl, hfz, hnd⟩ := hW
  have hA : DataW.TrodAll enc Try.prog W 0 (fun _ => true) true Try.f11.params.toList args.toList ds p := hA0
  rw [Try.params11] at hA hval
  obtain ⟨v0_, vs0, d0, ds0, p0, q0, hargs, rfl, rfl, h0, r0⟩ := trodAll_cons hA
  obtain ⟨rfl, rfl, rfl⟩ := trodAll_nil r0
  obtain rfl : args = #[v0_] := by cases args; simp_all
  obtain ⟨rfl, rfl⟩ := trodVars_none hV
  obtain ⟨a0, len0, cap0, rfl⟩ := okWide_slice Try.underlying30 (hval 0 30 v0_ rfl rfl)
  have k0 := h0
  have lt0 : ∀ x ∈ p0, x.block < W.heap.size := by obtain ⟨m, hm⟩ := k0; exact DataW.trod_lt m _ _ _ hm
  obtain ⟨z0, w0⟩ : ∃ zs, IsRow .u8 W a0 len0 cap0 zs := by
    obtain ⟨fuel, hf⟩ := h0
    rcases open_ints Try.underlying30 Try.underlying5 (by kernel_rfl) hf with ⟨hcs, _⟩ | ⟨x, l, c, zs, hcs, _, hl, hm, hz, _, hcell, hwz⟩
    · simp [Value.cells] at hcs
      obtain ⟨rfl, rfl, rfl⟩ := hcs
      exact ⟨[], .inl ⟨rfl, rfl, rfl, rfl⟩⟩
    · simp [Value.cells] at hcs
      obtain ⟨rfl, rfl, rfl⟩ := hcs
      exact ⟨zs, .inr ⟨_, rfl, hl, hm, by simpa using hz, hcell, hwz⟩⟩
  clear hA0 hval0
  refine (walk a0 len0 cap0 z0 W w0).mono fun e W' ⟨he, bel⟩ => ?_
  subst he
  exact ⟨_, rfl, _, _, _, [], _, [], hW', trodAll_mk1 (shut_bool Try.underlying4 _), (trodAll_cons_mk (Below.trod laidOut (by kernel_rfl) (of_decide_eq_true (by kernel_rfl)) k0 bel lt0) trodAll_mk0), rfl, bel.frame _, fun h => by cases h⟩
theorem over : Rows.fnProfileDistanceRow.holds Try.pinned (OpenSpec.ofChange Rows.fnProfileDistanceSpec) :=
  OpenClaim.holds_of_wide 11 Try.f11 rfl rfl rfl rfl rfl rfl rfl ⟨rfl, rfl, rfl, rfl, rfl⟩ rfl rfl rfl rfl rfl (by kernel_rfl) Try.func11 (by kernel_rfl)
    (of_decide_eq_true (by kernel_rfl)) (by unfold Func.isWrapper; first | (rw [if_pos (by decide +kernel)]; kernel_rfl) | (rw [if_neg (by decide +kernel)]; exact ⟨rfl, rfl⟩))
    (fun os started H enc _ => lifted os started H enc)
theorem proved : Rows.FnProfileDistanceSaid := over
#print axioms proved
end Go.Proofs.Ytokbppalkbpfaaa.fnProfileDistance
