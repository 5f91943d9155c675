/- Proves that the law FnProfileValid returns true for every input. Conditions: none. -/
import Derived.Test.YtokbppalkbpfaaaRows
import Derived.Test.YtokbppalkbpfaaaDrawPl
import Derived.Test.YtokbppalkbpfaaaPvalid
import Derived.Test.YtokbppalkbpfaaaAlive
import Derived.ChangeOld
import Derived.ShutString
import Derived.Lib.SmallJoins
namespace Go.Proofs.Ytokbppalkbpfaaa.fnProfileValid
open Go.ChangeShapes Go.WideShapes Go.ChangeAt Go.RowKit
set_option linter.unusedVariables false
theorem drop_rev {L : List Int} {m : Nat} (h : m < L.length) : (L.drop m).reverse = (L.drop (m + 1)).reverse ++ [L.getD m 0] := by
  rw [List.drop_eq_getElem_cons h, List.reverse_cons, List.getD_eq_getElem?_getD, List.getElem?_eq_getElem h]
  rfl
set_option maxHeartbeats 4000000 in
theorem walk (a0 : Option Addr) (len0 cap0 : Nat) (z0 : List Int) (w : World) (w0 : IsRow .u8 w a0 len0 cap0 z0) :
    Calls Try.prog 10 #[.slice a0 len0 cap0] w fun e w' => e = .returned (.bool true) ∧ Below w.heap.size w w' := by
  obtain ⟨i0, hi, hz0, hz1, hz2⟩ := info_parts infoInt
  by_cases hlen : (1048576 : Int) < len0
  · go_enter Try.func10, Try.ntmps10
    go_wp2
    go_ret
    exact ⟨rfl, Below.refl _ _⟩
  · go_enter Try.func10, Try.ntmps10
    go_wp2_with fail
    refine (draw_pl a0 len0 cap0 z0 _ w0).mono ?_
    rintro e wd ⟨v, L, t, r, rfl, ho, h5, ⟨t1, t2⟩, ⟨r1, r2⟩, hbd⟩
    obtain ⟨p, cap, rfl, q0⟩ := ho.view
    obtain ⟨n, hn⟩ : ∃ n, L.length = n := ⟨_, rfl⟩
    rw [hn] at h5
    rw [hn]
    replace hn := Lib.hid hn
    have hq := Lib.hid hbd
    clear w0 hlen hbd ho
    go_wp2_with fail
    refine (impl_pvalid p n cap L t r _ hn.out (by omega) q0).mono ?_
    rintro e w' ⟨rfl, rfl⟩
    go_wp2_with fail
    refine (spec_pvalid p n cap L t r _ hn.out (by omega) q0).mono ?_
    rintro e w' ⟨rfl, rfl⟩
    cases hok : M.pok L t r
    · go_wp2_with (go_at_call 23; refine (alive _).mono ?_; rintro e w' ⟨rfl, rfl⟩)
      go_ret
      exact ⟨rfl, hq.out⟩
    · have hrev := Lib.hid (M.pok_reverse hok)
      have hmade := Lib.hid (Owns.made (w := wd) (Nat.le_refl _))
      have hbm := Lib.hid ((Below.refl wd.heap.size wd).alloc (Nat.le_refl _) (.cells #[] 3))
      replace hok := Lib.hid hok
      go_wp2_with fail
      go_loopw [7, 8] (fun v k wr => ∃ q : Int, k = .int .i64 q ∧ (-1 ≤ q ∧ q < n) ∧ Owns wr wd.heap.size v (L.drop (q + 1).toNat).reverse ∧ Below wd.heap.size wd wr) (fun _ k _ => (intOf k + 1).toNat)
      case atStart => exact ⟨_, rfl, ⟨by omega, by omega⟩, by rw [List.drop_of_length_le (by rw [hn.out]; omega)]; exact hmade.out, hbm.out⟩
      case round =>
        obtain ⟨q, rfl, ⟨k1, k2⟩, hown, hb⟩ := hrel
        have hsz := hb.size
        by_cases hlt : 0 ≤ q
        · obtain ⟨m, rfl⟩ := Int.eq_ofNat_of_zero_le hlt
          have hm : m < n := by omega
          have em : ((m : Int) + 1).toNat = m + 1 := by omega
          rw [em] at hown
          have hlen : (L.drop (m + 1)).reverse.length ≤ 5000 := by rw [List.length_reverse, List.length_drop, hn.out]; omega
          obtain ⟨b, o, rfl, hbb, hc⟩ := q0.at (by intro e; have := hn.out; rw [e] at this; simp at this; omega)
          have hcx := hc m (by rw [hn.out]; exact hm)
          rw [← hb.cell (p := ⟨b, o + m, none⟩) hbb] at hcx
          have hdr := drop_rev (show m < L.length by rw [hn.out]; exact hm)
          generalize L.getD m 0 = x at *
          replace hdr := Lib.hid hdr
          generalize (L.drop (m + 1)).reverse = T at *
          clear hc q0 em
          go_wp2_with (first | (at_builtin; refine wpList_append_own _ rfl _ _ 26 rfl wd.heap.size 3 i0 (.int .i64 0) 1 8 Try.underlying26 hi hz0 hz1 hz2 rfl (by decide) _ _ _ rfl (World.ownsRow.alloc hown _) ⟨wr.heap.size, 0, none⟩ 1 1 [.int .i64 x] rfl rfl ?c1 ?c2 ?c3 ?c4 ?c5 ?_))
          case c1 =>
            intro j u hj
            match j, hj with
            | 0, hj => simp at hj; subst hj; simp [Addr.add]
          case c2 => intro u hu; simp at hu; subst hu; rfl
          case c3 => unfold maxLen; omega
          case c4 => omega
          case c5 => simp; omega
          intro v' w1 hown' hgrow _
          have hp := Lib.hid (hown.push hb hsz hown' hgrow)
          clear hown' hgrow hown
          go_wp2
          go_roundw
          case rel => exact ⟨_, rfl, ⟨by omega, by omega⟩, by (rw [show ((m : Int) - 1 + 1).toNat = m by omega, hdr.out]; exact hp.out.1), hp.out.2⟩
          case measure => simp [intOf] <;> omega
        · have hq1 : q = -1 := by omega
          subst hq1
          have hown : Owns wr wd.heap.size _ L.reverse := hown
          obtain ⟨p7, c7, rfl, r7⟩ := hown.view
          have hlr : L.reverse.length = n := by rw [List.length_reverse, hn.out]
          rw [hlr] at hown ⊢
          replace hlr := Lib.hid hlr
          have hov := Lib.hid (M.pok_over L.reverse t r)
          go_wp2_with fail
          refine (impl_pvalid p7 n c7 L.reverse t r _ hlr.out (by omega) r7).mono ?_
          rintro e w' ⟨rfl, rfl⟩
          rw [hrev.out]
          go_wp2_with (at_builtin; refine wpList_append_want _ rfl _ _ 26 rfl wd.heap.size 3 i0 (.int .i64 0) 1 8 Try.underlying26 hi hz0 hz1 hz2 rfl (by decide) _ _ _ rfl (World.ownsRow.alloc hown _) ⟨wr.heap.size, 0, none⟩ 1 1 [.int .i64 (t + 1)] rfl rfl ?d1 ?d2 ?d3 ?d4 ?d5 ?_)
          case d1 =>
            intro j u hj
            match j, hj with
            | 0, hj => simp at hj; subst hj; simp [Addr.add]
          case d2 => intro u hu; simp at hu; subst hu; rfl
          case d3 => have h1 := hlr.out; unfold maxLen; omega
          case d4 => have h1 := hlr.out; omega
          case d5 => simp; omega
          intro v' w1 hown' hgrow _
          obtain ⟨ho9, hb9⟩ := hown.push (x := t + 1) hb hsz (by simpa using hown') hgrow
          obtain ⟨p9, c9, rfl, r9⟩ := ho9.view
          have hl9 : (L.reverse ++ [t + 1]).length = n + 1 := by rw [List.length_append, hlr.out]; rfl
          rw [hl9]
          clear hown' hgrow hown ho9
          go_wp2_with fail
          refine (impl_pvalid p9 (n + 1) c9 (L.reverse ++ [t + 1]) t r _ hl9 (by omega) r9).mono ?_
          rintro e w' ⟨rfl, rfl⟩
          rw [hov.out]
          go_wp2_with fail
          go_ret
          exact ⟨rfl, hq.out.trans (hb9.mono hq.out.size)⟩
theorem own : ownKnob Try.prog.godebug = none := by kernel_rfl
theorem laidOut : laidOutB Try.prog = true := by kernel_rfl
set_option maxRecDepth 100000 in
theorem lifted (os : Os) (started : os.Started) (H : Type) (enc : TypeId × Value → H) :
    ReturnsInHanded {} Try.checked os 10 .any (Rows.fnProfileValidSpec.pre6 enc Try.prog Try.f10 Rows.fnProfileValidRow.domain false) (Rows.fnProfileValidSpec.post enc Try.prog Try.f10 false true false false) := by
  refine returnsInHanded_of_change (C := Try.checked) own started (by kernel_rfl) Try.func10
    (ChangeSpec.witness6 (enc := enc) (C := Try.checked) false ⟨#[], #[.slice none 0 0], []⟩ 8 (by kernel_rfl) (by kernel_rfl) (by kernel_rfl) (by kernel_rfl)) ?_
  intro W base args ds gs before hval0 hW hcnd _
  have hval : ∀ (j : Nat) t v, Try.f10.params[j]? = some t → args[j]? = some v → Value.okWide Try.prog W .any base t v := hval0
  have hW' := hW
  obtain ⟨p, q, hA0, hV, rfl, hfz, hnd⟩ := hW
  have hA : DataW.TrodAll enc Try.prog W 0 (fun _ => true) true Try.f10.params.toList args.toList ds p := hA0
  rw [Try.params10] at hA hval
  obtain ⟨v0_, vs0, d0, ds0, p0, q0, hargs, rfl, rfl, h0, r0⟩ := trodAll_cons hA
  obtain ⟨rfl, rfl, rfl⟩ := trodAll_nil r0
  obtain rfl : args = #[v0_] := by cases args; simp_all
  obtain ⟨rfl, rfl⟩ := trodVars_none hV
  obtain ⟨a0, len0, cap0, rfl⟩ := okWide_slice Try.underlying30 (hval 0 30 v0_ rfl rfl)
  have k0 := h0
  have lt0 : ∀ x ∈ p0, x.block < W.heap.size := by obtain ⟨m, hm⟩ := k0; exact DataW.trod_lt m _ _ _ hm
  obtain ⟨z0, w0⟩ : ∃ zs, IsRow .u8 W a0 len0 cap0 zs := by
    obtain ⟨fuel, hf⟩ := h0
    rcases open_ints Try.underlying30 Try.underlying5 (by kernel_rfl) hf with ⟨hcs, _⟩ | ⟨x, l, c, zs, hcs, _, hl, hm, hz, _, hcell, hwz⟩
    · simp [Value.cells] at hcs
      obtain ⟨rfl, rfl, rfl⟩ := hcs
      exact ⟨[], .inl ⟨rfl, rfl, rfl, rfl⟩⟩
    · simp [Value.cells] at hcs
      obtain ⟨rfl, rfl, rfl⟩ := hcs
      exact ⟨zs, .inr ⟨_, rfl, hl, hm, by simpa using hz, hcell, hwz⟩⟩
  clear hA0 hval0
  refine (walk a0 len0 cap0 z0 W w0).mono fun e W' ⟨he, bel⟩ => ?_
  subst he
  exact ⟨_, rfl, _, _, _, [], _, [], hW', trodAll_mk1 (shut_bool Try.underlying4 _), (trodAll_cons_mk (Below.trod laidOut (by kernel_rfl) (of_decide_eq_true (by kernel_rfl)) k0 bel lt0) trodAll_mk0), rfl, bel.frame _, fun h => by cases h⟩
theorem over : Rows.fnProfileValidRow.holds Try.pinned (OpenSpec.ofChange Rows.fnProfileValidSpec) :=
  OpenClaim.holds_of_wide 10 Try.f10 rfl rfl rfl rfl rfl rfl rfl ⟨rfl, rfl, rfl, rfl, rfl⟩ rfl rfl rfl rfl rfl (by kernel_rfl) Try.func10 (by kernel_rfl)
    (of_decide_eq_true (by kernel_rfl)) (by unfold Func.isWrapper; first | (rw [if_pos (by decide +kernel)]; kernel_rfl) | (rw [if_neg (by decide +kernel)]; exact ⟨rfl, rfl⟩))
    (fun os started H enc _ => lifted os started H enc)
theorem proved : Rows.FnProfileValidSaid := over
#print axioms proved
end Go.Proofs.Ytokbppalkbpfaaa.fnProfileValid
