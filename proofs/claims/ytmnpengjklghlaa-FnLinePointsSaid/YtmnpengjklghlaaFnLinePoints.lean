/- Proves that the law FnLinePoints returns true for every input. Conditions: none. -/
import Derived.Test.YtmnpengjklghlaaRows
import Derived.Test.YtmnpengjklghlaaDrawLine
import Derived.Test.YtmnpengjklghlaaLines
import Derived.Test.YtmnpengjklghlaaAlive
import Derived.ChangeOld
import Derived.ShutString
import Derived.Lib.SmallJoins
import Derived.Deep.RegionHeld3
import Derived.Deep.DeepCutAuto
import Derived.Deep.CutBlock
namespace Go.Proofs.Ytmnpengjklghlaa.fnLinePoints
open Go.ChangeShapes Go.WideShapes Go.ChangeAt Go.RowKit
set_option linter.unusedVariables false
theorem M.line_ends (a c : Int) {n : Int} (h : 1 ≤ n) : M.lc a c n 0 = a ∧ M.lc a c n n = c := by
  unfold M.lc
  rw [Int.zero_mul, Int.zero_ediv, Int.mul_ediv_cancel_left _ (by omega)]
  omega
theorem M.line_at (a b c d n : Int) {m k : Nat} (h : k < m) : (M.line a b c d n m).getD k (0, 0) = (M.lc a c n k, M.lc b d n k) := by
  rw [List.getD_eq_getElem?_getD, List.getElem?_eq_getElem (by rw [M.line_len]; exact h)]
  simp [M.line]
/-- what the law says of the points -/
theorem M.lpts_law {a b c d n : Int} (h : ¬ (M.lpts a b c d n).length = 0) : ∃ m : Nat, n = (m : Int) ∧ 1 ≤ m ∧ m ≤ 400 ∧ (M.lpts a b c d n).length = m + 1 ∧ (∀ k, k ≤ m → (min a c ≤ ((M.lpts a b c d n).getD k (0, 0)).1 ∧ ((M.lpts a b c d n).getD k (0, 0)).1 ≤ max a c) ∧ (min b d ≤ ((M.lpts a b c d n).getD k (0, 0)).2 ∧ ((M.lpts a b c d n).getD k (0, 0)).2 ≤ max b d)) ∧ (((M.lpts a b c d n).getD 0 (0, 0)).1 = a ∧ ((M.lpts a b c d n).getD 0 (0, 0)).2 = b) ∧ (((M.lpts a b c d n).getD m (0, 0)).1 = c ∧ ((M.lpts a b c d n).getD m (0, 0)).2 = d) := by
  by_cases hk : okLine a b c d n
  · obtain ⟨⟨p1, p2⟩, p3, p4⟩ := id hk
    obtain ⟨m, rfl⟩ : ∃ m : Nat, n = m := ⟨n.toNat, by omega⟩
    have e : ((m : Int) + 1).toNat = m + 1 := by omega
    rw [M.lpts_yes hk, e]
    have q1 := M.pvB_true.1 p1
    have q2 := M.pvB_true.1 p2
    refine ⟨m, rfl, by omega, by omega, M.line_len _ _ _ _ _ _, fun k hle => ?_, ?_, ?_⟩
    · rw [M.line_at a b c d m (by omega)]
      exact ⟨(lc_bd (by omega) (by omega) (by omega) (by omega)).2.2, (lc_bd (by omega) (by omega) (by omega) (by omega)).2.2⟩
    · rw [M.line_at a b c d m (by omega)]
      exact ⟨(M.line_ends a c p3).1, (M.line_ends b d p3).1⟩
    · rw [M.line_at a b c d m (by omega)]
      exact ⟨(M.line_ends a c p3).2, (M.line_ends b d p3).2⟩
  · exfalso; apply h; rw [M.lpts_no hk]; rfl
set_option maxRecDepth 20000 in
set_option maxHeartbeats 8000000 in
theorem walk (a0 : Option Addr) (len0 cap0 : Nat) (z0 : List Int) (w : World) (w0 : IsRow .u8 w a0 len0 cap0 z0) :
    Calls Try.prog 4 #[.slice a0 len0 cap0] w fun e w' => e = .returned (.bool true) ∧ Below w.heap.size w w' := by
  by_cases hlen : (1048576 : Int) < len0
  · go_enter Try.func4, Try.ntmps4
    go_wp2
    go_ret
    exact ⟨rfl, Below.refl _ _⟩
  go_enter Try.func4, Try.ntmps4
  go_wp2_with fail
  refine (draw_line a0 len0 cap0 z0 _ w0).mono ?_
  rintro e w1 ⟨a, b, c, d, n, rfl, q⟩
  have B0 := (Box.new w1 a b 26).alloc (.cells #[.int .i64 c, .int .i64 d] 26)
  have B1 := Box.new (w1.alloc (.cells #[.int .i64 a, .int .i64 b] 26)) c d 26
  rw [World.size_alloc] at B1
  have hq := Lib.hid (bel_alloc (bel_alloc q (.cells #[.int .i64 a, .int .i64 b] 26)) (.cells #[.int .i64 c, .int .i64 d] 26))
  clear w0 hlen q
  have s : Two ((w1.alloc (.cells #[.int .i64 a, .int .i64 b] 26)).alloc (.cells #[.int .i64 c, .int .i64 d] 26)) w1.heap.size a b c d := ⟨⟨B0.1, B0.2.1⟩, ⟨B1.1, B1.2.1⟩⟩
  have hK : w1.heap.size + 1 < ((w1.alloc (.cells #[.int .i64 a, .int .i64 b] 26)).alloc (.cells #[.int .i64 c, .int .i64 d] 26)).heap.size := by simp
  clear B0 B1
  have hlen : (M.lpts a b c d n).length ≤ 401 := by
    by_cases h : okLine a b c d n
    · rw [M.lpts_yes h, M.line_len]; have := h.2; omega
    · rw [M.lpts_no h]; simp
  have hlaw := Lib.hid (fun h => M.lpts_law (a := a) (b := b) (c := c) (d := d) (n := n) h)
  obtain ⟨nL, hn⟩ : ∃ nL, (M.lpts a b c d n).length = nL := ⟨_, rfl⟩
  rw [hn] at hlen
  obtain ⟨L, hL⟩ : ∃ L, M.lpts a b c d n = L := ⟨_, rfl⟩
  rw [hL] at hn hlaw
  replace hL := Lib.hid hL
  replace hn := Lib.hid hn
  obtain ⟨⟨s1, s2⟩, ⟨s3, s4⟩⟩ := id s
  go_upto_region 4 with fail
  clear s1 s2 s3 s4
  generalize (w1.alloc (.cells #[.int .i64 a, .int .i64 b] 26)).alloc (.cells #[.int .i64 c, .int .i64 d] 26) = v at *
  generalize w1.heap.size = K at *
  obtain ⟨⟨s1, s2⟩, ⟨s3, s4⟩⟩ := id s
  go_wp2_with fail
  clear s1 s2 s3 s4
  refine (impl_line a b c d n _).mono ?_
  rintro e w2 ⟨vg, rfl, og, q⟩
  rw [hL.out] at og
  replace s := s.below q hK
  replace hK := Nat.lt_of_lt_of_le hK q.size
  replace hq := Lib.hid (hq.out.trans (q.mono hq.out.size))
  clear q
  obtain ⟨pg, cg, rfl, _⟩ := og.view
  rw [hn.out] at og ⊢
  replace og := Lib.hid og
  obtain ⟨⟨s1, s2⟩, ⟨s3, s4⟩⟩ := id s
  go_wp2_with fail
  clear s1 s2 s3 s4
  refine (spec_line a b c d n _).mono ?_
  rintro e w3 ⟨vw, rfl, ow, q⟩
  rw [hL.out] at ow
  replace s := s.below q hK
  replace hK := Nat.lt_of_lt_of_le hK q.size
  replace hq := Lib.hid (hq.out.trans (q.mono hq.out.size))
  replace og := Lib.hid (og.out.old q)
  clear q
  obtain ⟨pw, cw, rfl, _⟩ := ow.view
  rw [hn.out] at ow ⊢
  go_wp2_with fail
  refine (same_pts_yes pg pw nL cg cw L _ hn.out (by omega) og.out.row ow.row).mono ?_
  rintro e w4 ⟨rfl, q⟩
  clear ow
  replace s := s.below q hK
  replace hK := Nat.lt_of_lt_of_le hK q.size
  replace hq := Lib.hid (hq.out.trans (q.mono hq.out.size))
  replace og := Lib.hid (og.out.old q)
  clear q
  by_cases hz : nL = 0
  · have hz2 : ((nL : Int) == 0) = true := by simp [hz]
    replace hz := Lib.hid hz
    go_wp2_with (go_at_call 15; refine (alive _).mono ?_; rintro e w' ⟨rfl, rfl⟩)
    go_ret
    exact ⟨rfl, hq.out⟩
  have hz2 : ((nL : Int) == 0) = false := by simp; exact hz
  obtain ⟨m, rfl, hm1, hm2, hm3, hbox, ⟨e1, e2⟩, ⟨e3, e4⟩⟩ := hlaw.out (by rw [hn.out]; exact hz)
  rw [hn.out] at hm3
  subst hm3
  clear hlaw hz hlen
  replace hbox := Lib.hid hbox
  obtain ⟨g, rfl, hg, _⟩ := og.out.row.at (by intro e9; have h9 := hn.out; rw [e9] at h9; simp at h9)
  have hrow := Lib.hid (fun k hk => og.out.cellAt hn.out k hk)
  clear og
  obtain ⟨⟨c0, _⟩, ⟨c1, _⟩, _⟩ := hrow.out 0 (by omega)
  obtain ⟨⟨c2, _⟩, ⟨c3, _⟩, _⟩ := hrow.out m (by omega)
  rw [e1] at c0
  rw [e2] at c1
  rw [e3] at c2
  rw [e4] at c3
  have hends := Lib.hid (And.intro (And.intro c0 c1) (And.intro c2 c3))
  clear c0 c1 c2 c3 e1 e2 e3 e4
  go_wp2_with fail
  go_loopw [7, 8] (fun kv pv wr => ∃ k : Nat, kv = .int .i64 k ∧ k ≤ m + 1 ∧ Hid (Below w4.heap.size w4 wr)) (fun kv _ _ => m + 1 - (intOf kv).toNat)
  case atStart => exact ⟨0, rfl, Nat.zero_le _, Lib.hid (Below.refl _ _)⟩
  case round =>
    obtain ⟨k, rfl, hk, bd⟩ := hrel
    replace s := s.below bd.out hK
    replace hq := Lib.hid (hq.out.trans (bd.out.mono hq.out.size))
    have hz := bd.out.size
    by_cases hlt : k < m + 1
    · have hk2 : (k : Int) < (m : Int) + 1 := by omega
      obtain ⟨⟨y1, _⟩, ⟨y2, _⟩, _, _⟩ := hrow.out k hlt
      obtain ⟨⟨b1, b2⟩, ⟨b3, b4⟩⟩ := hbox.out k (by omega)
      generalize (L.getD k (0, 0)).1 = x at *
      generalize (L.getD k (0, 0)).2 = y at *
      rw [← bd.out.cell (p := ⟨g, k * 2, none⟩) hg] at y1
      rw [← bd.out.cell (p := ⟨g, k * 2 + 1, none⟩) hg] at y2
      have ewk : IntKind.i64.wrap ((k : Int) + 1) = (k : Int) + 1 := IntWalk.i64_in _ (by omega)
      go_upto_region 13 with fail
      have kb := Box.new wr x y 26
      replace s := s.below (bel_alloc (Below.refl _ wr) (.cells #[.int .i64 x, .int .i64 y] 26)) (by omega)
      replace bd := Lib.hid (bel_alloc bd.out (.cells #[.int .i64 x, .int .i64 y] 26))
      clear y1 y2 hends hq hrow hbox
      generalize wr.heap.size = J at kb ⊢
      generalize wr.alloc (.cells #[.int .i64 x, .int .i64 y] 26) = u at *
      obtain ⟨k1, k2, _⟩ := kb
      obtain ⟨⟨s1, s2⟩, ⟨s3, s4⟩⟩ := id s
      rcases Int.lt_or_le c a with hac | hac <;> rcases Int.lt_or_le d b with hbd | hbd
      all_goals
        go_wp2_with fail
        all_goals exact ⟨⟨k + 1, by omega, by omega⟩, by simp [intOf]; omega⟩
    · obtain rfl : k = m + 1 := by omega
      obtain ⟨⟨c0, c1⟩, ⟨c2, c3⟩⟩ := hends.out
      rw [← bd.out.cell (p := ⟨g, 0 * 2, none⟩) hg] at c0
      rw [← bd.out.cell (p := ⟨g, 0 * 2 + 1, none⟩) hg] at c1
      rw [← bd.out.cell (p := ⟨g, m * 2, none⟩) hg] at c2
      rw [← bd.out.cell (p := ⟨g, m * 2 + 1, none⟩) hg] at c3
      rw [Nat.zero_mul] at c0
      rw [Nat.zero_mul, Nat.zero_add] at c1
      have ewm : IntKind.i64.wrap ((m : Int) + 1) = (m : Int) + 1 := IntWalk.i64_in _ (by omega)
      have elm : ((m + 1 : Nat) : Int) = (m : Int) + 1 := by omega
      have i1 : (m : Int) < (m : Int) + 1 := by omega
      have i2 : (0 : Int) < (m : Int) + 1 := by omega
      obtain ⟨⟨s1, s2⟩, ⟨s3, s4⟩⟩ := id s
      clear hends hrow hbox
      go_wp2_with fail
      go_quiet (fail)
      go_wp2_with fail
      go_ret
      exact ⟨rfl, ⟨hq.out.os, hq.out.tape, hq.out.output, hq.out.size, hq.out.block⟩⟩
theorem own : ownKnob Try.prog.godebug = none := by kernel_rfl
theorem laidOut : laidOutB Try.prog = true := by kernel_rfl
set_option maxRecDepth 100000 in
theorem lifted (os : Os) (started : os.Started) (H : Type) (enc : TypeId × Value → H) :
    ReturnsInHanded {} Try.checked os 4 .any (Rows.fnLinePointsSpec.pre6 enc Try.prog Try.f4 Rows.fnLinePointsRow.domain false) (Rows.fnLinePointsSpec.post enc Try.prog Try.f4 false true false false) := by
  refine returnsInHanded_of_change (C := Try.checked) own started (by kernel_rfl) Try.func4
    (ChangeSpec.witness6 (enc := enc) (C := Try.checked) false ⟨#[], #[.slice none 0 0], []⟩ 8 (by kernel_rfl) (by kernel_rfl) (by kernel_rfl) (by kernel_rfl)) ?_
  intro W base args ds gs before hval0 hW hcnd _
  have hval : ∀ (j : Nat) t v, Try.f4.params[j]? = some t → args[j]? = some v → Value.okWide Try.prog W .any base t v := hval0
  have hW' := hW
  obtain ⟨p, q, hA0, hV, rfl, hfz, hnd⟩ := hW
  have hA : DataW.TrodAll enc Try.prog W 0 (fun _ => true) true Try.f4.params.toList args.toList ds p := hA0
  rw [Try.params4] at hA hval
  obtain ⟨v0_, vs0, d0, ds0, p0, q0, hargs, rfl, rfl, h0, r0⟩ := trodAll_cons hA
  obtain ⟨rfl, rfl, rfl⟩ := trodAll_nil r0
  obtain rfl : args = #[v0_] := by cases args; simp_all
  obtain ⟨rfl, rfl⟩ := trodVars_none hV
  obtain ⟨a0, len0, cap0, rfl⟩ := okWide_slice Try.underlying31 (hval 0 31 v0_ rfl rfl)
  have k0 := h0
  have lt0 : ∀ x ∈ p0, x.block < W.heap.size := by obtain ⟨m, hm⟩ := k0; exact DataW.trod_lt m _ _ _ hm
  obtain ⟨z0, w0⟩ : ∃ zs, IsRow .u8 W a0 len0 cap0 zs := by
    obtain ⟨fuel, hf⟩ := h0
    rcases open_ints Try.underlying31 Try.underlying5 (by kernel_rfl) hf with ⟨hcs, _⟩ | ⟨x, l, c, zs, hcs, _, hl, hm, hz, _, hcell, hwz⟩
    · simp [Value.cells] at hcs
      obtain ⟨rfl, rfl, rfl⟩ := hcs
      exact ⟨[], .inl ⟨rfl, rfl, rfl, rfl⟩⟩
    · simp [Value.cells] at hcs
      obtain ⟨rfl, rfl, rfl⟩ := hcs
      exact ⟨zs, .inr ⟨_, rfl, hl, hm, by simpa using hz, hcell, hwz⟩⟩
  clear hA0 hval0
  refine (walk a0 len0 cap0 z0 W w0).mono fun e W' ⟨he, bel⟩ => ?_
  subst he
  exact ⟨_, rfl, _, _, _, [], _, [], hW', trodAll_mk1 (shut_bool Try.underlying4 _), (trodAll_cons_mk (Below.trod laidOut (by kernel_rfl) (of_decide_eq_true (by kernel_rfl)) k0 bel lt0) trodAll_mk0), rfl, bel.frame _, fun h => by cases h⟩
theorem over : Rows.fnLinePointsRow.holds Try.pinned (OpenSpec.ofChange Rows.fnLinePointsSpec) :=
  OpenClaim.holds_of_wide 4 Try.f4 rfl rfl rfl rfl rfl rfl rfl ⟨rfl, rfl, rfl, rfl, rfl⟩ rfl rfl rfl rfl rfl (by kernel_rfl) Try.func4 (by kernel_rfl)
    (of_decide_eq_true (by kernel_rfl)) (by unfold Func.isWrapper; first | (rw [if_pos (by decide +kernel)]; kernel_rfl) | (rw [if_neg (by decide +kernel)]; exact ⟨rfl, rfl⟩))
    (fun os started H enc _ => lifted os started H enc)
theorem proved : Rows.FnLinePointsSaid := over
#print axioms proved
end Go.Proofs.Ytmnpengjklghlaa.fnLinePoints
