/- Proves the tied card of the law FnSolveArm: it returns true for every input, the tables of the sine being as laid by the program text. -/
import Derived.Test.YtmainffjekjlnaaDoorCards
import Derived.Test.YtmainffjekjlnaaDoorTie
import Derived.Test.YtmainffjekjlnaaDoorLaid
import Derived.Test.YtmainffjekjlnaaDoorSolveS
import Derived.Test.YtmainffjekjlnaaDoorDrawSolve
import Derived.Test.YtmainffjekjlnaaDoorTipMath
import Derived.Test.YtmainffjekjlnaaDoorAlive
import Derived.ChangeOld
import Derived.ShutString
import Derived.Lib.SmallJoins
import Derived.LaidMore
import Derived.Stop.Joined
import Derived.SevenTiedAt
import Derived.Deep.RegionHeld3
import Derived.Deep.DeepCutAuto
import Derived.Deep.CutBlock
namespace Go.Proofs.YtmainffjekjlnaaDoor.fnSolveArm
open Go.ChangeShapes Go.WideShapes Go.ChangeAt Go.RowKit
set_option linter.unusedVariables false
theorem M.joints_low {l lo hi : List Int} (h : M.armB l lo hi = true) : M.jointsB l lo hi lo = true := by
  obtain ⟨⟨_, e3, _⟩, hv⟩ := M.armB_true h
  refine (M.joints_ok h (by omega) (fun k hk => ?_)).symm
  have := hv k (by omega)
  exact M.inB_iff.2 ⟨Int.le_refl _, by omega⟩
theorem M.sq_tip {l lo hi j : List Int} (X Y : Int) (h : M.jointsB l lo hi j = true) : M.sq (M.tipX l lo hi j) (M.tipY l lo hi j) X Y = M.score l j X Y := by
  unfold M.score
  rw [(M.tip_yes h).1, (M.tip_yes h).2]
theorem M.solve_len (l lo hi : List Int) (X Y : Int) : (M.solve l lo hi X Y).length ≤ 2 := by
  unfold M.solve
  split
  · rename_i h
    obtain ⟨u, v, e, _⟩ := M.found_best (X := X) (Y := Y) h.1 h.2.1
    rw [e]; exact Nat.le_refl _
  · exact Nat.zero_le _
theorem M.solve_ne {l lo hi : List Int} {X Y : Int} (h : ¬ (M.solve l lo hi X Y).length = 0) : M.fits l lo hi X Y ∧ (M.solve l lo hi X Y).length = 2 ∧ M.jointsB l lo hi (M.solve l lo hi X Y) = true ∧ ∀ j, M.jointsB l lo hi j = true → M.score l (M.solve l lo hi X Y) X Y ≤ M.score l j X Y := by
  by_cases hk : M.fits l lo hi X Y
  · obtain ⟨u, v, e, h1, h2⟩ := M.found_best (X := X) (Y := Y) hk.1 hk.2.1
    rw [← M.solve_yes hk, e]
    exact ⟨hk, rfl, h1, h2⟩
  · exfalso; apply h; rw [← M.solve_no hk]; rfl
/-- a slice of bytes that came in -/
def Bytes (w : World) (a : Option Addr) (len : Nat) : Prop := len = 0 ∨ ∃ b o, a = some ⟨b, o, none⟩ ∧ b < w.heap.size ∧ ∀ i, i < len → ∃ x : Int, w.cell? ⟨b, o + i, none⟩ = some (.int .u8 x) ∧ 0 ≤ x ∧ x ≤ 255
theorem Bytes.after {w w' : World} {a : Option Addr} {len : Nat} (h : Bytes w a len) (hb : Below w.heap.size w w') : Bytes w' a len := by
  rcases h with h | ⟨b, o, e, hlt, hc⟩
  · exact .inl h
  · refine .inr ⟨b, o, e, Nat.lt_of_lt_of_le hlt hb.size, fun i hi => ?_⟩
    obtain ⟨x, h1, h2⟩ := hc i hi
    exact ⟨x, by rw [hb.cell (p := ⟨b, o + i, none⟩) hlt]; exact h1, h2⟩
theorem Bytes.of_row {w : World} {a : Option Addr} {len cap : Nat} {zs : List Int} (h : IsRow .u8 w a len cap zs) : Bytes w a len := by
  rcases h with ⟨rfl, rfl, rfl, rfl⟩ | ⟨⟨b, o, s⟩, rfl, hl, hm, hz, hcell, hwz⟩
  · exact .inl rfl
  · by_cases h0 : len = 0
    · exact .inl h0
    · have hc := hcell 0 (by omega)
      have hs : s = none := by simpa [Addr.add] using World.cell?_spot hc
      subst hs
      refine .inr ⟨b, o, rfl, World.block_lt_of_cell? w ⟨b, o, none⟩ (by simpa [Addr.add] using hc), fun i hi => ?_⟩
      have hi2 : i < zs.length := by omega
      have hm : zs.getD i 0 ∈ zs := by rw [List.getD_eq_getElem?_getD, List.getElem?_eq_getElem hi2]; exact List.getElem_mem hi2
      have hw := hwz _ hm
      have hx : 0 ≤ zs.getD i 0 ∧ zs.getD i 0 ≤ 255 := by simpa [Lit.wf, IntKind.min, IntKind.max, IntKind.signed, IntKind.bits] using hw
      have e : (⟨b, o, none⟩ : Addr).add i = ⟨b, o + i, none⟩ := by (by_cases hi0 : i = 0 <;> simp [Addr.add, hi0])
      have hcc := hcell i hi2
      rw [e] at hcc
      exact ⟨zs.getD i 0, hcc, hx⟩
theorem M.tip_same {l lo hi j : List Int} (h : M.jointsB l lo hi j = true) : M.score l j (M.tipX l lo hi j) (M.tipY l lo hi j) = 0 := by
  have hp := M.tip_pv h
  unfold M.score
  rw [(M.tip_yes h).1, (M.tip_yes h).2, M.sq_yes hp hp, Int.sub_self, Int.sub_self]
  rfl
theorem M.sq_none {x y : Int} (h : x * x + y * y ≤ 0) : x = 0 ∧ y = 0 := by
  have h1 := sq_nn x
  have h2 := sq_nn y
  constructor
  · have h3 : x * x = 0 := by omega
    rcases Int.mul_eq_zero.1 h3 with h | h <;> exact h
  · have h3 : y * y = 0 := by omega
    rcases Int.mul_eq_zero.1 h3 with h | h <;> exact h
/-- a point that is a tip is reached exactly -/
theorem M.tip_reached {l lo hi j : List Int} {X Y : Int} (h : M.fits l lo hi X Y) (hj : M.jointsB l lo hi j = true) : M.fits l lo hi (M.tipX l lo hi j) (M.tipY l lo hi j) ∧ (M.solve l lo hi (M.tipX l lo hi j) (M.tipY l lo hi j)).length = 2 ∧ M.jointsB l lo hi (M.solve l lo hi (M.tipX l lo hi j) (M.tipY l lo hi j)) = true ∧ M.tipX l lo hi (M.solve l lo hi (M.tipX l lo hi j) (M.tipY l lo hi j)) = M.tipX l lo hi j ∧ M.tipY l lo hi (M.solve l lo hi (M.tipX l lo hi j) (M.tipY l lo hi j)) = M.tipY l lo hi j := by
  have hp := M.tip_pv hj
  rw [← (M.tip_yes hj).1, ← (M.tip_yes hj).2] at hp
  have hf : M.fits l lo hi (M.tipX l lo hi j) (M.tipY l lo hi j) := ⟨h.1, h.2.1, hp, h.2.2.2⟩
  have hne : ¬ (M.solve l lo hi (M.tipX l lo hi j) (M.tipY l lo hi j)).length = 0 := by
    obtain ⟨u, v, e, _⟩ := M.found_best (X := M.tipX l lo hi j) (Y := M.tipY l lo hi j) hf.1 hf.2.1
    rw [← M.solve_yes hf, e]; simp
  obtain ⟨_, h2, h3, h4⟩ := M.solve_ne hne
  refine ⟨hf, h2, h3, ?_⟩
  have h5 := h4 j hj
  rw [M.tip_same hj] at h5
  generalize M.solve l lo hi (M.tipX l lo hi j) (M.tipY l lo hi j) = s at *
  have hq := M.tip_pv h3
  unfold M.score at h5
  rw [M.sq_yes hq hp, ← (M.tip_yes h3).1, ← (M.tip_yes h3).2] at h5
  have := M.sq_none h5
  omega
theorem nth40 {α : Type} {a0 a1 a2 a3 a4 a5 a6 a7 a8 a9 a10 a11 a12 a13 a14 a15 a16 a17 a18 a19 a20 a21 a22 a23 a24 a25 a26 a27 a28 a29 a30 a31 a32 a33 a34 a35 a36 a37 a38 a39 a40 : α} {l : List α} : (List.toArray (a0 :: a1 :: a2 :: a3 :: a4 :: a5 :: a6 :: a7 :: a8 :: a9 :: a10 :: a11 :: a12 :: a13 :: a14 :: a15 :: a16 :: a17 :: a18 :: a19 :: a20 :: a21 :: a22 :: a23 :: a24 :: a25 :: a26 :: a27 :: a28 :: a29 :: a30 :: a31 :: a32 :: a33 :: a34 :: a35 :: a36 :: a37 :: a38 :: a39 :: a40 :: l))[40]? = some a40 := rfl
theorem nth41 {α : Type} {a0 a1 a2 a3 a4 a5 a6 a7 a8 a9 a10 a11 a12 a13 a14 a15 a16 a17 a18 a19 a20 a21 a22 a23 a24 a25 a26 a27 a28 a29 a30 a31 a32 a33 a34 a35 a36 a37 a38 a39 a40 a41 : α} {l : List α} : (List.toArray (a0 :: a1 :: a2 :: a3 :: a4 :: a5 :: a6 :: a7 :: a8 :: a9 :: a10 :: a11 :: a12 :: a13 :: a14 :: a15 :: a16 :: a17 :: a18 :: a19 :: a20 :: a21 :: a22 :: a23 :: a24 :: a25 :: a26 :: a27 :: a28 :: a29 :: a30 :: a31 :: a32 :: a33 :: a34 :: a35 :: a36 :: a37 :: a38 :: a39 :: a40 :: a41 :: l))[41]? = some a41 := rfl
theorem nth42 {α : Type} {a0 a1 a2 a3 a4 a5 a6 a7 a8 a9 a10 a11 a12 a13 a14 a15 a16 a17 a18 a19 a20 a21 a22 a23 a24 a25 a26 a27 a28 a29 a30 a31 a32 a33 a34 a35 a36 a37 a38 a39 a40 a41 a42 : α} {l : List α} : (List.toArray (a0 :: a1 :: a2 :: a3 :: a4 :: a5 :: a6 :: a7 :: a8 :: a9 :: a10 :: a11 :: a12 :: a13 :: a14 :: a15 :: a16 :: a17 :: a18 :: a19 :: a20 :: a21 :: a22 :: a23 :: a24 :: a25 :: a26 :: a27 :: a28 :: a29 :: a30 :: a31 :: a32 :: a33 :: a34 :: a35 :: a36 :: a37 :: a38 :: a39 :: a40 :: a41 :: a42 :: l))[42]? = some a42 := rfl
theorem nth43 {α : Type} {a0 a1 a2 a3 a4 a5 a6 a7 a8 a9 a10 a11 a12 a13 a14 a15 a16 a17 a18 a19 a20 a21 a22 a23 a24 a25 a26 a27 a28 a29 a30 a31 a32 a33 a34 a35 a36 a37 a38 a39 a40 a41 a42 a43 : α} {l : List α} : (List.toArray (a0 :: a1 :: a2 :: a3 :: a4 :: a5 :: a6 :: a7 :: a8 :: a9 :: a10 :: a11 :: a12 :: a13 :: a14 :: a15 :: a16 :: a17 :: a18 :: a19 :: a20 :: a21 :: a22 :: a23 :: a24 :: a25 :: a26 :: a27 :: a28 :: a29 :: a30 :: a31 :: a32 :: a33 :: a34 :: a35 :: a36 :: a37 :: a38 :: a39 :: a40 :: a41 :: a42 :: a43 :: l))[43]? = some a43 := rfl
theorem nth44 {α : Type} {a0 a1 a2 a3 a4 a5 a6 a7 a8 a9 a10 a11 a12 a13 a14 a15 a16 a17 a18 a19 a20 a21 a22 a23 a24 a25 a26 a27 a28 a29 a30 a31 a32 a33 a34 a35 a36 a37 a38 a39 a40 a41 a42 a43 a44 : α} {l : List α} : (List.toArray (a0 :: a1 :: a2 :: a3 :: a4 :: a5 :: a6 :: a7 :: a8 :: a9 :: a10 :: a11 :: a12 :: a13 :: a14 :: a15 :: a16 :: a17 :: a18 :: a19 :: a20 :: a21 :: a22 :: a23 :: a24 :: a25 :: a26 :: a27 :: a28 :: a29 :: a30 :: a31 :: a32 :: a33 :: a34 :: a35 :: a36 :: a37 :: a38 :: a39 :: a40 :: a41 :: a42 :: a43 :: a44 :: l))[44]? = some a44 := rfl
theorem nth45 {α : Type} {a0 a1 a2 a3 a4 a5 a6 a7 a8 a9 a10 a11 a12 a13 a14 a15 a16 a17 a18 a19 a20 a21 a22 a23 a24 a25 a26 a27 a28 a29 a30 a31 a32 a33 a34 a35 a36 a37 a38 a39 a40 a41 a42 a43 a44 a45 : α} {l : List α} : (List.toArray (a0 :: a1 :: a2 :: a3 :: a4 :: a5 :: a6 :: a7 :: a8 :: a9 :: a10 :: a11 :: a12 :: a13 :: a14 :: a15 :: a16 :: a17 :: a18 :: a19 :: a20 :: a21 :: a22 :: a23 :: a24 :: a25 :: a26 :: a27 :: a28 :: a29 :: a30 :: a31 :: a32 :: a33 :: a34 :: a35 :: a36 :: a37 :: a38 :: a39 :: a40 :: a41 :: a42 :: a43 :: a44 :: a45 :: l))[45]? = some a45 := rfl
theorem nth46 {α : Type} {a0 a1 a2 a3 a4 a5 a6 a7 a8 a9 a10 a11 a12 a13 a14 a15 a16 a17 a18 a19 a20 a21 a22 a23 a24 a25 a26 a27 a28 a29 a30 a31 a32 a33 a34 a35 a36 a37 a38 a39 a40 a41 a42 a43 a44 a45 a46 : α} {l : List α} : (List.toArray (a0 :: a1 :: a2 :: a3 :: a4 :: a5 :: a6 :: a7 :: a8 :: a9 :: a10 :: a11 :: a12 :: a13 :: a14 :: a15 :: a16 :: a17 :: a18 :: a19 :: a20 :: a21 :: a22 :: a23 :: a24 :: a25 :: a26 :: a27 :: a28 :: a29 :: a30 :: a31 :: a32 :: a33 :: a34 :: a35 :: a36 :: a37 :: a38 :: a39 :: a40 :: a41 :: a42 :: a43 :: a44 :: a45 :: a46 :: l))[46]? = some a46 := rfl
theorem nth47 {α : Type} {a0 a1 a2 a3 a4 a5 a6 a7 a8 a9 a10 a11 a12 a13 a14 a15 a16 a17 a18 a19 a20 a21 a22 a23 a24 a25 a26 a27 a28 a29 a30 a31 a32 a33 a34 a35 a36 a37 a38 a39 a40 a41 a42 a43 a44 a45 a46 a47 : α} {l : List α} : (List.toArray (a0 :: a1 :: a2 :: a3 :: a4 :: a5 :: a6 :: a7 :: a8 :: a9 :: a10 :: a11 :: a12 :: a13 :: a14 :: a15 :: a16 :: a17 :: a18 :: a19 :: a20 :: a21 :: a22 :: a23 :: a24 :: a25 :: a26 :: a27 :: a28 :: a29 :: a30 :: a31 :: a32 :: a33 :: a34 :: a35 :: a36 :: a37 :: a38 :: a39 :: a40 :: a41 :: a42 :: a43 :: a44 :: a45 :: a46 :: a47 :: l))[47]? = some a47 := rfl
theorem nth48 {α : Type} {a0 a1 a2 a3 a4 a5 a6 a7 a8 a9 a10 a11 a12 a13 a14 a15 a16 a17 a18 a19 a20 a21 a22 a23 a24 a25 a26 a27 a28 a29 a30 a31 a32 a33 a34 a35 a36 a37 a38 a39 a40 a41 a42 a43 a44 a45 a46 a47 a48 : α} {l : List α} : (List.toArray (a0 :: a1 :: a2 :: a3 :: a4 :: a5 :: a6 :: a7 :: a8 :: a9 :: a10 :: a11 :: a12 :: a13 :: a14 :: a15 :: a16 :: a17 :: a18 :: a19 :: a20 :: a21 :: a22 :: a23 :: a24 :: a25 :: a26 :: a27 :: a28 :: a29 :: a30 :: a31 :: a32 :: a33 :: a34 :: a35 :: a36 :: a37 :: a38 :: a39 :: a40 :: a41 :: a42 :: a43 :: a44 :: a45 :: a46 :: a47 :: a48 :: l))[48]? = some a48 := rfl
theorem nth49 {α : Type} {a0 a1 a2 a3 a4 a5 a6 a7 a8 a9 a10 a11 a12 a13 a14 a15 a16 a17 a18 a19 a20 a21 a22 a23 a24 a25 a26 a27 a28 a29 a30 a31 a32 a33 a34 a35 a36 a37 a38 a39 a40 a41 a42 a43 a44 a45 a46 a47 a48 a49 : α} {l : List α} : (List.toArray (a0 :: a1 :: a2 :: a3 :: a4 :: a5 :: a6 :: a7 :: a8 :: a9 :: a10 :: a11 :: a12 :: a13 :: a14 :: a15 :: a16 :: a17 :: a18 :: a19 :: a20 :: a21 :: a22 :: a23 :: a24 :: a25 :: a26 :: a27 :: a28 :: a29 :: a30 :: a31 :: a32 :: a33 :: a34 :: a35 :: a36 :: a37 :: a38 :: a39 :: a40 :: a41 :: a42 :: a43 :: a44 :: a45 :: a46 :: a47 :: a48 :: a49 :: l))[49]? = some a49 := rfl
set_option maxRecDepth 20000 in
set_option maxHeartbeats 16000000 in
theorem walk (a0 : Option Addr) (len0 cap0 : Nat) (z0 : List Int) (a1 : Option Addr) (len1 cap1 : Nat) (z1 : List Int) (w : World) (w0 : IsRow .u8 w a0 len0 cap0 z0) (w1 : IsRow .u8 w a1 len1 cap1 z1) (hT : Tables w) :
    Calls Tryd.prog 5 #[.slice a0 len0 cap0, .slice a1 len1 cap1] w fun e w' => e = .returned (.bool true) ∧ Below w.heap.size w w' := by
  replace hT := Lib.hid hT
  have hmo := Bytes.of_row w1
  clear w1
  obtain ⟨am, lm, cm, eam, elm, ecm⟩ : ∃ (am : Option Addr) (lm cm : Nat), am = a1 ∧ lm = len1 ∧ cm = cap1 := ⟨_, _, _, rfl, rfl, rfl⟩
  subst eam elm ecm
  by_cases hlen : (1048576 : Int) < len0
  · go_enter Tryd.func5, Tryd.ntmps5
    go_wp2
    go_ret
    exact ⟨rfl, Below.refl _ _⟩
  by_cases hlm : (1048576 : Int) < lm
  · go_enter Tryd.func5, Tryd.ntmps5
    go_wp2
    go_ret
    exact ⟨rfl, Below.refl _ _⟩
  go_enter Tryd.func5, Tryd.ntmps5
  go_wp2_with fail
  refine (draw_SolveArm a0 len0 cap0 z0 _ w0).mono ?_
  rintro e w1 ⟨a1, n1, c1, a2, n2, c2, a3, n3, c3, l, lo, hi, X, Y, rfl, hf, q⟩
  have hmo := Lib.hid (hmo.after q)
  have bb := Lib.hid q
  clear w0 hlen q
  replace hT := Lib.hid (hT.out.later bb.out)
  obtain ⟨h1, h2, h3⟩ := hf.len
  obtain ⟨m1, m2, m3⟩ := hf.le
  obtain ⟨cp1, cp3⟩ := hf.cap
  have hr := Lib.hid hf.row
  replace h1 := Lib.hid h1
  replace h2 := Lib.hid h2
  replace h3 := Lib.hid h3
  clear hf
  have hnb : (M.solve l lo hi X Y).length ≤ 1000000 := (by have := M.solve_len l lo hi X Y; omega)
  obtain ⟨nL, hn⟩ : ∃ n, (M.solve l lo hi X Y).length = n := ⟨_, rfl⟩
  rw [hn] at hnb
  generalize hL : M.solve l lo hi X Y = L at *
  replace hL := Lib.hid hL
  replace hn := Lib.hid hn
  go_wp2_with fail
  have k0 := (Cell3.new w1 (.slice a1 n1 c1) (.slice a2 n2 c2) (.slice a3 n3 c3) 25).alloc (.cells #[.int .i64 X, .int .i64 Y] 27)
  have kp := Slot.new (w1.alloc (.cells #[.slice a1 n1 c1, .slice a2 n2 c2, .slice a3 n3 c3] 25)) X Y 27
  rw [World.size_alloc] at kp
  replace hmo := Lib.hid (hmo.out.after (bel_new w1 (.cells #[.slice a1 n1 c1, .slice a2 n2 c2, .slice a3 n3 c3] 25)))
  replace bb := Lib.hid (bel_after bb.out (bel_new w1 (.cells #[.slice a1 n1 c1, .slice a2 n2 c2, .slice a3 n3 c3] 25)))
  replace hT := Lib.hid (hT.out.later (bel_new w1 (.cells #[.slice a1 n1 c1, .slice a2 n2 c2, .slice a3 n3 c3] 25)))
  replace hr := Lib.hid (hr.out.after (bel_new w1 (.cells #[.slice a1 n1 c1, .slice a2 n2 c2, .slice a3 n3 c3] 25)))
  replace hmo := Lib.hid (hmo.out.after (bel_new (w1.alloc (.cells #[.slice a1 n1 c1, .slice a2 n2 c2, .slice a3 n3 c3] 25)) (.cells #[.int .i64 X, .int .i64 Y] 27)))
  replace bb := Lib.hid (bel_after bb.out (bel_new (w1.alloc (.cells #[.slice a1 n1 c1, .slice a2 n2 c2, .slice a3 n3 c3] 25)) (.cells #[.int .i64 X, .int .i64 Y] 27)))
  replace hT := Lib.hid (hT.out.later (bel_new (w1.alloc (.cells #[.slice a1 n1 c1, .slice a2 n2 c2, .slice a3 n3 c3] 25)) (.cells #[.int .i64 X, .int .i64 Y] 27)))
  replace hr := Lib.hid (hr.out.after (bel_new (w1.alloc (.cells #[.slice a1 n1 c1, .slice a2 n2 c2, .slice a3 n3 c3] 25)) (.cells #[.int .i64 X, .int .i64 Y] 27)))
  generalize hK : w1.heap.size = K at k0 kp ⊢
  have hKw : w1.heap.size ≤ K := Nat.le_of_eq hK
  clear hK
  generalize (w1.alloc (.cells #[.slice a1 n1 c1, .slice a2 n2 c2, .slice a3 n3 c3] 25)).alloc (.cells #[.int .i64 X, .int .i64 Y] 27) = v at *
  obtain ⟨w2, rfl⟩ : ∃ u : World, u = v := ⟨_, rfl⟩
  refine (impl_solve a1 a2 a3 n1 c1 n2 c2 n3 c3 l lo hi X Y _ hT.out h1.out h2.out h3.out (by omega) hr.out).mono ?_
  rintro e w3 hq
  rw [hL.out] at hq
  obtain ⟨xg, yg, rfl, mg, q⟩ := ints_view hn.out hq
  replace hmo := Lib.hid (hmo.out.after q)
  replace bb := Lib.hid (bel_after bb.out q)
  replace hT := Lib.hid (hT.out.later q)
  replace hr := Lib.hid (hr.out.after q)
  replace k0 := k0.after q
  replace kp := kp.after q
  clear q hq
  replace mg := Lib.hid mg
  obtain ⟨k0x, k0y, k0z, k0u, k0v, k0w⟩ := id k0
  obtain ⟨kpx, kpy, kpz, kpu, kpv⟩ := id kp
  go_wp2_with fail
  clear k0x k0y k0z k0u k0v k0w kpx kpy kpz kpu kpv
  refine (spec_solve a1 a2 a3 n1 c1 n2 c2 n3 c3 l lo hi X Y _ h1.out h2.out h3.out (by omega) hr.out).mono ?_
  rintro e w4 hq
  rw [hL.out] at hq
  obtain ⟨xw, yw, rfl, mw, q⟩ := ints_view hn.out hq
  replace hmo := Lib.hid (hmo.out.after q)
  replace bb := Lib.hid (bel_after bb.out q)
  replace hT := Lib.hid (hT.out.later q)
  replace hr := Lib.hid (hr.out.after q)
  replace k0 := k0.after q
  replace kp := kp.after q
  replace mg := Lib.hid (mg.out.after q)
  clear q hq
  replace mw := Lib.hid mw
  obtain ⟨k0x, k0y, k0z, k0u, k0v, k0w⟩ := id k0
  obtain ⟨kpx, kpy, kpz, kpu, kpv⟩ := id kp
  go_wp2_with fail
  clear k0x k0y k0z k0u k0v k0w kpx kpy kpz kpu kpv
  refine (same_ints_yes xg xw nL yg yw L _ hn.out (by omega) mg.out.row mw.out.row).mono ?_
  rintro e w5 ⟨rfl, q⟩
  have z5 := q.size
  replace hmo := Lib.hid (hmo.out.after q)
  replace bb := Lib.hid (bel_after bb.out q)
  replace hT := Lib.hid (hT.out.later q)
  replace hr := Lib.hid (hr.out.after q)
  replace k0 := k0.after q
  replace kp := kp.after q
  replace mg := Lib.hid (mg.out.after q)
  replace mw := Lib.hid (mw.out.after q)
  clear q
  clear mw
  by_cases hz : nL = 0
  · have hz2 : ((nL : Int) == 0) = true := by simp [hz]
    replace hz := Lib.hid hz
    obtain ⟨x0, x1, x2, x3, x4, x5⟩ := id k0
    obtain ⟨t0, t1, t2, t3, t4⟩ := id kp
    go_wp2_with (go_at_call 13; refine (alive _).mono ?_; rintro e w' ⟨rfl, rfl⟩)
    go_ret
    exact ⟨rfl, bb.out⟩
  have hz2 : ((nL : Int) == 0) = false := by simp; exact hz
  obtain ⟨hfits, hL2, hgL, hbest⟩ := M.solve_ne (l := l) (lo := lo) (hi := hi) (X := X) (Y := Y) (by rw [hL.out, hn.out]; exact hz)
  obtain ⟨hA, hl2, hP, _⟩ := id hfits
  rw [hL.out] at hL2 hgL hbest
  rw [hn.out] at hL2
  subst hL2
  clear hz
  have hlowj := Lib.hid (M.joints_low hA)
  have hsL := Lib.hid (M.sq_tip X Y hgL)
  obtain ⟨⟨⟨e1, e2⟩, e3, e4⟩, hv⟩ := M.armB_true hA
  have hl2h := Lib.hid hl2
  rw [h1.out] at e3 e4 hl2
  rw [h2.out] at e3
  rw [h3.out] at e4
  clear e1 e2
  have f2 : 2 ≤ n2 := by omega
  have f4 : 2 ≤ n3 := by omega
  have f5 : (0 : Int) < (n2 : Int) := by omega
  have f6 : (1 : Int) < (n2 : Int) := by omega
  have f7 : (0 : Int) < (n3 : Int) := by omega
  have f8 : (1 : Int) < (n3 : Int) := by omega
  have g5 : 0 < n2 := by omega
  have g6 : 1 < n2 := by omega
  have g7 : 0 < n3 := by omega
  have g8 : 1 < n3 := by omega
  have en2 := Lib.hid (show n2 = 2 by omega)
  obtain ⟨_, ⟨v1, v2⟩, ⟨v3, v4⟩⟩ := hv 0 (by rw [hl2h.out]; omega)
  obtain ⟨_, ⟨v5, v6⟩, ⟨v7, v8⟩⟩ := hv 1 (by rw [hl2h.out]; omega)
  clear e3 e4 hl2 hv
  obtain ⟨a0_, hx0⟩ : ∃ a0_, lo.getD 0 0 = a0_ := ⟨_, rfl⟩
  obtain ⟨a1_, hx1⟩ : ∃ a1_, lo.getD 1 0 = a1_ := ⟨_, rfl⟩
  obtain ⟨e0_, hx2⟩ : ∃ e0_, hi.getD 0 0 = e0_ := ⟨_, rfl⟩
  obtain ⟨e1_, hx3⟩ : ∃ e1_, hi.getD 1 0 = e1_ := ⟨_, rfl⟩
  rw [hx0] at v1 v2 v3
  rw [hx1] at v5 v6 v7
  rw [hx2] at v3 v4
  rw [hx3] at v7 v8
  replace hA := Lib.hid hA
  replace hP := Lib.hid hP
  replace hfits := Lib.hid hfits
  replace hgL := Lib.hid hgL
  replace hbest := Lib.hid hbest
  replace hx0 := Lib.hid hx0
  replace hx1 := Lib.hid hx1
  replace hx2 := Lib.hid hx2
  replace hx3 := Lib.hid hx3
  generalize hSL : M.score l L X Y = SL at hsL hbest
  clear hSL
  obtain ⟨b2, o2, rfl⟩ := hr.out.2.1.form (by rw [h2.out]; omega)
  obtain ⟨b3, o3, rfl⟩ := hr.out.2.2.form (by rw [h3.out]; omega)
  obtain ⟨k0x, k0y, k0z, k0u, k0v, k0w⟩ := id k0
  obtain ⟨kpx, kpy, kpz, kpu, kpv⟩ := id kp
  go_wp2_with fail
  clear k0x k0y k0z k0u k0v k0w kpx kpy kpz kpu kpv
  replace hmo := Lib.hid (hmo.out.after (bel_drew _))
  replace bb := Lib.hid (bel_after bb.out (bel_drew _))
  replace hT := Lib.hid (hT.out.later (bel_drew _))
  replace hr := Lib.hid (hr.out.after (bel_drew _))
  replace k0 := k0.after (bel_drew _)
  replace kp := kp.after (bel_drew _)
  replace mg := Lib.hid (mg.out.after (bel_drew _))
  have s := And.intro (And.intro k0.c0 (And.intro k0.c1 k0.c2)) (And.intro kp.1 kp.2.1)
  go_region_held3 (fun w' => (w'.cell? ⟨K, 0, none⟩ = some (.slice a1 n1 c1) ∧ w'.cell? ⟨K, 1, none⟩ = some (.slice (some ⟨b2, o2, none⟩) n2 c2) ∧ w'.cell? ⟨K, 2, none⟩ = some (.slice (some ⟨b3, o3, none⟩) n3 c3)) ∧ (w'.cell? ⟨K + 1, 0, none⟩ = some (.int .i64 X) ∧ w'.cell? ⟨K + 1, 1, none⟩ = some (.int .i64 Y))) (first | (with_reducible assumption) | go_keep) (first | (go_at_call 17; refine (impl_tipOf a1 (some ⟨b2, o2, none⟩) (some ⟨b3, o3, none⟩) _ n1 c1 n2 c2 n3 c3 2 yg l lo hi L _ hT.out h1.out h2.out h3.out hn.out (by omega) (by omega) hr.out mg.out.row).mono ?_; rintro e wt0 ⟨rfl, q⟩; replace hmo := Lib.hid (hmo.out.after q); replace bb := Lib.hid (bel_after bb.out q); replace hT := Lib.hid (hT.out.later q); replace hr := Lib.hid (hr.out.after q); replace k0 := k0.after q; replace kp := kp.after q; replace mg := Lib.hid (mg.out.after q); clear q s; have s := And.intro (And.intro k0.c0 (And.intro k0.c1 k0.c2)) (And.intro kp.1 kp.2.1)) | (go_at_call 16; refine (impl_sq _ _ X Y _).mono ?_; rintro e wq0 ⟨rfl, q⟩; rw [hsL.out]; replace hmo := Lib.hid (hmo.out.after q); replace bb := Lib.hid (bel_after bb.out q); replace hT := Lib.hid (hT.out.later q); replace hr := Lib.hid (hr.out.after q); replace k0 := k0.after q; replace kp := kp.after q; replace mg := Lib.hid (mg.out.after q); clear q s; have s := And.intro (And.intro k0.c0 (And.intro k0.c1 k0.c2)) (And.intro kp.1 kp.2.1)))
  clear s
  obtain ⟨k0x, k0y, k0z, k0u, k0v, k0w⟩ := id k0
  obtain ⟨kpx, kpy, kpz, kpu, kpv⟩ := id kp
  go_wp2_with fail
  clear k0x k0y k0z k0u k0v k0w kpx kpy kpz kpu kpv
  obtain ⟨v9, hv9⟩ : ∃ u : World, u = wq0 := ⟨_, rfl⟩
  have hmo_ := hmo
  have bb_ := bb
  have hT_ := hT
  have hr_ := hr
  have k0_ := k0
  have kp_ := kp
  have mg_ := mg
  have bd := Lib.hid (Below.refl wq0.heap.size wq0)
  go_loopw [9] (fun kv wr => ∃ t : Nat, kv = .int .i64 t ∧ t ≤ 62 ∧ Hid (Below wq0.heap.size wq0 wr)) (fun kv _ => 63 - (intOf kv).toNat)
  case atStart => exact ⟨0, rfl, by omega, bd⟩
  case round =>
    clear bd
    obtain ⟨t, rfl, ht, bd⟩ := hrel
    replace hmo := Lib.hid (hmo.out.after bd.out)
    replace bb := Lib.hid (bel_after bb.out bd.out)
    replace hT := Lib.hid (hT.out.later bd.out)
    replace hr := Lib.hid (hr.out.after bd.out)
    replace k0 := k0.after bd.out
    replace kp := kp.after bd.out
    replace mg := Lib.hid (mg.out.after bd.out)
    have ewt : IntKind.i64.wrap ((t : Int) + 1) = (t : Int) + 1 := IntWalk.i64_in _ (by omega)
    by_cases hc1 : (t : Int) + 1 < (lm : Int)
    · by_cases hc2 : (t : Int) < 60
      · have ew2 : IntKind.i64.wrap ((t : Int) + 2) = (t : Int) + 2 := IntWalk.i64_in _ (by omega)
        rcases hmo.out with h9 | ⟨bm, om, rfl, hbm, hcm⟩
        · omega
        obtain ⟨p, cp, p1, p2⟩ := hcm t (by omega)
        obtain ⟨q9, cq, q1, q2⟩ := hcm (t + 1) (by omega)
        clear hcm
        have i0 : (0 : Int) ≤ (t : Int) + 1 := by omega
        have i1 : (t : Int) < (lm : Int) := by omega
        have i1n : t < lm := by omega
        have i2n : t + 1 < lm := by omega
        have s01 : IntKind.i64.wrap (e0_ - a0_) = e0_ - a0_ := IntWalk.i64_in _ (by omega)
        have s02 : IntKind.i64.wrap (e0_ - a0_ + 1) = e0_ - a0_ + 1 := IntWalk.i64_in _ (by omega)
        have s03 : ¬ (e0_ - a0_ + 1 = 0) := by omega
        obtain ⟨s04, s05⟩ := tmod_range p (e0_ - a0_ + 1) (by omega) (by omega)
        have s06 : IntKind.i64.wrap (a0_ + p.tmod (e0_ - a0_ + 1)) = a0_ + p.tmod (e0_ - a0_ + 1) := IntWalk.i64_in _ (by omega)
        have s07 : IntKind.i64.wrap (p.tmod (e0_ - a0_ + 1)) = p.tmod (e0_ - a0_ + 1) := IntWalk.i64_in _ (by omega)
        have s08 : IntKind.i64.wrap p = p := IntWalk.i64_in _ (by omega)
        have s11 : IntKind.i64.wrap (e1_ - a1_) = e1_ - a1_ := IntWalk.i64_in _ (by omega)
        have s12 : IntKind.i64.wrap (e1_ - a1_ + 1) = e1_ - a1_ + 1 := IntWalk.i64_in _ (by omega)
        have s13 : ¬ (e1_ - a1_ + 1 = 0) := by omega
        obtain ⟨s14, s15⟩ := tmod_range q9 (e1_ - a1_ + 1) (by omega) (by omega)
        have s16 : IntKind.i64.wrap (a1_ + q9.tmod (e1_ - a1_ + 1)) = a1_ + q9.tmod (e1_ - a1_ + 1) := IntWalk.i64_in _ (by omega)
        have s17 : IntKind.i64.wrap (q9.tmod (e1_ - a1_ + 1)) = q9.tmod (e1_ - a1_ + 1) := IntWalk.i64_in _ (by omega)
        have s18 : IntKind.i64.wrap q9 = q9 := IntWalk.i64_in _ (by omega)
        have hC := M.joints_in hA.out hl2h.out hx0.out hx1.out hx2.out hx3.out (x := (a0_ + p.tmod (e0_ - a0_ + 1))) (y := (a1_ + q9.tmod (e1_ - a1_ + 1))) (by omega) (by omega)
        go_upto_region 13 with fail
        have hcb : Hid (wr.cell? ⟨bm, om + t, none⟩ = some (.int .u8 p) ∧ wr.cell? ⟨bm, om + (t + 1), none⟩ = some (.int .u8 q9)) := ⟨cp, cq⟩
        clear cp cq
        replace hmo := Lib.hid (hmo.out.after (bel_drew _))
        replace bb := Lib.hid (bel_after bb.out (bel_drew _))
        replace hT := Lib.hid (hT.out.later (bel_drew _))
        replace hr := Lib.hid (hr.out.after (bel_drew _))
        replace k0 := k0.after (bel_drew _)
        replace kp := kp.after (bel_drew _)
        replace mg := Lib.hid (mg.out.after (bel_drew _))
        replace bd := Lib.hid (bel_after bd.out (bel_drew _))
        replace hcb : Hid (wr.drew.cell? ⟨bm, om + t, none⟩ = some (.int .u8 p) ∧ wr.drew.cell? ⟨bm, om + (t + 1), none⟩ = some (.int .u8 q9)) := hcb
        have s := And.intro (And.intro (And.intro k0.c1 k0.c2) (And.intro (And.intro (rowv hr.out.2.1 (Below.refl _ _) (k := 0) (by rw [h2.out]; omega) hx0.out) (rowv hr.out.2.1 (Below.refl _ _) (k := 1) (by rw [h2.out]; omega) hx1.out)) (And.intro (rowv hr.out.2.2 (Below.refl _ _) (k := 0) (by rw [h3.out]; omega) hx2.out) (rowv hr.out.2.2 (Below.refl _ _) (k := 1) (by rw [h3.out]; omega) hx3.out)))) hcb.out
        refine wp_region_held_drew (S := (fun w' => ((w'.cell? ⟨K, 1, none⟩ = some (.slice (some ⟨b2, o2, none⟩) n2 c2) ∧ w'.cell? ⟨K, 2, none⟩ = some (.slice (some ⟨b3, o3, none⟩) n3 c3)) ∧ ((w'.cell? ⟨b2, o2, none⟩ = some (.int .i64 a0_) ∧ w'.cell? ⟨b2, o2 + 1, none⟩ = some (.int .i64 a1_)) ∧ (w'.cell? ⟨b3, o3, none⟩ = some (.int .i64 e0_) ∧ w'.cell? ⟨b3, o3 + 1, none⟩ = some (.int .i64 e1_)))) ∧ w'.cell? ⟨bm, om + t, none⟩ = some (.int .u8 p) ∧ w'.cell? ⟨bm, om + (t + 1), none⟩ = some (.int .u8 q9))) (by kernel_rfl) s (fun hHeld => ?_)
        generalize wr.drew = u0 at *
        refine wpAnyH_take (i := 0) (v := ?vq1x0) nth0 (by kernel_rfl) (by kernel_rfl) (by kernel_rfl) (fun _ _ _ h => h) (Or.inl ⟨by rfl, ?hyq1x0⟩) hHeld ?_
        case hyq1x0 => (intro wH hSw; (try dsimp only at hSw); go_simp; (try with_reducible rfl))
        simp only [Act.put, List.setIfInBounds_toArray, List.set_cons_zero, List.set_cons_succ]
        refine wpAnyH_take (i := 1) (v := ?vq1x1) nth1 (by kernel_rfl) (by kernel_rfl) (by kernel_rfl) (fun _ _ _ h => h) (Or.inl ⟨by rfl, ?hyq1x1⟩) hHeld ?_
        case hyq1x1 => (intro wH hSw; (try dsimp only at hSw); go_simp; (try with_reducible rfl))
        simp only [Act.put, List.setIfInBounds_toArray, List.set_cons_zero, List.set_cons_succ]
        refine wpAnyH_take (i := 2) (v := ?vq1x2) nth2 (by kernel_rfl) (by kernel_rfl) (by kernel_rfl) (fun _ _ _ h => h) (Or.inl ⟨by rfl, ?hyq1x2⟩) hHeld ?_
        case hyq1x2 => (intro wH hSw; (try dsimp only at hSw); go_simp; (try with_reducible rfl))
        simp only [Act.put, List.setIfInBounds_toArray, List.set_cons_zero, List.set_cons_succ]
        refine wpAnyH_take (i := 3) (v := ?vq1x3) nth3 (by kernel_rfl) (by kernel_rfl) (by kernel_rfl) (fun _ _ _ h => h) (Or.inl ⟨by rfl, ?hyq1x3⟩) hHeld ?_
        case hyq1x3 => (intro wH hSw; (try dsimp only at hSw); go_simp; (try with_reducible rfl))
        simp only [Act.put, List.setIfInBounds_toArray, List.set_cons_zero, List.set_cons_succ]
        refine wpAnyH_take (i := 4) (v := ?vq1x4) nth4 (by kernel_rfl) (by kernel_rfl) (by kernel_rfl) (fun _ _ _ h => h) (Or.inl ⟨by rfl, ?hyq1x4⟩) hHeld ?_
        case hyq1x4 => (intro wH hSw; (try dsimp only at hSw); go_simp; (try with_reducible rfl))
        simp only [Act.put, List.setIfInBounds_toArray, List.set_cons_zero, List.set_cons_succ]
        refine wpAnyH_take (i := 5) (v := ?vq1x5) nth5 (by kernel_rfl) (by kernel_rfl) (by kernel_rfl) (fun _ _ _ h => h) (Or.inl ⟨by rfl, ?hyq1x5⟩) hHeld ?_
        case hyq1x5 => (intro wH hSw; (try dsimp only at hSw); go_simp; (try with_reducible rfl))
        simp only [Act.put, List.setIfInBounds_toArray, List.set_cons_zero, List.set_cons_succ]
        refine wpAnyH_take (i := 6) (v := ?vq1x6) nth6 (by kernel_rfl) (by kernel_rfl) (by kernel_rfl) (fun _ _ _ h => h) (Or.inl ⟨by rfl, ?hyq1x6⟩) hHeld ?_
        case hyq1x6 => (intro wH hSw; (try dsimp only at hSw); go_simp; (try with_reducible rfl))
        simp only [Act.put, List.setIfInBounds_toArray, List.set_cons_zero, List.set_cons_succ]
        refine wpAnyH_take (i := 7) (v := ?vq1x7) nth7 (by kernel_rfl) (by kernel_rfl) (by kernel_rfl) (fun _ _ _ h => h) (Or.inl ⟨by rfl, ?hyq1x7⟩) hHeld ?_
        case hyq1x7 => (intro wH hSw; (try dsimp only at hSw); go_simp; (try with_reducible rfl))
        simp only [Act.put, List.setIfInBounds_toArray, List.set_cons_zero, List.set_cons_succ]
        refine wpAnyH_take (i := 8) (v := ?vq1x8) nth8 (by kernel_rfl) (by kernel_rfl) (by kernel_rfl) (fun _ _ _ h => h) (Or.inl ⟨by rfl, ?hyq1x8⟩) hHeld ?_
        case hyq1x8 => (intro wH hSw; (try dsimp only at hSw); go_simp; (try with_reducible rfl))
        simp only [Act.put, List.setIfInBounds_toArray, List.set_cons_zero, List.set_cons_succ]
        refine wpAnyH_take (i := 9) (v := ?vq1x9) nth9 (by kernel_rfl) (by kernel_rfl) (by kernel_rfl) (fun _ _ _ h => h) (Or.inl ⟨by rfl, ?hyq1x9⟩) hHeld ?_
        case hyq1x9 => (intro wH hSw; (try dsimp only at hSw); go_simp; (try with_reducible rfl))
        simp only [Act.put, List.setIfInBounds_toArray, List.set_cons_zero, List.set_cons_succ]
        refine wpAnyH_take (i := 10) (v := ?vq1x10) nth10 (by kernel_rfl) (by kernel_rfl) (by kernel_rfl) (fun _ _ _ h => h) (Or.inl ⟨by rfl, ?hyq1x10⟩) hHeld ?_
        case hyq1x10 => (intro wH hSw; (try dsimp only at hSw); go_simp; (try with_reducible rfl))
        simp only [Act.put, List.setIfInBounds_toArray, List.set_cons_zero, List.set_cons_succ]
        refine wpAnyH_take (i := 11) (v := ?vq1x11) nth11 (by kernel_rfl) (by kernel_rfl) (by kernel_rfl) (fun _ _ _ h => h) (Or.inl ⟨by rfl, ?hyq1x11⟩) hHeld ?_
        case hyq1x11 => (intro wH hSw; (try dsimp only at hSw); go_simp; (try with_reducible rfl))
        simp only [Act.put, List.setIfInBounds_toArray, List.set_cons_zero, List.set_cons_succ]
        refine wpAnyH_take (i := 12) (v := ?vq1x12) nth12 (by kernel_rfl) (by kernel_rfl) (by kernel_rfl) (fun _ _ _ h => h) (Or.inl ⟨by rfl, ?hyq1x12⟩) hHeld ?_
        case hyq1x12 => (intro wH hSw; (try dsimp only at hSw); go_simp; (try with_reducible rfl))
        simp only [Act.put, List.setIfInBounds_toArray, List.set_cons_zero, List.set_cons_succ]
        refine wpAnyH_take (i := 13) (v := ?vq1x13) nth13 (by kernel_rfl) (by kernel_rfl) (by kernel_rfl) (fun _ _ _ h => h) (Or.inl ⟨by rfl, ?hyq1x13⟩) hHeld ?_
        case hyq1x13 => (intro wH hSw; (try dsimp only at hSw); go_simp; (try with_reducible rfl))
        simp only [Act.put, List.setIfInBounds_toArray, List.set_cons_zero, List.set_cons_succ]
        refine wpAnyH_take (i := 14) (v := ?vq1x14) nth14 (by kernel_rfl) (by kernel_rfl) (by kernel_rfl) (fun _ _ _ h => h) (Or.inl ⟨by rfl, ?hyq1x14⟩) hHeld ?_
        case hyq1x14 => (intro wH hSw; (try dsimp only at hSw); go_simp; (try with_reducible rfl))
        simp only [Act.put, List.setIfInBounds_toArray, List.set_cons_zero, List.set_cons_succ]
        refine wpAnyH_take (i := 15) (v := ?vq1x15) nth15 (by kernel_rfl) (by kernel_rfl) (by kernel_rfl) (fun _ _ _ h => h) (Or.inl ⟨by rfl, ?hyq1x15⟩) hHeld ?_
        case hyq1x15 => (intro wH hSw; (try dsimp only at hSw); go_simp; (try with_reducible rfl))
        simp only [Act.put, List.setIfInBounds_toArray, List.set_cons_zero, List.set_cons_succ]
        refine wpAnyH_take (i := 16) (v := ?vq1x16) nth16 (by kernel_rfl) (by kernel_rfl) (by kernel_rfl) (fun _ _ _ h => h) (Or.inl ⟨by rfl, ?hyq1x16⟩) hHeld ?_
        case hyq1x16 => (intro wH hSw; (try dsimp only at hSw); go_simp; (try with_reducible rfl))
        simp only [Act.put, List.setIfInBounds_toArray, List.set_cons_zero, List.set_cons_succ]
        refine wpAnyH_take (i := 17) (v := ?vq1x17) nth17 (by kernel_rfl) (by kernel_rfl) (by kernel_rfl) (fun _ _ _ h => h) (Or.inl ⟨by rfl, ?hyq1x17⟩) hHeld ?_
        case hyq1x17 => (intro wH hSw; (try dsimp only at hSw); go_simp; (try with_reducible rfl))
        simp only [Act.put, List.setIfInBounds_toArray, List.set_cons_zero, List.set_cons_succ]
        refine wpAnyH_take (i := 18) (v := ?vq1x18) nth18 (by kernel_rfl) (by kernel_rfl) (by kernel_rfl) (fun _ _ _ h => h) (Or.inl ⟨by rfl, ?hyq1x18⟩) hHeld ?_
        case hyq1x18 => (intro wH hSw; (try dsimp only at hSw); go_simp; (try with_reducible rfl))
        simp only [Act.put, List.setIfInBounds_toArray, List.set_cons_zero, List.set_cons_succ]
        refine wpAnyH_take (i := 19) (v := ?vq1x19) nth19 (by kernel_rfl) (by kernel_rfl) (by kernel_rfl) (fun _ _ _ h => h) (Or.inl ⟨by rfl, ?hyq1x19⟩) hHeld ?_
        case hyq1x19 => (intro wH hSw; (try dsimp only at hSw); go_simp; (try with_reducible rfl))
        simp only [Act.put, List.setIfInBounds_toArray, List.set_cons_zero, List.set_cons_succ]
        refine wpAnyH_take (i := 20) (v := ?vq1x20) nth20 (by kernel_rfl) (by kernel_rfl) (by kernel_rfl) (fun _ _ _ h => h) (Or.inl ⟨by rfl, ?hyq1x20⟩) hHeld ?_
        case hyq1x20 => (intro wH hSw; (try dsimp only at hSw); go_simp; (try with_reducible rfl))
        simp only [Act.put, List.setIfInBounds_toArray, List.set_cons_zero, List.set_cons_succ]
        refine wpAnyH_take (i := 21) (v := ?vq1x21) nth21 (by kernel_rfl) (by kernel_rfl) (by kernel_rfl) (fun _ _ _ h => h) (Or.inl ⟨by rfl, ?hyq1x21⟩) hHeld ?_
        case hyq1x21 => (intro wH hSw; (try dsimp only at hSw); go_simp; (try with_reducible rfl))
        simp only [Act.put, List.setIfInBounds_toArray, List.set_cons_zero, List.set_cons_succ]
        refine wpAnyH_take (i := 22) (v := ?vq1x22) nth22 (by kernel_rfl) (by kernel_rfl) (by kernel_rfl) (fun _ _ _ h => h) (Or.inl ⟨by rfl, ?hyq1x22⟩) hHeld ?_
        case hyq1x22 => (intro wH hSw; (try dsimp only at hSw); go_simp; (try with_reducible rfl))
        simp only [Act.put, List.setIfInBounds_toArray, List.set_cons_zero, List.set_cons_succ]
        refine wpAnyH_take (i := 23) (v := ?vq1x23) nth23 (by kernel_rfl) (by kernel_rfl) (by kernel_rfl) (fun _ _ _ h => h) (Or.inl ⟨by rfl, ?hyq1x23⟩) hHeld ?_
        case hyq1x23 => (intro wH hSw; (try dsimp only at hSw); go_simp; (try with_reducible rfl))
        simp only [Act.put, List.setIfInBounds_toArray, List.set_cons_zero, List.set_cons_succ]
        refine wpAnyH_take (i := 24) (v := ?vq1x24) nth24 (by kernel_rfl) (by kernel_rfl) (by kernel_rfl) (fun _ _ _ h => h) (Or.inl ⟨by rfl, ?hyq1x24⟩) hHeld ?_
        case hyq1x24 => (intro wH hSw; (try dsimp only at hSw); go_simp; (try with_reducible rfl))
        simp only [Act.put, List.setIfInBounds_toArray, List.set_cons_zero, List.set_cons_succ]
        refine wpAnyH_take (i := 25) (v := ?vq1x25) nth25 (by kernel_rfl) (by kernel_rfl) (by kernel_rfl) (fun _ _ _ h => h) (Or.inl ⟨by rfl, ?hyq1x25⟩) hHeld ?_
        case hyq1x25 => (intro wH hSw; (try dsimp only at hSw); go_simp; (try with_reducible rfl))
        simp only [Act.put, List.setIfInBounds_toArray, List.set_cons_zero, List.set_cons_succ]
        refine wpAnyH_take (i := 26) (v := ?vq1x26) nth26 (by kernel_rfl) (by kernel_rfl) (by kernel_rfl) (fun _ _ _ h => h) (Or.inl ⟨by rfl, ?hyq1x26⟩) hHeld ?_
        case hyq1x26 => (intro wH hSw; (try dsimp only at hSw); go_simp; (try with_reducible rfl))
        simp only [Act.put, List.setIfInBounds_toArray, List.set_cons_zero, List.set_cons_succ]
        refine wpAnyH_take (i := 27) (v := ?vq1x27) nth27 (by kernel_rfl) (by kernel_rfl) (by kernel_rfl) (fun _ _ _ h => h) (Or.inl ⟨by rfl, ?hyq1x27⟩) hHeld ?_
        case hyq1x27 => (intro wH hSw; (try dsimp only at hSw); go_simp; (try with_reducible rfl))
        simp only [Act.put, List.setIfInBounds_toArray, List.set_cons_zero, List.set_cons_succ]
        refine wpAnyH_take (i := 28) (v := ?vq1x28) nth28 (by kernel_rfl) (by kernel_rfl) (by kernel_rfl) (fun _ _ _ h => h) (Or.inl ⟨by rfl, ?hyq1x28⟩) hHeld ?_
        case hyq1x28 => (intro wH hSw; (try dsimp only at hSw); go_simp; (try with_reducible rfl))
        simp only [Act.put, List.setIfInBounds_toArray, List.set_cons_zero, List.set_cons_succ]
        refine wpAnyH_take (i := 29) (v := ?vq1x29) nth29 (by kernel_rfl) (by kernel_rfl) (by kernel_rfl) (fun _ _ _ h => h) (Or.inl ⟨by rfl, ?hyq1x29⟩) hHeld ?_
        case hyq1x29 => (intro wH hSw; (try dsimp only at hSw); go_simp; (try with_reducible rfl))
        simp only [Act.put, List.setIfInBounds_toArray, List.set_cons_zero, List.set_cons_succ]
        refine wpAnyH_take (i := 30) (v := ?vq1x30) nth30 (by kernel_rfl) (by kernel_rfl) (by kernel_rfl) (fun _ _ _ h => h) (Or.inl ⟨by rfl, ?hyq1x30⟩) hHeld ?_
        case hyq1x30 => (intro wH hSw; (try dsimp only at hSw); go_simp; (try with_reducible rfl))
        simp only [Act.put, List.setIfInBounds_toArray, List.set_cons_zero, List.set_cons_succ]
        refine wpAnyH_take (i := 31) (v := ?vq1x31) nth31 (by kernel_rfl) (by kernel_rfl) (by kernel_rfl) (fun _ _ _ h => h) (Or.inl ⟨by rfl, ?hyq1x31⟩) hHeld ?_
        case hyq1x31 => (intro wH hSw; (try dsimp only at hSw); go_simp; (try with_reducible rfl))
        simp only [Act.put, List.setIfInBounds_toArray, List.set_cons_zero, List.set_cons_succ]
        refine wpAnyH_take (i := 32) (v := ?vq1x32) nth32 (by kernel_rfl) (by kernel_rfl) (by kernel_rfl) (fun _ _ _ h => h) (Or.inl ⟨by rfl, ?hyq1x32⟩) hHeld ?_
        case hyq1x32 => (intro wH hSw; (try dsimp only at hSw); go_simp; (try with_reducible rfl))
        simp only [Act.put, List.setIfInBounds_toArray, List.set_cons_zero, List.set_cons_succ]
        refine wpAnyH_take (i := 33) (v := ?vq1x33) nth33 (by kernel_rfl) (by kernel_rfl) (by kernel_rfl) (fun _ _ _ h => h) (Or.inl ⟨by rfl, ?hyq1x33⟩) hHeld ?_
        case hyq1x33 => (intro wH hSw; (try dsimp only at hSw); go_simp; (try with_reducible rfl))
        simp only [Act.put, List.setIfInBounds_toArray, List.set_cons_zero, List.set_cons_succ]
        refine wpAnyH_take (i := 34) (v := ?vq1x34) nth34 (by kernel_rfl) (by kernel_rfl) (by kernel_rfl) (fun _ _ _ h => h) (Or.inl ⟨by rfl, ?hyq1x34⟩) hHeld ?_
        case hyq1x34 => (intro wH hSw; (try dsimp only at hSw); go_simp; (try with_reducible rfl))
        simp only [Act.put, List.setIfInBounds_toArray, List.set_cons_zero, List.set_cons_succ]
        refine wpAnyH_take (i := 35) (v := ?vq1x35) nth35 (by kernel_rfl) (by kernel_rfl) (by kernel_rfl) (fun _ _ _ h => h) (Or.inl ⟨by rfl, ?hyq1x35⟩) hHeld ?_
        case hyq1x35 => (intro wH hSw; (try dsimp only at hSw); go_simp; (try with_reducible rfl))
        simp only [Act.put, List.setIfInBounds_toArray, List.set_cons_zero, List.set_cons_succ]
        refine wpAnyH_take (i := 36) (v := ?vq1x36) nth36 (by kernel_rfl) (by kernel_rfl) (by kernel_rfl) (fun _ _ _ h => h) (Or.inl ⟨by rfl, ?hyq1x36⟩) hHeld ?_
        case hyq1x36 => (intro wH hSw; (try dsimp only at hSw); go_simp; (try with_reducible rfl))
        simp only [Act.put, List.setIfInBounds_toArray, List.set_cons_zero, List.set_cons_succ]
        refine wpAnyH_take (i := 37) (v := ?vq1x37) nth37 (by kernel_rfl) (by kernel_rfl) (by kernel_rfl) (fun _ _ _ h => h) (Or.inl ⟨by rfl, ?hyq1x37⟩) hHeld ?_
        case hyq1x37 => (intro wH hSw; (try dsimp only at hSw); go_simp; (try with_reducible rfl))
        simp only [Act.put, List.setIfInBounds_toArray, List.set_cons_zero, List.set_cons_succ]
        refine wpAnyH_take (i := 38) (v := ?vq1x38) nth38 (by kernel_rfl) (by kernel_rfl) (by kernel_rfl) (fun _ _ _ h => h) (Or.inl ⟨by rfl, ?hyq1x38⟩) hHeld ?_
        case hyq1x38 => (intro wH hSw; (try dsimp only at hSw); go_simp; (try with_reducible rfl))
        simp only [Act.put, List.setIfInBounds_toArray, List.set_cons_zero, List.set_cons_succ]
        refine wpAnyH_take (i := 39) (v := ?vq1x39) nth39 (by kernel_rfl) (by kernel_rfl) (by kernel_rfl) (fun _ _ _ h => h) (Or.inl ⟨by rfl, ?hyq1x39⟩) hHeld ?_
        case hyq1x39 => (intro wH hSw; (try dsimp only at hSw); go_simp; (try with_reducible rfl))
        simp only [Act.put, List.setIfInBounds_toArray, List.set_cons_zero, List.set_cons_succ]
        refine wpAnyH_take (i := 40) (v := ?vq1x40) nth40 (by kernel_rfl) (by kernel_rfl) (by kernel_rfl) (fun _ _ _ h => h) (Or.inl ⟨by rfl, ?hyq1x40⟩) hHeld ?_
        case hyq1x40 => (intro wH hSw; (try dsimp only at hSw); go_simp; (try with_reducible rfl))
        simp only [Act.put, List.setIfInBounds_toArray, List.set_cons_zero, List.set_cons_succ]
        refine wpAnyH_take (i := 41) (v := ?vq1x41) nth41 (by kernel_rfl) (by kernel_rfl) (by kernel_rfl) (fun _ _ _ h => h) (Or.inl ⟨by rfl, ?hyq1x41⟩) hHeld ?_
        case hyq1x41 => (intro wH hSw; (try dsimp only at hSw); go_simp; (try with_reducible rfl))
        simp only [Act.put, List.setIfInBounds_toArray, List.set_cons_zero, List.set_cons_succ]
        refine wpAnyH_take (i := 42) (v := ?vq1x42) nth42 (by kernel_rfl) (by kernel_rfl) (by kernel_rfl) (fun _ _ _ h => h) (Or.inl ⟨by rfl, ?hyq1x42⟩) hHeld ?_
        case hyq1x42 => (intro wH hSw; (try dsimp only at hSw); go_simp; (try with_reducible rfl))
        simp only [Act.put, List.setIfInBounds_toArray, List.set_cons_zero, List.set_cons_succ]
        refine wpAnyH_ready (rs := [43]) (by kernel_rfl) (by simp) ?_
        refine AllReadyH.cons nth43 (fun K hK => ?_) ?_
        · go_simp
          clear s
          have oj := Owns.lit2 u0 (a0_ + p.tmod (e0_ - a0_ + 1)) (a1_ + q9.tmod (e1_ - a1_ + 1)) (B := w.heap.size) bb.out.size
          have hb9 := (World.block_lt_of_cell? u0 _ hcb.out.1)
          have q := bel_new u0 (.cells #[.int .i64 (a0_ + p.tmod (e0_ - a0_ + 1)), .int .i64 (a1_ + q9.tmod (e1_ - a1_ + 1))] 3)
          have hcb2 := Lib.hid (And.intro ((q.cell (p := ⟨bm, om + t, none⟩) hb9).trans hcb.out.1) ((q.cell (p := ⟨bm, om + (t + 1), none⟩) hb9).trans hcb.out.2))
          replace hcb := hcb2
          clear hcb2 hb9
          replace hmo := Lib.hid (hmo.out.after q)
          replace bb := Lib.hid (bel_after bb.out q)
          replace hT := Lib.hid (hT.out.later q)
          replace hr := Lib.hid (hr.out.after q)
          replace k0 := k0.after q
          replace kp := kp.after q
          replace mg := Lib.hid (mg.out.after q)
          replace bd := Lib.hid (bel_after bd.out q)
          clear q
          obtain ⟨J, hJ⟩ : ∃ J, J = u0.heap.size := ⟨_, rfl⟩
          rw [← hJ] at oj ⊢
          clear hJ
          replace oj := Lib.hid oj
          generalize u0.alloc (.cells #[.int .i64 (a0_ + p.tmod (e0_ - a0_ + 1)), .int .i64 (a1_ + q9.tmod (e1_ - a1_ + 1))] 3) = u1 at *
          clear hHeld
          have s := And.intro (And.intro (And.intro k0.c1 k0.c2) (And.intro (And.intro (rowv hr.out.2.1 (Below.refl _ _) (k := 0) (by rw [h2.out]; omega) hx0.out) (rowv hr.out.2.1 (Below.refl _ _) (k := 1) (by rw [h2.out]; omega) hx1.out)) (And.intro (rowv hr.out.2.2 (Below.refl _ _) (k := 0) (by rw [h3.out]; omega) hx2.out) (rowv hr.out.2.2 (Below.refl _ _) (k := 1) (by rw [h3.out]; omega) hx3.out)))) hcb.out
          refine hK.out _ _ s (fun hHeld => ?_)
          clear hK K
          try simp only [Act.put, List.setIfInBounds_toArray, List.set_cons_zero, List.set_cons_succ]
          refine wpAnyH_take (i := 44) (v := ?vq1x44) nth44 (by kernel_rfl) (by kernel_rfl) (by kernel_rfl) (fun _ _ _ h => h) (Or.inl ⟨by rfl, ?hyq1x44⟩) hHeld ?_
          case hyq1x44 => (intro wH hSw; (try dsimp only at hSw); go_simp; (try with_reducible rfl))
          simp only [Act.put, List.setIfInBounds_toArray, List.set_cons_zero, List.set_cons_succ]
          refine wpAnyH_done (by kernel_rfl) ?_ _
          clear hHeld s hcb
          obtain ⟨jj, hjj⟩ : ∃ jj, jj = [(a0_ + p.tmod (e0_ - a0_ + 1)), (a1_ + q9.tmod (e1_ - a1_ + 1))] := ⟨_, rfl⟩
          rw [← hjj] at oj hC
          have hcl := Lib.hid (show jj.length = 2 from by rw [hjj]; rfl)
          clear hjj
          have hle := hbest.out jj hC
          have hsj := Lib.hid (M.sq_tip X Y hC)
          replace hC := Lib.hid hC
          generalize hsjv : M.score l jj X Y = sj at hle hsj
          clear hsjv
          have hno : decide (sj < SL) = false := by simp; omega
          obtain ⟨k0x, k0y, k0z, k0u, k0v, k0w⟩ := id k0
          obtain ⟨kpx, kpy, kpz, kpu, kpv⟩ := id kp
          go_wp2_with fail
          clear k0x k0y k0z k0u k0v k0w kpx kpy kpz kpu kpv
          replace hmo := Lib.hid (hmo.out.after (bel_drew _))
          replace bb := Lib.hid (bel_after bb.out (bel_drew _))
          replace hT := Lib.hid (hT.out.later (bel_drew _))
          replace hr := Lib.hid (hr.out.after (bel_drew _))
          replace k0 := k0.after (bel_drew _)
          replace kp := kp.after (bel_drew _)
          replace mg := Lib.hid (mg.out.after (bel_drew _))
          replace bd := Lib.hid (bel_after bd.out (bel_drew _))
          replace oj := Lib.hid (oj.out.after (bel_drew _))
          have s := And.intro (And.intro k0.c0 (And.intro k0.c1 k0.c2)) (And.intro kp.1 kp.2.1)
          go_region_held3 (fun w' => (w'.cell? ⟨K, 0, none⟩ = some (.slice a1 n1 c1) ∧ w'.cell? ⟨K, 1, none⟩ = some (.slice (some ⟨b2, o2, none⟩) n2 c2) ∧ w'.cell? ⟨K, 2, none⟩ = some (.slice (some ⟨b3, o3, none⟩) n3 c3)) ∧ (w'.cell? ⟨K + 1, 0, none⟩ = some (.int .i64 X) ∧ w'.cell? ⟨K + 1, 1, none⟩ = some (.int .i64 Y))) (first | (with_reducible assumption) | go_keep) (first | (go_at_call 17; refine (impl_tipOf a1 (some ⟨b2, o2, none⟩) (some ⟨b3, o3, none⟩) (some ⟨J, 0, none⟩) n1 c1 n2 c2 n3 c3 2 2 l lo hi jj _ hT.out h1.out h2.out h3.out hcl.out (by omega) (by omega) hr.out oj.out.row).mono ?_; rintro e wt0 ⟨rfl, q⟩; replace hmo := Lib.hid (hmo.out.after q); replace bb := Lib.hid (bel_after bb.out q); replace hT := Lib.hid (hT.out.later q); replace hr := Lib.hid (hr.out.after q); replace k0 := k0.after q; replace kp := kp.after q; replace mg := Lib.hid (mg.out.after q); replace bd := Lib.hid (bel_after bd.out q); replace oj := Lib.hid (oj.out.after q); clear q s; have s := And.intro (And.intro k0.c0 (And.intro k0.c1 k0.c2)) (And.intro kp.1 kp.2.1)) | (go_at_call 16; refine (impl_sq _ _ X Y _).mono ?_; rintro e wq0 ⟨rfl, q⟩; rw [hsj.out]; replace hmo := Lib.hid (hmo.out.after q); replace bb := Lib.hid (bel_after bb.out q); replace hT := Lib.hid (hT.out.later q); replace hr := Lib.hid (hr.out.after q); replace k0 := k0.after q; replace kp := kp.after q; replace mg := Lib.hid (mg.out.after q); replace bd := Lib.hid (bel_after bd.out q); replace oj := Lib.hid (oj.out.after q); clear q s; have s := And.intro (And.intro k0.c0 (And.intro k0.c1 k0.c2)) (And.intro kp.1 kp.2.1)))
          go_wp2_with fail
          go_roundw
          case rel => exact ⟨t + 2, by go_num, by omega, bd⟩
          case measure => simp [intOf]; omega
        exact AllReadyH.nil
      · have hc3 : decide ((t : Int) < 60) = false := by simp; omega
        obtain ⟨k0x, k0y, k0z, k0u, k0v, k0w⟩ := id k0
        obtain ⟨kpx, kpy, kpz, kpu, kpv⟩ := id kp
        go_wp2_with fail
        clear k0x k0y k0z k0u k0v k0w kpx kpy kpz kpu kpv
        refine (impl_tipOf a1 (some ⟨b2, o2, none⟩) (some ⟨b3, o3, none⟩) _ n1 c1 n2 c2 n3 c3 n2 c2 l lo hi lo _ hT.out h1.out h2.out h3.out h2.out (by omega) (by omega) hr.out hr.out.2.1).mono ?_
        rintro e w6 ⟨rfl, q⟩
        have z6 := q.size
        replace hmo := Lib.hid (hmo.out.after q)
        replace bb := Lib.hid (bel_after bb.out q)
        replace hT := Lib.hid (hT.out.later q)
        replace hr := Lib.hid (hr.out.after q)
        replace k0 := k0.after q
        replace kp := kp.after q
        replace mg := Lib.hid (mg.out.after q)
        replace bd := Lib.hid (bel_after bd.out q)
        clear q
        obtain ⟨hf2, hl2b, hj2, htx, hty⟩ := M.tip_reached hfits.out hlowj.out
        obtain ⟨tx, htxe⟩ : ∃ tx, tx = M.tipX l lo hi lo := ⟨_, rfl⟩
        obtain ⟨ty, htye⟩ : ∃ ty, ty = M.tipY l lo hi lo := ⟨_, rfl⟩
        rw [← htxe, ← htye] at hf2 hl2b hj2
        rw [← htxe, ← htye] at htx hty
        rw [← htxe, ← htye]
        obtain ⟨L2, hL2e⟩ : ∃ L2, M.solve l lo hi tx ty = L2 := ⟨_, rfl⟩
        rw [hL2e] at hl2b hj2 htx hty
        replace hf2 := Lib.hid hf2
        replace hl2b := Lib.hid hl2b
        replace hj2 := Lib.hid hj2
        replace htx := Lib.hid htx
        replace hty := Lib.hid hty
        replace htxe := Lib.hid htxe
        replace htye := Lib.hid htye
        replace hL2e := Lib.hid hL2e
        have kt := Slot.new w6 tx ty 27
        go_upto_region 17 with fail
        replace hmo := Lib.hid (hmo.out.after (bel_new w6 (.cells #[.int .i64 tx, .int .i64 ty] 27)))
        replace bb := Lib.hid (bel_after bb.out (bel_new w6 (.cells #[.int .i64 tx, .int .i64 ty] 27)))
        replace hT := Lib.hid (hT.out.later (bel_new w6 (.cells #[.int .i64 tx, .int .i64 ty] 27)))
        replace hr := Lib.hid (hr.out.after (bel_new w6 (.cells #[.int .i64 tx, .int .i64 ty] 27)))
        replace k0 := k0.after (bel_new w6 (.cells #[.int .i64 tx, .int .i64 ty] 27))
        replace kp := kp.after (bel_new w6 (.cells #[.int .i64 tx, .int .i64 ty] 27))
        replace mg := Lib.hid (mg.out.after (bel_new w6 (.cells #[.int .i64 tx, .int .i64 ty] 27)))
        replace bd := Lib.hid (bel_after bd.out (bel_new w6 (.cells #[.int .i64 tx, .int .i64 ty] 27)))
        generalize w6.heap.size = T at kt ⊢
        generalize w6.alloc (.cells #[.int .i64 tx, .int .i64 ty] 27) = vt at *
        obtain ⟨r0, r1, r2, r3, r4⟩ := id kt
        obtain ⟨k0x, k0y, k0z, k0u, k0v, k0w⟩ := id k0
        obtain ⟨kpx, kpy, kpz, kpu, kpv⟩ := id kp
        go_wp2_with fail
        clear k0x k0y k0z k0u k0v k0w kpx kpy kpz kpu kpv
        clear r0 r1 r2 r3 r4
        refine (impl_solve a1 (some ⟨b2, o2, none⟩) (some ⟨b3, o3, none⟩) n1 c1 n2 c2 n3 c3 l lo hi tx ty _ hT.out h1.out h2.out h3.out (by omega) hr.out).mono ?_
        rintro e w7 hq
        rw [hL2e.out] at hq
        obtain ⟨xs, ys, rfl, ms, q⟩ := ints_view hl2b.out hq
        replace hmo := Lib.hid (hmo.out.after q)
        replace bb := Lib.hid (bel_after bb.out q)
        replace hT := Lib.hid (hT.out.later q)
        replace hr := Lib.hid (hr.out.after q)
        replace k0 := k0.after q
        replace kp := kp.after q
        replace mg := Lib.hid (mg.out.after q)
        replace bd := Lib.hid (bel_after bd.out q)
        replace kt := kt.after q
        clear q hq
        replace ms := Lib.hid ms
        go_upto_region 18 with fail
        replace hmo := Lib.hid (hmo.out.after (bel_drew _))
        replace bb := Lib.hid (bel_after bb.out (bel_drew _))
        replace hT := Lib.hid (hT.out.later (bel_drew _))
        replace hr := Lib.hid (hr.out.after (bel_drew _))
        replace k0 := k0.after (bel_drew _)
        replace kp := kp.after (bel_drew _)
        replace mg := Lib.hid (mg.out.after (bel_drew _))
        replace bd := Lib.hid (bel_after bd.out (bel_drew _))
        replace kt := kt.after (bel_drew _)
        replace ms := Lib.hid (ms.out.after (bel_drew _))
        have s := And.intro (And.intro k0.c0 (And.intro k0.c1 k0.c2)) (And.intro kt.1 kt.2.1)
        refine wp_region_held_drew (S := (fun w' => (w'.cell? ⟨K, 0, none⟩ = some (.slice a1 n1 c1) ∧ w'.cell? ⟨K, 1, none⟩ = some (.slice (some ⟨b2, o2, none⟩) n2 c2) ∧ w'.cell? ⟨K, 2, none⟩ = some (.slice (some ⟨b3, o3, none⟩) n3 c3)) ∧ (w'.cell? ⟨T, 0, none⟩ = some (.int .i64 tx) ∧ w'.cell? ⟨T, 1, none⟩ = some (.int .i64 ty)))) (by kernel_rfl) s (fun hHeld => ?_)
        generalize w7.drew = x0 at *
        refine wpAnyH_take (i := 0) (v := ?vq2x0) nth0 (by kernel_rfl) (by kernel_rfl) (by kernel_rfl) (fun _ _ _ h => h) (Or.inl ⟨by rfl, ?hyq2x0⟩) hHeld ?_
        case hyq2x0 => (intro wH hSw; (try dsimp only at hSw); go_simp; (try with_reducible rfl))
        simp only [Act.put, List.setIfInBounds_toArray, List.set_cons_zero, List.set_cons_succ]
        refine wpAnyH_take (i := 1) (v := ?vq2x1) nth1 (by kernel_rfl) (by kernel_rfl) (by kernel_rfl) (fun _ _ _ h => h) (Or.inl ⟨by rfl, ?hyq2x1⟩) hHeld ?_
        case hyq2x1 => (intro wH hSw; (try dsimp only at hSw); go_simp; (try with_reducible rfl))
        simp only [Act.put, List.setIfInBounds_toArray, List.set_cons_zero, List.set_cons_succ]
        refine wpAnyH_ready (rs := [2]) (by kernel_rfl) (by simp) ?_
        refine AllReadyH.cons nth2 (fun K hK => ?_) ?_
        · go_simp
          go_at_call 26
          refine (impl_joints a1 (some ⟨b2, o2, none⟩) (some ⟨b3, o3, none⟩) _ n1 c1 n2 c2 n3 c3 2 yg l lo hi L _ h1.out h2.out h3.out hn.out (by omega) (by omega) hr.out mg.out.row).mono ?_
          rintro e x8 ⟨rfl, q⟩
          rw [hgL.out]
          replace hmo := Lib.hid (hmo.out.after q)
          replace bb := Lib.hid (bel_after bb.out q)
          replace hT := Lib.hid (hT.out.later q)
          replace hr := Lib.hid (hr.out.after q)
          replace k0 := k0.after q
          replace kp := kp.after q
          replace mg := Lib.hid (mg.out.after q)
          replace bd := Lib.hid (bel_after bd.out q)
          replace kt := kt.after q
          replace ms := Lib.hid (ms.out.after q)
          clear q s
          clear hHeld
          have s := And.intro (And.intro k0.c0 (And.intro k0.c1 k0.c2)) (And.intro kt.1 kt.2.1)
          refine hK.out _ _ s (fun hHeld => ?_)
          clear hK K
          try simp only [Act.put, List.setIfInBounds_toArray, List.set_cons_zero, List.set_cons_succ]
          refine wpAnyH_take (i := 3) (v := ?vq2x3) nth3 (by kernel_rfl) (by kernel_rfl) (by kernel_rfl) (fun _ _ _ h => h) (Or.inl ⟨by rfl, ?hyq2x3⟩) hHeld ?_
          case hyq2x3 => (intro wH hSw; (try dsimp only at hSw); go_simp; (try with_reducible rfl))
          simp only [Act.put, List.setIfInBounds_toArray, List.set_cons_zero, List.set_cons_succ]
          refine wpAnyH_take (i := 4) (v := ?vq2x4) nth4 (by kernel_rfl) (by kernel_rfl) (by kernel_rfl) (fun _ _ _ h => h) (Or.inl ⟨by rfl, ?hyq2x4⟩) hHeld ?_
          case hyq2x4 => (intro wH hSw; (try dsimp only at hSw); go_simp; (try with_reducible rfl))
          simp only [Act.put, List.setIfInBounds_toArray, List.set_cons_zero, List.set_cons_succ]
          refine wpAnyH_take (i := 5) (v := ?vq2x5) nth5 (by kernel_rfl) (by kernel_rfl) (by kernel_rfl) (fun _ _ _ h => h) (Or.inl ⟨by rfl, ?hyq2x5⟩) hHeld ?_
          case hyq2x5 => (intro wH hSw; (try dsimp only at hSw); go_simp; (try with_reducible rfl))
          simp only [Act.put, List.setIfInBounds_toArray, List.set_cons_zero, List.set_cons_succ]
          refine wpAnyH_ready (rs := [6]) (by kernel_rfl) (by simp) ?_
          refine AllReadyH.cons nth6 (fun K hK => ?_) ?_
          · go_simp
            go_at_call 26
            refine (impl_joints a1 (some ⟨b2, o2, none⟩) (some ⟨b3, o3, none⟩) _ n1 c1 n2 c2 n3 c3 2 ys l lo hi L2 _ h1.out h2.out h3.out hl2b.out (by omega) (by omega) hr.out ms.out.row).mono ?_
            rintro e x9 ⟨rfl, q⟩
            rw [hj2.out]
            replace hmo := Lib.hid (hmo.out.after q)
            replace bb := Lib.hid (bel_after bb.out q)
            replace hT := Lib.hid (hT.out.later q)
            replace hr := Lib.hid (hr.out.after q)
            replace k0 := k0.after q
            replace kp := kp.after q
            replace mg := Lib.hid (mg.out.after q)
            replace bd := Lib.hid (bel_after bd.out q)
            replace kt := kt.after q
            replace ms := Lib.hid (ms.out.after q)
            clear q s
            clear hHeld
            have s := And.intro (And.intro k0.c0 (And.intro k0.c1 k0.c2)) (And.intro kt.1 kt.2.1)
            refine hK.out _ _ s (fun hHeld => ?_)
            clear hK K
            try simp only [Act.put, List.setIfInBounds_toArray, List.set_cons_zero, List.set_cons_succ]
            refine wpAnyH_take (i := 7) (v := ?vq2x7) nth7 (by kernel_rfl) (by kernel_rfl) (by kernel_rfl) (fun _ _ _ h => h) (Or.inl ⟨by rfl, ?hyq2x7⟩) hHeld ?_
            case hyq2x7 => (intro wH hSw; (try dsimp only at hSw); go_simp; (try with_reducible rfl))
            simp only [Act.put, List.setIfInBounds_toArray, List.set_cons_zero, List.set_cons_succ]
            refine wpAnyH_take (i := 8) (v := ?vq2x8) nth8 (by kernel_rfl) (by kernel_rfl) (by kernel_rfl) (fun _ _ _ h => h) (Or.inl ⟨by rfl, ?hyq2x8⟩) hHeld ?_
            case hyq2x8 => (intro wH hSw; (try dsimp only at hSw); go_simp; (try with_reducible rfl))
            simp only [Act.put, List.setIfInBounds_toArray, List.set_cons_zero, List.set_cons_succ]
            refine wpAnyH_take (i := 9) (v := ?vq2x9) nth9 (by kernel_rfl) (by kernel_rfl) (by kernel_rfl) (fun _ _ _ h => h) (Or.inl ⟨by rfl, ?hyq2x9⟩) hHeld ?_
            case hyq2x9 => (intro wH hSw; (try dsimp only at hSw); go_simp; (try with_reducible rfl))
            simp only [Act.put, List.setIfInBounds_toArray, List.set_cons_zero, List.set_cons_succ]
            refine wpAnyH_take (i := 10) (v := ?vq2x10) nth10 (by kernel_rfl) (by kernel_rfl) (by kernel_rfl) (fun _ _ _ h => h) (Or.inl ⟨by rfl, ?hyq2x10⟩) hHeld ?_
            case hyq2x10 => (intro wH hSw; (try dsimp only at hSw); go_simp; (try with_reducible rfl))
            simp only [Act.put, List.setIfInBounds_toArray, List.set_cons_zero, List.set_cons_succ]
            refine wpAnyH_take (i := 12) (v := ?vq2x12) nth12 (by kernel_rfl) (by kernel_rfl) (by kernel_rfl) (fun _ _ _ h => h) (Or.inl ⟨by rfl, ?hyq2x12⟩) hHeld ?_
            case hyq2x12 => (intro wH hSw; (try dsimp only at hSw); go_simp; (try with_reducible rfl))
            simp only [Act.put, List.setIfInBounds_toArray, List.set_cons_zero, List.set_cons_succ]
            refine wpAnyH_ready (rs := [11]) (by kernel_rfl) (by simp) ?_
            refine AllReadyH.cons nth11 (fun K hK => ?_) ?_
            · go_simp
              go_at_call 17
              refine (impl_tipOf a1 (some ⟨b2, o2, none⟩) (some ⟨b3, o3, none⟩) _ n1 c1 n2 c2 n3 c3 2 ys l lo hi L2 _ hT.out h1.out h2.out h3.out hl2b.out (by omega) (by omega) hr.out ms.out.row).mono ?_
              rintro e x10 ⟨rfl, q⟩
              rw [htx.out, hty.out]
              replace hmo := Lib.hid (hmo.out.after q)
              replace bb := Lib.hid (bel_after bb.out q)
              replace hT := Lib.hid (hT.out.later q)
              replace hr := Lib.hid (hr.out.after q)
              replace k0 := k0.after q
              replace kp := kp.after q
              replace mg := Lib.hid (mg.out.after q)
              replace bd := Lib.hid (bel_after bd.out q)
              replace kt := kt.after q
              replace ms := Lib.hid (ms.out.after q)
              clear q s
              clear hHeld
              have s := And.intro (And.intro k0.c0 (And.intro k0.c1 k0.c2)) (And.intro kt.1 kt.2.1)
              refine hK.out _ _ s (fun hHeld => ?_)
              clear hK K
              try simp only [Act.put, List.setIfInBounds_toArray, List.set_cons_zero, List.set_cons_succ]
              refine wpAnyH_take (i := 13) (v := ?vq2x13) nth13 (by kernel_rfl) (by kernel_rfl) (by kernel_rfl) (fun _ _ _ h => h) (Or.inl ⟨by rfl, ?hyq2x13⟩) hHeld ?_
              case hyq2x13 => (intro wH hSw; (try dsimp only at hSw); go_simp; (try with_reducible rfl))
              simp only [Act.put, List.setIfInBounds_toArray, List.set_cons_zero, List.set_cons_succ]
              refine wpAnyH_take (i := 14) (v := ?vq2x14) nth14 (by kernel_rfl) (by kernel_rfl) (by kernel_rfl) (fun _ _ _ h => h) (Or.inl ⟨by rfl, ?hyq2x14⟩) hHeld ?_
              case hyq2x14 => (intro wH hSw; (try dsimp only at hSw); go_simp; (try with_reducible rfl))
              simp only [Act.put, List.setIfInBounds_toArray, List.set_cons_zero, List.set_cons_succ]
              refine wpAnyH_take (i := 15) (v := ?vq2x15) nth15 (by kernel_rfl) (by kernel_rfl) (by kernel_rfl) (fun _ _ _ h => h) (Or.inl ⟨by rfl, ?hyq2x15⟩) hHeld ?_
              case hyq2x15 => (intro wH hSw; (try dsimp only at hSw); go_simp; (try with_reducible rfl))
              simp only [Act.put, List.setIfInBounds_toArray, List.set_cons_zero, List.set_cons_succ]
              refine wpAnyH_done (by kernel_rfl) ?_ _
              clear hHeld s
              go_wp2_with fail
              go_ret
              exact ⟨rfl, bb.out⟩
            exact AllReadyH.nil
          exact AllReadyH.nil
        exact AllReadyH.nil
    · have hc3 : decide ((t : Int) + 1 < (lm : Int)) = false := by simp; omega
      obtain ⟨k0x, k0y, k0z, k0u, k0v, k0w⟩ := id k0
      obtain ⟨kpx, kpy, kpz, kpu, kpv⟩ := id kp
      go_wp2_with fail
      clear k0x k0y k0z k0u k0v k0w kpx kpy kpz kpu kpv
      refine (impl_tipOf a1 (some ⟨b2, o2, none⟩) (some ⟨b3, o3, none⟩) _ n1 c1 n2 c2 n3 c3 n2 c2 l lo hi lo _ hT.out h1.out h2.out h3.out h2.out (by omega) (by omega) hr.out hr.out.2.1).mono ?_
      rintro e w6 ⟨rfl, q⟩
      have z6 := q.size
      replace hmo := Lib.hid (hmo.out.after q)
      replace bb := Lib.hid (bel_after bb.out q)
      replace hT := Lib.hid (hT.out.later q)
      replace hr := Lib.hid (hr.out.after q)
      replace k0 := k0.after q
      replace kp := kp.after q
      replace mg := Lib.hid (mg.out.after q)
      replace bd := Lib.hid (bel_after bd.out q)
      clear q
      obtain ⟨hf2, hl2b, hj2, htx, hty⟩ := M.tip_reached hfits.out hlowj.out
      obtain ⟨tx, htxe⟩ : ∃ tx, tx = M.tipX l lo hi lo := ⟨_, rfl⟩
      obtain ⟨ty, htye⟩ : ∃ ty, ty = M.tipY l lo hi lo := ⟨_, rfl⟩
      rw [← htxe, ← htye] at hf2 hl2b hj2
      rw [← htxe, ← htye] at htx hty
      rw [← htxe, ← htye]
      obtain ⟨L2, hL2e⟩ : ∃ L2, M.solve l lo hi tx ty = L2 := ⟨_, rfl⟩
      rw [hL2e] at hl2b hj2 htx hty
      replace hf2 := Lib.hid hf2
      replace hl2b := Lib.hid hl2b
      replace hj2 := Lib.hid hj2
      replace htx := Lib.hid htx
      replace hty := Lib.hid hty
      replace htxe := Lib.hid htxe
      replace htye := Lib.hid htye
      replace hL2e := Lib.hid hL2e
      have kt := Slot.new w6 tx ty 27
      go_upto_region 17 with fail
      replace hmo := Lib.hid (hmo.out.after (bel_new w6 (.cells #[.int .i64 tx, .int .i64 ty] 27)))
      replace bb := Lib.hid (bel_after bb.out (bel_new w6 (.cells #[.int .i64 tx, .int .i64 ty] 27)))
      replace hT := Lib.hid (hT.out.later (bel_new w6 (.cells #[.int .i64 tx, .int .i64 ty] 27)))
      replace hr := Lib.hid (hr.out.after (bel_new w6 (.cells #[.int .i64 tx, .int .i64 ty] 27)))
      replace k0 := k0.after (bel_new w6 (.cells #[.int .i64 tx, .int .i64 ty] 27))
      replace kp := kp.after (bel_new w6 (.cells #[.int .i64 tx, .int .i64 ty] 27))
      replace mg := Lib.hid (mg.out.after (bel_new w6 (.cells #[.int .i64 tx, .int .i64 ty] 27)))
      replace bd := Lib.hid (bel_after bd.out (bel_new w6 (.cells #[.int .i64 tx, .int .i64 ty] 27)))
      generalize w6.heap.size = T at kt ⊢
      generalize w6.alloc (.cells #[.int .i64 tx, .int .i64 ty] 27) = vt at *
      obtain ⟨r0, r1, r2, r3, r4⟩ := id kt
      obtain ⟨k0x, k0y, k0z, k0u, k0v, k0w⟩ := id k0
      obtain ⟨kpx, kpy, kpz, kpu, kpv⟩ := id kp
      go_wp2_with fail
      clear k0x k0y k0z k0u k0v k0w kpx kpy kpz kpu kpv
      clear r0 r1 r2 r3 r4
      refine (impl_solve a1 (some ⟨b2, o2, none⟩) (some ⟨b3, o3, none⟩) n1 c1 n2 c2 n3 c3 l lo hi tx ty _ hT.out h1.out h2.out h3.out (by omega) hr.out).mono ?_
      rintro e w7 hq
      rw [hL2e.out] at hq
      obtain ⟨xs, ys, rfl, ms, q⟩ := ints_view hl2b.out hq
      replace hmo := Lib.hid (hmo.out.after q)
      replace bb := Lib.hid (bel_after bb.out q)
      replace hT := Lib.hid (hT.out.later q)
      replace hr := Lib.hid (hr.out.after q)
      replace k0 := k0.after q
      replace kp := kp.after q
      replace mg := Lib.hid (mg.out.after q)
      replace bd := Lib.hid (bel_after bd.out q)
      replace kt := kt.after q
      clear q hq
      replace ms := Lib.hid ms
      go_upto_region 18 with fail
      replace hmo := Lib.hid (hmo.out.after (bel_drew _))
      replace bb := Lib.hid (bel_after bb.out (bel_drew _))
      replace hT := Lib.hid (hT.out.later (bel_drew _))
      replace hr := Lib.hid (hr.out.after (bel_drew _))
      replace k0 := k0.after (bel_drew _)
      replace kp := kp.after (bel_drew _)
      replace mg := Lib.hid (mg.out.after (bel_drew _))
      replace bd := Lib.hid (bel_after bd.out (bel_drew _))
      replace kt := kt.after (bel_drew _)
      replace ms := Lib.hid (ms.out.after (bel_drew _))
      have s := And.intro (And.intro k0.c0 (And.intro k0.c1 k0.c2)) (And.intro kt.1 kt.2.1)
      refine wp_region_held_drew (S := (fun w' => (w'.cell? ⟨K, 0, none⟩ = some (.slice a1 n1 c1) ∧ w'.cell? ⟨K, 1, none⟩ = some (.slice (some ⟨b2, o2, none⟩) n2 c2) ∧ w'.cell? ⟨K, 2, none⟩ = some (.slice (some ⟨b3, o3, none⟩) n3 c3)) ∧ (w'.cell? ⟨T, 0, none⟩ = some (.int .i64 tx) ∧ w'.cell? ⟨T, 1, none⟩ = some (.int .i64 ty)))) (by kernel_rfl) s (fun hHeld => ?_)
      generalize w7.drew = x0 at *
      refine wpAnyH_take (i := 0) (v := ?vq3x0) nth0 (by kernel_rfl) (by kernel_rfl) (by kernel_rfl) (fun _ _ _ h => h) (Or.inl ⟨by rfl, ?hyq3x0⟩) hHeld ?_
      case hyq3x0 => (intro wH hSw; (try dsimp only at hSw); go_simp; (try with_reducible rfl))
      simp only [Act.put, List.setIfInBounds_toArray, List.set_cons_zero, List.set_cons_succ]
      refine wpAnyH_take (i := 1) (v := ?vq3x1) nth1 (by kernel_rfl) (by kernel_rfl) (by kernel_rfl) (fun _ _ _ h => h) (Or.inl ⟨by rfl, ?hyq3x1⟩) hHeld ?_
      case hyq3x1 => (intro wH hSw; (try dsimp only at hSw); go_simp; (try with_reducible rfl))
      simp only [Act.put, List.setIfInBounds_toArray, List.set_cons_zero, List.set_cons_succ]
      refine wpAnyH_ready (rs := [2]) (by kernel_rfl) (by simp) ?_
      refine AllReadyH.cons nth2 (fun K hK => ?_) ?_
      · go_simp
        go_at_call 26
        refine (impl_joints a1 (some ⟨b2, o2, none⟩) (some ⟨b3, o3, none⟩) _ n1 c1 n2 c2 n3 c3 2 yg l lo hi L _ h1.out h2.out h3.out hn.out (by omega) (by omega) hr.out mg.out.row).mono ?_
        rintro e x8 ⟨rfl, q⟩
        rw [hgL.out]
        replace hmo := Lib.hid (hmo.out.after q)
        replace bb := Lib.hid (bel_after bb.out q)
        replace hT := Lib.hid (hT.out.later q)
        replace hr := Lib.hid (hr.out.after q)
        replace k0 := k0.after q
        replace kp := kp.after q
        replace mg := Lib.hid (mg.out.after q)
        replace bd := Lib.hid (bel_after bd.out q)
        replace kt := kt.after q
        replace ms := Lib.hid (ms.out.after q)
        clear q s
        clear hHeld
        have s := And.intro (And.intro k0.c0 (And.intro k0.c1 k0.c2)) (And.intro kt.1 kt.2.1)
        refine hK.out _ _ s (fun hHeld => ?_)
        clear hK K
        try simp only [Act.put, List.setIfInBounds_toArray, List.set_cons_zero, List.set_cons_succ]
        refine wpAnyH_take (i := 3) (v := ?vq3x3) nth3 (by kernel_rfl) (by kernel_rfl) (by kernel_rfl) (fun _ _ _ h => h) (Or.inl ⟨by rfl, ?hyq3x3⟩) hHeld ?_
        case hyq3x3 => (intro wH hSw; (try dsimp only at hSw); go_simp; (try with_reducible rfl))
        simp only [Act.put, List.setIfInBounds_toArray, List.set_cons_zero, List.set_cons_succ]
        refine wpAnyH_take (i := 4) (v := ?vq3x4) nth4 (by kernel_rfl) (by kernel_rfl) (by kernel_rfl) (fun _ _ _ h => h) (Or.inl ⟨by rfl, ?hyq3x4⟩) hHeld ?_
        case hyq3x4 => (intro wH hSw; (try dsimp only at hSw); go_simp; (try with_reducible rfl))
        simp only [Act.put, List.setIfInBounds_toArray, List.set_cons_zero, List.set_cons_succ]
        refine wpAnyH_take (i := 5) (v := ?vq3x5) nth5 (by kernel_rfl) (by kernel_rfl) (by kernel_rfl) (fun _ _ _ h => h) (Or.inl ⟨by rfl, ?hyq3x5⟩) hHeld ?_
        case hyq3x5 => (intro wH hSw; (try dsimp only at hSw); go_simp; (try with_reducible rfl))
        simp only [Act.put, List.setIfInBounds_toArray, List.set_cons_zero, List.set_cons_succ]
        refine wpAnyH_ready (rs := [6]) (by kernel_rfl) (by simp) ?_
        refine AllReadyH.cons nth6 (fun K hK => ?_) ?_
        · go_simp
          go_at_call 26
          refine (impl_joints a1 (some ⟨b2, o2, none⟩) (some ⟨b3, o3, none⟩) _ n1 c1 n2 c2 n3 c3 2 ys l lo hi L2 _ h1.out h2.out h3.out hl2b.out (by omega) (by omega) hr.out ms.out.row).mono ?_
          rintro e x9 ⟨rfl, q⟩
          rw [hj2.out]
          replace hmo := Lib.hid (hmo.out.after q)
          replace bb := Lib.hid (bel_after bb.out q)
          replace hT := Lib.hid (hT.out.later q)
          replace hr := Lib.hid (hr.out.after q)
          replace k0 := k0.after q
          replace kp := kp.after q
          replace mg := Lib.hid (mg.out.after q)
          replace bd := Lib.hid (bel_after bd.out q)
          replace kt := kt.after q
          replace ms := Lib.hid (ms.out.after q)
          clear q s
          clear hHeld
          have s := And.intro (And.intro k0.c0 (And.intro k0.c1 k0.c2)) (And.intro kt.1 kt.2.1)
          refine hK.out _ _ s (fun hHeld => ?_)
          clear hK K
          try simp only [Act.put, List.setIfInBounds_toArray, List.set_cons_zero, List.set_cons_succ]
          refine wpAnyH_take (i := 7) (v := ?vq3x7) nth7 (by kernel_rfl) (by kernel_rfl) (by kernel_rfl) (fun _ _ _ h => h) (Or.inl ⟨by rfl, ?hyq3x7⟩) hHeld ?_
          case hyq3x7 => (intro wH hSw; (try dsimp only at hSw); go_simp; (try with_reducible rfl))
          simp only [Act.put, List.setIfInBounds_toArray, List.set_cons_zero, List.set_cons_succ]
          refine wpAnyH_take (i := 8) (v := ?vq3x8) nth8 (by kernel_rfl) (by kernel_rfl) (by kernel_rfl) (fun _ _ _ h => h) (Or.inl ⟨by rfl, ?hyq3x8⟩) hHeld ?_
          case hyq3x8 => (intro wH hSw; (try dsimp only at hSw); go_simp; (try with_reducible rfl))
          simp only [Act.put, List.setIfInBounds_toArray, List.set_cons_zero, List.set_cons_succ]
          refine wpAnyH_take (i := 9) (v := ?vq3x9) nth9 (by kernel_rfl) (by kernel_rfl) (by kernel_rfl) (fun _ _ _ h => h) (Or.inl ⟨by rfl, ?hyq3x9⟩) hHeld ?_
          case hyq3x9 => (intro wH hSw; (try dsimp only at hSw); go_simp; (try with_reducible rfl))
          simp only [Act.put, List.setIfInBounds_toArray, List.set_cons_zero, List.set_cons_succ]
          refine wpAnyH_take (i := 10) (v := ?vq3x10) nth10 (by kernel_rfl) (by kernel_rfl) (by kernel_rfl) (fun _ _ _ h => h) (Or.inl ⟨by rfl, ?hyq3x10⟩) hHeld ?_
          case hyq3x10 => (intro wH hSw; (try dsimp only at hSw); go_simp; (try with_reducible rfl))
          simp only [Act.put, List.setIfInBounds_toArray, List.set_cons_zero, List.set_cons_succ]
          refine wpAnyH_take (i := 12) (v := ?vq3x12) nth12 (by kernel_rfl) (by kernel_rfl) (by kernel_rfl) (fun _ _ _ h => h) (Or.inl ⟨by rfl, ?hyq3x12⟩) hHeld ?_
          case hyq3x12 => (intro wH hSw; (try dsimp only at hSw); go_simp; (try with_reducible rfl))
          simp only [Act.put, List.setIfInBounds_toArray, List.set_cons_zero, List.set_cons_succ]
          refine wpAnyH_ready (rs := [11]) (by kernel_rfl) (by simp) ?_
          refine AllReadyH.cons nth11 (fun K hK => ?_) ?_
          · go_simp
            go_at_call 17
            refine (impl_tipOf a1 (some ⟨b2, o2, none⟩) (some ⟨b3, o3, none⟩) _ n1 c1 n2 c2 n3 c3 2 ys l lo hi L2 _ hT.out h1.out h2.out h3.out hl2b.out (by omega) (by omega) hr.out ms.out.row).mono ?_
            rintro e x10 ⟨rfl, q⟩
            rw [htx.out, hty.out]
            replace hmo := Lib.hid (hmo.out.after q)
            replace bb := Lib.hid (bel_after bb.out q)
            replace hT := Lib.hid (hT.out.later q)
            replace hr := Lib.hid (hr.out.after q)
            replace k0 := k0.after q
            replace kp := kp.after q
            replace mg := Lib.hid (mg.out.after q)
            replace bd := Lib.hid (bel_after bd.out q)
            replace kt := kt.after q
            replace ms := Lib.hid (ms.out.after q)
            clear q s
            clear hHeld
            have s := And.intro (And.intro k0.c0 (And.intro k0.c1 k0.c2)) (And.intro kt.1 kt.2.1)
            refine hK.out _ _ s (fun hHeld => ?_)
            clear hK K
            try simp only [Act.put, List.setIfInBounds_toArray, List.set_cons_zero, List.set_cons_succ]
            refine wpAnyH_take (i := 13) (v := ?vq3x13) nth13 (by kernel_rfl) (by kernel_rfl) (by kernel_rfl) (fun _ _ _ h => h) (Or.inl ⟨by rfl, ?hyq3x13⟩) hHeld ?_
            case hyq3x13 => (intro wH hSw; (try dsimp only at hSw); go_simp; (try with_reducible rfl))
            simp only [Act.put, List.setIfInBounds_toArray, List.set_cons_zero, List.set_cons_succ]
            refine wpAnyH_take (i := 14) (v := ?vq3x14) nth14 (by kernel_rfl) (by kernel_rfl) (by kernel_rfl) (fun _ _ _ h => h) (Or.inl ⟨by rfl, ?hyq3x14⟩) hHeld ?_
            case hyq3x14 => (intro wH hSw; (try dsimp only at hSw); go_simp; (try with_reducible rfl))
            simp only [Act.put, List.setIfInBounds_toArray, List.set_cons_zero, List.set_cons_succ]
            refine wpAnyH_take (i := 15) (v := ?vq3x15) nth15 (by kernel_rfl) (by kernel_rfl) (by kernel_rfl) (fun _ _ _ h => h) (Or.inl ⟨by rfl, ?hyq3x15⟩) hHeld ?_
            case hyq3x15 => (intro wH hSw; (try dsimp only at hSw); go_simp; (try with_reducible rfl))
            simp only [Act.put, List.setIfInBounds_toArray, List.set_cons_zero, List.set_cons_succ]
            refine wpAnyH_done (by kernel_rfl) ?_ _
            clear hHeld s
            go_wp2_with fail
            go_ret
            exact ⟨rfl, bb.out⟩
          exact AllReadyH.nil
        exact AllReadyH.nil
      exact AllReadyH.nil
theorem own : ownKnob Tryd.prog.godebug = none := by kernel_rfl
theorem laidOut : laidOutB Tryd.prog = true := by kernel_rfl
set_option maxRecDepth 100000 in
theorem lifted (os : Os) (started : os.Started) (H : Type) (enc : TypeId × Value → H) :
    ReturnsInHanded {} Tryd.checked os 5 .any (fun w args => (Rows.fnSolveArmSpec.pre enc Tryd.prog Tryd.f5 [] false w args ∧ laidMetH Tryd.prog laid3 w) ∧ sizedMet enc Tryd.prog Tryd.f5 (OpenSpec.ofChange Rows.fnSolveArmSpec) false w args)
      (Rows.fnSolveArmSpec.post enc Tryd.prog Tryd.f5 false true false false) := by
  refine returnsInHanded_of_change_and (C := Tryd.checked) (X := fun w _ => laidMetH Tryd.prog laid3 w) (fun _ _ _ hh h => h.of_heap hh) own started (by kernel_rfl) Tryd.func5
    (ChangeSpec.witness_shaped (enc := enc) (C := Tryd.checked) (os := os) (X := fun w _ => laidMetH Tryd.prog laid3 w) false (World.doorLaid Tryd.prog 24 os) #[.slice none 0 0, .slice none 0 0] 8 rfl (World.shaped_of_RefB (by kernel_rfl) (by kernel_rfl)) (by kernel_rfl) (by kernel_rfl) (by kernel_rfl) (door_met os _)) ?_
  intro W base args ds gs before hval0 hW _ _ hL _
  have hval : ∀ (j : Nat) t v, Tryd.f5.params[j]? = some t → args[j]? = some v → Value.okWide Tryd.prog W .any base t v := hval0
  have hW' := hW
  obtain ⟨p, q, hA0, hV, rfl, hfz, hnd⟩ := hW
  have hA : DataW.TrodAll enc Tryd.prog W 0 (fun _ => true) true Tryd.f5.params.toList args.toList ds p := hA0
  rw [Tryd.params5] at hA hval
  obtain ⟨v0_, vs0, d0, ds0, p0, q0, hargs, rfl, rfl, h0, r0⟩ := trodAll_cons hA
  obtain ⟨v1_, vs1, d1, ds1, p1, q1, rfl, rfl, rfl, h1, r1⟩ := trodAll_cons r0
  obtain ⟨rfl, rfl, rfl⟩ := trodAll_nil r1
  obtain rfl : args = #[v0_, v1_] := by cases args; simp_all
  obtain ⟨rfl, rfl⟩ := trodVars_none hV
  obtain ⟨a0, len0, cap0, rfl⟩ := okWide_slice Tryd.underlying22 (hval 0 22 v0_ rfl rfl)
  have k0 := h0
  have lt0 : ∀ x ∈ p0, x.block < W.heap.size := by obtain ⟨m, hm⟩ := k0; exact DataW.trod_lt m _ _ _ hm
  obtain ⟨z0, w0⟩ : ∃ zs, IsRow .u8 W a0 len0 cap0 zs := by
    obtain ⟨fuel, hf⟩ := h0
    rcases open_ints Tryd.underlying22 Tryd.underlying5 (by kernel_rfl) hf with ⟨hcs, _⟩ | ⟨x, l, c, zs, hcs, _, hl, hm, hz, _, hcell, hwz⟩
    · simp [Value.cells] at hcs
      obtain ⟨rfl, rfl, rfl⟩ := hcs
      exact ⟨[], .inl ⟨rfl, rfl, rfl, rfl⟩⟩
    · simp [Value.cells] at hcs
      obtain ⟨rfl, rfl, rfl⟩ := hcs
      exact ⟨zs, .inr ⟨_, rfl, hl, hm, by simpa using hz, hcell, hwz⟩⟩
  obtain ⟨a1, len1, cap1, rfl⟩ := okWide_slice Tryd.underlying22 (hval 1 22 v1_ rfl rfl)
  have k1 := h1
  have lt1 : ∀ x ∈ p1, x.block < W.heap.size := by obtain ⟨m, hm⟩ := k1; exact DataW.trod_lt m _ _ _ hm
  obtain ⟨z1, w1⟩ : ∃ zs, IsRow .u8 W a1 len1 cap1 zs := by
    obtain ⟨fuel, hf⟩ := h1
    rcases open_ints Tryd.underlying22 Tryd.underlying5 (by kernel_rfl) hf with ⟨hcs, _⟩ | ⟨x, l, c, zs, hcs, _, hl, hm, hz, _, hcell, hwz⟩
    · simp [Value.cells] at hcs
      obtain ⟨rfl, rfl, rfl⟩ := hcs
      exact ⟨[], .inl ⟨rfl, rfl, rfl, rfl⟩⟩
    · simp [Value.cells] at hcs
      obtain ⟨rfl, rfl, rfl⟩ := hcs
      exact ⟨zs, .inr ⟨_, rfl, hl, hm, by simpa using hz, hcell, hwz⟩⟩
  clear hA0 hval0
  refine (walk a0 len0 cap0 z0 a1 len1 cap1 z1 W w0 w1 (of_laid hL)).mono fun e W' ⟨he, bel⟩ => ?_
  subst he
  exact ⟨_, rfl, _, _, _, [], _, [], hW', trodAll_mk1 (shut_bool Tryd.underlying4 _), (trodAll_cons_mk (Below.trod laidOut (by kernel_rfl) (of_decide_eq_true (by kernel_rfl)) k0 bel lt0) (trodAll_cons_mk (Below.trod laidOut (by kernel_rfl) (of_decide_eq_true (by kernel_rfl)) k1 bel lt1) trodAll_mk0)), rfl, bel.frame _, fun h => by cases h⟩
theorem over : Rows.FnSolveArmSaid :=
  OpenClaim.holds_of_wide 5 Tryd.f5 rfl rfl rfl rfl rfl rfl rfl ⟨rfl, rfl, rfl, rfl, rfl⟩ rfl rfl rfl rfl rfl (by kernel_rfl) Tryd.func5 (by kernel_rfl)
    (of_decide_eq_true (by kernel_rfl)) (by unfold Func.isWrapper; first | (rw [if_pos (by decide +kernel)]; kernel_rfl) | (rw [if_neg (by decide +kernel)]; exact ⟨rfl, rfl⟩))
    (fun os started H enc _ => lifted os started H enc)
theorem proved : Rows.FnSolveArmCardSaid :=
  Claim7.holds_tied_plain_at .later [] [.data, .data, .data] true (true, "93a7d8943fba560fcf8c7ca76f507c19b15707da8092a46e0532a4902c1ccc6d") false
    over (fun _ h => by cases h) (by kernel_rfl) (fun _ h => by cases h) fnSolveArm_row_tie rfl ⟨rfl, rfl⟩ (by kernel_rfl) rfl
    (fun f fn hf hfn => by
      obtain rfl : f = 5 := Option.some.inj ((show Tryd.prog.funcNamed "loop.example/robotcell/laws.FnSolveArm" = some 5 by kernel_rfl).symm.trans hf) |>.symm
      obtain rfl : fn = Tryd.f5 := (Option.some.inj (Tryd.func5.symm.trans hfn)).symm
      exact ⟨by kernel_rfl, fun j t ht => by
        rw [Tryd.params5] at ht
        have hm : t ∈ [22, 22] := by simpa using Array.mem_of_getElem? ht
        have hall : ([22, 22].all fun u => !Tryd.prog.wantsStandIn u) = true := by kernel_rfl
        exact (show Tryd.prog.wantsStandIn t = false by simpa using List.all_eq_true.1 hall t hm)⟩)
    (by kernel_rfl)
#print axioms proved
end Go.Proofs.YtmainffjekjlnaaDoor.fnSolveArm
