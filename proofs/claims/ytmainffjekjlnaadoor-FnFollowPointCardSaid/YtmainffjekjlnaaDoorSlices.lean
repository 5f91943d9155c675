/- Contracts of the laws' helpers on slices of numbers: copy, comparison, marks. -/
import Derived.Test.YtmainffjekjlnaaDoorOwn
namespace Go.Proofs.YtmainffjekjlnaaDoor
open Go.ChangeShapes Go.WideShapes Go.ChangeAt Go.RowKit
set_option linter.unusedVariables false
theorem Row.of_isRow {w : World} {a : Option Addr} {len cap : Nat} {zs : List Int} (h : IsRow .i64 w a len cap zs) : Row w w.heap.size a (zs.take len) ∧ (zs.take len).length = len := by
  rcases h with ⟨rfl, rfl, rfl, rfl⟩ | ⟨⟨b, o, s⟩, rfl, hl, hm, hz, hcell, hwz⟩
  · exact ⟨.inl rfl, rfl⟩
  · have e : (zs.take len).length = len := by rw [List.length_take]; omega
    refine ⟨?_, e⟩
    by_cases h0 : len = 0
    · left; rw [h0]; rfl
    · have hc := hcell 0 (by omega)
      have hs : s = none := by simpa [Addr.add] using World.cell?_spot hc
      subst hs
      refine .inr ⟨b, o, rfl, World.block_lt_of_cell? w ⟨b, o, none⟩ (by simpa [Addr.add] using hc), fun i hi => ?_⟩
      have e2 : (⟨b, o, none⟩ : Addr).add i = ⟨b, o + i, none⟩ := by (by_cases hi0 : i = 0 <;> simp [Addr.add, hi0])
      have hcc := hcell i (by omega)
      rw [e2] at hcc
      rw [hcc]
      congr 2
      rw [List.getD_eq_getElem?_getD, List.getD_eq_getElem?_getD, List.getElem?_take, if_pos (by omega)]
theorem Owns.zeros {w : World} {B n cap : Nat} {a : Option Addr} (h : w.ownsRow B 3 1 (.slice a n cap) n (madeCells #[Value.int .i64 0] n).toList) : Owns w B (.slice a n cap) (List.replicate n 0) := by
  unfold Owns
  have e : (madeCells #[Value.int .i64 0] n).toList = List.replicate n (Value.int .i64 0) := toList_madeCells_one _ n
  rw [e] at h
  simpa using h
theorem Owns.put {w : World} {B g n cap : Nat} {l : List Int} (h : Owns w B (.slice (some ⟨g, 0, none⟩) n cap) l) (hn : l.length = n) (k : Nat) (x : Int) : Owns (w.setCell ⟨g, k, none⟩ (.int .i64 x)) B (.slice (some ⟨g, 0, none⟩) n cap) (l.set k x) := by
  unfold Owns at h ⊢
  rw [hn] at h
  have := (World.ownsRow.stored h k (.int .i64 x)).1
  rw [List.length_set, hn, List.map_set]
  exact this
theorem Owns.cellAt {w : World} {B g n cap : Nat} {l : List Int} (h : Owns w B (.slice (some ⟨g, 0, none⟩) n cap) l) (hn : l.length = n) (k : Nat) (hk : k < n) : w.cell? ⟨g, k, none⟩ = some (.int .i64 (l.getD k 0)) ∧ w.frozen? ⟨g, k, none⟩ = false ∧ B ≤ g ∧ g < w.heap.size := by
  unfold Owns at h
  rw [hn] at h
  have h2 := World.ownsRow.lt h g rfl
  refine ⟨?_, World.ownsRow.frozenAt h k, h2.1, h2.2⟩
  rw [World.ownsRow.cellAt h k (by omega)]
  simp [hn, hk]
theorem set_take {l : List Int} {n k : Nat} {x : Int} (hn : l.length = n) (hk : k < n) (hx : x = l.getD k 0) : (l.take k ++ List.replicate (n - k) 0).set k x = l.take (k + 1) ++ List.replicate (n - (k + 1)) 0 := by
  subst hx
  have e1 : (l.take k).length = k := by rw [List.length_take]; omega
  rw [List.set_append_right _ _ (by omega), e1, Nat.sub_self]
  obtain ⟨m, hm⟩ : ∃ m, n - k = m + 1 := ⟨n - k - 1, by omega⟩
  rw [hm, show n - (k + 1) = m by omega, List.replicate_succ, List.set_cons_zero, List.take_add_one, List.append_assoc]
  congr 1
  rw [List.getD_eq_getElem?_getD, List.getElem?_eq_getElem (by omega)]
  rfl
set_option maxHeartbeats 1000000 in
theorem to_ints (a : Option Addr) (len cap : Nat) (l : List Int) (w : World) (hl : l.length = len) (hm : len ≤ 1048576) (hrow : Row w w.heap.size a l) :
    Calls Tryd.prog 28 #[.slice a len cap] w (IntsOut w l) := by
  obtain ⟨i0, hi, hz0, hz1, hz2⟩ := info_parts infoInt
  have hl2 := Lib.hid hl
  clear hl
  go_enter Tryd.func28, Tryd.ntmps28
  go_wp2_with (at_make; refine wpList_make_full _ rfl _ _ 23 rfl w.heap.size 3 i0 (.int .i64 0) 1 Tryd.underlying23 hi hz0 hz1 .i64 .i64 _ _ len rfl rfl rfl rfl ?b2 ?b3 ?b4 ?_)
  case b2 => rw [hz2]; omega
  case b3 => unfold maxLen; omega
  case b4 => exact Nat.le_refl _
  intro w1 hown hgrow
  have ho := Lib.hid (Owns.zeros hown)
  have hb0 := Lib.hid ((Below.refl w.heap.size w).grown hgrow (Nat.le_refl _) (by intro k hk; cases hk))
  clear hown hgrow
  go_wp2
  go_loopw [4] (fun i wr => ∃ k : Nat, i = .int .i64 k ∧ k ≤ len ∧ Owns wr w.heap.size (.slice (some ⟨w.heap.size, 0, none⟩) len len) (l.take k ++ List.replicate (len - k) 0) ∧ Below w.heap.size w wr) (fun i _ => len - (intOf i).toNat)
  case atStart => exact ⟨0, rfl, Nat.zero_le _, ho.out, hb0.out⟩
  case round =>
    obtain ⟨k, rfl, hk, hown, hb⟩ := hrel
    by_cases hlt : k < len
    · have hlen : (l.take k ++ List.replicate (len - k) 0).length = len := by rw [List.length_append, List.length_take, List.length_replicate, hl2.out]; omega
      obtain ⟨b, o, rfl, hbb, hc⟩ := hrow.at (by intro e; have := hl2.out; rw [e] at this; simp at this; omega)
      have hcx := hc k (by rw [hl2.out]; exact hlt)
      rw [← hb.cell (p := ⟨b, o + k, none⟩) hbb] at hcx
      obtain ⟨x, hx⟩ : ∃ x, x = l.getD k 0 := ⟨_, rfl⟩
      rw [← hx] at hcx
      obtain ⟨q1, q2, q3, q4⟩ := hown.cellAt hlen k hlt
      obtain ⟨y, hy⟩ : ∃ y, y = (l.take k ++ List.replicate (len - k) 0).getD k 0 := ⟨_, rfl⟩
      rw [← hy] at q1
      have hst := Lib.hid (hown.put hlen k x)
      have hx2 := Lib.hid hx
      clear hown hx hy hlen hc hrow
      go_wp2
      go_roundw
      case rel => exact ⟨k + 1, by go_num, by omega, by rw [← set_take hl2.out hlt hx2.out]; exact hst.out, hb.setCell (Nat.le_refl _) _⟩
      case measure => simp [intOf]; omega
    · have hkn : k = len := by omega
      subst hkn
      have hfin : Owns wr w.heap.size (.slice (some ⟨w.heap.size, 0, none⟩) k k) l := by
        have := hown
        rw [Nat.sub_self, List.replicate_zero, List.append_nil, List.take_of_length_le (by rw [hl2.out]; exact Nat.le_refl _)] at this
        exact this
      have hf := Lib.hid hfin
      clear hown hfin
      go_wp2
      go_ret
      exact ⟨_, rfl, hf.out, hb⟩
def SameTo (l1 l2 : List Int) (k : Nat) : Prop := l1.take k = l2.take k
theorem take_same {l1 l2 : List Int} {k : Nat} (h1 : k < l1.length) (h2 : k < l2.length) (h : SameTo l1 l2 k) (hx : l1.getD k 0 = l2.getD k 0) : SameTo l1 l2 (k + 1) := by
  unfold SameTo at h ⊢
  rw [List.take_add_one, List.take_add_one, h]
  rw [List.getD_eq_getElem?_getD, List.getD_eq_getElem?_getD, List.getElem?_eq_getElem h1, List.getElem?_eq_getElem h2] at hx
  rw [List.getElem?_eq_getElem h1, List.getElem?_eq_getElem h2]
  simp only [Option.getD_some] at hx
  rw [hx]
set_option maxHeartbeats 1000000 in
theorem eq_ints (a1 a2 : Option Addr) (n1 n2 c1 c2 B : Nat) (l1 l2 : List Int) (w : World) (hl1 : l1.length = n1) (hl2 : l2.length = n2) (hm : n1 ≤ 1000000000) (hr1 : Row w w.heap.size a1 l1) (hr2 : Row w w.heap.size a2 l2) :
    Calls Tryd.prog 21 #[.slice a1 n1 c1, .slice a2 n2 c2] w fun e w' => e = .returned (.bool (decide (l1 = l2))) ∧ Below w.heap.size w w' := by
  by_cases hn : n1 = n2
  · subst hn
    have hn1 := Lib.hid hl1
    have hn2 := Lib.hid hl2
    clear hl1 hl2
    go_enter Tryd.func21, Tryd.ntmps21
    go_wp2
    go_loopw [5] (fun i wr => ∃ k : Nat, i = .int .i64 k ∧ k ≤ n1 ∧ SameTo l1 l2 k ∧ Below w.heap.size w wr) (fun i _ => n1 - (intOf i).toNat)
    case atStart => exact ⟨0, rfl, Nat.zero_le _, rfl, Below.refl _ _⟩
    case round =>
      obtain ⟨k, rfl, hk, heq, hb⟩ := hrel
      by_cases hlt : k < n1
      · obtain ⟨b1, o1, rfl, hbb1, hc1⟩ := hr1.at (by intro e; have := hn1.out; rw [e] at this; simp at this; omega)
        obtain ⟨b2, o2, rfl, hbb2, hc2⟩ := hr2.at (by intro e; have := hn2.out; rw [e] at this; simp at this; omega)
        have hx1 := hc1 k (by rw [hn1.out]; exact hlt)
        rw [← hb.cell (p := ⟨b1, o1 + k, none⟩) hbb1] at hx1
        have hx2 := hc2 k (by rw [hn2.out]; exact hlt)
        rw [← hb.cell (p := ⟨b2, o2 + k, none⟩) hbb2] at hx2
        obtain ⟨x, ex⟩ : ∃ x, x = l1.getD k 0 := ⟨_, rfl⟩
        obtain ⟨y, ey⟩ : ∃ y, y = l2.getD k 0 := ⟨_, rfl⟩
        rw [← ex] at hx1
        rw [← ey] at hx2
        replace ex := Lib.hid ex
        replace ey := Lib.hid ey
        have hlt2 : (k : Int) < (n1 : Int) := by omega
        clear hc1 hc2 hr1 hr2
        by_cases hxy : x = y
        · have hs := Lib.hid (take_same (by rw [hn1.out]; exact hlt) (by rw [hn2.out]; exact hlt) heq (by rw [← ex.out, ← ey.out]; exact hxy))
          have hxy2 : (x == y) = true := by simp [hxy]
          clear hxy
          go_wp2
          go_quiet (fail)
          go_wp2
          go_roundw
          case rel => exact ⟨k + 1, by go_num, by omega, hs.out, ⟨hb.os, hb.tape, hb.output, hb.size, hb.block⟩⟩
          case measure => simp [intOf]; omega
        · have hne : (x == y) = false := by simp [hxy]
          have hfin : false = decide (l1 = l2) := by
            symm; rw [decide_eq_false_iff_not]; intro e; subst e; exact hxy (by rw [ex.out, ey.out])
          replace hfin := Lib.hid hfin
          clear hxy
          go_wp2
          go_quiet (fail)
          go_wp2
          go_ret
          exact ⟨ret_bool hfin.out, ⟨hb.os, hb.tape, hb.output, hb.size, hb.block⟩⟩
      · have hfin : true = decide (l1 = l2) := by
          symm; rw [decide_eq_true_iff]
          have := heq
          unfold SameTo at this
          rwa [List.take_of_length_le (by rw [hn1.out]; omega), List.take_of_length_le (by rw [hn2.out]; omega)] at this
        replace hfin := Lib.hid hfin
        go_wp2
        go_ret
        exact ⟨ret_bool hfin.out, hb⟩
  · have hfin : false = decide (l1 = l2) := by
      symm; rw [decide_eq_false_iff_not]; intro e; subst e; exact hn (by omega)
    have hne : ((n1 : Int) == (n2 : Int)) = false := by simp; omega
    replace hfin := Lib.hid hfin
    go_enter Tryd.func21, Tryd.ntmps21
    go_wp2
    go_ret
    exact ⟨ret_bool hfin.out, Below.refl _ _⟩
set_option maxHeartbeats 1000000 in
theorem same_ints (a1 a2 : Option Addr) (n1 n2 c1 c2 B : Nat) (l1 l2 : List Int) (w : World) (hl1 : l1.length = n1) (hl2 : l2.length = n2) (hm : n1 ≤ 1000000000) (hr1 : Row w w.heap.size a1 l1) (hr2 : Row w w.heap.size a2 l2) :
    Calls Tryd.prog 11 #[.slice a1 n1 c1, .slice a2 n2 c2] w fun e w' => e = .returned (.bool (decide (l1 = l2))) ∧ Below w.heap.size w w' := by
  by_cases hn : n1 = n2
  · subst hn
    have hn1 := Lib.hid hl1
    have hn2 := Lib.hid hl2
    clear hl1 hl2
    go_enter Tryd.func11, Tryd.ntmps11
    go_wp2
    go_loopw [5] (fun i wr => ∃ k : Nat, i = .int .i64 k ∧ k ≤ n1 ∧ SameTo l1 l2 k ∧ Below w.heap.size w wr) (fun i _ => n1 - (intOf i).toNat)
    case atStart => exact ⟨0, rfl, Nat.zero_le _, rfl, Below.refl _ _⟩
    case round =>
      obtain ⟨k, rfl, hk, heq, hb⟩ := hrel
      by_cases hlt : k < n1
      · obtain ⟨b1, o1, rfl, hbb1, hc1⟩ := hr1.at (by intro e; have := hn1.out; rw [e] at this; simp at this; omega)
        obtain ⟨b2, o2, rfl, hbb2, hc2⟩ := hr2.at (by intro e; have := hn2.out; rw [e] at this; simp at this; omega)
        have hx1 := hc1 k (by rw [hn1.out]; exact hlt)
        rw [← hb.cell (p := ⟨b1, o1 + k, none⟩) hbb1] at hx1
        have hx2 := hc2 k (by rw [hn2.out]; exact hlt)
        rw [← hb.cell (p := ⟨b2, o2 + k, none⟩) hbb2] at hx2
        obtain ⟨x, ex⟩ : ∃ x, x = l1.getD k 0 := ⟨_, rfl⟩
        obtain ⟨y, ey⟩ : ∃ y, y = l2.getD k 0 := ⟨_, rfl⟩
        rw [← ex] at hx1
        rw [← ey] at hx2
        replace ex := Lib.hid ex
        replace ey := Lib.hid ey
        have hlt2 : (k : Int) < (n1 : Int) := by omega
        clear hc1 hc2 hr1 hr2
        by_cases hxy : x = y
        · have hs := Lib.hid (take_same (by rw [hn1.out]; exact hlt) (by rw [hn2.out]; exact hlt) heq (by rw [← ex.out, ← ey.out]; exact hxy))
          have hxy2 : (x == y) = true := by simp [hxy]
          clear hxy
          go_wp2
          go_quiet (fail)
          go_wp2
          go_roundw
          case rel => exact ⟨k + 1, by go_num, by omega, hs.out, ⟨hb.os, hb.tape, hb.output, hb.size, hb.block⟩⟩
          case measure => simp [intOf]; omega
        · have hne : (x == y) = false := by simp [hxy]
          have hfin : false = decide (l1 = l2) := by
            symm; rw [decide_eq_false_iff_not]; intro e; subst e; exact hxy (by rw [ex.out, ey.out])
          replace hfin := Lib.hid hfin
          clear hxy
          go_wp2
          go_quiet (fail)
          go_wp2
          go_ret
          exact ⟨ret_bool hfin.out, ⟨hb.os, hb.tape, hb.output, hb.size, hb.block⟩⟩
      · have hfin : true = decide (l1 = l2) := by
          symm; rw [decide_eq_true_iff]
          have := heq
          unfold SameTo at this
          rwa [List.take_of_length_le (by rw [hn1.out]; omega), List.take_of_length_le (by rw [hn2.out]; omega)] at this
        replace hfin := Lib.hid hfin
        go_wp2
        go_ret
        exact ⟨ret_bool hfin.out, hb⟩
  · have hfin : false = decide (l1 = l2) := by
      symm; rw [decide_eq_false_iff_not]; intro e; subst e; exact hn (by omega)
    have hne : ((n1 : Int) == (n2 : Int)) = false := by simp; omega
    replace hfin := Lib.hid hfin
    go_enter Tryd.func11, Tryd.ntmps11
    go_wp2
    go_ret
    exact ⟨ret_bool hfin.out, Below.refl _ _⟩
/-- n numbers from k on -/
def M.mk (k : Int) (n : Nat) : List Int := (List.range n).map fun (i : Nat) => k + (i : Int)
theorem M.mk_len (k : Int) (n : Nat) : (M.mk k n).length = n := by simp [M.mk]
theorem M.mk_at {k : Int} {n i : Nat} (h : i < n) : (M.mk k n).getD i 0 = k + (i : Int) := by
  rw [List.getD_eq_getElem?_getD, List.getElem?_eq_getElem (by rw [M.mk_len]; exact h)]
  simp [M.mk]
theorem mk_set {l : List Int} {k0 : Int} {k : Nat} (hk : k < l.length) : (M.mk k0 k ++ l.drop k).set k (k0 + (k : Int)) = M.mk k0 (k + 1) ++ l.drop (k + 1) := by
  rw [List.set_append_right _ _ (by rw [M.mk_len]; exact Nat.le_refl _), M.mk_len, Nat.sub_self]
  rw [List.drop_eq_getElem_cons hk, List.set_cons_zero]
  unfold M.mk
  rw [List.range_succ, List.map_append, List.append_assoc]
  rfl
set_option maxHeartbeats 1000000 in
theorem mark_ints (a : Option Addr) (cap : Nat) (l : List Int) (k0 : Int) (n B : Nat) (w : World) (hn : l.length = n) (hm : n ≤ 1000000000) (h0 : 0 ≤ k0) (h1 : k0 ≤ 1000000000000) (hown : Owns w B (.slice a n cap) l) :
    Calls Tryd.prog 24 #[.slice a n cap, .int .i64 k0] w fun e w' => e = .returned (.int .i64 (k0 + n)) ∧ Owns w' B (.slice a n cap) (M.mk k0 n) ∧ Below B w w' := by
  replace hn := Lib.hid hn
  go_enter Tryd.func24, Tryd.ntmps24
  go_wp2
  go_loopw [1, 5] (fun q i wr => ∃ k : Nat, q = .int .i64 (k0 + (k : Int)) ∧ i = .int .i64 k ∧ k ≤ n ∧ Owns wr B (.slice a n cap) (M.mk k0 k ++ l.drop k) ∧ Below B w wr) (fun _ i _ => n - (intOf i).toNat)
  case atStart => exact ⟨0, by simp, rfl, Nat.zero_le _, by simpa [M.mk] using hown, Below.refl _ _⟩
  case round =>
    obtain ⟨k, rfl, rfl, hk, ho, hb⟩ := hrel
    clear hown
    by_cases hlt : k < n
    · have hlen : (M.mk k0 k ++ l.drop k).length = n := by rw [List.length_append, M.mk_len, List.length_drop, hn.out]; omega
      obtain ⟨g, rfl⟩ : ∃ g, a = some ⟨g, 0, none⟩ := by
        have h2 := ho.2
        rcases h2 with ⟨h2, h3⟩ | ⟨g, cap', cur, h2, _⟩
        · rw [hlen] at h3; omega
        · injection h2 with h2; exact ⟨g, h2⟩
      obtain ⟨q1, q2, q3, q4⟩ := ho.cellAt hlen k hlt
      obtain ⟨y, hy⟩ : ∃ y, y = (M.mk k0 k ++ l.drop k).getD k 0 := ⟨_, rfl⟩
      rw [← hy] at q1
      have hst := Lib.hid (ho.put hlen k (k0 + (k : Int)))
      clear ho hy hlen
      go_wp2
      go_roundw
      case rel => exact ⟨k + 1, by go_num, by go_num, by omega, by rw [← mk_set (by rw [hn.out]; exact hlt)]; exact hst.out, hb.setCell q3 _⟩
      case measure => simp [intOf]; omega
    · have hkn : k = n := by omega
      subst hkn
      have hfin : Owns wr B (.slice a k cap) (M.mk k0 k) := by
        rw [List.drop_of_length_le (by rw [hn.out]; exact Nat.le_refl _), List.append_nil] at ho
        exact ho
      replace hfin := Lib.hid hfin
      clear ho
      go_wp2
      go_ret
      exact ⟨rfl, hfin.out, hb⟩
set_option maxHeartbeats 1000000 in
theorem held_ints (a : Option Addr) (cap : Nat) (k0 : Int) (n : Nat) (w : World) (hm : n ≤ 1000000000) (h0 : 0 ≤ k0) (h1 : k0 ≤ 1000000000000) (hrow : Row w w.heap.size a (M.mk k0 n)) :
    Calls Tryd.prog 25 #[.slice a n cap, .int .i64 k0] w fun e w' => e = .returned (.int .i64 (k0 + n)) ∧ w = w' := by
  go_enter Tryd.func25, Tryd.ntmps25
  go_wp2
  go_loop [1, 5] (fun q i => ∃ k : Nat, q = .int .i64 (k0 + (k : Int)) ∧ i = .int .i64 k ∧ k ≤ n) (fun _ i => n - (intOf i).toNat)
  case atStart => exact ⟨0, by simp, rfl, Nat.zero_le _⟩
  case round =>
    obtain ⟨k, rfl, rfl, hk⟩ := hrel
    by_cases hlt : k < n
    · obtain ⟨b, o, rfl, hbb, hc⟩ := hrow.at (by intro e; have := M.mk_len k0 n; rw [e] at this; simp at this; omega)
      have hx := hc k (by rw [M.mk_len]; exact hlt)
      rw [M.mk_at hlt] at hx
      clear hc hrow
      go_wp2
      go_round
      case rel => exact ⟨k + 1, by go_num, by go_num, by omega⟩
      case measure => simp [intOf]; omega
    · have hkn : k = n := by omega
      subst hkn
      go_wp2
      go_ret
      exact ⟨rfl, rfl⟩
theorem eq_ints_yes (a1 a2 : Option Addr) (n c1 c2 : Nat) (l : List Int) (w : World) (hl : l.length = n) (hm : n ≤ 1000000000) (hr1 : Row w w.heap.size a1 l) (hr2 : Row w w.heap.size a2 l) :
    Calls Tryd.prog 21 #[.slice a1 n c1, .slice a2 n c2] w fun e w' => e = .returned (.bool true) ∧ Below w.heap.size w w' := by
  refine (eq_ints a1 a2 n n c1 c2 0 l l w hl hl hm hr1 hr2).mono ?_
  rintro e w' ⟨he, hb⟩
  exact ⟨by rw [he]; exact ret_bool (decide_eq_true rfl), hb⟩
theorem same_ints_yes (a1 a2 : Option Addr) (n c1 c2 : Nat) (l : List Int) (w : World) (hl : l.length = n) (hm : n ≤ 1000000000) (hr1 : Row w w.heap.size a1 l) (hr2 : Row w w.heap.size a2 l) :
    Calls Tryd.prog 11 #[.slice a1 n c1, .slice a2 n c2] w fun e w' => e = .returned (.bool true) ∧ Below w.heap.size w w' := by
  refine (same_ints a1 a2 n n c1 c2 0 l l w hl hl hm hr1 hr2).mono ?_
  rintro e w' ⟨he, hb⟩
  exact ⟨by rw [he]; exact ret_bool (decide_eq_true rfl), hb⟩
end Go.Proofs.YtmainffjekjlnaaDoor
