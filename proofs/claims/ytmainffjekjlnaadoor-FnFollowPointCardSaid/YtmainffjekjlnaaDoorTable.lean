/- Contract of the reference's table and of its sine. -/
import Derived.Test.YtmainffjekjlnaaDoorSine
import Derived.Great.BuildSlice
namespace Go.Proofs.YtmainffjekjlnaaDoor
open Go.ChangeShapes Go.WideShapes Go.ChangeAt Go.RowKit
set_option linter.unusedVariables false
def tabV : Array Value := (M.tabl.map (Value.int .i64)).toArray
theorem tabV_at (m : Nat) (h : m ≤ 90) : tabV[m]? = some (.int .i64 (M.tb m)) := by
  have hl : M.tabl.length = 91 := by decide +kernel
  unfold tabV M.tb
  rw [List.getElem?_toArray, List.getElem?_map, List.getD_eq_getElem?_getD, List.getElem?_eq_getElem (by rw [hl]; omega)]
  rfl
theorem belRow {B : Nat} {a w : World} (h : Below B a w) {g : Nat} (hg : B ≤ g) (cs : Array Value) : Below B a (w.setRow g cs) :=
  h.trans ⟨rfl, rfl, rfl, by simp [World.setRow], fun k hk => setRow_other w g k cs (by omega)⟩
set_option maxRecDepth 100000 in
set_option maxHeartbeats 2000000 in
theorem l1_table (w : World) :
    Calls Tryd.prog 74 #[] w fun e w' => e = .returned (.agg tabV) ∧ Below w.heap.size w w' := by
  go_enter Tryd.func74, Tryd.ntmps74
  go_wp2_with (first | (refine wpList_buildFlatArrTo rfl 80 3 91 _ rfl .i64 M.tabl (some 1) rfl Tryd.underlying80 (by kernel_rfl) (by kernel_rfl) (by kernel_rfl) ?_) | (refine wpList_store_rowTo rfl 80 _ _ rfl rfl w.heap.size tabV rfl rfl 80 Tryd.zeroCells80 (heap_alloc_new w _) (by kernel_rfl) (by kernel_rfl) (by kernel_rfl) ?_))
  refine bodyPost_ret (v := .agg tabV) (results_cell_row Tryd.results74 _ _ w.heap.size 80 tabV (0, 0) _ rfl (setRow_heap _ _ _ _ _ _ (heap_alloc_new w _)) Tryd.underlying80 rfl (by kernel_rfl)) rfl ⟨rfl, ?_⟩
  exact belRow ((Below.refl w.heap.size w).alloc (Nat.le_refl _) _) (Nat.le_refl _) _
set_option maxRecDepth 100000 in
set_option maxHeartbeats 4000000 in
theorem spec_sine (d : Int) (w : World) :
    Calls Tryd.prog 65 #[.int .i64 d] w fun e w' => e = .returned (.int .i64 (M.sine d)) ∧ Below w.heap.size w w' := by
  obtain ⟨n, hd⟩ : ∃ n, d % 360 = n := ⟨_, rfl⟩
  have n0 : 0 ≤ n := by omega
  have n1 : n < 360 := by omega
  go_enter Tryd.func65, Tryd.ntmps65
  go_wp2_with fail
  refine (spec_deg _ _).mono ?_
  rintro e w' ⟨rfl, rfl⟩
  rw [hd]
  go_wp2_with fail
  refine (l1_table _).mono ?_
  rintro e wT ⟨rfl, b⟩
  have hrow := setRow_heap (wT.alloc (.cells Tryd.zeroCells80 80)) wT.heap.size _ tabV _ _ (heap_alloc_new wT _)
  have hb := Lib.hid (belRow (b.alloc b.size (.cells Tryd.zeroCells80 80)) b.size tabV)
  replace b := Lib.hid b
  by_cases c1 : n ≤ 90
  · obtain ⟨m, hm⟩ := Int.eq_ofNat_of_zero_le n0
    subst hm
    have hfin : M.sine d = M.tb m := by unfold M.sine; rw [hd]; exact sn_a rfl c1
    replace hfin := Lib.hid hfin
    have hm9 : m ≤ 90 := by omega
    obtain ⟨b1, b2⟩ := tb_bd m
    go_wp2_with (first | (refine wpList_store_rowTo rfl 80 _ _ rfl rfl wT.heap.size tabV rfl rfl 80 Tryd.zeroCells80 (heap_alloc_new wT _) (by kernel_rfl) (by kernel_rfl) (by kernel_rfl) ?_; generalize (wT.alloc (.cells Tryd.zeroCells80 80)).setRow wT.heap.size tabV = W at *; have hcm := (cell_of_row W wT.heap.size m tabV 80 (0, 0) hrow).trans (tabV_at m hm9); clear hrow))
    go_ret
    exact ⟨ret_int (by rw [hfin.out]), hb.out⟩
  · by_cases c2 : n ≤ 180
    · obtain ⟨m, hm⟩ := Int.eq_ofNat_of_zero_le (show 0 ≤ 180 - n by omega)
      have hfin : M.sine d = M.tb m := by unfold M.sine; rw [hd]; unfold M.sn; rw [if_neg c1, if_pos c2, show (180 - n).toNat = m by omega]
      replace hfin := Lib.hid hfin
      have hm9 : m ≤ 90 := by omega
      obtain ⟨b1, b2⟩ := tb_bd m
      go_wp2_with (first | (refine wpList_store_rowTo rfl 80 _ _ rfl rfl wT.heap.size tabV rfl rfl 80 Tryd.zeroCells80 (heap_alloc_new wT _) (by kernel_rfl) (by kernel_rfl) (by kernel_rfl) ?_; generalize (wT.alloc (.cells Tryd.zeroCells80 80)).setRow wT.heap.size tabV = W at *; have hcm := (cell_of_row W wT.heap.size m tabV 80 (0, 0) hrow).trans (tabV_at m hm9); clear hrow))
      go_ret
      exact ⟨ret_int (by rw [hfin.out]), hb.out⟩
    · by_cases c3 : n ≤ 270
      · obtain ⟨m, hm⟩ := Int.eq_ofNat_of_zero_le (show 0 ≤ n - 180 by omega)
        have hfin : M.sine d = - M.tb m := by unfold M.sine; rw [hd]; exact sn_c (by omega) c3 hm
        replace hfin := Lib.hid hfin
        have hm9 : m ≤ 90 := by omega
        obtain ⟨b1, b2⟩ := tb_bd m
        go_wp2_with (first | (refine wpList_store_rowTo rfl 80 _ _ rfl rfl wT.heap.size tabV rfl rfl 80 Tryd.zeroCells80 (heap_alloc_new wT _) (by kernel_rfl) (by kernel_rfl) (by kernel_rfl) ?_; generalize (wT.alloc (.cells Tryd.zeroCells80 80)).setRow wT.heap.size tabV = W at *; have hcm := (cell_of_row W wT.heap.size m tabV 80 (0, 0) hrow).trans (tabV_at m hm9); clear hrow))
        go_ret
        exact ⟨ret_int (by rw [hfin.out]), hb.out⟩
      · obtain ⟨m, hm⟩ := Int.eq_ofNat_of_zero_le (show 0 ≤ 360 - n by omega)
        have hfin : M.sine d = - M.tb m := by unfold M.sine; rw [hd]; exact sn_d (by omega) n1 (by omega)
        replace hfin := Lib.hid hfin
        have hm9 : m ≤ 90 := by omega
        obtain ⟨b1, b2⟩ := tb_bd m
        go_wp2_with (first | (refine wpList_store_rowTo rfl 80 _ _ rfl rfl wT.heap.size tabV rfl rfl 80 Tryd.zeroCells80 (heap_alloc_new wT _) (by kernel_rfl) (by kernel_rfl) (by kernel_rfl) ?_; generalize (wT.alloc (.cells Tryd.zeroCells80 80)).setRow wT.heap.size tabV = W at *; have hcm := (cell_of_row W wT.heap.size m tabV 80 (0, 0) hrow).trans (tabV_at m hm9); clear hrow))
        go_ret
        exact ⟨ret_int (by rw [hfin.out]), hb.out⟩
end Go.Proofs.YtmainffjekjlnaaDoor
