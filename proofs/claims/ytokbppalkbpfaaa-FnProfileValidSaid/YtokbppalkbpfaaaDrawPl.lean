/- Contract of the draw of a list of speeds. -/
import Derived.Test.YtokbppalkbpfaaaDrawMp
import Derived.Test.YtokbppalkbpfaaaProf
import Derived.Deep.RegionWith
import Derived.Deep.DeepCutAuto
namespace Go.Proofs.Ytokbppalkbpfaaa
open Go.ChangeShapes Go.WideShapes Go.ChangeAt Go.RowKit
set_option linter.unusedVariables false
theorem Owns.base {w : World} {B B' : Nat} {v : Value} {l : List Int} (h : Owns w B v l) (hB : B' ≤ B) : Owns w B' v l := by
  obtain ⟨h1, h2⟩ := h
  refine ⟨h1, ?_⟩
  rcases h2 with h2 | ⟨g, cap, cur, e, hg, r⟩
  · exact .inl h2
  · exact .inr ⟨g, cap, cur, e, by omega, r⟩
theorem Owns.beside {w w' : World} {B R : Nat} {v : Value} {l : List Int} (h : Owns w B v l) (hb : Beside R w w') (hR : R < B) : Owns w' B v l := by
  obtain ⟨h1, h2⟩ := h
  refine ⟨h1, ?_⟩
  rcases h2 with h2 | ⟨g, cap, cur, e, hg, hh, r⟩
  · exact .inl h2
  · refine .inr ⟨g, cap, cur, e, hg, ?_, r⟩
    have hlt : g < w.heap.size := by
      rcases Nat.lt_or_ge g w.heap.size with h' | h'
      · exact h'
      · rw [Array.getElem?_eq_none (by omega)] at hh; cases hh
    rw [hb.block g hlt (by omega)]; exact hh
theorem Owns.put2 {w : World} {B g n cap : Nat} {l : List Int} (h : Owns w B (.slice (some ⟨g, 0, none⟩) n cap) l) (hn : l.length = n) (k : Nat) (x : Int) : Owns (w.setCell ⟨g, k, none⟩ (.int .i64 x)) B (.slice (some ⟨g, 0, none⟩) n cap) (l.set k x) := by
  unfold Owns at h ⊢
  rw [hn] at h
  have := (World.ownsRow.stored h k (.int .i64 x)).1
  rw [List.length_set, hn, List.map_set]
  exact this
theorem Owns.cellAt2 {w : World} {B g n cap : Nat} {l : List Int} (h : Owns w B (.slice (some ⟨g, 0, none⟩) n cap) l) (hn : l.length = n) (k : Nat) (hk : k < n) : w.cell? ⟨g, k, none⟩ = some (.int .i64 (l.getD k 0)) ∧ w.frozen? ⟨g, k, none⟩ = false ∧ B ≤ g ∧ g < w.heap.size := by
  unfold Owns at h
  rw [hn] at h
  have h2 := World.ownsRow.lt h g rfl
  refine ⟨?_, World.ownsRow.frozenAt h k, h2.1, h2.2⟩
  rw [World.ownsRow.cellAt h k (by omega)]
  simp [hn, hk]
theorem Owns.addr {w : World} {B n cap : Nat} {a : Option Addr} {l : List Int} (h : Owns w B (.slice a n cap) l) (hn : l.length ≠ 0) : ∃ g, a = some ⟨g, 0, none⟩ := by
  rcases h.2 with ⟨h2, h3⟩ | ⟨g, cap', cur, h2, _⟩
  · exact absurd h3 hn
  · injection h2 with h2; exact ⟨g, h2⟩
theorem prof_some (d t r : Int) (w : World) :
    Calls Try.prog 26 #[.int .i64 d, .int .i64 t, .int .i64 r] w fun e w' => ∃ (a : Option Addr) (n cap : Nat) (L : List Int), e = .returned (.slice a n cap) ∧ Hid (L.length = n) ∧ n ≤ 5000 ∧ Hid (∀ x ∈ L, 1 ≤ x ∧ x ≤ 200) ∧ Owns w' w.heap.size (.slice a n cap) L ∧ Below w.heap.size w w' := by
  refine (spec_prof d t r w).mono ?_
  rintro e w' ⟨v, rfl, ho, hb⟩
  obtain ⟨a, cap, rfl, _⟩ := ho.view
  exact ⟨a, _, cap, _, rfl, rfl, M.prof_len d t r, M.prof_bd d t r, ho, hb⟩
def ListArgs (w : World) (e : Ending) (w' : World) : Prop := ∃ (v : Value) (L : List Int) (t r : Int), e = .returned (.tuple #[v, .int .i64 t, .int .i64 r]) ∧ Owns w' w.heap.size v L ∧ L.length ≤ 5000 ∧ (0 ≤ t ∧ t ≤ 201) ∧ (0 ≤ r ∧ r ≤ 51) ∧ Below w.heap.size w w'
set_option maxHeartbeats 4000000 in
theorem draw_pl (a : Option Addr) (len cap : Nat) (zs : List Int) (w : World) (h : IsRow .u8 w a len cap zs) :
    Calls Try.prog 31 #[.slice a len cap] w (ListArgs w) := by
  go_enter Try.func31, Try.ntmps31
  go_wp2_with fail
  refine (open_any a len cap zs _ h).mono ?_
  rintro e w1 ⟨R, rfl, hR, r1, b1⟩
  go_wp2_with fail
  refine (pick_any R _ _ _ r1 (by omega) (by omega) (by omega)).mono ?_
  rintro e w2 ⟨d, d1, d2, rfl, r2, b2⟩
  go_wp2_with fail
  refine (top_any R _ _ _ r2 (by omega) (by omega) (by omega)).mono ?_
  rintro e w3 ⟨⟨t, rfl, t1, t2⟩, r3, b3⟩
  go_wp2_with fail
  refine (rise_any R _ _ _ r3 (by omega) (by omega) (by omega)).mono ?_
  rintro e w4 ⟨⟨r, rfl, q1, q2⟩, r4, b4⟩
  have hb := Lib.hid (got hR b1 ((b2.trans b3).trans b4))
  have r4 : Rd w4 R 10 := r4.mono (by omega)
  clear b1 b2 b3 b4 r1 r2 r3 h
  have l4 := r4.lt
  have hs4 := hb.out.size
  go_upto_region 5 with fail
  go_cut [9] (fun s9 wx => ∃ (p : Option Addr) (n c : Nat) (L : List Int), s9 = .slice p n c ∧ Hid (L.length = n) ∧ n ≤ 5000 ∧ Hid (∀ x ∈ L, 1 ≤ x ∧ x ≤ 200) ∧ Owns wx w4.heap.size (.slice p n c) L ∧ Below w4.heap.size w4 wx)
  case first =>
    go_wp2_with fail
    all_goals
      refine (prof_some _ _ _ _).mono ?_
      rintro e wx ⟨p, n, c, L, rfl, g1, g2, g3, g4, g5⟩
      go_wp2_with fail
      go_meet
      exact ⟨p, n, c, L, rfl, g1, g2, g3, g4, g5⟩
  case rest =>
    obtain ⟨p, n, c, L, rfl, hn, hn5, hel, ho, hb5⟩ := hcut
    have r5 := r4.of_below (hb5.mono (by omega))
    have hs5 := hb5.size
    have hb := Lib.hid (hb.out.trans (hb5.mono hs4))
    clear hb5 r4
    by_cases h0 : n = 0
    · subst h0
      go_wp2_with fail
      go_ret3
      exact ⟨_, L, t, r, rfl, ho.base hs4, by rw [hn.out]; omega, ⟨t1, t2⟩, ⟨q1, q2⟩, hb.out⟩
    · have hpos : (0 : Int) < (n : Int) := by omega
      obtain ⟨g, rfl⟩ := ho.addr (by rw [hn.out]; exact h0)
      go_wp2_with fail
      refine (pick_any R _ _ _ r5 (by omega) (by omega) (by omega)).mono ?_
      rintro e w6 ⟨v6, p1, p2, rfl, r6, b6⟩
      have ho6 := ho.beside b6 (by omega)
      have hs6 := b6.size
      have hb6 := Lib.hid (hb.out.trans (b6.below (by omega) (by omega)))
      clear ho b6 hb
      cases hz : (v6 == 0)
      · have hz2 := Lib.hid hz
        go_wp2_with fail
        go_ret3
        exact ⟨_, L, t, r, rfl, ho6.base hs4, by rw [hn.out]; omega, ⟨t1, t2⟩, ⟨q1, q2⟩, hb6.out⟩
      · have hz2 := Lib.hid hz
        go_wp2_with fail
        refine (pick_any R _ _ _ r6 (by omega) (by omega) (by omega)).mono ?_
        rintro e w7 ⟨k, k1, k2, rfl, r7, b7⟩
        have ho7 := ho6.beside b7 (by omega)
        have hs7 := b7.size
        have hb7 := Lib.hid (hb6.out.trans (b7.below (by omega) (by omega)))
        clear ho6 b7 hb6
        obtain ⟨m, rfl⟩ := Int.eq_ofNat_of_zero_le k1
        have km : m < n := by omega
        obtain ⟨e1, e2, e3, e4⟩ := ho7.cellAt2 hn.out m km
        have e5 : w7.drew.cell? ⟨g, m, none⟩ = some (.int .i64 (L.getD m 0)) := e1
        have hx := hel.out _ (show L.getD m 0 ∈ L by rw [List.getD_eq_getElem?_getD, List.getElem?_eq_getElem (by rw [hn.out]; exact km)]; exact List.getElem_mem _)
        generalize L.getD m 0 = x at *
        obtain ⟨x1, x2⟩ := hx
        have r7d : Rd w7.drew R 12 := r7.mono (by omega)
        have hgR : g ≠ R := by omega
        have hown := Lib.hid (show Owns w7.drew w4.heap.size (.slice (some ⟨g, 0, none⟩) n c) L from ho7)
        have hb8 := Lib.hid (show Below w.heap.size w w7.drew from hb7.out.drew)
        clear ho7 hb7 r7
        go_wp2_with fail
        go_region_with (first | (go_at_call 39; refine (pick_any R 12 _ _ r7d (by omega) (by omega) (by omega)).mono ?_; rintro e w8 ⟨v8, s1, s2, rfl, r8, b8⟩; have f1 : w8.cell? ⟨g, m, none⟩ = some (.int .i64 x) := (b8.cell (by show g < w7.heap.size; omega) hgR).trans e5; have f2 : w8.frozen? ⟨g, m, none⟩ = false := (b8.frozen (by show g < w7.heap.size; omega) hgR).trans e2; have ho8 := Lib.hid (hown.out.beside b8 (by omega)); have hb9 := Lib.hid (hb8.out.trans (b8.below (by omega) (by show w.heap.size ≤ w7.heap.size; omega))); clear b8))
        all_goals
          go_wp2_with fail
          go_ret3
          exact ⟨_, _, t, r, rfl, (ho8.out.put2 hn.out m _).base hs4, by rw [List.length_set, hn.out]; omega, ⟨t1, t2⟩, ⟨q1, q2⟩, hb9.out.setCell (by show w.heap.size ≤ g; omega) _⟩
end Go.Proofs.Ytokbppalkbpfaaa
