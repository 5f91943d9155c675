/- Contracts of the opening of a reader and of the draws of degrees. -/
import Derived.Test.YtmainffjekjlnaaDoorRead
namespace Go.Proofs.YtmainffjekjlnaaDoor
open Go.ChangeShapes Go.WideShapes Go.ChangeAt Go.RowKit
set_option linter.unusedVariables false
/-- an opened reader: a new block, nothing old has turned -/
def Opened (w : World) (e : Ending) (w' : World) : Prop := ∃ R : Nat, e = .returned (.pointer (some ⟨R, 0, none⟩)) ∧ w.heap.size ≤ R ∧ Rd w' R 0 ∧ Below w.heap.size w w'
theorem opened (w : World) (a : Option Addr) (len cap : Nat) (h : Code w w.heap.size a len) :
    Rd (w.alloc (.cells #[.slice a len cap, .int .i64 0] 75)) w.heap.size 0 ∧ Below w.heap.size w (w.alloc (.cells #[.slice a len cap, .int .i64 0] 75)) := by
  have hb : Below w.heap.size w (w.alloc (.cells #[.slice a len cap, .int .i64 0] 75)) := (Below.refl _ _).alloc (Nat.le_refl _) _
  have hh : (w.alloc (.cells #[.slice a len cap, .int .i64 0] 75)).heap[w.heap.size]? = some (.cells #[.slice a len cap, .int .i64 0] 75) := by
    show (w.heap.push _)[w.heap.size]? = _
    rw [Array.getElem?_push, if_pos rfl]
  refine ⟨⟨a, len, cap, 0, Nat.le_refl _, by simp, ⟨h.1, ?_⟩, by unfold World.cell?; rw [hh]; rfl, by unfold World.cell?; rw [hh]; rfl, by unfold World.frozen?; rw [hh]; rfl⟩, hb⟩
  rcases h.2 with h4 | ⟨b, o, e, hlt, hc⟩
  · exact .inl h4
  · refine .inr ⟨b, o, e, hlt, fun i hi => ?_⟩
    obtain ⟨x, x1, x2, x3⟩ := hc i hi
    exact ⟨x, x1, x2, by rw [hb.cell (p := ⟨b, o + i, none⟩) hlt]; exact x3⟩
theorem code_of_row (w : World) (b o : Nat) (s : Option Nat) (len cap : Nat) (zs : List Int) (hl : len ≤ cap) (hz : zs.length = cap) (hcell : ∀ i, i < zs.length → w.cell? ((⟨b, o, s⟩ : Addr).add i) = some (.int .u8 (zs.getD i 0))) (hwz : ∀ n ∈ zs, (Lit.int .u8 n).wf = true) (k : Nat) (hk : k ≤ len) (h2 : k ≤ 2000) :
    Code w w.heap.size (some ⟨b, o, s⟩) k := by
  refine ⟨h2, ?_⟩
  by_cases h0 : k = 0
  · exact .inl h0
  · have hc := hcell 0 (by omega)
    have hs : s = none := by simpa [Addr.add] using World.cell?_spot hc
    subst hs
    refine .inr ⟨b, o, rfl, World.block_lt_of_cell? w ⟨b, o, none⟩ (by simpa [Addr.add] using hc), fun i hi => ?_⟩
    have hi2 : i < zs.length := by omega
    have hm : zs.getD i 0 ∈ zs := by rw [List.getD_eq_getElem?_getD, List.getElem?_eq_getElem hi2]; exact List.getElem_mem hi2
    have hw := hwz _ hm
    have hx : 0 ≤ zs.getD i 0 ∧ zs.getD i 0 ≤ 255 := by simpa [Lit.wf, IntKind.min, IntKind.max, IntKind.signed, IntKind.bits] using hw
    have e : (⟨b, o, none⟩ : Addr).add i = ⟨b, o + i, none⟩ := by (by_cases hi0 : i = 0 <;> simp [Addr.add, hi0])
    have hcc := hcell i hi2
    rw [e] at hcc
    exact ⟨zs.getD i 0, hx.1, hx.2, hcc⟩
theorem open_any (a : Option Addr) (len cap : Nat) (zs : List Int) (w : World) (h : IsRow .u8 w a len cap zs) :
    Calls Tryd.prog 31 #[.slice a len cap] w (Opened w) := by
  rcases h with ⟨rfl, rfl, rfl, rfl⟩ | ⟨⟨b, o, s⟩, rfl, hl, hm, hz, hcell, hwz⟩
  · have H := opened w none 0 0 ⟨by omega, .inl rfl⟩
    go_enter Tryd.func31, Tryd.ntmps31
    go_wp2
    go_ret
    exact ⟨_, rfl, Nat.le_refl _, H⟩
  · by_cases hlen : 2000 < len
    · have H := Lib.hid (opened w _ 2000 cap (code_of_row w b o s len cap zs hl hz hcell hwz 2000 (by omega) (Nat.le_refl _)))
      clear hcell hwz
      go_enter Tryd.func31, Tryd.ntmps31
      go_wp2
      go_ret
      exact ⟨_, rfl, Nat.le_refl _, H.out⟩
    · have H := Lib.hid (opened w _ len cap (code_of_row w b o s len cap zs hl hz hcell hwz len (Nat.le_refl _) (by omega)))
      clear hcell hwz
      go_enter Tryd.func31, Tryd.ntmps31
      go_wp2
      go_ret
      exact ⟨_, rfl, Nat.le_refl _, H.out⟩

theorem lit_get (l : List Int) (i : Nat) (hi : i < l.length) : (l.map (Value.int .i64)).toArray[i]? = some (.int .i64 (l.getD i 0)) := by simp [hi]
/-- a cell of a slice literal that was made a while ago -/
theorem lit_cell {R : Nat} {W w5 : World} (hb : Beside R W w5) {blk : Nat} (l : List Int) (t : TypeId) (h : W.heap[blk]? = some (.cells (l.map (Value.int .i64)).toArray t)) (hR : blk ≠ R) (Q : Int → Prop) (hQ : ∀ x ∈ l, Q x) (v : Int) (h0 : 0 ≤ v) (h1 : v < l.length) :
    ∃ x, Q x ∧ w5.cell? ⟨blk, v.toNat, none⟩ = some (.int .i64 x) := by
  have hlt : blk < W.heap.size := by
    rcases Nat.lt_or_ge blk W.heap.size with h' | h'
    · exact h'
    · rw [Array.getElem?_eq_none (by omega)] at h; cases h
  have hv : v.toNat < l.length := by omega
  refine ⟨l.getD v.toNat 0, hQ _ ?_, ?_⟩
  · rw [List.getD_eq_getElem?_getD, List.getElem?_eq_getElem hv]; exact List.getElem_mem hv
  · rw [hb.cell hlt hR]
    simp [World.cell?, h, hv]
theorem alloc1 (w : World) (A : Obj) : (w.alloc A).heap[w.heap.size]? = some A := by
  show (w.heap.push A)[w.heap.size]? = _
  rw [Array.getElem?_push, if_pos rfl]
theorem alloc2_fst (w : World) (A B : Obj) : ((w.alloc A).alloc B).heap[w.heap.size]? = some A := by
  show ((w.heap.push A).push B)[w.heap.size]? = _
  rw [Array.getElem?_push, if_neg (by simp), Array.getElem?_push, if_pos rfl]
theorem alloc2_snd (w : World) (A B : Obj) : ((w.alloc A).alloc B).heap[w.heap.size + 1]? = some B := by
  show ((w.heap.push A).push B)[w.heap.size + 1]? = _
  rw [Array.getElem?_push, if_pos (by simp)]
/-- the outcome of a draw: some result, the reader at most at m', all else as it was -/
def Drew (w : World) (R m' : Nat) (Q : Ending → Prop) (e : Ending) (w' : World) : Prop := Q e ∧ Rd w' R m' ∧ Beside R w w'
def AnInt (e : Ending) : Prop := ∃ y : Int, e = .returned (.int .i64 y)
end Go.Proofs.YtmainffjekjlnaaDoor
