/- bytes.Equal; a row of indexes as cells; how long a path can be. -/
import Derived.Test.YtkgffeclgapkbaaDoorA16
namespace Go.Proofs.YtkgffeclgapkbaaDoor
open Go.RowKit Go.Proofs.YtkgffeclgapkbaaDoorW.PrintWords
set_option linter.unusedVariables false
set_option linter.unusedSimpArgs false
set_option maxRecDepth 100000
set_option maxHeartbeats 1000000 in
theorem EqualBytes_any (A0 : Option Addr) (c0 : Nat) (l0 : List Int) (A1 : Option Addr) (c1 : Nat) (l1 : List Int) (w : World) (hr0 : Rd w A0 l0) (hr1 : Rd w A1 l1) :
    Calls Tryd.prog 38 #[.slice A0 l0.length c0, .slice A1 l1.length c1] w fun e w' => e = .returned (.bool ((strOfNums l0).toList == (strOfNums l1).toList)) ∧ Fr No w w' := by
  have hcv3 := string_of_reads (P := Tryd.prog) (A := A0) (c := c0) Tryd.underlying28 Tryd.underlying5 Tryd.underlying9 hr0
  have hcv4 := string_of_reads (P := Tryd.prog) (A := A1) (c := c1) Tryd.underlying28 Tryd.underlying5 Tryd.underlying9 hr1
  clear hr0 hr1
  go_enter Tryd.func38, Tryd.ntmps38
  go_wp2
  go_ret
  exact ⟨rfl, by first | exact Fr.refl _ _ | exact (Fr.refl _ _).drew | exact (Fr.refl _ _).drew.drew⟩
theorem ixsCells_get (xs : List Ix) (j : Nat) (h : j < xs.length) : (ixsCells xs)[j * 3]? = some (.int .i64 (xs.getD j ix0).id) ∧ (ixsCells xs)[j * 3 + 1]? = some (.string (xs.getD j ix0).path) ∧ (ixsCells xs)[j * 3 + 2]? = some (.bool (xs.getD j ix0).un) := by
  induction xs generalizing j with
  | nil => simp at h
  | cons a l ih =>
    have hc : ixsCells (a :: l) = ixCells a ++ ixsCells l := by simp [ixsCells]
    rw [hc]
    cases j with
    | zero => simp [ixCells]
    | succ j =>
      have := ih j (by simpa using h)
      have e : ∀ i, (ixCells a ++ ixsCells l)[(j + 1) * 3 + i]? = (ixsCells l)[j * 3 + i]? := by
        intro i
        rw [List.getElem?_append_right (by simp [ixCells]; omega)]
        congr 1
        simp [ixCells]; omega
      have e0 := e 0
      simp only [Nat.add_zero] at e0
      rw [e0, e 1, e 2]
      simpa using this
theorem own_RdI {w : World} {base : Nat} {v : Value} {xs : List Ix} (h : w.ownsRow base 57 3 v xs.length (ixsCells xs)) : ∃ A c, v = .slice A xs.length c ∧ xs.length ≤ c ∧ RdI w A xs := by
  rcases h.2 with ⟨h1, h2⟩ | ⟨g, cap, cur, h1, hb, hh, hn, hm, hs, ht⟩
  · exact ⟨none, 0, by rw [h1, h2], by omega, fun j hj => by omega⟩
  · refine ⟨_, _, h1, hn, fun j hj => ⟨⟨g, 0, none⟩, rfl, ?_⟩⟩
    have hx := ixsCells_get xs j hj
    have e : ∀ i, i < 3 → cur[j * 3 + i]? = (ixsCells xs)[j * 3 + i]? := by
      intro i hi
      rw [← ht, List.getElem?_take, if_pos (by omega)]
      simp
    have hadd : (⟨g, 0, none⟩ : Addr).add (j * 3) = ⟨g, j * 3, none⟩ := by unfold Addr.add; split <;> simp_all
    rw [hadd]
    have e0 := e 0 (by decide)
    simp only [Nat.add_zero] at e0
    refine ⟨?_, ?_, ?_⟩
    · rw [blk_cell hh, e0]; exact hx.1
    · show w.cell? ⟨g, j * 3 + 1, none⟩ = _
      rw [blk_cell hh, e 1 (by decide)]; exact hx.2.1
    · show w.cell? ⟨g, j * 3 + 2, none⟩ = _
      rw [blk_cell hh, e 2 (by decide)]; exact hx.2.2
/-- what is left is no longer than it was -/
def Short (n : Nat) (s : Option (List Int)) : Prop := ∀ xs, s = some xs → xs.length ≤ n
theorem Short.num {n : Nat} {s : Option (List Int)} (h : Short n s) (m : Nat) : Short n (pNum m s).2 := by
  unfold pNum
  split
  · rename_i xs
    split
    · intro ys hy
      injection hy with hy
      have := h xs rfl
      rw [← hy, List.length_drop]; omega
    · intro ys hy; cases hy
  · intro ys hy; cases hy
theorem Short.bytes {n : Nat} {s : Option (List Int)} (h : Short n s) : Short n (pBytes s).2 ∧ (pBytes s).1.length ≤ n := by
  unfold pBytes
  split
  · rename_i xs
    have hx := h xs rfl
    split
    · rename_i ho
      refine ⟨fun ys hy => ?_, ?_⟩
      · injection hy with hy
        have := OkBytes_len ho
        rw [← hy]; omega
      · unfold bytesGot
        simp only [List.length_take, List.length_drop]
        omega
    · exact ⟨fun ys hy => (by cases hy), Nat.zero_le _⟩
  · exact ⟨fun ys hy => (by cases hy), Nat.zero_le _⟩
theorem pIxs_short {n : Nat} {s : Option (List Int)} (h : Short n s) (k : Nat) : Short n (pIxs s k).2 ∧ ∀ x, x ∈ (pIxs s k).1 → x.path.size ≤ n := by
  induction k with
  | zero => exact ⟨h, fun x hx => by cases hx⟩
  | succ k ih =>
    have h2 := ((ih.1.num 1).num 1).bytes
    refine ⟨h2.1, fun x hx => ?_⟩
    have hx : x ∈ (pIxs s k).1 ++ [(pIx (pIxs s k).2).1] := hx
    rcases List.mem_append.1 hx with hx | hx
    · exact ih.2 x hx
    · rw [List.mem_singleton.1 hx]
      show (strOfNums _).size ≤ n
      rw [strOfNums_size]
      exact h2.2
end Go.Proofs.YtkgffeclgapkbaaDoor
