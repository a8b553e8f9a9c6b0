/- The reader's state as what is left, or nothing behind an error: its calls in these words. -/
import Derived.Test.YtkgffeclgapkbaaDoorA14
namespace Go.Proofs.YtkgffeclgapkbaaDoor
open Go.RowKit Go.Proofs.YtkgffeclgapkbaaDoorW.PrintWords
set_option linter.unusedVariables false
set_option linter.unusedSimpArgs false
set_option maxRecDepth 100000
instance decOkBytes (xs : List Int) (e : Int) : Decidable (OkBytes xs e) := by unfold OkBytes OkVar; infer_instance
def pBytes : Option (List Int) → List Int × Option (List Int)
  | some xs => if OkBytes xs 0 then (bytesGot xs, some (bytesRest xs)) else ([], none)
  | none => ([], none)
def pNum (n : Nat) : Option (List Int) → Int × Option (List Int)
  | some xs => if n ≤ xs.length then (valOf 256 (xs.take n), some (xs.drop n)) else (0, none)
  | none => (0, none)
def abs (xs : List Int) (e : Int) : Option (List Int) := if e = 0 then some xs else none
/-- A reader whose state is s. -/
def RSt (w : World) (g : Nat) (s : Option (List Int)) : Prop := ∃ xs e, IsR w g xs e ∧ Bs xs ∧ xs.length ≤ 1000000 ∧ abs xs e = s
theorem RSt.keep {w w1 : World} {g : Nat} {s : Option (List Int)} (h : RSt w g s) (hf : Fr No w w1) : RSt w1 g s := by
  obtain ⟨xs, e, h1, h2⟩ := h
  exact ⟨xs, e, h1.keep hf, h2⟩
theorem RSt.lt {w : World} {g : Nat} {s : Option (List Int)} (h : RSt w g s) : g < w.heap.size := by
  obtain ⟨xs, e, ⟨A, c, hb, _⟩, _⟩ := h
  exact blk_lt hb
theorem Bs.drop {xs : List Int} (h : Bs xs) (n : Nat) : Bs (xs.drop n) := fun b hb => h b (List.mem_of_mem_drop hb)
theorem Bs.take {xs : List Int} (h : Bs xs) (n : Nat) : Bs (xs.take n) := fun b hb => h b (List.mem_of_mem_take hb)
theorem RNum_st {w : World} {g : Nat} {s : Option (List Int)} (n : Nat) (h : RSt w g s) (h1 : 1 ≤ n) (h8 : n ≤ 8) :
    Calls Tryd.prog 34 #[.pointer (some ⟨g, 0, none⟩), .int .i64 n] w fun r w' => r = .returned (.int .u64 (pNum n s).1) ∧ RSt w' g (pNum n s).2 ∧ Fr (At g) w w' := by
  obtain ⟨xs, e, hR, hb, hl, rfl⟩ := h
  by_cases he : e = 0
  · subst he
    have ha : abs xs 0 = some xs := rfl
    rw [ha]
    unfold pNum
    by_cases hn : n ≤ xs.length
    · simp only [if_pos hn]
      exact (RNum_ok g w xs n hR hn (by omega) h1 h8 hb).mono fun r w' ⟨h1, h2, h3⟩ => ⟨h1, ⟨_, 0, h2, hb.drop n, by rw [List.length_drop]; omega, rfl⟩, h3⟩
    · simp only [if_neg hn]
      refine (RNum_no g w xs 0 n hR (.inr (by omega)) (by omega) h1 h8).mono fun r w' ⟨h1, h2, h3⟩ => ⟨h1, ⟨xs, _, h2, hb, hl, ?_⟩, h3⟩
      unfold takeE
      rw [if_pos (by omega)]
      rfl
  · have ha : abs xs e = none := by unfold abs; rw [if_neg he]
    rw [ha]
    refine (RNum_no g w xs e n hR (.inl he) (by omega) h1 h8).mono fun r w' ⟨h1, h2, h3⟩ => ⟨h1, ⟨xs, _, h2, hb, hl, ?_⟩, h3⟩
    have : takeE xs.length n e ≠ 0 := by
      unfold takeE failE
      split <;> (first | exact he | (rw [if_neg he]; exact he))
    unfold abs
    rw [if_neg this]
    rfl
theorem OkBytes_len {xs : List Int} (h : OkBytes xs 0) : (bytesRest xs).length ≤ xs.length := by
  unfold bytesRest
  rw [List.length_drop, List.length_drop]
  omega
theorem RBytes_st {w : World} {g : Nat} {xs : List Int} {e : Int} (hR : IsR w g xs e) (hb : Bs xs) (hl : xs.length ≤ 1000000) :
    Calls Tryd.prog 35 #[.pointer (some ⟨g, 0, none⟩), .int .i64 xs.length] w fun r w' => ∃ v, r = .returned v ∧ Mine w w' v (pBytes (abs xs e)).1 ∧ RSt w' g (pBytes (abs xs e)).2 ∧ Fr (At g) w w' := by
  refine (RBytes_any g w xs e hR (by omega) hb).mono fun r w' ⟨v, h1, h2, h3⟩ => ⟨v, h1, ?_⟩
  rcases h2 with ⟨hok, hm, hr⟩ | ⟨hok, hm, ys, e', he', hyl, hyb, hr⟩
  · have he : e = 0 := hok.1.1
    subst he
    have ha : pBytes (abs xs 0) = (bytesGot xs, some (bytesRest xs)) := by show (if _ then _ else _) = _; rw [if_pos hok]
    rw [ha]
    exact ⟨hm, ⟨_, 0, hr, (hb.drop _).drop _, by have := OkBytes_len hok; omega, rfl⟩, h3⟩
  · have ha : pBytes (abs xs e) = ([], none) := by
      unfold abs
      split
      · rename_i he
        subst he
        show (if _ then _ else _) = _
        rw [if_neg hok]
      · rfl
    rw [ha]
    exact ⟨hm, ⟨ys, e', hr, hyb, by omega, by unfold abs; rw [if_neg he']⟩, h3⟩
theorem pNum_range {s : Option (List Int)} {n : Nat} (h : ∀ xs, s = some xs → Bs xs) (hn : n ≤ 8) : 0 ≤ (pNum n s).1 ∧ (pNum n s).1 < 256 ^ n := by
  unfold pNum
  have hp : (0 : Int) < 256 ^ n := Int.pow_pos (by decide)
  split
  · rename_i xs
    split
    · rename_i hl
      have := valOf_bound (h xs rfl) n hl
      exact this
    · exact ⟨Int.le_refl _, hp⟩
  · exact ⟨Int.le_refl _, hp⟩
theorem RSt.bs {w : World} {g : Nat} {s : Option (List Int)} (h : RSt w g s) : ∀ xs, s = some xs → Bs xs := by
  obtain ⟨ys, e, _, hb, _, rfl⟩ := h
  intro xs hx
  unfold abs at hx
  split at hx
  · injection hx with hx
    subst hx
    exact hb
  · cases hx
/-- one index -/
def pIx (s : Option (List Int)) : Ix × Option (List Int) :=
  (⟨(pNum 1 s).1, strOfNums (pBytes (pNum 1 (pNum 1 s).2).2).1, (pNum 1 (pNum 1 s).2).1 == 1⟩, (pBytes (pNum 1 (pNum 1 s).2).2).2)
def pIxs (s : Option (List Int)) : Nat → List Ix × Option (List Int)
  | 0 => ([], s)
  | k + 1 => ((pIxs s k).1 ++ [(pIx (pIxs s k).2).1], (pIx (pIxs s k).2).2)
end Go.Proofs.YtkgffeclgapkbaaDoor
