/- octet's Reader: take, Num, Raw. -/
import Derived.Test.YtkgffeclgapkbaaDoorA3
namespace Go.Proofs.YtkgffeclgapkbaaDoor
open Go.RowKit Go.Proofs.YtkgffeclgapkbaaDoorW.PrintWords
set_option linter.unusedVariables false
set_option linter.unusedSimpArgs false
set_option maxRecDepth 100000
theorem top28 (A : Option Addr) (l c n : Nat) (hn : n ≤ c) (W : World) : (Instr.slice 28 (.slice A l c) none (some (.int .i64 (n : Int))) (some (.int .i64 (n : Int)))).run Tryd.prog W = .ok (.slice A n n) W := by
  obtain ⟨i0, hi0, _, hz1, _⟩ := info_parts info5
  have hel : Tryd.prog.elem 28 = 5 := by simp [Program.elem, Tryd.underlying28]
  have hu : Tryd.prog.underlying 28 = some (.slice (Tryd.prog.elem 28)) := by rw [hel]; exact Tryd.underlying28
  have ha : (A.map fun x => x.add 0) = A := by cases A <;> simp [Addr.add]
  rw [run_slice_hm W 28 A l c hu .i64 .i64 n n (Int.natCast_nonneg _) (by omega) (by omega), hel]
  simp [sizeOf, typeInfo, hi0, hz1, sliced, Result.andThen, ha]
theorem IsR.setCut {w : World} {g m : Nat} {xs : List Int} {e : Int} {A A' : Option Addr} {c : Nat}
    (hb : w.heap[g]? = some (.cells #[.slice A xs.length c, .int .i64 e] 96 (0, 0))) (hl : xs.length ≤ c) (hm : m ≤ xs.length)
    (hr' : Rd w A' (xs.drop m)) (ht' : T5 w A' (xs.drop m)) (hA' : A' = none → c - m = 0) : IsR (w.setCell ⟨g, 0, none⟩ (.slice A' (xs.length - m) (c - m))) g (xs.drop m) e := by
  have hlen : (xs.drop m).length = xs.length - m := List.length_drop
  refine ⟨A', c - m, by rw [hlen]; simpa using blk_set hb 0 _, by rw [hlen]; omega, hA', ?_, ht'.keep (Fr.one w g 0 _) (fun k cs hk e => blk_ne hk hb (by decide) e)⟩
  refine Fr.rd (Fr.one w g 0 _) hr' ?_
  rintro ad rfl h0
  exact Rd.ne hr' h0 hb (by
    intro i x
    match i with
    | 0 => simp
    | 1 => simp
    | k + 2 => simp)
set_option maxHeartbeats 1000000 in
theorem take_ok (g : Nat) (w : World) (xs : List Int) (n : Nat) (h : IsR w g xs 0) (hn : n ≤ xs.length) (hs : xs.length ≤ 100000000) :
    Calls Tryd.prog 58 #[.pointer (some ⟨g, 0, none⟩), .int .i64 n] w fun r w' => ∃ A, r = .returned (.slice A n n) ∧ Rd w' A (xs.take n) ∧ (A = none → n = 0) ∧ IsR w' g (xs.drop n) 0 ∧ Fr (At g) w w' := by
  obtain ⟨A, c, hb, hl, hA, hr, hT⟩ := h
  have h0 : w.cell? ⟨g, 0, none⟩ = some (.slice A xs.length c) := blk_cell hb 0
  have h1 : w.cell? ⟨g, 1, none⟩ = some (.int .i64 0) := blk_cell hb 1
  have h2 : w.frozen? ⟨g, 0, none⟩ = false := blk_frozen hb 0
  have d1 : decide ((xs.length : Int) < (n : Int)) = false := decide_eq_false (by omega)
  have d2 : decide (xs.length < n) = false := decide_eq_false (by omega)
  have e1 := top28 A xs.length c n (by omega)
  obtain ⟨A', e2, hd, hdT, hA'⟩ := cut28 A xs.length c n hn hA
  have hrd' := hd w xs rfl hl hr
  have ht : Rd w A (xs.take n) := by
    have := hr.take_ n hn
    unfold Rd
    rw [List.length_take, Nat.min_eq_left hn]
    exact this
  have H := hide (And.intro hrd' (And.intro ht (And.intro hA (And.intro hA' (And.intro hb (hdT w xs rfl hT))))))
  clear hr hT hdT hd hrd' ht hA hA'
  go_enter Tryd.func58, Tryd.ntmps58
  go_wp2
  go_ret
  obtain ⟨hrd', ht, hA, hA', hb, hT'⟩ := H.out
  refine ⟨A, rfl, Fr.rd (Fr.one w g 0 _) ht ?_, fun h => by have := hA h; omega, IsR.setCut hb hl hn hrd' hT' hA', Fr.one w g 0 _⟩
  rintro ad rfl h0
  exact Rd.ne ht h0 hb (by
    intro i x
    match i with
    | 0 => simp
    | 1 => simp
    | k + 2 => simp)
def takeE (l n : Nat) (e : Int) : Int := if l < n then failE e 10 else e
set_option maxHeartbeats 1000000 in
theorem take_no (g : Nat) (w : World) (xs : List Int) (e : Int) (n : Nat) (h : IsR w g xs e) (hn : e ≠ 0 ∨ xs.length < n) (hs : xs.length ≤ 100000000) :
    Calls Tryd.prog 58 #[.pointer (some ⟨g, 0, none⟩), .int .i64 n] w fun r w' => r = .returned (.slice none 0 0) ∧ IsR w' g xs (takeE xs.length n e) ∧ Fr (At g) w w' := by
  have H := hide h
  obtain ⟨A, c, hb, hl, hA, hr, _⟩ := h
  have h0 : w.cell? ⟨g, 0, none⟩ = some (.slice A xs.length c) := blk_cell hb 0
  have h1 : w.cell? ⟨g, 1, none⟩ = some (.int .i64 e) := blk_cell hb 1
  clear hr hA
  by_cases hlt : xs.length < n
  · have d1 : decide ((xs.length : Int) < (n : Int)) = true := decide_eq_true (by omega)
    have d2 : decide (xs.length < n) = true := decide_eq_true (by omega)
    have hne : failE e 10 ≠ 0 := by unfold failE; split <;> omega
    have hd : (failE e 10 != 0) = true := by simpa using hne
    clear hn h1 hb hne
    go_enter Tryd.func58, Tryd.ntmps58
    go_wp2_with fail
    refine (fail_any g w xs e 10 H.out).mono ?_
    rintro r w1 ⟨rfl, hr1, hf⟩
    have H1 := hide hr1
    obtain ⟨A1, c1, hb1, _, _, _, _⟩ := hr1
    have h3 : w1.cell? ⟨g, 1, none⟩ = some (.int .i64 (failE e 10)) := blk_cell hb1 1
    go_wp2
    go_ret
    exact ⟨rfl, by simpa [takeE, hlt] using H1.out, hf⟩
  · have d1 : decide ((xs.length : Int) < (n : Int)) = false := decide_eq_false (by omega)
    have d2 : decide (xs.length < n) = false := decide_eq_false (by omega)
    have he : e ≠ 0 := by omega
    have hd : (e != 0) = true := by simpa using he
    clear hn he
    go_enter Tryd.func58, Tryd.ntmps58
    go_wp2
    go_ret
    exact ⟨rfl, by simpa [takeE, hlt] using H.out, Fr.refl _ _⟩
end Go.Proofs.YtkgffeclgapkbaaDoor
