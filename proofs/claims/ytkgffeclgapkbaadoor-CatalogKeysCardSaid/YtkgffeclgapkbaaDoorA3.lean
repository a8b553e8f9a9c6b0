/- octet's Reader: NewReader, fail, Err, Left, End, take, Num, Raw. -/
import Derived.Test.YtkgffeclgapkbaaDoorA2
namespace Go.Proofs.YtkgffeclgapkbaaDoor
open Go.RowKit Go.Proofs.YtkgffeclgapkbaaDoorW.PrintWords
set_option linter.unusedVariables false
set_option linter.unusedSimpArgs false
set_option maxRecDepth 100000
/-- the bytes lie in a row of bytes -/
def T5 (w : World) (A : Option Addr) (xs : List Int) : Prop := ∀ ad, A = some ad → 0 < xs.length → ∃ cs, w.heap[ad.block]? = some (.cells cs 5 (0, 0))
theorem T5.keep {S : Nat → Prop} {w w1 : World} {A : Option Addr} {xs : List Int} (h : T5 w A xs) (hf : Fr S w w1) (hS : ∀ k cs, w.heap[k]? = some (.cells cs 5 (0, 0)) → ¬ S k) : T5 w1 A xs := fun ad ha h0 => by
  obtain ⟨cs, hb⟩ := h ad ha h0
  exact ⟨cs, hf.blk hb (hS _ _ hb)⟩
theorem T5.keep0 {w w1 : World} {A : Option Addr} {xs : List Int} (h : T5 w A xs) (hf : Fr No w w1) : T5 w1 A xs := h.keep hf (fun _ _ _ h => h)
/-- A reader at block g: what is left, the first error. -/
def IsR (w : World) (g : Nat) (xs : List Int) (e : Int) : Prop :=
  ∃ A c, w.heap[g]? = some (.cells #[.slice A xs.length c, .int .i64 e] 96 (0, 0)) ∧ xs.length ≤ c ∧ (A = none → c = 0) ∧ Rd w A xs ∧ T5 w A xs
/-- one block -/
def At (g : Nat) : Nat → Prop := fun k => k = g
theorem Fr.one (w : World) (g i : Nat) (u : Value) : Fr (At g) w (w.setCell ⟨g, i, none⟩ u) := Fr.setCell (p := ⟨g, i, none⟩) (Fr.refl (At g) w) (.inl (show At g g from rfl)) u
theorem cut28 (A : Option Addr) (n c m : Nat) (hm : m ≤ n) (hA : A = none → c = 0) : ∃ A' : Option Addr, (∀ W : World, (Instr.slice 28 (.slice A n c) (some (.int .i64 (m : Int))) none none).run Tryd.prog W = .ok (.slice A' (n - m) (c - m)) W) ∧
      (∀ (w : World) (xs : List Int), n = xs.length → n ≤ c → Rd w A xs → Rd w A' (xs.drop m)) ∧ (∀ (w : World) (xs : List Int), n = xs.length → T5 w A xs → T5 w A' (xs.drop m)) ∧ (A' = none → c - m = 0) := by
  obtain ⟨i0, hi0, _, hz1, _⟩ := info_parts info5
  refine ⟨if c = m then A else A.map (·.add m), fun W => ?_, fun w xs hn hc h => ?_, fun w xs hn h ad ha h0 => ?_, fun h => ?_⟩
  · have hel : Tryd.prog.elem 28 = 5 := by simp [Program.elem, Tryd.underlying28]
    have hu : Tryd.prog.underlying 28 = some (.slice (Tryd.prog.elem 28)) := by rw [hel]; exact Tryd.underlying28
    rw [run_slice_l W 28 A n c hu .i64 (m : Int) (Int.natCast_nonneg _) (by omega), hel]
    simp [sizeOf, typeInfo, hi0, hz1, sliced, Result.andThen]
  · subst hn
    have := h.drop_ m hm hc
    unfold Rd
    rw [List.length_drop]
    exact this
  · rw [List.length_drop] at h0
    split at ha
    · exact h ad ha (by omega)
    · cases A with
      | none => cases ha
      | some a =>
        injection ha with ha
        obtain ⟨cs, hb⟩ := h a rfl (by omega)
        exact ⟨cs, by rw [← ha, add_block']; exact hb⟩
  · split at h
    · have := hA h
      omega
    · cases A with
      | none => have := hA rfl; omega
      | some a => cases h
theorem Err_any (g : Nat) (w : World) (xs : List Int) (e : Int) (h : IsR w g xs e) :
    Calls Tryd.prog 60 #[.pointer (some ⟨g, 0, none⟩)] w fun r w' => r = .returned (.int .i64 e) ∧ w = w' := by
  obtain ⟨A, c, hb, _, _, _, _⟩ := h
  have h1 : w.cell? ⟨g, 1, none⟩ = some (.int .i64 e) := blk_cell hb 1
  go_enter Tryd.func60, Tryd.ntmps60
  go_wp2
  go_ret
  exact ⟨rfl, rfl⟩
theorem Left_any (g : Nat) (w : World) (xs : List Int) (e : Int) (h : IsR w g xs e) :
    Calls Tryd.prog 36 #[.pointer (some ⟨g, 0, none⟩)] w fun r w' => r = .returned (.int .i64 xs.length) ∧ w = w' := by
  obtain ⟨A, c, hb, _, _, _, _⟩ := h
  have h1 : w.cell? ⟨g, 0, none⟩ = some (.slice A xs.length c) := blk_cell hb 0
  go_enter Tryd.func36, Tryd.ntmps36
  go_wp2
  go_ret
  exact ⟨rfl, rfl⟩
/-- what a reader's End tells -/
def endErr (xs : List Int) (e : Int) : Int := if e ≠ 0 then e else if 0 < xs.length then 12 else 0
theorem End_any (g : Nat) (w : World) (xs : List Int) (e : Int) (h : IsR w g xs e) :
    Calls Tryd.prog 37 #[.pointer (some ⟨g, 0, none⟩)] w fun r w' => r = .returned (.int .i64 (endErr xs e)) ∧ w = w' := by
  have H := hide h
  clear h
  by_cases he : e = 0
  · subst he
    have hd : ((0 : Int) != 0) = false := rfl
    by_cases hx : 0 < xs.length
    · have hx' : decide ((0 : Int) < (xs.length : Int)) = true := by simp; omega
      have hx2 : decide (0 < xs.length) = true := by simp; omega
      go_enter Tryd.func37, Tryd.ntmps37
      go_wp2_with (first | (go_at_call 60; refine (Err_any _ _ _ _ H.out).mono ?_; rintro e w' ⟨rfl, rfl⟩) | (go_at_call 36; refine (Left_any _ _ _ _ H.out).mono ?_; rintro e w' ⟨rfl, rfl⟩))
      go_ret
      exact ⟨by simp [endErr, hx], rfl⟩
    · have hx0 : xs.length = 0 := by omega
      have hx' : decide ((0 : Int) < (xs.length : Int)) = false := decide_eq_false (by omega)
      have hx2 : decide (0 < xs.length) = false := decide_eq_false hx
      clear hx0
      go_enter Tryd.func37, Tryd.ntmps37
      go_wp2_with (first | (go_at_call 60; refine (Err_any _ _ _ _ H.out).mono ?_; rintro e w' ⟨rfl, rfl⟩) | (go_at_call 36; refine (Left_any _ _ _ _ H.out).mono ?_; rintro e w' ⟨rfl, rfl⟩))
      go_ret
      exact ⟨by simp [endErr, hx], rfl⟩
  · have hd : (e != 0) = true := by simpa using he
    go_enter Tryd.func37, Tryd.ntmps37
    go_wp2_with (first | (go_at_call 60; refine (Err_any _ _ _ _ H.out).mono ?_; rintro e w' ⟨rfl, rfl⟩))
    go_ret
    exact ⟨by simp [endErr, he], rfl⟩
theorem IsR.set1 {w : World} {g : Nat} {xs : List Int} {e e' : Int} (h : IsR w g xs e) : IsR (w.setCell ⟨g, 1, none⟩ (.int .i64 e')) g xs e' := by
  obtain ⟨A, c, hb, hl, hA, hr, ht⟩ := h
  refine ⟨A, c, by simpa using blk_set hb 1 _, hl, hA, ?_, ht.keep (Fr.one w g 1 _) (fun k cs hk e => blk_ne hk hb (by decide) e)⟩
  refine Fr.rd (Fr.one w g 1 _) hr ?_
  rintro ad rfl h0
  exact Rd.ne hr h0 hb (by
    intro i x
    match i with
    | 0 => simp
    | 1 => simp
    | k + 2 => simp)
/-- what fail leaves -/
def failE (e e' : Int) : Int := if e = 0 then e' else e
theorem fail_any (g : Nat) (w : World) (xs : List Int) (e e' : Int) (h : IsR w g xs e) :
    Calls Tryd.prog 57 #[.pointer (some ⟨g, 0, none⟩), .int .i64 e'] w fun r w' => r = .returned (.tuple #[]) ∧ IsR w' g xs (failE e e') ∧ Fr (At g) w w' := by
  have H := hide h
  obtain ⟨A, c, hb, hl, hA, hr, _⟩ := h
  have h1 : w.cell? ⟨g, 1, none⟩ = some (.int .i64 e) := blk_cell hb 1
  have h2 : w.frozen? ⟨g, 1, none⟩ = false := blk_frozen hb 1
  clear hr hA
  by_cases he : e = 0
  · subst he
    go_enter Tryd.func57, Tryd.ntmps57
    go_wp2
    go_end0
    exact ⟨rfl, by simpa [failE] using H.out.set1, Fr.one w g 1 _⟩
  · have hd : (e == 0) = false := by simpa using he
    go_enter Tryd.func57, Tryd.ntmps57
    go_wp2
    go_end0
    exact ⟨rfl, by simpa [failE, he] using H.out, Fr.refl _ _⟩
theorem NewReader_any (w : World) (A : Option Addr) (c : Nat) (ys : List Int) (hr : Rd w A ys) (hA : A = none → c = 0) (hyl : ys.length ≤ 100000000) :
    Calls Tryd.prog 33 #[.slice A ys.length c] w fun e w' => ∃ g, e = .returned (.pointer (some ⟨g, 0, none⟩)) ∧ IsR w' g ys 0 ∧ Fr No w w' ∧ w.heap.size ≤ g := by
  have HR := hide hr
  clear hr
  go_enter Tryd.func33, Tryd.ntmps33
  go_wp2_with fail
  refine (Clone_any w A c ys HR.out hA hyl).mono ?_
  rintro e w1 ⟨v, rfl, hm, hf⟩
  obtain ⟨A1, c1, rfl, hle, hrd⟩ := hm.rd
  have hA1 : A1 = none → c1 = 0 := by
    rintro rfl
    rcases hm.2 with ⟨h, _⟩ | ⟨_, _, _, h, _⟩
    · injection h
    · cases h
  have ht5 : T5 w1 A1 ys := by
    rintro ad rfl h0
    exact own_typed hm ad.block rfl
  have HT := hide ht5
  clear hm ht5
  go_wp2
  go_ret
  exact ⟨_, rfl, ⟨A1, c1, heap_alloc_new w1 _, hle, hA1, ((Fr.refl No w1).alloc _).rd0 hrd, HT.out.keep0 ((Fr.refl No w1).alloc _)⟩, hf.alloc _, hf.size⟩
end Go.Proofs.YtkgffeclgapkbaaDoor
