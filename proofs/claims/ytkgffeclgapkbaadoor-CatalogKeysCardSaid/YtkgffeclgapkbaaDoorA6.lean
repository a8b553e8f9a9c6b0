/- octet's Reader: Var, Bytes. -/
import Derived.Test.YtkgffeclgapkbaaDoorA5
import Derived.Deep.QuietTactic
import Derived.BigQuiet
namespace Go.Proofs.YtkgffeclgapkbaaDoor
open Go.RowKit Go.Proofs.YtkgffeclgapkbaaDoorW.PrintWords
set_option linter.unusedVariables false
set_option linter.unusedSimpArgs false
set_option maxRecDepth 100000
theorem lt128 (c : Int) (w : World) : Calls Tryd.prog 70 #[.int .u8 c] w fun r w' => r = .returned (.bool (decide (c < 128))) ∧ w = w' := by
  go_enter Tryd.func70, Tryd.ntmps70
  go_wp2
  go_ret
  exact ⟨rfl, rfl⟩
/-- how many bytes of 128 and more are ahead -/
def highs (xs : List Int) : Nat := (xs.takeWhile fun c => decide (128 ≤ c)).length
def idx (xs : List Int) : Int := if highs xs < xs.length then highs xs else -1
theorem highs_le (xs : List Int) : highs xs ≤ xs.length := (List.takeWhile_sublist _).length_le
theorem highs_lt {xs : List Int} {k : Nat} (h : k < highs xs) : 128 ≤ xs.getD k 0 := by
  induction xs generalizing k with
  | nil => simp [highs] at h
  | cons a l ih =>
    unfold highs at h
    rw [List.takeWhile_cons] at h
    split at h
    · rename_i ha
      cases k with
      | zero => simpa using ha
      | succ k => simp at h ⊢; exact by simpa using ih h
    · simp at h
theorem highs_at {xs : List Int} (h : highs xs < xs.length) : xs.getD (highs xs) 0 < 128 := by
  induction xs with
  | nil => simp at h
  | cons a l ih =>
    unfold highs at h ⊢
    rw [List.takeWhile_cons] at h ⊢
    split at h
    · rename_i ha
      simp [ha] at h ⊢
      exact by simpa [highs] using ih (by simpa [highs] using h)
    · rename_i ha
      have ha' : ¬ 128 ≤ a := by simpa using ha
      simp [ha']
      omega
set_option maxHeartbeats 1000000 in
theorem IndexFunc_any (w : World) (A : Option Addr) (c : Nat) (ys : List Int) (hr : Rd w A ys) (hyl : ys.length ≤ 100000000) :
    Calls Tryd.prog 69 #[.slice A ys.length c, .func (.func 70) #[] #[]] w fun r w' => r = .returned (.int .i64 (idx ys)) ∧ w = w' := by
  go_enter Tryd.func69, Tryd.ntmps69
  go_wp2_with fail
  go_loop [5, 8] (fun x i => ∃ k : Nat, k ≤ highs ys ∧ k ≤ ys.length ∧ i = .int .i64 k) (fun _ i => ys.length - (intOf i).toNat)
  case atStart => exact ⟨0, Nat.zero_le _, Nat.zero_le _, rfl⟩
  case round =>
    obtain ⟨k, hk, hkl, rfl⟩ := hrel
    by_cases hlt : k < ys.length
    · obtain ⟨ad, rfl, hc⟩ := hr.2.2 (by omega)
      have hck := hc k (by omega)
      have HC := hide hc
      clear hc
      have eg : ys.getD k 0 = ys[k] := by rw [List.getD_eq_getElem?_getD, List.getElem?_eq_getElem hlt]; rfl
      by_cases hh : k < highs ys
      · have h1 : ¬ ys[k] < 128 := by have := highs_lt hh; omega
        clear eg
        go_wp2_with (go_at_call 70; refine (lt128 _ _).mono ?_; rintro r w' ⟨rfl, rfl⟩)
        go_round
        case rel => exact ⟨k + 1, by omega, by omega, by go_num⟩
        case measure => simp [intOf]; omega
      · have hk2 : k = highs ys := by omega
        have h1 : ys[k] < 128 := by have := highs_at (xs := ys) (by omega); rw [← hk2] at this; omega
        have hi : idx ys = (k : Int) := by unfold idx; rw [if_pos (by omega), hk2]
        have HI := hide hi
        clear hi hk2 hk hh eg
        go_wp2_with (go_at_call 70; refine (lt128 _ _).mono ?_; rintro r w' ⟨rfl, rfl⟩)
        go_ret
        exact ⟨by rw [HI.out]; rfl, rfl⟩
    · have hi : idx ys = -1 := by unfold idx; rw [if_neg (by omega)]
      have HI := hide hi
      clear hi
      go_wp2
      go_ret
      exact ⟨by rw [HI.out]; rfl, rfl⟩
/-- the world is the old one, orders having been drawn -/
def Dr (w w' : World) : Prop := ∃ n, w' = w.drewN n
theorem Dr.refl (w : World) : Dr w w := ⟨0, rfl⟩
theorem Dr.fr {w w' : World} (h : Dr w w') : Fr No w w' := by obtain ⟨n, rfl⟩ := h; exact (Fr.refl _ _).drewN n
theorem Dr.step {w w' : World} (h : Dr w w') (n : Nat) : Dr w (w'.drewN n) := by
  obtain ⟨m, rfl⟩ := h
  exact ⟨m + n, World.drewN_drewN ..⟩
set_option maxHeartbeats 1000000 in
/-- slices.Equal at bytes -/
theorem Equal_any (w : World) (A A' : Option Addr) (c c' : Nat) (xs ys : List Int) (hx : Rd w A xs) (hy : Rd w A' ys) (hxl : xs.length ≤ 100000000) (hyl : ys.length ≤ 100000000) :
    Calls Tryd.prog 71 #[.slice A xs.length c, .slice A' ys.length c'] w fun r w' => r = .returned (.bool (decide (xs = ys))) ∧ Dr w w' := by
  by_cases hl : xs.length = ys.length
  · have hne : ((xs.length : Int) != (ys.length : Int)) = false := by rw [hl]; simp
    have hl1 : xs.length ≤ ys.length := by omega
    have hl2 : ys.length ≤ xs.length := by omega
    clear hl
    go_enter Tryd.func71, Tryd.ntmps71
    go_wp2
    go_loopw [13] (fun i wr => ∃ k : Nat, k ≤ xs.length ∧ i = .int .i64 k ∧ Aside0 (xs.take k = ys.take k) ∧ Aside0 (Dr w wr)) (fun i _ => xs.length - (intOf i).toNat)
    case atStart => exact ⟨0, Nat.zero_le _, rfl, ⟨rfl⟩, ⟨Dr.refl _⟩⟩
    case round =>
      obtain ⟨k, hk, rfl, HE, HD⟩ := hrel
      by_cases hlt : k < xs.length
      · obtain ⟨ad, rfl, hc⟩ := (HD.out.fr.rd0 hx).2.2 (by omega)
        obtain ⟨ad', rfl, hc'⟩ := (HD.out.fr.rd0 hy).2.2 (by omega)
        have hck := hc k (by omega)
        have hck' := hc' k (by omega)
        have i0 : (0 : Int) ≤ (k : Int) := by omega
        have i1 : (k : Int) < (xs.length : Int) := by omega
        have i2 : (k : Int) < (ys.length : Int) := by omega
        have HX := hide (And.intro hx hy)
        clear hc hc' hx hy
        have hly : k < ys.length := by omega
        by_cases he : xs[k] = ys[k]
        · have hb : (xs[k] != ys[k]) = false := by simp [he]
          have hsn : xs.take (k + 1) = ys.take (k + 1) := by rw [List.take_succ_eq_append_getElem hlt, List.take_succ_eq_append_getElem hly, HE.out, he]
          have HSN := hide hsn
          clear hsn he HE
          go_wp2_with fail
          go_quiet (fail)
          go_wp2_with fail
          go_roundw
          case rel => exact ⟨k + 1, by omega, by go_num, HSN, ⟨HD.out.step _⟩⟩
          case measure => simp [intOf]; omega
        · have hb : (xs[k] != ys[k]) = true := by simpa using he
          have hd : decide (xs = ys) = false := by
            refine decide_eq_false (fun e => he ?_)
            subst e
            rfl
          have HDC := hide hd
          clear hd he HE
          go_wp2_with fail
          go_quiet (fail)
          go_wp2_with fail
          go_ret
          exact ⟨by rw [HDC.out]; rfl, HD.out.step _⟩
      · have hd : decide (xs = ys) = true := by
          refine decide_eq_true ?_
          have := HE.out
          rwa [List.take_of_length_le (by omega), List.take_of_length_le (by omega)] at this
        have HDC := hide hd
        clear hd HE
        go_wp2
        go_ret
        exact ⟨by rw [HDC.out]; rfl, HD.out⟩
  · have hne : ((xs.length : Int) != (ys.length : Int)) = true := by simp; omega
    have hd : decide (xs = ys) = false := decide_eq_false (fun e => hl (by rw [e]))
    have HDC := hide hd
    clear hd hl
    go_enter Tryd.func71, Tryd.ntmps71
    go_wp2
    go_ret
    exact ⟨by rw [HDC.out]; rfl, Dr.refl _⟩
end Go.Proofs.YtkgffeclgapkbaaDoor
