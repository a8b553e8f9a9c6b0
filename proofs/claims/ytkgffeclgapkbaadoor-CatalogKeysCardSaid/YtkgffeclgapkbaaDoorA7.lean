/- octet.short, the Writer's Var and Bytes. -/
import Derived.Test.YtkgffeclgapkbaaDoorA6
import Derived.Test.YtkgffeclgapkbaaDoorRev
namespace Go.Proofs.YtkgffeclgapkbaaDoor
open Go.RowKit Go.Proofs.YtkgffeclgapkbaaDoorW.PrintWords
set_option linter.unusedVariables false
set_option linter.unusedSimpArgs false
set_option maxRecDepth 100000
theorem wrap64_id (x : Int) (h : -9223372036854775808 ≤ x ∧ x ≤ 9223372036854775807) : wrap64 x = x := by unfold wrap64; omega
/-- what Reverse leaves -/
theorem rev_l0 (d : Nat) : ∀ (k : Nat) (xs : List Int) (i j : Int), 0 ≤ i → j < xs.length → j - i < d → d ≤ k → xs.length ≤ 100000000 → -1 ≤ j →
    ∃ ys, slices_Reverse_byte_byte.l0 (k + 1) xs i j = some ys ∧ ys.length = xs.length ∧ ∀ m : Nat, ys.getD m 0 = if i ≤ m ∧ (m : Int) ≤ j then xs.getD (i + j - m).toNat 0 else xs.getD m 0 := by
  induction d with
  | zero =>
    intro k xs i j h0 h1 h2 _ hl hj
    refine ⟨xs, by simp only [slices_Reverse_byte_byte.l0]; rw [if_neg (by omega)], rfl, fun m => ?_⟩
    split
    · omega
    · rfl
  | succ d ih =>
    intro k xs i j h0 h1 h2 hk hl hj
    by_cases hij : i < j
    · obtain ⟨k, rfl⟩ : ∃ m, k = m + 1 := ⟨k - 1, by omega⟩
      obtain ⟨ys, hy, hyl, hym⟩ := ih k ((xs.set i.toNat (rd xs j)).set j.toNat (rd xs i)) (i + 1) (j - 1) (by omega) (by simp; omega) (by omega) (by omega) (by simpa using hl) (by omega)
      refine ⟨ys, ?_, by simpa using hyl, fun m => ?_⟩
      · simp only [slices_Reverse_byte_byte.l0] at hy ⊢
        rw [if_pos hij, if_pos (by omega), if_pos h1, if_pos h0, if_pos (by omega), wrap64_id _ (by omega), wrap64_id _ (by omega)]
        exact hy
      · rw [hym m]
        simp only [List.getD_eq_getElem?_getD, List.getElem?_set, List.length_set, rd]
        by_cases hm : i ≤ m ∧ (m : Int) ≤ j
        · rw [if_pos hm]
          by_cases hmi : (m : Int) = i
          · rw [if_neg (by omega), if_neg (by omega), if_pos (by omega), if_pos (by omega), show i + j - (m : Int) = j by omega]
            rfl
          · by_cases hmj : (m : Int) = j
            · rw [if_neg (by omega), if_pos (by omega), if_pos (by omega), show i + j - (m : Int) = i by omega]
              rfl
            · rw [if_pos (by omega), if_neg (by omega), if_neg (by omega), show i + 1 + (j - 1) - (m : Int) = i + j - m by omega]
        · rw [if_neg hm, if_neg (by omega), if_neg (by omega), if_neg (by omega)]
    · refine ⟨xs, by simp only [slices_Reverse_byte_byte.l0]; rw [if_neg hij], rfl, fun m => ?_⟩
      split
      · rw [show (i + j - (m : Int)).toNat = m by omega]
      · rfl
theorem rev_f (xs : List Int) (hl : xs.length ≤ 100000000) : slices_Reverse_byte_byte.f (xs.length + 1) xs = some xs.reverse := by
  obtain ⟨ys, hy, hyl, hym⟩ := rev_l0 xs.length xs.length xs 0 ((xs.length : Int) - 1) (by omega) (by omega) (by omega) (Nat.le_refl _) hl (by omega)
  unfold slices_Reverse_byte_byte.f
  rw [wrap64_id _ (by omega), hy]
  congr 1
  apply List.ext_getElem (by simpa using hyl)
  intro m h1 h2
  have h3 := hym m
  rw [List.getD_eq_getElem?_getD, List.getElem?_eq_getElem h1] at h3
  have hm : m < xs.length := by omega
  rw [if_pos (by omega)] at h3
  have e : (0 + ((xs.length : Int) - 1) - (m : Int)).toNat = xs.length - 1 - m := by omega
  rw [e, List.getD_eq_getElem?_getD, List.getElem?_eq_getElem (by omega)] at h3
  rw [List.getElem_reverse]
  simpa using h3
/-- slices.Reverse at bytes, of a row of the call's own -/
theorem Reverse_any (w0 w : World) (v : Value) (xs : List Int) (hm : Mine w0 w v xs) (hb : Below w0.heap.size w0 w) (hl : xs.length ≤ 100000000) :
    Calls Tryd.prog 72 #[v] w fun e w' => e = .returned (.tuple #[]) ∧ Mine w0 w' v xs.reverse ∧ Below w0.heap.size w0 w' := by
  have hR : Kd.R B8 5 w w0.heap.size (fun _ => True) v xs := Kd.R_of_own (enc := Value.int .u8) hm (fun _ _ => trivial)
  refine (slices_Reverse_byte_byte.calls (xs.length + 1) (fun _ => True) v xs xs.reverse w0 w hb hR (rev_f xs hl)).mono ?_
  rintro e w' ⟨rfl, h1, h2, _⟩
  exact ⟨rfl, by have := Kd.own_of_R h1; exact this, h2⟩
/-- the higher digits of 128, the lowest first -/
def hiL (x : Nat) : List Int := if h : x = 0 then [] else ((x % 128 : Nat) + 128 : Int) :: hiL (x / 128)
  termination_by x
  decreasing_by omega
theorem hiL_len (x k : Nat) : x < 128 ^ k → (hiL x).length ≤ k := by
  induction k generalizing x with
  | zero =>
    intro h
    have : x = 0 := by simpa using h
    subst this
    rw [hiL]
    simp
  | succ k ih =>
    intro h
    rw [hiL]
    split
    · simp
    · have := ih (x / 128) (by rw [Nat.div_lt_iff_lt_mul (by decide), ← Nat.pow_succ]; exact h)
      simp; omega
def shortL (x : Nat) : List Int := (((x % 128 : Nat) : Int) :: hiL (x / 128)).reverse
theorem shortL_len (x : Nat) (h : x < 18446744073709551616) : (shortL x).length ≤ 10 := by
  have := hiL_len (x / 128) 9 (by omega)
  simp [shortL]; omega
set_option maxHeartbeats 1000000 in
theorem short_any (x : Nat) (w : World) (hx : x < 18446744073709551616) :
    Calls Tryd.prog 63 #[.int .u64 x] w fun e w' => ∃ v, e = .returned v ∧ Mine w w' v (shortL x) ∧ Below w.heap.size w w' := by
  go_enter Tryd.func63, Tryd.ntmps63
  go_wp2_with fail
  go_loopw [0, 3] (fun y v wr => ∃ (q : Nat) (l : List Int), y = .int .u64 q ∧ Aside0 (Mine w wr v l) ∧ Aside0 (l ++ hiL q = ((x % 128 : Nat) : Int) :: hiL (x / 128)) ∧ Aside0 (Below w.heap.size w wr) ∧ l.length ≤ 100 ∧ q < 18446744073709551616) (fun y _ _ => (intOf y).toNat)
  case atStart =>
    refine ⟨x / 128, [((x % 128 : Nat) : Int)], by simp, ⟨?_⟩, ⟨rfl⟩, ⟨(Below.refl _ _).alloc (Nat.le_refl _) _⟩, by simp, by omega⟩
    exact ⟨rfl, .inr ⟨w.heap.size, 1, #[.int .u8 ((x % 128 : Nat) : Int)], rfl, Nat.le_refl _, by simpa using heap_alloc_new w _, Nat.le_refl _, by unfold maxLen; omega, rfl, rfl⟩⟩
  case round =>
    obtain ⟨q, l, rfl, HM, HE, HB, hl, hq⟩ := hrel
    obtain ⟨A, c, rfl, hlc, hrd⟩ := HM.out.rd
    have ho : wr.ownsRow w.heap.size 5 1 (.slice A l.length c) l.length (nums .u8 l) := HM.out
    clear hrd
    by_cases h0 : 0 < q
    · have h0' : (0 : Int) < (q : Int) := by omega
      have hlen : l.length ≤ 10 := by
        have h1 := congrArg List.length HE.out
        have h2 := hiL_len (x / 128) 9 (by omega)
        simp at h1
        omega
      have he : (l ++ [((q % 128 : Nat) + 128 : Int)]) ++ hiL (q / 128) = ((x % 128 : Nat) : Int) :: hiL (x / 128) := by
        rw [← HE.out, List.append_assoc]
        congr 1
        conv => rhs; rw [hiL]
        rw [dif_neg (by omega)]
        rfl
      have HE2 := hide he
      clear he HE
      go_wp2_with (at_builtin; go_loud (refine print_append_num (w0 := w) w.heap.size rfl (.tmp 14) (.tmp 19) 28 5 .u8 1 rfl Tryd.underlying28 info5 (by decide) (.slice A l.length c) l ((q % 128 : Nat) + 128 : Int) rfl rfl ho HB.out HB.out.size (by omega) ?_); intro v1 w1 hown1 hb1 hgrow hat)
      go_roundw
      case rel => exact ⟨q / 128, l ++ [((q % 128 : Nat) + 128 : Int)], by go_num, ⟨by simpa [Mine] using hown1⟩, ⟨HE2.out⟩, ⟨hb1⟩, by simp; omega, by omega⟩
      case measure => simp [intOf]; omega
    · have h0 : q = 0 := by omega
      subst h0
      have he : l = ((x % 128 : Nat) : Int) :: hiL (x / 128) := by
        have := HE.out
        rw [hiL] at this
        simpa using this
      have HE2 := hide he
      clear he HE
      go_wp2_with (go_at_call 72; refine (Reverse_any w wr (.slice A l.length c) l HM.out HB.out (by omega)).mono ?_; rintro r w1 ⟨rfl, hm, hb⟩)
      go_ret
      have hrv : l.reverse = shortL x := by rw [HE2.out]; rfl
      rw [hrv] at hm
      exact ⟨_, rfl, hm, hb⟩
theorem IsW.keep {w w1 : World} {g : Nat} {row : Option Nat} {xs : List Int} (h : IsW w g row xs) (hf : Fr No w w1) : IsW w1 g row xs := by
  obtain ⟨v, hb, hr, ho⟩ := h
  exact ⟨v, hf.blk hb (fun h => h), hr, pw_own_below ho hf.no⟩
theorem Row2.trans {w w1 : World} {a b c : Option Nat} (h : Row2 w a b) (k : Row2 w1 b c) (hs : w.heap.size ≤ w1.heap.size) : Row2 w a c := by
  rcases k with rfl | ⟨d, rfl, hd⟩
  · exact h
  · exact .inr ⟨d, rfl, by omega⟩
theorem Fr.gr {g : Nat} {w w1 w2 : World} {a b : Option Nat} (h : Fr (GR g a) w w1) (k : Fr (GR g b) w1 w2) (hr : Row2 w a b) : Fr (GR g a) w w2 :=
  h.trans k (by
    intro i hi
    rcases hi with hi | hi
    · exact .inl (.inl hi)
    · rcases hr with rfl | ⟨d, rfl, hd⟩
      · exact .inl (.inr hi)
      · injection hi with hi
        exact .inr (by omega))
set_option maxHeartbeats 1000000 in
theorem WVar_any (g : Nat) (x : Nat) (w : World) (hx : x < 18446744073709551616) (row : Option Nat) (xs : List Int) (hw : IsW w g row xs) (hl : xs.length ≤ 100000000) :
    Calls Tryd.prog 43 #[.pointer (some ⟨g, 0, none⟩), .int .u64 x] w fun e w' => e = .returned (.tuple #[]) ∧
      ∃ row', IsW w' g row' (xs ++ shortL x) ∧ Fr (GR g row) w w' ∧ Row2 w row row' := by
  have HW := hide hw
  clear hw
  go_enter Tryd.func43, Tryd.ntmps43
  go_wp2_with fail
  refine (short_any x w hx).mono ?_
  rintro e w1 ⟨v, rfl, hm, hb⟩
  obtain ⟨A, c, rfl, hlc, hrd⟩ := hm.rd
  have hf := Fr.of_below (S := No) hb (Nat.le_refl _)
  clear hm
  go_wp2_with fail
  refine (Raw_any g w1 row xs (HW.out.keep hf) hl A c (shortL x) hrd (by have := shortL_len x hx; omega)).mono ?_
  rintro e w2 ⟨rfl, row', h1, h2, h3⟩
  go_wp2_with fail
  go_end0
  exact ⟨rfl, row', h1, (Fr.of_below hb (Nat.le_refl _)).trans h2 (fun i h => .inl h), by
    rcases h3 with h3 | ⟨b, h3, h4⟩
    · exact .inl h3
    · exact .inr ⟨b, h3, Nat.le_trans hf.size h4⟩⟩
set_option maxHeartbeats 1000000 in
theorem WBytes_any (g : Nat) (w : World) (row : Option Nat) (xs : List Int) (hw : IsW w g row xs) (hl : xs.length ≤ 10000000)
    (A : Option Addr) (c : Nat) (ys : List Int) (hr : Rd w A ys) (hyl : ys.length ≤ 10000000) (hA : ∀ ad, A = some ad → 0 < ys.length → ¬ GR g row ad.block) :
    Calls Tryd.prog 25 #[.pointer (some ⟨g, 0, none⟩), .slice A ys.length c] w fun e w' => e = .returned (.tuple #[]) ∧
      ∃ row', IsW w' g row' (xs ++ (shortL ys.length ++ ys)) ∧ Fr (GR g row) w w' ∧ Row2 w row row' := by
  have HW := hide hw
  have HR := hide hr
  clear hw hr
  go_enter Tryd.func25, Tryd.ntmps25
  go_wp2_with fail
  refine (WVar_any g ys.length w (by omega) row xs HW.out (by omega)).mono ?_
  rintro e w1 ⟨rfl, row1, h1, h2, h3⟩
  go_wp2_with fail
  refine (Raw_any g w1 row1 _ h1 (by have := shortL_len ys.length (by omega); simp; omega) A c ys (h2.rd HR.out hA) (by omega)).mono ?_
  rintro e w2 ⟨rfl, row2, k1, k2, k3⟩
  go_wp2_with fail
  go_end0
  exact ⟨rfl, row2, by simpa using k1, h2.gr k2 h3, h3.trans k3 h2.size⟩
end Go.Proofs.YtkgffeclgapkbaaDoor
