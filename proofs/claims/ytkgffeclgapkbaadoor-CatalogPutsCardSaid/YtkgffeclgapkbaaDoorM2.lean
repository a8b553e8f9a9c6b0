/- octet.short, the Writer's Var and Bytes. -/
import Derived.Test.YtkgffeclgapkbaaDoorM1
import Derived.Test.YtkgffeclgapkbaaDoorRev
import Derived.Test.YtkgffeclgapkbaaDoorWMore
import Derived.Test.YtkgffeclgapkbaaDoorWZeros
namespace Go.Proofs.YtkgffeclgapkbaaDoor
open Go.RowKit Go.Proofs.YtkgffeclgapkbaaDoorW.PrintWords
set_option linter.unusedVariables false
set_option linter.unusedSimpArgs false
set_option maxRecDepth 100000
theorem wrap64_id (x : Int) (h : -9223372036854775808 ≤ x ∧ x ≤ 9223372036854775807) : wrap64 x = x := by unfold wrap64; omega
/-- what Reverse leaves -/
theorem rev_l0 (d : Nat) : ∀ (k : Nat) (xs : List Int) (i j : Int), 0 ≤ i → j < xs.length → j - i < d → d ≤ k → xs.length ≤ 100000000 → -1 ≤ j →
    ∃ ys, slices_Reverse_byte_byte.l0 (k + 1) xs i j = some ys ∧ ys.length = xs.length ∧ ∀ m : Nat, ys.getD m 0 = if i ≤ m ∧ (m : Int) ≤ j then xs.getD (i + j - m).toNat 0 else xs.getD m 0 := by
  induction d with
  | zero =>
    intro k xs i j h0 h1 h2 _ hl hj
    refine ⟨xs, by simp only [slices_Reverse_byte_byte.l0]; rw [if_neg (by omega)], rfl, fun m => ?_⟩
    split
    · omega
    · rfl
  | succ d ih =>
    intro k xs i j h0 h1 h2 hk hl hj
    by_cases hij : i < j
    · obtain ⟨k, rfl⟩ : ∃ m, k = m + 1 := ⟨k - 1, by omega⟩
      obtain ⟨ys, hy, hyl, hym⟩ := ih k ((xs.set i.toNat (rd xs j)).set j.toNat (rd xs i)) (i + 1) (j - 1) (by omega) (by simp; omega) (by omega) (by omega) (by simpa using hl) (by omega)
      refine ⟨ys, ?_, by simpa using hyl, fun m => ?_⟩
      · simp only [slices_Reverse_byte_byte.l0] at hy ⊢
        rw [if_pos hij, if_pos (by omega), if_pos h1, if_pos h0, if_pos (by omega), wrap64_id _ (by omega), wrap64_id _ (by omega)]
        exact hy
      · rw [hym m]
        simp only [List.getD_eq_getElem?_getD, List.getElem?_set, List.length_set, rd]
        by_cases hm : i ≤ m ∧ (m : Int) ≤ j
        · rw [if_pos hm]
          by_cases hmi : (m : Int) = i
          · rw [if_neg (by omega), if_neg (by omega), if_pos (by omega), if_pos (by omega), show i + j - (m : Int) = j by omega]
            rfl
          · by_cases hmj : (m : Int) = j
            · rw [if_neg (by omega), if_pos (by omega), if_pos (by omega), show i + j - (m : Int) = i by omega]
              rfl
            · rw [if_pos (by omega), if_neg (by omega), if_neg (by omega), show i + 1 + (j - 1) - (m : Int) = i + j - m by omega]
        · rw [if_neg hm, if_neg (by omega), if_neg (by omega), if_neg (by omega)]
    · refine ⟨xs, by simp only [slices_Reverse_byte_byte.l0]; rw [if_neg hij], rfl, fun m => ?_⟩
      split
      · rw [show (i + j - (m : Int)).toNat = m by omega]
      · rfl
theorem rev_f (xs : List Int) (hl : xs.length ≤ 100000000) : slices_Reverse_byte_byte.f (xs.length + 1) xs = some xs.reverse := by
  obtain ⟨ys, hy, hyl, hym⟩ := rev_l0 xs.length xs.length xs 0 ((xs.length : Int) - 1) (by omega) (by omega) (by omega) (Nat.le_refl _) hl (by omega)
  unfold slices_Reverse_byte_byte.f
  rw [wrap64_id _ (by omega), hy]
  congr 1
  apply List.ext_getElem (by simpa using hyl)
  intro m h1 h2
  have h3 := hym m
  rw [List.getD_eq_getElem?_getD, List.getElem?_eq_getElem h1] at h3
  have hm : m < xs.length := by omega
  rw [if_pos (by omega)] at h3
  have e : (0 + ((xs.length : Int) - 1) - (m : Int)).toNat = xs.length - 1 - m := by omega
  rw [e, List.getD_eq_getElem?_getD, List.getElem?_eq_getElem (by omega)] at h3
  rw [List.getElem_reverse]
  simpa using h3
/-- slices.Reverse at bytes, of a row of the call's own -/
theorem Reverse_any (w0 w : World) (v : Value) (xs : List Int) (hm : Mine w0 w v xs) (hb : Below w0.heap.size w0 w) (hl : xs.length ≤ 100000000) :
    Calls Tryd.prog 72 #[v] w fun e w' => e = .returned (.tuple #[]) ∧ Mine w0 w' v xs.reverse ∧ Below w0.heap.size w0 w' := by
  have hR : Kd.R B8 5 w w0.heap.size (fun _ => True) v xs := Kd.R_of_own (enc := Value.int .u8) hm (fun _ _ => trivial)
  refine (slices_Reverse_byte_byte.calls (xs.length + 1) (fun _ => True) v xs xs.reverse w0 w hb hR (rev_f xs hl)).mono ?_
  rintro e w' ⟨rfl, h1, h2, _⟩
  exact ⟨rfl, by have := Kd.own_of_R h1; exact this, h2⟩
/-- the higher digits of 128, the lowest first -/
def hiL (x : Nat) : List Int := if h : x = 0 then [] else ((x % 128 : Nat) + 128 : Int) :: hiL (x / 128)
  termination_by x
  decreasing_by omega
theorem hiL_len (x k : Nat) : x < 128 ^ k → (hiL x).length ≤ k := by
  induction k generalizing x with
  | zero =>
    intro h
    have : x = 0 := by simpa using h
    subst this
    rw [hiL]
    simp
  | succ k ih =>
    intro h
    rw [hiL]
    split
    · simp
    · have := ih (x / 128) (by rw [Nat.div_lt_iff_lt_mul (by decide), ← Nat.pow_succ]; exact h)
      simp; omega
def shortL (x : Nat) : List Int := (((x % 128 : Nat) : Int) :: hiL (x / 128)).reverse
theorem shortL_len (x : Nat) (h : x < 18446744073709551616) : (shortL x).length ≤ 10 := by
  have := hiL_len (x / 128) 9 (by omega)
  simp [shortL]; omega
set_option maxHeartbeats 1000000 in
theorem short_any (x : Nat) (w : World) (hx : x < 18446744073709551616) :
    Calls Tryd.prog 63 #[.int .u64 x] w fun e w' => ∃ v, e = .returned v ∧ Mine w w' v (shortL x) ∧ Below w.heap.size w w' := by
  go_enter Tryd.func63, Tryd.ntmps63
  go_wp2_with fail
  go_loopw [0, 3] (fun y v wr => ∃ (q : Nat) (l : List Int), y = .int .u64 q ∧ Aside0 (Mine w wr v l) ∧ Aside0 (l ++ hiL q = ((x % 128 : Nat) : Int) :: hiL (x / 128)) ∧ Aside0 (Below w.heap.size w wr) ∧ l.length ≤ 100 ∧ q < 18446744073709551616) (fun y _ _ => (intOf y).toNat)
  case atStart =>
    refine ⟨x / 128, [((x % 128 : Nat) : Int)], by simp, ⟨?_⟩, ⟨rfl⟩, ⟨(Below.refl _ _).alloc (Nat.le_refl _) _⟩, by simp, by omega⟩
    exact ⟨rfl, .inr ⟨w.heap.size, 1, #[.int .u8 ((x % 128 : Nat) : Int)], rfl, Nat.le_refl _, by simpa using heap_alloc_new w _, Nat.le_refl _, by unfold maxLen; omega, rfl, rfl⟩⟩
  case round =>
    obtain ⟨q, l, rfl, HM, HE, HB, hl, hq⟩ := hrel
    obtain ⟨A, c, rfl, hlc, hrd⟩ := HM.out.rd
    have ho : wr.ownsRow w.heap.size 5 1 (.slice A l.length c) l.length (nums .u8 l) := HM.out
    clear hrd
    by_cases h0 : 0 < q
    · have h0' : (0 : Int) < (q : Int) := by omega
      have hlen : l.length ≤ 10 := by
        have h1 := congrArg List.length HE.out
        have h2 := hiL_len (x / 128) 9 (by omega)
        simp at h1
        omega
      have he : (l ++ [((q % 128 : Nat) + 128 : Int)]) ++ hiL (q / 128) = ((x % 128 : Nat) : Int) :: hiL (x / 128) := by
        rw [← HE.out, List.append_assoc]
        congr 1
        conv => rhs; rw [hiL]
        rw [dif_neg (by omega)]
        rfl
      have HE2 := hide he
      clear he HE
      go_wp2_with (at_builtin; go_loud (refine print_append_num (w0 := w) w.heap.size rfl (.tmp 14) (.tmp 19) 28 5 .u8 1 rfl Tryd.underlying28 info5 (by decide) (.slice A l.length c) l ((q % 128 : Nat) + 128 : Int) rfl rfl ho HB.out HB.out.size (by omega) ?_); intro v1 w1 hown1 hb1 hgrow hat)
      go_roundw
      case rel => exact ⟨q / 128, l ++ [((q % 128 : Nat) + 128 : Int)], by go_num, ⟨by simpa [Mine] using hown1⟩, ⟨HE2.out⟩, ⟨hb1⟩, by simp; omega, by omega⟩
      case measure => simp [intOf]; omega
    · have h0 : q = 0 := by omega
      subst h0
      have he : l = ((x % 128 : Nat) : Int) :: hiL (x / 128) := by
        have := HE.out
        rw [hiL] at this
        simpa using this
      have HE2 := hide he
      clear he HE
      go_wp2_with (go_at_call 72; refine (Reverse_any w wr (.slice A l.length c) l HM.out HB.out (by omega)).mono ?_; rintro r w1 ⟨rfl, hm, hb⟩)
      go_ret
      have hrv : l.reverse = shortL x := by rw [HE2.out]; rfl
      rw [hrv] at hm
      exact ⟨_, rfl, hm, hb⟩
theorem IsW.keep {w w1 : World} {g : Nat} {row : Option Nat} {xs : List Int} (h : IsW w g row xs) (hf : Fr No w w1) : IsW w1 g row xs := by
  obtain ⟨v, hb, hr, ho⟩ := h
  exact ⟨v, hf.blk hb (fun h => h), hr, pw_own_below ho hf.no⟩
theorem Row2.trans {w w1 : World} {a b c : Option Nat} (h : Row2 w a b) (k : Row2 w1 b c) (hs : w.heap.size ≤ w1.heap.size) : Row2 w a c := by
  rcases k with rfl | ⟨d, rfl, hd⟩
  · exact h
  · exact .inr ⟨d, rfl, by omega⟩
theorem Fr.gr {g : Nat} {w w1 w2 : World} {a b : Option Nat} (h : Fr (GR g a) w w1) (k : Fr (GR g b) w1 w2) (hr : Row2 w a b) : Fr (GR g a) w w2 :=
  h.trans k (by
    intro i hi
    rcases hi with hi | hi
    · exact .inl (.inl hi)
    · rcases hr with rfl | ⟨d, rfl, hd⟩
      · exact .inl (.inr hi)
      · injection hi with hi
        exact .inr (by omega))
set_option maxHeartbeats 1000000 in
theorem WVar_any (g : Nat) (x : Nat) (w : World) (hx : x < 18446744073709551616) (row : Option Nat) (xs : List Int) (hw : IsW w g row xs) (hl : xs.length ≤ 100000000) :
    Calls Tryd.prog 43 #[.pointer (some ⟨g, 0, none⟩), .int .u64 x] w fun e w' => e = .returned (.tuple #[]) ∧
      ∃ row', IsW w' g row' (xs ++ shortL x) ∧ Fr (GR g row) w w' ∧ Row2 w row row' := by
  have HW := hide hw
  clear hw
  go_enter Tryd.func43, Tryd.ntmps43
  go_wp2_with fail
  refine (short_any x w hx).mono ?_
  rintro e w1 ⟨v, rfl, hm, hb⟩
  obtain ⟨A, c, rfl, hlc, hrd⟩ := hm.rd
  have hf := Fr.of_below (S := No) hb (Nat.le_refl _)
  clear hm
  go_wp2_with fail
  refine (Raw_any g w1 row xs (HW.out.keep hf) hl A c (shortL x) hrd (by have := shortL_len x hx; omega)).mono ?_
  rintro e w2 ⟨rfl, row', h1, h2, h3⟩
  go_wp2_with fail
  go_end0
  exact ⟨rfl, row', h1, (Fr.of_below hb (Nat.le_refl _)).trans h2 (fun i h => .inl h), by
    rcases h3 with h3 | ⟨b, h3, h4⟩
    · exact .inl h3
    · exact .inr ⟨b, h3, Nat.le_trans hf.size h4⟩⟩
set_option maxHeartbeats 1000000 in
theorem WBytes_any (g : Nat) (w : World) (row : Option Nat) (xs : List Int) (hw : IsW w g row xs) (hl : xs.length ≤ 10000000)
    (A : Option Addr) (c : Nat) (ys : List Int) (hr : Rd w A ys) (hyl : ys.length ≤ 10000000) (hA : ∀ ad, A = some ad → 0 < ys.length → ¬ GR g row ad.block) :
    Calls Tryd.prog 25 #[.pointer (some ⟨g, 0, none⟩), .slice A ys.length c] w fun e w' => e = .returned (.tuple #[]) ∧
      ∃ row', IsW w' g row' (xs ++ (shortL ys.length ++ ys)) ∧ Fr (GR g row) w w' ∧ Row2 w row row' := by
  have HW := hide hw
  have HR := hide hr
  clear hw hr
  go_enter Tryd.func25, Tryd.ntmps25
  go_wp2_with fail
  refine (WVar_any g ys.length w (by omega) row xs HW.out (by omega)).mono ?_
  rintro e w1 ⟨rfl, row1, h1, h2, h3⟩
  go_wp2_with fail
  refine (Raw_any g w1 row1 _ h1 (by have := shortL_len ys.length (by omega); simp; omega) A c ys (h2.rd HR.out hA) (by omega)).mono ?_
  rintro e w2 ⟨rfl, row2, k1, k2, k3⟩
  go_wp2_with fail
  go_end0
  exact ⟨rfl, row2, by simpa using k1, h2.gr k2 h3, h3.trans k3 h2.size⟩
end Go.Proofs.YtkgffeclgapkbaaDoor
namespace Go.Proofs.YtkgffeclgapkbaaDoor
open Go.RowKit Go.Proofs.YtkgffeclgapkbaaDoorW.PrintWords Go.Proofs.YtkgffeclgapkbaaDoorW.PrintMore
attribute [local go_sem] min2_int min_two
set_option linter.unusedVariables false
set_option linter.unusedSimpArgs false
set_option maxRecDepth 100000
set_option maxHeartbeats 1000000 in
theorem RVar_err (g : Nat) (w : World) (xs : List Int) (e : Int) (h : IsR w g xs e) (he : e ≠ 0) :
    Calls Tryd.prog 59 #[.pointer (some ⟨g, 0, none⟩)] w fun r w' => r = .returned (.int .u64 0) ∧ w = w' := by
  have H := hide h
  have hd : (e != 0) = true := by simpa using he
  clear h he
  go_enter Tryd.func59, Tryd.ntmps59
  go_wp2_with (go_at_call 60; refine (Err_any _ _ _ _ H.out).mono ?_; rintro r w' ⟨rfl, rfl⟩)
  go_ret
  exact ⟨rfl, rfl⟩
theorem Fr.of_no {S : Nat → Prop} {w w1 : World} (h : Fr No w w1) : Fr S w w1 := h.mono (fun _ h => h.elim)
theorem quiet_left' {P : Program} {f : FuncId} {args : Array Value} {w : World} {n : Nat} {v : Value}
    (h : Calls P f args (w.drewN n) fun e w' => e = .returned v ∧ w.drewN n = w') : Calls P f args (w.drewN n) fun e w'' => e = .returned v ∧ ∃ m, w'' = w.drewN m :=
  h.mono fun _ _ ⟨he, hm⟩ => ⟨he, n, hm.symm⟩
/-- how many bytes a number that is read has; 0: there is none -/
def varN (xs : List Int) : Nat := (idx (xs.take 10) + 1).toNat
theorem cut28h (A : Option Addr) (n c m : Nat) (hm : m ≤ n) (hn : n ≤ c) (W : World) : (Instr.slice 28 (.slice A n c) none (some (.int .i64 (m : Int))) none).run Tryd.prog W = .ok (.slice A m c) W := by
  obtain ⟨i0, hi0, _, hz1, _⟩ := info_parts info5
  have hel : Tryd.prog.elem 28 = 5 := by simp [Program.elem, Tryd.underlying28]
  have hu : Tryd.prog.underlying 28 = some (.slice (Tryd.prog.elem 28)) := by rw [hel]; exact Tryd.underlying28
  have ha : (A.map fun x => x.add 0) = A := by cases A <;> simp [Addr.add]
  rw [run_slice_h W 28 A n c hu .i64 m (Int.natCast_nonneg _) (by omega), hel]
  simp [sizeOf, typeInfo, hi0, hz1, sliced, Result.andThen, ha]
theorem Rd.take {w : World} {A : Option Addr} {xs : List Int} (hr : Rd w A xs) (n : Nat) (hn : n ≤ xs.length) : Rd w A (xs.take n) := by
  have := hr.take_ n hn
  unfold Rd
  rw [List.length_take, Nat.min_eq_left hn]
  exact this
set_option maxHeartbeats 1000000 in
theorem RVar_none (g : Nat) (w : World) (xs : List Int) (h : IsR w g xs 0) (hs : xs.length ≤ 100000000) (hn : varN xs = 0) :
    Calls Tryd.prog 59 #[.pointer (some ⟨g, 0, none⟩)] w fun r w' => r = .returned (.int .u64 0) ∧ (∃ e, e ≠ 0 ∧ IsR w' g xs e) ∧ Fr (At g) w w' := by
  have H := hide h
  obtain ⟨A, c, hb, hl, hA, hr, _⟩ := h
  have h0 : w.cell? ⟨g, 0, none⟩ = some (.slice A xs.length c) := blk_cell hb 0
  obtain ⟨m, hm⟩ : ∃ m, m = min xs.length 10 := ⟨_, rfl⟩
  have hmx : m ≤ xs.length := by omega
  have htk : xs.take 10 = xs.take m := by
    rcases Nat.le_total xs.length 10 with h | h
    · rw [List.take_of_length_le h, List.take_of_length_le (by omega)]
    · rw [hm, Nat.min_eq_right h]
  have hml : (xs.take m).length = m := by rw [List.length_take]; omega
  have e1 := cut28h A xs.length c m hmx hl
  have hmi : min (xs.length : Int) 10 = (m : Int) := by omega
  have hid : idx (xs.take m) = -1 := by
    have : idx (xs.take 10) + 1 ≤ 0 := by unfold varN at hn; omega
    rw [← htk]
    unfold idx at this ⊢
    split
    · rename_i hh; rw [if_pos hh] at this; omega
    · rfl
  have hif : ∀ W, Dr w W → Calls Tryd.prog 69 #[.slice A m c, .func (.func 70) #[] #[]] W fun r w' => r = .returned (.int .i64 (-1)) ∧ W = w' := by
    intro W hd
    have := IndexFunc_any W A c (xs.take m) (hd.fr.rd0 (hr.take m hmx)) (by omega)
    rw [hml, hid] at this
    exact this
  have HIF := hide hif
  have HM := hide (And.intro hm (And.intro htk hml))
  clear hif hr hA hid hm htk hml
  have hif2 : (if (10 : Int) < (xs.length : Int) then (10 : Int) else (xs.length : Int)) = (m : Int) := by split <;> omega
  go_enter Tryd.func59, Tryd.ntmps59
  go_wp2_with (go_at_call 60; refine (Err_any _ _ _ _ H.out).mono ?_; rintro r w' ⟨rfl, rfl⟩)
  go_quiet ((go_at_call 69; exact quiet_left' (HIF.out _ ⟨_, rfl⟩)))
  go_wp2_with fail
  · refine (fail_any g _ xs 0 11 (H.out.keep (Dr.fr ⟨_, rfl⟩))).mono ?_
    rintro r w1 ⟨rfl, hR, hf⟩
    go_wp2_with fail
    refine (fail_any g _ xs _ 10 hR).mono ?_
    rintro r w2 ⟨rfl, hR2, hf2⟩
    go_wp2_with fail
    go_ret
    refine ⟨rfl, ⟨_, ?_, hR2⟩, ((Fr.of_no (Dr.fr ⟨_, rfl⟩)).trans (T := At g) hf (fun _ h => .inl h)).trans hf2 (fun _ h => .inl h)⟩
    simp [failE]
  · refine (fail_any g _ xs 0 10 (H.out.keep (Dr.fr ⟨_, rfl⟩))).mono ?_
    rintro r w1 ⟨rfl, hR, hf⟩
    go_wp2_with fail
    go_ret
    exact ⟨rfl, ⟨_, by simp [failE], hR⟩, (Fr.of_no (Dr.fr ⟨_, rfl⟩)).trans hf (fun _ h => .inl h)⟩
/-- the number of bytes read as a varint's -/
def varX (xs : List Int) : Int := xs.foldl (fun x c => bits .or .u64 (IntKind.u64.wrap (x * 128)) (IntKind.u64.wrap (c % 128))) 0
theorem varX_snoc (xs : List Int) (c : Int) : varX (xs ++ [c]) = bits .or .u64 (IntKind.u64.wrap (varX xs * 128)) (IntKind.u64.wrap (c % 128)) := by simp [varX, List.foldl_append]
theorem bits_or_range (a b : Int) : 0 ≤ bits .or .u64 a b ∧ bits .or .u64 a b < 18446744073709551616 := by
  show 0 ≤ IntKind.u64.wrap _ ∧ IntKind.u64.wrap _ < _
  simp [IntKind.wrap, IntKind.bits, IntKind.signed]; omega
theorem varX_range (xs : List Int) : 0 ≤ varX xs ∧ varX xs < 18446744073709551616 := by
  rcases List.eq_nil_or_concat xs with rfl | ⟨l, c, rfl⟩
  · exact ⟨by decide, by decide⟩
  · rw [List.concat_eq_append, varX_snoc]
    exact bits_or_range _ _
def VarPost (g : Nat) (xs ys : List Int) (n : Nat) (r : Ending) (w' : World) : Prop :=
  if shortL (varX ys).toNat = ys then r = .returned (.int .u64 (varX ys)) ∧ IsR w' g (xs.drop n) 0 else r = .returned (.int .u64 0) ∧ ∃ e, e ≠ 0 ∧ IsR w' g xs e
set_option maxHeartbeats 1000000 in
theorem RVar_ok (g : Nat) (w : World) (xs : List Int) (h : IsR w g xs 0) (hs : xs.length ≤ 100000000) (hbs : Bs xs) (hn : 0 < varN xs) :
    Calls Tryd.prog 59 #[.pointer (some ⟨g, 0, none⟩)] w fun r w' =>
      VarPost g xs (xs.take (varN xs)) (varN xs) r w' ∧ Fr (At g) w w' := by
  have H := hide h
  obtain ⟨A, c, hb, hl, hA, hr, _⟩ := h
  have h0 : w.cell? ⟨g, 0, none⟩ = some (.slice A xs.length c) := blk_cell hb 0
  obtain ⟨m, hm⟩ : ∃ m, m = min xs.length 10 := ⟨_, rfl⟩
  have hmx : m ≤ xs.length := by omega
  have htk : xs.take 10 = xs.take m := by
    rcases Nat.le_total xs.length 10 with h | h
    · rw [List.take_of_length_le h, List.take_of_length_le (by omega)]
    · rw [hm, Nat.min_eq_right h]
  have hml : (xs.take m).length = m := by rw [List.length_take]; omega
  have e1 := cut28h A xs.length c m hmx hl
  obtain ⟨n, hnn⟩ : ∃ n, varN xs = n + 1 := ⟨varN xs - 1, by omega⟩
  have hid : idx (xs.take m) = (n : Int) := by
    unfold varN at hnn
    rw [htk] at hnn
    omega
  have hnm : n + 1 ≤ m := by
    unfold idx at hid
    split at hid
    · rename_i hh
      rw [hml] at hh
      omega
    · omega
  have hm10 : m ≤ 10 := by omega
  have hif : ∀ W, Dr w W → Calls Tryd.prog 69 #[.slice A m c, .func (.func 70) #[] #[]] W fun r w' => r = .returned (.int .i64 (n : Int)) ∧ W = w' := by
    intro W hd
    have := IndexFunc_any W A c (xs.take m) (hd.fr.rd0 (hr.take m hmx)) (by omega)
    rw [hml, hid] at this
    exact this
  have HIF := hide hif
  rw [hnn]
  obtain ⟨ys, hys⟩ : ∃ ys, xs.take (n + 1) = ys := ⟨_, rfl⟩
  have hyl : ys.length = n + 1 := by rw [← hys, List.length_take]; omega
  have hyb : Bs ys := by rw [← hys]; exact fun b hb' => hbs b (List.mem_of_mem_take hb')
  have hry : Rd w A ys := by rw [← hys]; exact hr.take _ (by omega)
  rw [hys]
  have hif2 : (if (10 : Int) < (xs.length : Int) then (10 : Int) else (xs.length : Int)) = (m : Int) := by split <;> omega
  have e2 := cut28h A xs.length c (n + 1) (by omega) hl
  rw [show ((n + 1 : Nat) : Int) = (n : Int) + 1 by omega] at e2
  have hz0 : (((n : Int) + 1) == 0) = false := by simp; omega
  have HY := hide (And.intro hys (And.intro hyl hr))
  have hyl1 : ys.length ≤ n + 1 := by omega
  have hyl2 : n + 1 ≤ ys.length := by omega
  clear hif hA hid hm htk hml hys hyl hr hnn hn
  go_enter Tryd.func59, Tryd.ntmps59
  go_wp2_with (go_at_call 60; refine (Err_any _ _ _ _ H.out).mono ?_; rintro r w' ⟨rfl, rfl⟩)
  go_quiet ((go_at_call 69; exact quiet_left' (HIF.out _ ⟨_, rfl⟩)))
  go_wp2_with fail
  have hryq := (Dr.fr ⟨nq, rfl⟩ : Fr No w (w.drewN nq)).rd0 hry
  go_loop [4, 42] (fun x i => ∃ k : Nat, k ≤ n + 1 ∧ i = .int .i64 k ∧ x = .int .u64 (varX (ys.take k))) (fun _ i => n + 1 - (intOf i).toNat)
  case atStart => exact ⟨0, Nat.zero_le _, rfl, by simp [varX]⟩
  case round =>
    obtain ⟨k, hk, rfl, rfl⟩ := hrel
    obtain ⟨v0, v1⟩ := varX_range (ys.take k)
    obtain ⟨c0, c1⟩ := getD_bs hyb k
    by_cases hlt : k < n + 1
    · obtain ⟨ad, rfl, hc⟩ := hryq.2.2 (by omega)
      have hck := hc k (by omega)
      have HC := hide hc
      have HRY := hide (And.intro hry hryq)
      clear hc hry hryq
      go_wp2
      go_round
      case rel =>
        refine ⟨k + 1, by omega, by go_num, ?_⟩
        rw [take_snoc' (by omega), varX_snoc, ← List.getD_eq_getElem?_getD, Int.tmod_eq_emod_of_nonneg c0]
      case measure => simp [intOf]; omega
    · have hkn : k = n + 1 := by omega
      subst hkn
      have hfull : ys.take (n + 1) = ys := List.take_of_length_le (by omega)
      obtain ⟨X, hX⟩ : ∃ X : Nat, varX ys = (X : Int) := ⟨(varX ys).toNat, by have := varX_range ys; omega⟩
      have hXl : X < 18446744073709551616 := by have := varX_range ys; omega
      rw [hfull, hX]
      have hc2 : (w.drewN nq).cell? ⟨g, 0, none⟩ = some (.slice A xs.length c) := h0
      have HYL := hide (show ys.length = n + 1 by omega)
      have HF := hide (And.intro hfull hX)
      clear hfull hX
      have hEq : ∀ (W : World) (As : Option Addr) (cs : Nat) (zs : List Int), Rd W As zs → Rd W A ys → zs.length ≤ 100000000 → Calls Tryd.prog 71 #[.slice As zs.length cs, .slice A (n + 1) c] W fun r w' => r = .returned (.bool (decide (zs = ys))) ∧ Dr W w' := by
        intro W As cs zs h1 h2 h3
        have := Equal_any W As A cs c zs ys h1 h2 h3 (by omega)
        rw [HYL.out] at this
        exact this
      have HEQ := hide hEq
      clear hEq
      by_cases hq : shortL X = ys
      · have hd : decide (shortL X = ys) = true := decide_eq_true hq
        have HQ := hide hq
        clear hq
        go_wp2_with fail
        go_region_held3 (fun w' => w'.cell? ⟨g, 0, none⟩ = some (.slice A xs.length c)) (first | exact hc2 | exact hcc2 | exact hcc)
          (first | (go_at_call 63; refine (short_any X _ hXl).mono ?_; rintro e w1 ⟨v, rfl, hm1, hb1⟩; obtain ⟨As, cs, rfl, hlc1, hrd1⟩ := hm1.rd; have hfs := Fr.of_below (S := No) hb1 (Nat.le_refl _); have hcc := hfs.cell hc2 (fun h => h); have hry1 := hfs.rd0 hryq) | (go_at_call 71; refine (HEQ.out _ As cs _ hrd1 hry1 (by have := shortL_len X hXl; omega)).mono ?_; rintro e w2 ⟨rfl, hd2⟩; have hcc2 := hd2.fr.cell hcc (fun h => h)))
        have hfr : Fr No w w2 := ((Dr.fr ⟨nq + 1, rfl⟩ : Fr No w (w.drewN (nq + 1))).trans hfs (fun _ h => .inl h)).trans hd2.fr (fun _ h => .inl h)
        have hR2 := hide (And.intro hfr (H.out.keep hfr))
        clear hfr hm1
        go_wp2_with fail
        refine (take_ok g w2 xs (n + 1) hR2.out.2 (by omega) hs).mono ?_
        rintro r w3 ⟨A3, rfl, _, _, hR3, hf3⟩
        go_wp2_with fail
        go_ret
        refine ⟨?_, (Fr.of_no hR2.out.1).trans hf3 (fun _ h => .inl h)⟩
        unfold VarPost
        rw [HF.out.2, if_pos (by simpa using HQ.out)]
        exact ⟨rfl, hR3⟩
      · have hd : decide (shortL X = ys) = false := decide_eq_false hq
        have HQ := hide hq
        clear hq
        go_wp2_with fail
        go_region_held3 (fun w' => w'.cell? ⟨g, 0, none⟩ = some (.slice A xs.length c)) (first | exact hc2 | exact hcc2 | exact hcc)
          (first | (go_at_call 63; refine (short_any X _ hXl).mono ?_; rintro e w1 ⟨v, rfl, hm1, hb1⟩; obtain ⟨As, cs, rfl, hlc1, hrd1⟩ := hm1.rd; have hfs := Fr.of_below (S := No) hb1 (Nat.le_refl _); have hcc := hfs.cell hc2 (fun h => h); have hry1 := hfs.rd0 hryq) | (go_at_call 71; refine (HEQ.out _ As cs _ hrd1 hry1 (by have := shortL_len X hXl; omega)).mono ?_; rintro e w2 ⟨rfl, hd2⟩; have hcc2 := hd2.fr.cell hcc (fun h => h)))
        have hfr : Fr No w w2 := ((Dr.fr ⟨nq + 1, rfl⟩ : Fr No w (w.drewN (nq + 1))).trans hfs (fun _ h => .inl h)).trans hd2.fr (fun _ h => .inl h)
        have hR2 := hide (And.intro hfr (H.out.keep hfr))
        clear hfr hm1
        go_wp2_with fail
        refine (fail_any g w2 xs 0 11 hR2.out.2).mono ?_
        rintro r w3 ⟨rfl, hR3, hf3⟩
        go_wp2_with fail
        go_ret
        refine ⟨?_, (Fr.of_no hR2.out.1).trans hf3 (fun _ h => .inl h)⟩
        unfold VarPost
        rw [HF.out.2, if_neg (by simpa using HQ.out)]
        exact ⟨rfl, _, by simp [failE], hR3⟩
/-- a number is there -/
def OkVar (xs : List Int) (e : Int) : Prop := e = 0 ∧ 0 < varN xs ∧ shortL (varX (xs.take (varN xs))).toNat = xs.take (varN xs)
theorem RVar_any (g : Nat) (w : World) (xs : List Int) (e : Int) (h : IsR w g xs e) (hs : xs.length ≤ 100000000) (hbs : Bs xs) :
    Calls Tryd.prog 59 #[.pointer (some ⟨g, 0, none⟩)] w fun r w' =>
      ((OkVar xs e ∧ r = .returned (.int .u64 (varX (xs.take (varN xs)))) ∧ IsR w' g (xs.drop (varN xs)) 0) ∨ (¬ OkVar xs e ∧ r = .returned (.int .u64 0) ∧ ∃ e, e ≠ 0 ∧ IsR w' g xs e)) ∧ Fr (At g) w w' := by
  by_cases he : e = 0
  · subst he
    by_cases hn : varN xs = 0
    · exact (RVar_none g w xs h hs hn).mono fun r w' ⟨h1, h2, h3⟩ => ⟨.inr ⟨fun hk => by have := hk.2.1; omega, h1, h2⟩, h3⟩
    · refine (RVar_ok g w xs h hs hbs (by omega)).mono fun r w' ⟨h1, h3⟩ => ⟨?_, h3⟩
      unfold VarPost at h1
      by_cases hq : shortL (varX (xs.take (varN xs))).toNat = xs.take (varN xs)
      · rw [if_pos hq] at h1
        exact .inl ⟨⟨rfl, by omega, hq⟩, h1⟩
      · rw [if_neg hq] at h1
        exact .inr ⟨fun hk => hq hk.2.2, h1⟩
  · exact (RVar_err g w xs e h he).mono fun r w' ⟨h1, h2⟩ => ⟨.inr ⟨fun hk => he hk.1, h1, e, he, by subst h2; exact h⟩, by subst h2; exact Fr.refl _ _⟩
/-- bytes are there, with how many they are ahead -/
def OkBytes (xs : List Int) (e : Int) : Prop := OkVar xs e ∧ (varX (xs.take (varN xs))).toNat ≤ (xs.drop (varN xs)).length
def bytesGot (xs : List Int) : List Int := (xs.drop (varN xs)).take (varX (xs.take (varN xs))).toNat
def bytesRest (xs : List Int) : List Int := (xs.drop (varN xs)).drop (varX (xs.take (varN xs))).toNat
def BytesBad (w : World) (g : Nat) (xs : List Int) (v : Value) (w' : World) : Prop := Mine w w' v [] ∧ ∃ ys e, e ≠ 0 ∧ ys.length ≤ xs.length ∧ Bs ys ∧ IsR w' g ys e
def BytesGood (w : World) (g : Nat) (xs : List Int) (v : Value) (w' : World) : Prop := Mine w w' v (bytesGot xs) ∧ IsR w' g (bytesRest xs) 0
set_option maxHeartbeats 1000000 in
theorem RBytes_any (g : Nat) (w : World) (xs : List Int) (e : Int) (h : IsR w g xs e) (hs : xs.length ≤ 100000000) (hbs : Bs xs) :
    Calls Tryd.prog 35 #[.pointer (some ⟨g, 0, none⟩), .int .i64 xs.length] w fun r w' => ∃ v, r = .returned v ∧
      ((OkBytes xs e ∧ BytesGood w g xs v w') ∨ (¬ OkBytes xs e ∧ BytesBad w g xs v w')) ∧ Fr (At g) w w' := by
  have H := hide h
  have HB := hide hbs
  have d0 : decide ((xs.length : Int) < 0) = false := decide_eq_false (by omega)
  clear h
  by_cases hok : OkVar xs e
  · obtain ⟨X, hX⟩ : ∃ X : Nat, varX (xs.take (varN xs)) = (X : Int) := ⟨(varX (xs.take (varN xs))).toNat, by have := varX_range (xs.take (varN xs)); omega⟩
    have hXl : X < 18446744073709551616 := by have := varX_range (xs.take (varN xs)); omega
    have hvar : ∀ (r : Ending) (w' : World), (((OkVar xs e ∧ r = .returned (.int .u64 (varX (xs.take (varN xs)))) ∧ IsR w' g (xs.drop (varN xs)) 0) ∨ (¬ OkVar xs e ∧ r = .returned (.int .u64 0) ∧ ∃ e, e ≠ 0 ∧ IsR w' g xs e)) ∧ Fr (At g) w w') → r = .returned (.int .u64 X) ∧ IsR w' g (xs.drop (varN xs)) 0 ∧ Fr (At g) w w' := by
      rintro r w' ⟨h | h, hf⟩
      · rw [hX] at h
        exact ⟨h.2.1, h.2.2, hf⟩
      · exact absurd hok h.1
    have hV := hide ((RVar_any g w xs e H.out hs hbs).mono hvar)
    have hOB : OkBytes xs e ↔ X ≤ (xs.drop (varN xs)).length := by unfold OkBytes; rw [hX]; simp [hok]
    have hG : bytesGot xs = (xs.drop (varN xs)).take X := by unfold bytesGot; rw [hX]; rfl
    have hR : bytesRest xs = (xs.drop (varN xs)).drop X := by unfold bytesRest; rw [hX]; rfl
    obtain ⟨ys, hys⟩ : ∃ ys, xs.drop (varN xs) = ys := ⟨_, rfl⟩
    have hyl : ys.length ≤ xs.length := by rw [← hys, List.length_drop]; omega
    have hyb : Bs ys := by rw [← hys]; exact fun b hb => hbs b (List.mem_of_mem_drop hb)
    rw [hys] at hV hOB hG hR
    have HG := hide (And.intro hG (And.intro hR (And.intro hOB hyb)))
    clear hys hX hok hvar hOB hG hR hyb hbs
    by_cases hbig : xs.length < X
    · have hw : IntKind.u64.wrap (xs.length : Int) = (xs.length : Int) := IntWalk.u64_in _ (by omega)
      have d1 : decide ((xs.length : Int) < (X : Int)) = true := decide_eq_true (by omega)
      have d2 : decide (xs.length < X) = true := decide_eq_true hbig
      go_enter Tryd.func35, Tryd.ntmps35
      go_wp2_with fail
      refine hV.out.mono ?_
      rintro r w1 ⟨rfl, hR1, hf1⟩
      have HR1 := hide hR1
      clear hR1
      go_wp2_with (first | (go_at_call 60; refine (Err_any _ _ _ _ HR1.out).mono ?_; rintro r w' ⟨rfl, rfl⟩) | (go_at_call 57; refine (fail_any g _ ys 0 13 HR1.out).mono ?_; rintro r w2 ⟨rfl, hR2, hf2⟩))
      go_ret
      exact ⟨_, rfl, .inr ⟨fun hk => by have := HG.out.2.2.1.1 hk; omega, own_nil _ _ _ _, ys, _, by simp [failE], hyl, HG.out.2.2.2, hR2⟩, hf1.trans hf2 (fun _ h => .inl h)⟩
    · have hw : IntKind.u64.wrap (xs.length : Int) = (xs.length : Int) := IntWalk.u64_in _ (by omega)
      have d1 : decide ((xs.length : Int) < (X : Int)) = false := decide_eq_false (by omega)
      have d2 : decide (xs.length < X) = false := decide_eq_false hbig
      have hXs : X ≤ 100000000 := by omega
      by_cases hfit : X ≤ ys.length
      · go_enter Tryd.func35, Tryd.ntmps35
        go_wp2_with fail
        refine hV.out.mono ?_
        rintro r w1 ⟨rfl, hR1, hf1⟩
        have HR1 := hide hR1
        clear hR1
        go_wp2_with (first | (go_at_call 60; refine (Err_any _ _ _ _ HR1.out).mono ?_; rintro r w' ⟨rfl, rfl⟩) | (go_at_call 61; refine (RRaw_ok g _ ys X HR1.out hfit (by omega)).mono ?_; rintro r w2 ⟨v, rfl, hm2, hR2, hf2⟩))
        go_ret
        refine ⟨_, rfl, .inl ⟨HG.out.2.2.1.2 hfit, ?_, ?_⟩, hf1.trans hf2 (fun _ h => .inl h)⟩
        · rw [HG.out.1]
          exact own_weaken hm2 hf1.size
        · rw [HG.out.2.1]
          exact hR2
      · go_enter Tryd.func35, Tryd.ntmps35
        go_wp2_with fail
        refine hV.out.mono ?_
        rintro r w1 ⟨rfl, hR1, hf1⟩
        have HR1 := hide hR1
        clear hR1
        go_wp2_with (first | (go_at_call 60; refine (Err_any _ _ _ _ HR1.out).mono ?_; rintro r w' ⟨rfl, rfl⟩) | (go_at_call 61; refine (RRaw_no g _ ys 0 X HR1.out (.inr (by omega)) (by omega)).mono ?_; rintro r w2 ⟨v, rfl, hm2, hR2, hf2⟩))
        go_ret
        refine ⟨_, rfl, .inr ⟨fun hk => hfit (HG.out.2.2.1.1 hk), own_weaken hm2 hf1.size, ys, _, ?_, hyl, HG.out.2.2.2, hR2⟩, hf1.trans hf2 (fun _ h => .inl h)⟩
        unfold takeE
        rw [if_pos (by omega)]
        simp [failE]
  · have hvar : ∀ (r : Ending) (w' : World), (((OkVar xs e ∧ r = .returned (.int .u64 (varX (xs.take (varN xs)))) ∧ IsR w' g (xs.drop (varN xs)) 0) ∨ (¬ OkVar xs e ∧ r = .returned (.int .u64 0) ∧ ∃ e, e ≠ 0 ∧ IsR w' g xs e)) ∧ Fr (At g) w w') → r = .returned (.int .u64 0) ∧ (∃ e, e ≠ 0 ∧ IsR w' g xs e) ∧ Fr (At g) w w' := by
      rintro r w' ⟨h | h, hf⟩
      · exact absurd h.1 hok
      · exact ⟨h.2.1, h.2.2, hf⟩
    have hV := hide ((RVar_any g w xs e H.out hs hbs).mono hvar)
    have HN := hide hok
    clear hok hvar hbs
    go_enter Tryd.func35, Tryd.ntmps35
    go_wp2_with fail
    refine hV.out.mono ?_
    rintro r w1 ⟨rfl, ⟨e1, he1, hR1⟩, hf1⟩
    have HR1 := hide hR1
    have hd : (e1 != 0) = true := by simpa using he1
    have HE1 := hide he1
    clear hR1 he1
    go_wp2_with (first | (go_at_call 60; refine (Err_any _ _ _ _ HR1.out).mono ?_; rintro r w' ⟨rfl, rfl⟩))
    go_ret
    exact ⟨_, rfl, .inr ⟨fun hk => HN.out hk.1, own_nil _ _ _ _, xs, e1, HE1.out, Nat.le_refl _, HB.out, HR1.out⟩, hf1⟩
end Go.Proofs.YtkgffeclgapkbaaDoor
namespace Go.Proofs.YtkgffeclgapkbaaDoor
open Go.RowKit Go.Proofs.YtkgffeclgapkbaaDoorW.PrintWords
set_option linter.unusedVariables false
set_option linter.unusedSimpArgs false
set_option maxRecDepth 100000
theorem own_cut0 {w : World} {base n : Nat} {A : Option Addr} {c : Nat} {xs : List Value} (h : w.ownsRow base 5 1 (.slice A n c) n xs) (hn : 0 < n) : w.ownsRow base 5 1 (.slice A 0 c) 0 [] := by
  rcases h.2 with ⟨h1, h0⟩ | ⟨g, cap, cur, h1, hb, hh, hnc, hcap, hsz, htk⟩
  · omega
  · injection h1 with h2 h3 h4
    subst h2
    subst h4
    exact ⟨rfl, .inr ⟨g, c, cur, rfl, hb, hh, Nat.zero_le _, hcap, hsz, by simp⟩⟩
theorem top0 (A : Option Addr) (l c : Nat) (W : World) : (Instr.slice 28 (.slice A l c) none (some (.int .i64 0)) none).run Tryd.prog W = .ok (.slice A 0 c) W := by
  obtain ⟨i0, hi0, _, hz1, _⟩ := info_parts info5
  have hel : Tryd.prog.elem 28 = 5 := by simp [Program.elem, Tryd.underlying28]
  have hu : Tryd.prog.underlying 28 = some (.slice (Tryd.prog.elem 28)) := by rw [hel]; exact Tryd.underlying28
  have ha : (A.map fun x => x.add 0) = A := by cases A <;> simp [Addr.add]
  rw [run_slice_h W 28 A l c hu .i64 0 (by omega) (by omega), hel]
  simp [sizeOf, typeInfo, hi0, hz1, sliced, Result.andThen, ha]
set_option maxHeartbeats 1000000 in
/-- slices.Grow(nil, n) at bytes -/
theorem Grow_nil (n : Nat) (w : World) (hn : n ≤ 100000000) :
    Calls Tryd.prog 62 #[.slice none 0 0, .int .i64 n] w fun e w' => ∃ v, e = .returned v ∧ Mine w w' v [] ∧ Fr No w w' := by
  by_cases h0 : n = 0
  · subst h0
    go_enter Tryd.func62, Tryd.ntmps62
    go_wp2
    go_ret
    exact ⟨_, rfl, own_nil _ _ _ _, Fr.refl _ _⟩
  · have hp : 0 < n := by omega
    have d1 : decide ((0 : Int) < (n : Int)) = true := decide_eq_true (by omega)
    have d2 : decide (0 < n) = true := decide_eq_true hp
    have d3 : decide ((n : Int) < 0) = false := decide_eq_false (by omega)
    have HB := hide (Below.refl w.heap.size w)
    have e1 := top0
    go_enter Tryd.func62, Tryd.ntmps62
    go_wp2_with (at_builtin; go_loud (refine Kd.R_append_zeros B8 (w0 := w) w.heap.size rfl (.tmp 20) (.tmp 21) 28 3 5 (.int .u8 0) 1 rfl Tryd.underlying28 Tryd.underlying3 info5 rfl (by decide) (by decide) (.slice none 0 0) [] 0 (kx := .i64) (n : Int) (fun _ => True) rfl rfl rfl (fun _ _ => trivial) (Kd.R_nil _ _ _ _ _) (by omega) HB.out (Nat.le_refl _) (by simp; omega) ?_); intro v1 w1 ho1 hb1 hg1 hat1; have ho2 := Kd.own_of_R ho1; simp only [List.nil_append, List.length_replicate, Int.toNat_natCast] at ho2; obtain ⟨A1, c1, rfl⟩ := own_row ho2; clear ho1)
    go_ret
    exact ⟨_, rfl, own_cut0 ho2 hp, Fr.of_below hb1 (Nat.le_refl _)⟩
/-- A slice of slices of bytes that is read. -/
def RdS (w : World) (A : Option Addr) (ps : List (List Int)) : Prop :=
  0 < ps.length → ∃ ad, A = some ad ∧ ∀ j, j < ps.length → ∃ Aj cj, w.cell? (ad.add j) = some (.slice Aj (ps.getD j []).length cj) ∧ Rd w Aj (ps.getD j [])
theorem RdS.keep {w w1 : World} {A : Option Addr} {ps : List (List Int)} (h : RdS w A ps) (hf : Fr No w w1) : RdS w1 A ps := fun h0 => by
  obtain ⟨ad, e, hc⟩ := h h0
  refine ⟨ad, e, fun j hj => ?_⟩
  obtain ⟨Aj, cj, h1, h2⟩ := hc j hj
  exact ⟨Aj, cj, hf.cell h1 (fun h => h), hf.rd0 h2⟩
def total (ps : List (List Int)) : Nat := ps.flatten.length
theorem flatten_take_succ (ps : List (List Int)) (k : Nat) (h : k < ps.length) : (ps.take (k + 1)).flatten = (ps.take k).flatten ++ ps.getD k [] := by
  rw [List.take_succ_eq_append_getElem h, List.flatten_append, List.getD_eq_getElem?_getD, List.getElem?_eq_getElem h]
  simp
theorem flatten_take_le (ps : List (List Int)) (k : Nat) : (ps.take k).flatten.length ≤ total ps := by
  have : ps.flatten = (ps.take k).flatten ++ (ps.drop k).flatten := by rw [← List.flatten_append, List.take_append_drop]
  unfold total
  rw [this, List.length_append]
  omega
set_option maxHeartbeats 1000000 in
/-- slices.Concat at bytes -/
theorem Concat_any (A : Option Addr) (c : Nat) (ps : List (List Int)) (w : World) (hr : RdS w A ps) (hn : ps.length ≤ 1000) (ht : total ps ≤ 10000000) :
    Calls Tryd.prog 39 #[.slice A ps.length c] w fun e w' => ∃ v, e = .returned v ∧ Mine w w' v ps.flatten ∧ Fr No w w' := by
  go_enter Tryd.func39, Tryd.ntmps39
  go_wp2_with fail
  go_loop [3, 11] (fun s i => ∃ k : Nat, k ≤ ps.length ∧ i = .int .i64 k ∧ s = .int .i64 (ps.take k).flatten.length) (fun _ i => ps.length - (intOf i).toNat)
  case atStart => exact ⟨0, Nat.zero_le _, rfl, rfl⟩
  case round =>
    obtain ⟨k, hk, rfl, rfl⟩ := hrel
    by_cases hlt : k < ps.length
    · obtain ⟨ad, rfl, hc⟩ := hr (by omega)
      obtain ⟨Aj, cj, h1, h2⟩ := hc k hlt
      have l1 := flatten_take_le ps k
      have l2 := flatten_take_le ps (k + 1)
      have l3 := congrArg List.length (flatten_take_succ ps k hlt)
      rw [List.length_append] at l3
      obtain ⟨m, hm⟩ : ∃ m, (ps.take k).flatten.length = m := ⟨_, rfl⟩
      obtain ⟨q, hq⟩ : ∃ q, (ps.getD k []).length = q := ⟨_, rfl⟩
      rw [hm] at l1 l3
      rw [hq] at l3 h1
      rw [l3] at l2
      have HL := hide (And.intro l3 (And.intro hm h2))
      have HR := hide (And.intro hr hc)
      rw [hm]
      clear l3 hm hq h2 hr hc
      have d1 : decide ((m : Int) + (q : Int) < 0) = false := decide_eq_false (by omega)
      go_wp2
      go_round
      case rel => exact ⟨k + 1, by omega, by go_num, by rw [HL.out.1]; go_num⟩
      case measure => simp [intOf]; omega
    · have hk2 : k = ps.length := by omega
      subst hk2
      have e0 : (ps.take ps.length).flatten.length = total ps := by rw [List.take_length]; rfl
      rw [e0]
      clear e0
      go_wp2_with (go_at_call 62; refine (Grow_nil (total ps) w (by omega)).mono ?_; rintro e w1 ⟨v, rfl, hm, hf⟩)
      have HM := hide (show Mine w w1 v [] from by have := own_weaken hm (Nat.le_refl _); exact this)
      have HF := hide hf
      have HR := hide hr
      clear hm hf hr
      go_loopw [6, 27] (fun v i wr => ∃ k : Nat, k ≤ ps.length ∧ i = .int .i64 k ∧ Aside0 (Mine w wr v (ps.take k).flatten) ∧ Aside0 (Fr No w wr)) (fun _ i _ => ps.length - (intOf i).toNat)
      case atStart => exact ⟨0, Nat.zero_le _, rfl, HM, HF⟩
      case round =>
        clear HM HF
        obtain ⟨k, hk, rfl, HM, HF⟩ := hrel
        obtain ⟨As, cs, rfl, hls, hrs⟩ := HM.out.rd
        have l1 := flatten_take_le ps k
        by_cases hlt : k < ps.length
        · obtain ⟨ad, rfl, hc⟩ := (RdS.keep HR.out HF.out) (by omega)
          obtain ⟨Aj, cj, h1, h2⟩ := hc k hlt
          have l2 := flatten_take_le ps (k + 1)
          have l3 := flatten_take_succ ps k hlt
          have l4 := congrArg List.length l3
          rw [List.length_append] at l4
          obtain ⟨ys, hys⟩ : ∃ ys, ps.getD k [] = ys := ⟨_, rfl⟩
          obtain ⟨xs, hxs⟩ : ∃ xs, (ps.take k).flatten = xs := ⟨_, rfl⟩
          have ho : wr.ownsRow w.heap.size 5 1 (.slice As (ps.take k).flatten.length cs) (ps.take k).flatten.length (nums .u8 (ps.take k).flatten) := HM.out
          rw [hys] at h1 h2 l3 l4
          rw [hxs] at ho l3 l4 l1
          rw [l4] at l2
          have HL := hide (And.intro l3 (And.intro hxs (And.intro hc hrs)))
          have HB := hide HF.out.no
          rw [hxs]
          clear l3 l4 hxs hys hc hrs HM
          go_wp2_with (at_builtin; go_loud (refine print_append_row (w0 := w) w.heap.size rfl (.tmp 31) (.tmp 32) 28 5 .u8 1 rfl Tryd.underlying28 info5 (by decide) (.slice As xs.length cs) xs ys Aj ys.length cj rfl rfl ho h2 HB.out HB.out.size (by omega) ?_); intro v1 w2 hown1 hb1 hgrow hat)
          go_roundw
          case rel => exact ⟨k + 1, by omega, by go_num, ⟨by rw [HL.out.1]; exact hown1⟩, ⟨Fr.of_below hb1 (Nat.le_refl _)⟩⟩
          case measure => simp [intOf]; omega
        · have hk2 : k = ps.length := by omega
          subst hk2
          have e0 := hide (show (ps.take ps.length).flatten = ps.flatten by rw [List.take_length])
          clear hrs
          go_wp2_with fail
          go_ret
          exact ⟨_, rfl, by have := HM.out; rw [e0.out] at this; simpa using this, HF.out⟩
end Go.Proofs.YtkgffeclgapkbaaDoor
namespace Go.Proofs.YtkgffeclgapkbaaDoor
open Go.RowKit Go.Proofs.YtkgffeclgapkbaaDoorW.PrintWords
set_option linter.unusedVariables false
set_option linter.unusedSimpArgs false
set_option maxRecDepth 100000
/-- A new block of one byte reads. -/
theorem rd_new1 (w : World) (x : Int) : Rd (w.alloc (.cells #[.int .u8 x] 5)) (some ⟨w.heap.size, 0, none⟩) [x] :=
  ⟨rfl, by simp, fun _ => ⟨_, rfl, fun j hj => by
    have : j = 0 := by simp at hj; omega
    subst this
    rw [add_plain, cell_of_row _ _ _ _ _ _ (heap_alloc_new w _)]
    rfl⟩⟩
/-- A new block of slices reads. -/
theorem rdS_new2 (w : World) (A0 A1 : Option Addr) (c0 c1 n0 n1 : Nat) (x0 x1 : List Int) (h0 : Rd w A0 x0) (h1 : Rd w A1 x1) (e0 : n0 = x0.length) (e1 : n1 = x1.length) :
    RdS (w.alloc (.cells #[.slice A0 n0 c0, .slice A1 n1 c1] 28)) (some ⟨w.heap.size, 0, none⟩) [x0, x1] := fun _ => by
  subst e0 e1
  have hf := (Fr.refl No w).alloc (.cells #[.slice A0 x0.length c0, .slice A1 x1.length c1] 28)
  refine ⟨_, rfl, fun j hj => ?_⟩
  rw [add_plain, cell_of_row _ _ _ _ _ _ (heap_alloc_new w _)]
  match j, hj with
  | 0, _ => exact ⟨A0, c0, rfl, hf.rd0 h0⟩
  | 1, _ => exact ⟨A1, c1, rfl, hf.rd0 h1⟩
theorem rdS_new3 (w : World) (A0 A1 A2 : Option Addr) (c0 c1 c2 n0 n1 n2 : Nat) (x0 x1 x2 : List Int) (h0 : Rd w A0 x0) (h1 : Rd w A1 x1) (h2 : Rd w A2 x2) (e0 : n0 = x0.length) (e1 : n1 = x1.length) (e2 : n2 = x2.length) :
    RdS (w.alloc (.cells #[.slice A0 n0 c0, .slice A1 n1 c1, .slice A2 n2 c2] 28)) (some ⟨w.heap.size, 0, none⟩) [x0, x1, x2] := fun _ => by
  subst e0 e1 e2
  have hf := (Fr.refl No w).alloc (.cells #[.slice A0 x0.length c0, .slice A1 x1.length c1, .slice A2 x2.length c2] 28)
  refine ⟨_, rfl, fun j hj => ?_⟩
  rw [add_plain, cell_of_row _ _ _ _ _ _ (heap_alloc_new w _)]
  match j, hj with
  | 0, _ => exact ⟨A0, c0, rfl, hf.rd0 h0⟩
  | 1, _ => exact ⟨A1, c1, rfl, hf.rd0 h1⟩
  | 2, _ => exact ⟨A2, c2, rfl, hf.rd0 h2⟩
theorem rdS_new1 (w : World) (A0 : Option Addr) (c0 n0 : Nat) (x0 : List Int) (h0 : Rd w A0 x0) (e0 : n0 = x0.length) :
    RdS (w.alloc (.cells #[.slice A0 n0 c0] 28)) (some ⟨w.heap.size, 0, none⟩) [x0] := fun _ => by
  subst e0
  have hf := (Fr.refl No w).alloc (.cells #[.slice A0 x0.length c0] 28)
  refine ⟨_, rfl, fun j hj => ?_⟩
  rw [add_plain, cell_of_row _ _ _ _ _ _ (heap_alloc_new w _)]
  match j, hj with
  | 0, _ => exact ⟨A0, c0, rfl, hf.rd0 h0⟩
theorem Fr.then0 {w w1 w2 : World} (h : Fr No w w1) (k : Fr No w1 w2) : Fr No w w2 := h.trans k (fun _ h => .inl h)
theorem Mine.lower {w0 w1 w2 : World} {v : Value} {xs : List Int} (h : Mine w1 w2 v xs) (hs : w0.heap.size ≤ w1.heap.size) : Mine w0 w2 v xs := own_weaken h hs
set_option maxHeartbeats 1000000 in
theorem key_any (s : Int) (A : Option Addr) (c : Nat) (ps : List (List Int)) (w : World) (hr : RdS w A ps) (hn : ps.length ≤ 900) (ht : total ps ≤ 9000000) :
    Calls Tryd.prog 41 #[.int .u8 s, .slice A ps.length c] w fun e w' => ∃ v, e = .returned v ∧ Mine w w' v (s :: ps.flatten) ∧ Fr No w w' := by
  have HR := hide hr
  obtain ⟨zs, hzs⟩ : ∃ zs, ps.flatten = zs := ⟨_, rfl⟩
  have hzl : zs.length ≤ 9000000 := by rw [← hzs]; exact ht
  rw [hzs]
  have HZ := hide hzs
  clear hr hzs
  go_enter Tryd.func41, Tryd.ntmps41
  go_wp2_with fail
  have hf0 : Fr No w (w.alloc (.cells #[.int .u8 s] 5)) := (Fr.refl No w).alloc _
  refine (Concat_any A c ps _ (HR.out.keep hf0) (by omega) (by omega)).mono ?_
  rintro e w1 ⟨v, rfl, hm, hf⟩
  rw [HZ.out] at hm
  obtain ⟨A1, c1, rfl, hl1, hr1⟩ := hm.rd
  have hr0 := hf.rd0 (rd_new1 w s)
  have HM := hide (And.intro hf0 (And.intro hf (And.intro hr0 hr1)))
  clear hm hf0 hf hr0 hr1
  go_wp2_with fail
  have hrs := rdS_new2 w1 (some ⟨w.heap.size, 0, none⟩) A1 1 c1 1 zs.length [s] zs HM.out.2.2.1 HM.out.2.2.2 rfl rfl
  refine (Concat_any (some ⟨w1.heap.size, 0, none⟩) 2 [[s], zs] _ hrs (by simp) (by unfold total; simp; omega)).mono ?_
  rintro e w2 ⟨v, rfl, hm2, hf2⟩
  go_wp2_with fail
  go_ret
  have hfr : Fr No w w2 := ((HM.out.1.then0 HM.out.2.1).alloc _).then0 hf2
  refine ⟨_, rfl, ?_, hfr⟩
  have := Mine.lower (w0 := w) hm2 (by have := (HM.out.1.then0 HM.out.2.1).size; simp; omega)
  simpa using this
theorem Mine.next {w0 w1 w2 : World} {A : Option Addr} {n c : Nat} {xs : List Int} (hm : Mine w0 w1 (.slice A n c) xs) (hf : Fr No w1 w2) : n = xs.length ∧ Rd w2 A xs := by
  obtain ⟨A1, c1, e, hl1, hr1⟩ := hm.rd
  injection e with e1 e2 e3
  subst e1
  exact ⟨e2, hf.rd0 hr1⟩
set_option maxHeartbeats 1000000 in
theorem NextKey_any (w : World) : Calls Tryd.prog 22 #[] w fun e w' => ∃ v, e = .returned v ∧ Mine w w' v [115] ∧ Fr No w w' := by
  go_enter Tryd.func22, Tryd.ntmps22
  go_wp2_with fail
  refine (key_any 115 none 0 [] w (fun h => absurd h (by simp)) (by simp) (by simp [total])).mono ?_
  rintro e w1 ⟨v, rfl, hm, hf⟩
  go_wp2_with fail
  go_ret
  exact ⟨_, rfl, hm, hf⟩
theorem be_len (x : Int) (n k : Nat) : (be x n k).length = k := by simp [be]
/-- num's slice, its length written out -/
theorem num_len (x : Int) (n : Nat) (w : World) (hx0 : 0 ≤ x) (hx : x < 18446744073709551616) (h1 : 1 ≤ n) (h2 : n ≤ 8) :
    Calls Tryd.prog 40 #[.int .u64 x, .int .i64 n] w fun e w' => ∃ A c, e = .returned (.slice A n c) ∧ Rd w' A (be x n n) ∧ Fr No w w' :=
  (num_any x n w hx0 hx h1 h2).mono fun e w' ⟨v, he, hm, hf⟩ => by
    obtain ⟨A1, c1, rfl, hl1, hr1⟩ := hm.rd
    rw [be_len] at he
    exact ⟨A1, c1, he, hr1, hf⟩
theorem bytes_fr (w : World) (s : ByteArray) : Fr No w (Lib.bytesWorld w 5 s) := Fr.of_below (bytes_below (Below.refl w.heap.size w) (Nat.le_refl _) 5 s) (Nat.le_refl _)
set_option maxHeartbeats 1000000 in
theorem CollKey_any (s : ByteArray) (w : World) (hs : s.size ≤ 1000000) : Calls Tryd.prog 18 #[.string s] w fun e w' => ∃ v, e = .returned v ∧ Mine w w' v (99 :: bytesOf s) ∧ Fr No w w' := by
  have kb := fun W => print_bytes (P := Tryd.prog) 9 28 5 Tryd.underlying9 Tryd.underlying28 Tryd.underlying5 s W
  have hl := bytesOf_length s
  have hrd : Rd (Lib.bytesWorld w 5 s) (some ⟨w.heap.size, 0, none⟩) (bytesOf s) := by
    have := bytes_reads w 5 s (by omega)
    unfold Rd
    rw [hl]
    exact this
  have HH := hide (And.intro hl hrd)
  clear hl hrd
  go_enter Tryd.func18, Tryd.ntmps18
  go_wp2_with fail
  refine (key_any 99 (some ⟨(Lib.bytesWorld w 5 s).heap.size, 0, none⟩) 1 [bytesOf s] _ (rdS_new1 (Lib.bytesWorld w 5 s) (some ⟨w.heap.size, 0, none⟩) _ s.size (bytesOf s) HH.out.2 HH.out.1.symm) (by simp) (by simp [total, HH.out.1]; omega)).mono ?_
  rintro e w1 ⟨v, rfl, hm, hf⟩
  go_wp2_with fail
  go_ret
  have h0 := (bytes_fr w s).alloc (.cells #[.slice (some ⟨w.heap.size, 0, none⟩) s.size (grownCap w s.size 0 5)] 28)
  exact ⟨_, rfl, by simpa using Mine.lower hm h0.size, h0.then0 hf⟩
set_option maxHeartbeats 1000000 in
theorem DocFront_any (x : Nat) (w : World) (hx : x < 4294967296) : Calls Tryd.prog 20 #[.int .u32 x] w fun e w' => ∃ v, e = .returned v ∧ Mine w w' v (100 :: be x 4 4) ∧ Fr No w w' := by
  have e0 : IntKind.u64.wrap (x : Int) = (x : Int) := IntWalk.u64_in _ (by omega)
  go_enter Tryd.func20, Tryd.ntmps20
  go_wp2_with fail
  refine (num_len x 4 w (by omega) (by omega) (by decide) (by decide)).mono ?_
  rintro e w1 ⟨A, c, rfl, hr, hf⟩
  have HM := hide (And.intro hf hr)
  clear hf hr
  go_wp2_with fail
  refine (key_any 100 (some ⟨w1.heap.size, 0, none⟩) 1 [be x 4 4] _ (rdS_new1 w1 A c 4 _ HM.out.2 (be_len _ _ _).symm) (by simp) (by simp [total, be_len])).mono ?_
  rintro e w2 ⟨v, rfl, hm, hf⟩
  go_wp2_with fail
  go_ret
  have h0 := HM.out.1.alloc (.cells #[.slice A 4 c] 28)
  exact ⟨_, rfl, by simpa using Mine.lower hm h0.size, h0.then0 hf⟩
set_option maxHeartbeats 1000000 in
theorem DocKey_any (x y : Nat) (w : World) (hx : x < 4294967296) (hy : y < 18446744073709551616) : Calls Tryd.prog 19 #[.int .u32 x, .int .u64 y] w fun e w' => ∃ v, e = .returned v ∧ Mine w w' v (100 :: (be x 4 4 ++ be y 8 8)) ∧ Fr No w w' := by
  have e0 : IntKind.u64.wrap (x : Int) = (x : Int) := IntWalk.u64_in _ (by omega)
  go_enter Tryd.func19, Tryd.ntmps19
  go_wp2_with fail
  refine (num_len x 4 w (by omega) (by omega) (by decide) (by decide)).mono ?_
  rintro e w1 ⟨A, c, rfl, hr, hf⟩
  have HM := hide (And.intro hf hr)
  clear hf hr
  go_wp2_with fail
  refine (num_len y 8 w1 (by omega) (by omega) (by decide) (by decide)).mono ?_
  rintro e w2 ⟨A2, c2, rfl, hr2, hf2⟩
  have HM2 := hide (And.intro (HM.out.1.then0 hf2) (And.intro (hf2.rd0 HM.out.2) hr2))
  clear hf2 hr2
  go_wp2_with fail
  refine (key_any 100 (some ⟨w2.heap.size, 0, none⟩) 2 [be x 4 4, be y 8 8] _ (rdS_new2 w2 A A2 c c2 4 8 _ _ HM2.out.2.1 HM2.out.2.2 (be_len _ _ _).symm (be_len _ _ _).symm) (by simp) (by simp [total, be_len])).mono ?_
  rintro e w3 ⟨v, rfl, hm, hf⟩
  go_wp2_with fail
  go_ret
  have h0 := HM2.out.1.alloc (.cells #[.slice A 4 c, .slice A2 8 c2] 28)
  exact ⟨_, rfl, by simpa using Mine.lower hm h0.size, h0.then0 hf⟩
/-- an int's value as a uint64's -/
def asU64 (i : Int) : Int := IntKind.u64.wrap i
theorem asU64_range (i : Int) : 0 ≤ asU64 i ∧ asU64 i < 18446744073709551616 := by
  simp [asU64, IntKind.wrap, IntKind.bits, IntKind.signed]; omega
set_option maxHeartbeats 1000000 in
theorem EntryFront_any (x : Nat) (i : Int) (w : World) (hx : x < 4294967296) : Calls Tryd.prog 21 #[.int .u32 x, .int .i64 i] w fun e w' => ∃ v, e = .returned v ∧ Mine w w' v (120 :: (be x 4 4 ++ be (asU64 i) 1 1)) ∧ Fr No w w' := by
  have e0 : IntKind.u64.wrap (x : Int) = (x : Int) := IntWalk.u64_in _ (by omega)
  have hr0 := asU64_range i
  go_enter Tryd.func21, Tryd.ntmps21
  go_wp2_with fail
  refine (num_len x 4 w (by omega) (by omega) (by decide) (by decide)).mono ?_
  rintro e w1 ⟨A, c, rfl, hr, hf⟩
  have HM := hide (And.intro hf hr)
  clear hf hr
  go_wp2_with fail
  refine (num_len (asU64 i) 1 w1 hr0.1 hr0.2 (by decide) (by decide)).mono ?_
  rintro e w2 ⟨A2, c2, rfl, hr2, hf2⟩
  have HM2 := hide (And.intro (HM.out.1.then0 hf2) (And.intro (hf2.rd0 HM.out.2) hr2))
  clear hf2 hr2
  go_wp2_with fail
  refine (key_any 120 (some ⟨w2.heap.size, 0, none⟩) 2 [be x 4 4, be (asU64 i) 1 1] _ (rdS_new2 w2 A A2 c c2 4 1 _ _ HM2.out.2.1 HM2.out.2.2 (be_len _ _ _).symm (be_len _ _ _).symm) (by simp) (by simp [total, be_len])).mono ?_
  rintro e w3 ⟨v, rfl, hm, hf⟩
  go_wp2_with fail
  go_ret
  have h0 := HM2.out.1.alloc (.cells #[.slice A 4 c, .slice A2 1 c2] 28)
  exact ⟨_, rfl, by simpa using Mine.lower hm h0.size, h0.then0 hf⟩
end Go.Proofs.YtkgffeclgapkbaaDoor
namespace Go.Proofs.YtkgffeclgapkbaaDoor
open Go.RowKit Go.Proofs.YtkgffeclgapkbaaDoorW.PrintWords
set_option linter.unusedVariables false
set_option linter.unusedSimpArgs false
set_option maxRecDepth 100000
theorem EntryFront_len (x : Nat) (i : Int) (w : World) (hx : x < 4294967296) : Calls Tryd.prog 21 #[.int .u32 x, .int .i64 i] w fun e w' => ∃ A c, e = .returned (.slice A 6 c) ∧ Rd w' A (120 :: (be x 4 4 ++ be (asU64 i) 1 1)) ∧ Fr No w w' :=
  (EntryFront_any x i w hx).mono fun e w' ⟨v, he, hm, hf⟩ => by
    obtain ⟨A1, c1, rfl, hl1, hr1⟩ := hm.rd
    have h6 : (120 :: (be x 4 4 ++ be (asU64 i) 1 1)).length = 6 := by simp [be_len]
    rw [h6] at he
    exact ⟨A1, c1, he, hr1, hf⟩
set_option maxHeartbeats 1000000 in
theorem EntryKey_big (x y i : Int) (A : Option Addr) (n c : Nat) (w : World) (hn : 82 < n) : Calls Tryd.prog 16 #[.int .u32 x, .int .i64 i, .slice A n c, .int .u64 y] w fun e w' => e = .returned (.tuple #[.slice none 0 0, .int .i64 13]) ∧ w = w' := by
  have d1 : decide ((82 : Int) < (n : Int)) = true := decide_eq_true (by omega)
  have d2 : decide (82 < n) = true := decide_eq_true (by omega)
  go_enter Tryd.func16, Tryd.ntmps16
  go_wp2
  go_ret2
  exact ⟨rfl, rfl⟩
set_option maxHeartbeats 1000000 in
theorem EntryKey_any (x y : Nat) (i : Int) (A : Option Addr) (c : Nat) (os : List Int) (w : World) (hx : x < 4294967296) (hy : y < 18446744073709551616) (hr : Rd w A os) (hn : os.length ≤ 82) :
    Calls Tryd.prog 16 #[.int .u32 x, .int .i64 i, .slice A os.length c, .int .u64 y] w fun e w' => ∃ v, e = .returned (.tuple #[v, .int .i64 0]) ∧ Mine w w' v (120 :: (be x 4 4 ++ be (asU64 i) 1 1 ++ os ++ be y 8 8)) ∧ Fr No w w' := by
  have d1 : decide ((82 : Int) < (os.length : Int)) = false := decide_eq_false (by omega)
  have d2 : decide (82 < os.length) = false := decide_eq_false (by omega)
  have HR := hide hr
  clear hr
  go_enter Tryd.func16, Tryd.ntmps16
  go_wp2_with fail
  refine (EntryFront_len x i w hx).mono ?_
  rintro e w1 ⟨A1, c1, rfl, hr1, hf1⟩
  have HM := hide (And.intro hf1 (And.intro (hf1.rd0 HR.out) hr1))
  clear hf1 hr1
  go_wp2_with fail
  refine (num_len y 8 w1 (by omega) (by omega) (by decide) (by decide)).mono ?_
  rintro e w2 ⟨A2, c2, rfl, hr2, hf2⟩
  have HM2 := hide (And.intro (HM.out.1.then0 hf2) (And.intro (hf2.rd0 HM.out.2.1) (And.intro (hf2.rd0 HM.out.2.2) hr2)))
  clear hf2 hr2 HM HR
  go_wp2_with fail
  refine (Concat_any (some ⟨w2.heap.size, 0, none⟩) 3 [120 :: (be x 4 4 ++ be (asU64 i) 1 1), os, be y 8 8] _ (rdS_new3 w2 A1 A A2 c1 c c2 6 os.length 8 _ _ _ HM2.out.2.2.1 HM2.out.2.1 HM2.out.2.2.2 (by simp [be_len]) rfl (be_len _ _ _).symm) (by simp) (by simp [total, be_len]; omega)).mono ?_
  rintro e w3 ⟨v, rfl, hm, hf⟩
  go_wp2_with fail
  go_ret2
  have h0 := HM2.out.1.alloc (.cells #[.slice A1 6 c1, .slice A os.length c, .slice A2 8 c2] 28)
  exact ⟨_, rfl, by simpa using Mine.lower hm h0.size, h0.then0 hf⟩
/-- the number of the last eight bytes -/
def docOf (ks : List Int) : Int := if ks.length < 8 then 0 else valOf 256 (ks.drop (ks.length - 8))
set_option maxHeartbeats 1000000 in
theorem Doc_any (A : Option Addr) (c : Nat) (ks : List Int) (w : World) (hr : Rd w A ks) (hc : ks.length ≤ c) (hA : A = none → c = 0) (hl : ks.length ≤ 1000000) (hb : Bs ks) :
    Calls Tryd.prog 17 #[.slice A ks.length c] w fun e w' => e = .returned (.int .u64 (docOf ks)) ∧ Fr No w w' := by
  by_cases h8 : ks.length < 8
  · have d1 : decide ((ks.length : Int) < 8) = true := decide_eq_true (by omega)
    have hd : docOf ks = 0 := by unfold docOf; rw [if_pos h8]
    have HD := hide hd
    clear hd
    go_enter Tryd.func17, Tryd.ntmps17
    go_wp2
    go_ret
    exact ⟨by rw [HD.out]; rfl, Fr.refl _ _⟩
  · have d1 : decide ((ks.length : Int) < 8) = false := decide_eq_false (by omega)
    obtain ⟨m, hm⟩ : ∃ m, ks.length - 8 = m := ⟨_, rfl⟩
    have hml : m ≤ ks.length := by omega
    obtain ⟨A', e2, hd, _, hA'⟩ := cut28 A ks.length c m hml hA
    have hrd' := hd w ks rfl hc hr
    have hdl : (ks.drop m).length = 8 := by rw [List.length_drop]; omega
    have h8' : ks.length - m = 8 := by omega
    rw [h8'] at e2
    have hmi : (ks.length : Int) - 8 = (m : Int) := by omega
    have hdoc : docOf ks = valOf 256 (ks.drop m) := by unfold docOf; rw [if_neg h8, hm]
    rw [hdoc]
    have hbd : Bs (ks.drop m) := fun b hb' => hb b (List.mem_of_mem_drop hb')
    obtain ⟨ys, hys⟩ : ∃ ys, ks.drop m = ys := ⟨_, rfl⟩
    rw [hys] at hrd' hdl hbd ⊢
    have hAc : A' = none → c - m = 0 := hA'
    have hnr := fun W (hf : Fr No w W) => by
      have := NewReader_any W A' (c - m) ys (hf.rd0 hrd') hAc (by omega)
      rw [hdl] at this
      exact this
    have HN := hide hnr
    have HL := hide (And.intro hdl hbd)
    clear hnr hrd' hdl hbd hys hdoc hd hA' hAc hr hA hb hm h8' h8
    go_enter Tryd.func17, Tryd.ntmps17
    go_wp2_with fail
    refine (HN.out w (Fr.refl _ _)).mono ?_
    rintro e w1 ⟨g, rfl, hR, hf, hg⟩
    go_wp2_with fail
    refine (RNum_ok g w1 ys 8 hR (by rw [HL.out.1]; decide) (by rw [HL.out.1]; decide) (by decide) (by decide) HL.out.2).mono ?_
    rintro e w2 ⟨rfl, hR2, hf2⟩
    have ht : ys.take 8 = ys := List.take_of_length_le (by rw [HL.out.1]; decide)
    have HT := hide ht
    clear ht
    go_wp2_with fail
    go_ret
    refine ⟨by rw [HT.out]; rfl, hf.trans hf2 (fun i hi => .inr (by have : i = g := hi; omega))⟩
end Go.Proofs.YtkgffeclgapkbaaDoor
