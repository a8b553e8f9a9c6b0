/- A short number is read back as it was put. -/
import Derived.Test.YtkgffeclgapkbaaDoorM4
import Derived.Test.YtkgffeclgapkbaaDoorB9p
import Derived.Test.YtkgffeclgapkbaaDoorM5
import Derived.Deep.Slices
namespace Go.Proofs.YtkgffeclgapkbaaDoor
open Go.RowKit
set_option linter.unusedVariables false
set_option linter.unusedSimpArgs false
theorem varX_step (l : List Int) (m c : Nat) (hl : varX l = ((m / 128 : Nat) : Int)) (hm : m < 144115188075855872) (hc : ((c : Int)) % 128 = ((m % 128 : Nat) : Int)) : varX (l ++ [(c : Int)]) = (m : Int) := by
  rw [varX_snoc, hl, hc]
  have e1 : IntKind.u64.wrap (((m / 128 : Nat) : Int) * 128) = ((m / 128 : Nat) : Int) * 128 := IntWalk.u64_in _ (by omega)
  have e2 : IntKind.u64.wrap ((m % 128 : Nat) : Int) = ((m % 128 : Nat) : Int) := IntWalk.u64_in _ (by omega)
  rw [e1, e2]
  have h := or_add ((m / 128 : Nat) : Int) ((m % 128 : Nat) : Int) 7 (by omega) (by omega) (by omega) (by omega)
  have e3 : (2 : Int) ^ 7 = 128 := by decide
  rw [e3] at h
  rw [h]
  omega
theorem varX_hi (k : Nat) : ∀ m : Nat, m < k → m < 144115188075855872 → varX (hiL m).reverse = (m : Int) := by
  induction k with
  | zero => intro m h; omega
  | succ k ih =>
    intro m hmk hm
    by_cases h0 : m = 0
    · subst h0
      rw [hiL_zero]
      rfl
    · rw [hiL_pos h0, List.reverse_cons]
      have h1 := ih (m / 128) (by omega) (by omega)
      exact varX_step _ m (m % 128 + 128) h1 hm (by omega)
theorem varX_short (n : Nat) (hn : n < 144115188075855872) : varX (shortL n) = (n : Int) := by
  unfold shortL
  rw [List.reverse_cons]
  exact varX_step _ n (n % 128) (varX_hi (n + 1) (n / 128) (by omega) (by omega)) hn (by omega)
theorem hiL_ge : ∀ (k m : Nat), m < k → ∀ b, b ∈ hiL m → 128 ≤ b := by
  intro k
  induction k with
  | zero => intro m h; omega
  | succ k ih =>
    intro m hm b hb
    by_cases h0 : m = 0
    · subst h0
      rw [hiL_zero] at hb
      cases hb
    · rw [hiL_pos h0] at hb
      rcases List.mem_cons.1 hb with rfl | hb
      · omega
      · exact ih (m / 128) (by omega) b hb
theorem takeWhile_app {p : Int → Bool} : ∀ (l : List Int) (c : Int) (r : List Int), (∀ b, b ∈ l → p b = true) → p c = false → (l ++ c :: r).takeWhile p = l
  | [], c, r, _, hc => by simp [hc]
  | b :: l, c, r, hl, hc => by
    rw [List.cons_append, List.takeWhile_cons, if_pos (hl b List.mem_cons_self), takeWhile_app l c r (fun x hx => hl x (List.mem_cons_of_mem _ hx)) hc]
theorem short_form (n : Nat) : shortL n = (hiL (n / 128)).reverse ++ [((n % 128 : Nat) : Int)] := by
  unfold shortL
  rw [List.reverse_cons]
/-- the number's length is found -/
theorem varN_short (n : Nat) (hn : n < 18446744073709551616) (r : List Int) : varN (shortL n ++ r) = (shortL n).length := by
  have hlen := shortL_len n hn
  have hge : ∀ b, b ∈ (hiL (n / 128)).reverse → decide ((128 : Int) ≤ b) = true := fun b hb => decide_eq_true (hiL_ge (n / 128 + 1) (n / 128) (by omega) b (List.mem_reverse.1 hb))
  have hlo : decide ((128 : Int) ≤ ((n % 128 : Nat) : Int)) = false := decide_eq_false (by omega)
  have hl : (shortL n).length = (hiL (n / 128)).reverse.length + 1 := by rw [short_form, List.length_append]; rfl
  have ht : ((shortL n ++ r).take 10) = (hiL (n / 128)).reverse ++ ((n % 128 : Nat) : Int) :: r.take (10 - (shortL n).length) := by
    rw [List.take_append, List.take_of_length_le hlen, short_form]
    simp
  have hh : highs ((shortL n ++ r).take 10) = (hiL (n / 128)).reverse.length := by
    unfold highs
    rw [ht, takeWhile_app _ _ _ hge hlo]
  unfold varN idx
  rw [hh, if_pos (by rw [ht, List.length_append, List.length_cons]; omega), hl]
  omega
theorem okVar_short (n : Nat) (hn : n < 144115188075855872) (r : List Int) : OkVar (shortL n ++ r) 0 ∧ varX ((shortL n ++ r).take (varN (shortL n ++ r))) = (n : Int) := by
  have h1 := varN_short n (by omega) r
  have h2 : (shortL n ++ r).take (shortL n).length = shortL n := List.take_left
  have hx := varX_short n hn
  have hp : 0 < (shortL n).length := by rw [short_form, List.length_append]; simp
  refine ⟨⟨rfl, by rw [h1]; exact hp, ?_⟩, by rw [h1, h2]; exact hx⟩
  rw [h1, h2, hx]
  rfl
/-- Bytes behind their length are read back. -/
theorem pBytes_short (b r : List Int) (hb : b.length < 144115188075855872) : pBytes (some (shortL b.length ++ b ++ r)) = (b, some r) := by
  rw [List.append_assoc]
  have h1 := varN_short b.length (by omega) (b ++ r)
  obtain ⟨hok, hx⟩ := okVar_short b.length hb (b ++ r)
  have hd : (shortL b.length ++ (b ++ r)).drop (varN (shortL b.length ++ (b ++ r))) = b ++ r := by rw [h1]; exact List.drop_left
  have hOk : OkBytes (shortL b.length ++ (b ++ r)) 0 := ⟨hok, by rw [hx, hd, List.length_append]; show b.length ≤ _; omega⟩
  show (if _ then _ else _) = _
  rw [if_pos hOk]
  unfold bytesGot bytesRest
  rw [hx, hd]
  show ((b ++ r).take b.length, some ((b ++ r).drop b.length)) = _
  rw [List.take_left, List.drop_left]
theorem pNum_be (x : Int) (n : Nat) (r : List Int) (h0 : 0 ≤ x) (hx : x < 256 ^ n) : pNum n (some (be x n n ++ r)) = (x, some r) := by
  have hl : (be x n n).length = n := be_len x n n
  have ht : (be x n n ++ r).take n = be x n n := by
    conv => lhs; arg 1; rw [← hl]
    exact List.take_left
  have hdr : (be x n n ++ r).drop n = r := by
    conv => lhs; arg 1; rw [← hl]
    exact List.drop_left
  unfold pNum
  simp only
  rw [if_pos (by rw [List.length_append, hl]; omega), ht, hdr, be_val x h0 n hx]
end Go.Proofs.YtkgffeclgapkbaaDoor
namespace Go.Proofs.YtkgffeclgapkbaaDoor
open Go.RowKit Go.Proofs.YtkgffeclgapkbaaDoorW.PrintWords
set_option linter.unusedVariables false
set_option linter.unusedSimpArgs false
theorem pIx_ixL (x : Ix) (r : List Int) (h0 : 0 ≤ x.id) (h1 : x.id ≤ 255) (hp : x.path.size ≤ 1000000) : pIx (some (ixL x ++ r)) = (x, some r) := by
  have hu : asU64 x.id = x.id := IntWalk.u64_in _ (by omega)
  have e : ixL x ++ r = be x.id 1 1 ++ (be (if x.un then 1 else 0) 1 1 ++ (shortL (bytesOf x.path).length ++ bytesOf x.path ++ r)) := by
    unfold ixL
    rw [hu, bytesOf_length]
    simp
  have e1 := pNum_be x.id 1 (be (if x.un then 1 else 0) 1 1 ++ (shortL (bytesOf x.path).length ++ bytesOf x.path ++ r)) h0 (by simpa using (show x.id < 256 by omega))
  have e2 := pNum_be (if x.un then 1 else 0) 1 (shortL (bytesOf x.path).length ++ bytesOf x.path ++ r) (by split <;> decide) (by split <;> decide)
  have e3 := pBytes_short (bytesOf x.path) r (by rw [bytesOf_length]; omega)
  unfold pIx
  rw [e, e1]
  simp only
  rw [e2]
  simp only
  rw [e3]
  simp only
  rw [str_bytes]
  obtain ⟨i, p, u⟩ := x
  cases u <;> rfl
theorem pIxs_flat (xs : List Ix) (r : List Int) (h : ∀ x, x ∈ xs → 0 ≤ x.id ∧ x.id ≤ 255 ∧ x.path.size ≤ 1000000) : ∀ k, k ≤ xs.length → pIxs (some ((xs.map ixL).flatten ++ r)) k = (xs.take k, some (((xs.drop k).map ixL).flatten ++ r))
  | 0, _ => by simp [pIxs]
  | k + 1, hk => by
    have hkl : k < xs.length := by omega
    have ih := pIxs_flat xs r h k (by omega)
    have hx := h xs[k] (List.getElem_mem _)
    have e : (((xs.drop k).map ixL).flatten ++ r) = ixL xs[k] ++ (((xs.drop (k + 1)).map ixL).flatten ++ r) := by
      rw [List.drop_eq_getElem_cons hkl, List.map_cons, List.flatten_cons, List.append_assoc]
    show ((pIxs _ k).1 ++ [(pIx (pIxs _ k).2).1], (pIx (pIxs _ k).2).2) = _
    rw [ih]
    simp only
    rw [e, pIx_ixL _ _ hx.1 hx.2.1 hx.2.2, List.take_succ_eq_append_getElem hkl]
theorem put_got (id next : Int) (xs : List Ix) (hid : 0 ≤ id ∧ id < 4294967296) (hnx : 0 ≤ next ∧ next < 18446744073709551616) (hl : xs.length ≤ 8) (h : ∀ x, x ∈ xs → 0 ≤ x.id ∧ x.id ≤ 255 ∧ x.path.size ≤ 1000000) :
    gId (putL id next xs) = id ∧ gNext (putL id next xs) = next ∧ gXs (putL id next xs) = xs ∧ gEnd (putL id next xs) = some [] := by
  have e1 := pNum_be id 4 (be next 8 8 ++ (be xs.length 1 1 ++ (xs.map ixL).flatten)) hid.1 (by simpa using hid.2)
  have e2 := pNum_be next 8 (be xs.length 1 1 ++ (xs.map ixL).flatten) hnx.1 (by simpa using hnx.2)
  have e3 := pNum_be (xs.length : Int) 1 (xs.map ixL).flatten (by omega) (show (xs.length : Int) < 256 ^ 1 by rw [show (256 : Int) ^ 1 = 256 from by decide]; omega)
  have s1' : s1 (putL id next xs) = some (be next 8 8 ++ (be xs.length 1 1 ++ (xs.map ixL).flatten)) := by unfold s1 putL; rw [e1]
  have s2' : s2 (putL id next xs) = some (be xs.length 1 1 ++ (xs.map ixL).flatten) := by unfold s2; rw [s1', e2]
  have s3' : s3 (putL id next xs) = some ((xs.map ixL).flatten) := by unfold s3; rw [s2', e3]
  have hc : gCnt (putL id next xs) = xs.length := by unfold gCnt; rw [s2', e3]
  have hf := pIxs_flat xs [] h xs.length (Nat.le_refl _)
  rw [List.append_nil, List.take_length, List.drop_length] at hf
  refine ⟨by unfold gId putL; rw [e1], by unfold gNext; rw [s1', e2], ?_, ?_⟩
  · unfold gXs
    rw [s3', hc]
    show (pIxs _ xs.length).1 = _
    rw [hf]
  · unfold gEnd
    rw [s3', hc]
    show (pIxs _ xs.length).2 = _
    rw [hf]
    rfl
theorem right_ids (id next : Int) (xs : List Ix) (hb : rightB id next xs = true) : xs.length ≤ 8 ∧ ∀ j, j < xs.length → okAt xs j = true := by
  unfold rightB at hb
  simp only [Bool.and_eq_true, decide_eq_true_eq] at hb
  exact ⟨hb.1.2, fun j hj => List.all_eq_true.1 hb.2 j (List.mem_range.2 hj)⟩
theorem right_id1 (id next : Int) (xs : List Ix) (hb : rightB id next xs = true) : ∀ j, j < xs.length → 1 ≤ (xs.getD j ix0).id ∧ (xs.getD j ix0).id ≤ 255
  | 0, hj => by
    have h := (right_ids id next xs hb).2 0 hj
    unfold okAt at h
    simp only [Bool.and_eq_true, decide_eq_true_eq, if_true] at h
    exact ⟨by have := h.1.1.1; omega, h.1.1.2⟩
  | j + 1, hj => by
    have h := (right_ids id next xs hb).2 (j + 1) hj
    have ih := right_id1 id next xs hb j (by omega)
    unfold okAt at h
    simp only [Bool.and_eq_true, decide_eq_true_eq, Nat.add_sub_cancel, Nat.add_eq_zero_iff, Nat.one_ne_zero, and_false, if_false] at h
    exact ⟨by have := h.1.1.1; omega, h.1.1.2⟩
end Go.Proofs.YtkgffeclgapkbaaDoor
namespace Go.Proofs.YtkgffeclgapkbaaDoor
open Go.RowKit Go.Proofs.YtkgffeclgapkbaaDoorW.PrintWords PCatalogPuts
set_option linter.unusedVariables false
set_option linter.unusedSimpArgs false
set_option maxRecDepth 100000
theorem num_l0 (x : Int) (n : Nat) (h0 : 0 ≤ x) (hx : x < 18446744073709551616) (h8 : n ≤ 8) : ∀ (d i k : Nat), n - i = d → i ≤ n → d < k → rubricatorref01_Num.l0 k (x / 256 ^ i) n (strOfNums (lowB x i)) i = some (strOfNums (lowB x n)) := by
  intro d
  induction d with
  | zero =>
    intro i k hd hi hk
    obtain ⟨k, rfl⟩ : ∃ k', k = k' + 1 := ⟨k - 1, by omega⟩
    have e : i = n := by omega
    subst e
    rw [rubricatorref01_Num.l0, if_neg (by omega)]
  | succ d ih =>
    intro i k hd hi hk
    obtain ⟨k, rfl⟩ : ∃ k', k = k' + 1 := ⟨k - 1, by omega⟩
    have hp : (1 : Int) ≤ 256 ^ i := Int.pow_pos (by decide)
    have hy0 : 0 ≤ x / 256 ^ i := Int.ediv_nonneg h0 (by omega)
    have hy1 : x / 256 ^ i < 18446744073709551616 := Int.lt_of_le_of_lt (Int.ediv_le_self _ h0) hx
    rw [rubricatorref01_Num.l0, if_pos (by omega)]
    have b0 : (x / 256 ^ i).tmod 256 % 256 = x / 256 ^ i % 256 := by rw [Int.tmod_eq_emod_of_nonneg hy0]; omega
    have b1 : IntKind.u64.wrap ((x / 256 ^ i).tdiv 256) = x / 256 ^ (i + 1) := by
      rw [Int.tdiv_eq_ediv_of_nonneg hy0, IntWalk.u64_in _ (by omega), Int.pow_succ, Int.ediv_ediv_of_nonneg (by omega)]
    rw [b0, b1]
    show (if (strOfNums [x / 256 ^ i % 256]).size + (strOfNums (lowB x i)).size ≤ 9223372036854775807 then _ else _) = _
    rw [strOfNums_size, strOfNums_size, lowB_len, if_pos (by simp; omega), str_cons, w1 i (by omega)]
    exact ih (i + 1) k (by omega) (by omega) (by omega)
theorem num_f (x : Int) (n k : Nat) (h0 : 0 ≤ x) (hx : x < 18446744073709551616) (h1 : 1 ≤ n) (h8 : n ≤ 8) (hk : 20 ≤ k) : rubricatorref01_Num.f k x n = some (strOfNums (be x n n)) := by
  obtain ⟨k, rfl⟩ : ∃ k', k = k' + 1 := ⟨k - 1, by omega⟩
  unfold rubricatorref01_Num.f
  rw [if_neg (by omega), rubricatorref01_Num.j0, if_neg (by simp; omega), ← low_be]
  have := num_l0 x n h0 hx h8 n 0 k (by omega) (by omega) (by omega)
  have e1 : x / 256 ^ 0 = x := by simp
  rw [e1] at this
  exact this
theorem var_l0 (S : List Int) (hS : S.length ≤ 10) : ∀ (d y k : Nat) (l : List Int), (hiL (y / 128)).length = d → y < 18446744073709551616 → (hiL (y / 128)).reverse ++ l = S → d < k → rubricatorref01_Var.l0 k (y : Int) (strOfNums l) = some (strOfNums S) := by
  intro d
  induction d with
  | zero =>
    intro y k l hd hy hl hk
    obtain ⟨k, rfl⟩ : ∃ k', k = k' + 1 := ⟨k - 1, by omega⟩
    have h0 : y / 128 = 0 := by
      apply Classical.byContradiction
      intro h
      rw [hiL_pos h] at hd
      simp at hd
    rw [h0, hiL_zero] at hl
    have hl : l = S := by simpa using hl
    rw [rubricatorref01_Var.l0, if_neg (by omega), hl]
  | succ d ih =>
    intro y k l hd hy hl hk
    obtain ⟨k, rfl⟩ : ∃ k', k = k' + 1 := ⟨k - 1, by omega⟩
    have h0 : y / 128 ≠ 0 := by
      intro h
      rw [h, hiL_zero] at hd
      simp at hd
    rw [hiL_pos h0] at hd hl
    have b1 : IntKind.u64.wrap ((y : Int).tdiv 128) = ((y / 128 : Nat) : Int) := by
      rw [Int.tdiv_eq_ediv_of_nonneg (by omega), IntWalk.u64_in _ (by omega)]
      omega
    rw [rubricatorref01_Var.l0, if_pos (by omega), b1]
    have b2 : ((((y / 128 : Nat) : Int).tmod 128 % 256) + 128) % 256 = ((y / 128 % 128 : Nat) + 128 : Int) := by
      rw [Int.tmod_eq_emod_of_nonneg (by omega)]
      omega
    rw [b2]
    obtain ⟨b, hb⟩ : ∃ b : Int, ((y / 128 % 128 : Nat) + 128 : Int) = b := ⟨_, rfl⟩
    rw [hb] at hl ⊢
    have hl2 : (hiL (y / 128 / 128)).reverse ++ (b :: l) = S := by simpa using hl
    have hll : (b :: l).length ≤ 10 := by
      have := congrArg List.length hl2
      rw [List.length_append] at this
      omega
    show (if (strOfNums [b]).size + (strOfNums l).size ≤ 9223372036854775807 then _ else _) = _
    rw [strOfNums_size, strOfNums_size, if_pos (by simp at hll ⊢; omega), str_cons]
    exact ih (y / 128) k (b :: l) (by simpa using hd) (by omega) hl2 (by omega)
theorem var_f (n k : Nat) (hn : n < 18446744073709551616) (hk : 20 ≤ k) : rubricatorref01_Var.f k (n : Int) = some (strOfNums (shortL n)) := by
  unfold rubricatorref01_Var.f
  have b0 : (n : Int).tmod 128 % 256 = ((n % 128 : Nat) : Int) := by rw [Int.tmod_eq_emod_of_nonneg (by omega)]; omega
  rw [b0]
  have hlen := shortL_len n hn
  have hl : (hiL (n / 128)).reverse ++ [((n % 128 : Nat) : Int)] = shortL n := (short_form n).symm
  have hd : (hiL (n / 128)).length ≤ 10 := by
    have := congrArg List.length hl
    rw [List.length_append, List.length_reverse] at this
    omega
  exact var_l0 (shortL n) hlen _ n k _ rfl hn hl (by omega)
theorem bytes_f (s : ByteArray) (k : Nat) (hs : s.size ≤ 1000000) (hk : 20 ≤ k) : rubricatorref01_Bytes.f k s = some (strOfNums (shortL s.size ++ bytesOf s)) := by
  unfold rubricatorref01_Bytes.f
  have e : IntKind.u64.wrap (s.size : Int) = (s.size : Int) := IntWalk.u64_in _ (by omega)
  rw [e, var_f s.size k (by omega) hk]
  have hl := shortL_len s.size (by omega)
  show (if (strOfNums (shortL s.size)).size + s.size ≤ 9223372036854775807 then some (strOfNums (shortL s.size) ++ s) else none) = _
  rw [strOfNums_size, if_pos (by omega), ← str_app, str_bytes]
end Go.Proofs.YtkgffeclgapkbaaDoor
namespace Go.Proofs.YtkgffeclgapkbaaDoor
open Go.RowKit Go.Proofs.YtkgffeclgapkbaaDoorW.PrintWords PCatalogPuts
set_option linter.unusedVariables false
set_option linter.unusedSimpArgs false
set_option maxRecDepth 100000
theorem put_l0 (a b : Int) (xs : List Ix) (hl : xs.length ≤ 8) (hp : ∀ x, x ∈ xs → x.path.size ≤ 1000000) (pre : List Int) (hpre : pre.length ≤ 100) : ∀ (n i k : Nat), xs.length - i = n → i ≤ xs.length → n + 100 < k →
    rubricatorref21_Put.l0 k (strOfNums (pre ++ ((xs.take i).map ixL).flatten)) (i : Int) a b (xs.map to31) = some (strOfNums (pre ++ (xs.map ixL).flatten), 0) := by
  intro n
  induction n with
  | zero =>
    intro i k hn hi hk
    obtain ⟨k, rfl⟩ : ∃ k', k = k' + 1 := ⟨k - 1, by omega⟩
    rw [rubricatorref21_Put.l0, if_neg (by rw [List.length_map]; omega), List.take_of_length_le (by omega)]
  | succ n ih =>
    intro i k hn hi hk
    obtain ⟨k, rfl⟩ : ∃ k', k = k' + 1 := ⟨k - 1, by omega⟩
    have hil : i < xs.length := by omega
    obtain ⟨x, hx⟩ : ∃ x, xs.getD i ix0 = x := ⟨_, rfl⟩
    have hxp : x.path.size ≤ 1000000 := by rw [← hx]; exact hp _ (getD_mem' _ hil)
    have hfl : ((xs.take i).map ixL).flatten.length ≤ 9000000 := by
      have := flat_len (xs := xs.take i) (fun y hy => hp y (List.mem_of_mem_take hy))
      rw [List.length_take] at this
      have : min i xs.length ≤ 8 := by omega
      omega
    have hsh := shortL_len x.path.size (by omega)
    have hnx := ih (i + 1) k (by omega) (by omega) (by omega)
    rw [flat_take_succ hil, hx] at hnx
    obtain ⟨L, hL⟩ : ∃ L, pre ++ ((xs.take i).map ixL).flatten = L := ⟨_, rfl⟩
    have hLl : L.length ≤ 9000100 := by rw [← hL, List.length_append]; omega
    rw [← List.append_assoc, hL] at hnx
    rw [hL]
    have hu := asU64_range x.id
    have hnum := num_f (asU64 x.id) 1 k hu.1 hu.2 (by decide) (by decide) (by omega)
    have hbyt := bytes_f x.path k hxp (by omega)
    rw [rubricatorref21_Put.l0, if_pos (by rw [List.length_map]; omega), if_pos (by omega), rd31, hx]
    show (Option.bind (rubricatorref01_Num.f k (asU64 x.id) ((1 : Nat) : Int)) _) = _
    rw [hnum]
    have z1 : (strOfNums L).size = L.length := strOfNums_size _
    have z2 : (strOfNums (be (asU64 x.id) 1 1)).size = 1 := by rw [strOfNums_size, be_len]
    have z3 : (strOfNums (shortL x.path.size ++ bytesOf x.path)).size = (shortL x.path.size).length + x.path.size := by rw [strOfNums_size, List.length_append, bytesOf_length]
    have c1 : (strOfNums L).size + (strOfNums (be (asU64 x.id) 1 1)).size ≤ 9223372036854775807 := by omega
    have c2 : (strOfNums L ++ strOfNums (be (asU64 x.id) 1 1)).size + 1 ≤ 9223372036854775807 := by rw [ByteArray.size_append]; omega
    have c3 : ∀ t : ByteArray, t.size = 1 → ((strOfNums L ++ strOfNums (be (asU64 x.id) 1 1)) ++ t).size + (strOfNums (shortL x.path.size ++ bytesOf x.path)).size ≤ 9223372036854775807 := by
      intro t ht
      rw [ByteArray.size_append, ByteArray.size_append]
      omega
    have hs1 : (⟨#[1]⟩ : ByteArray) = strOfNums (be 1 1 1) := rfl
    have hs0 : (⟨#[0]⟩ : ByteArray) = strOfNums (be 0 1 1) := rfl
    simp only [Option.bind_some, c1, c2, ↓reduceIte, to31, hbyt, c3 _ size_b1, c3 _ size_b0, w1 i (by omega)]
    have hfin : ∀ u : Bool, x.un = u → strOfNums L ++ strOfNums (be (asU64 x.id) 1 1) ++ strOfNums (be (if u then 1 else 0) 1 1) ++ strOfNums (shortL x.path.size ++ bytesOf x.path) = strOfNums (L ++ ixL x) := by
      intro u hu
      rw [str_app, str_app, str_app]
      congr 1
      unfold ixL
      rw [hu]
      simp
    cases hun : x.un
    · have := hfin false hun
      simp only [Bool.false_eq_true, ↓reduceIte] at this ⊢
      rw [hs0, this]
      exact hnx
    · have := hfin true hun
      simp only [↓reduceIte] at this ⊢
      rw [hs1, this]
      exact hnx
def refPut (id next : Int) (xs : List Ix) : ByteArray × Int := if rightB id next xs = true then (strOfNums (putL id next xs), 0) else (⟨#[]⟩, 1)
theorem put_f (k : Nat) (hk : 5000100 ≤ k) (id next : Int) (xs : List Ix) (hid : 0 ≤ id ∧ id < 4294967296) (hnx : 0 ≤ next ∧ next < 18446744073709551616) (hp : ∀ x, x ∈ xs → x.path.size ≤ 1000000) (hl : xs.length ≤ 1000) :
    rubricatorref21_Put.f (k + 1) id next (xs.map to31) = some (refPut id next xs) := by
  unfold rubricatorref21_Put.f refPut
  rw [right_f k hk id next xs hid.1 hnx.1 hp hl]
  cases hb : rightB id next xs with
  | false => rfl
  | true =>
    have h8 : xs.length ≤ 8 := (right_ids id next xs hb).1
    have e0 : IntKind.u64.wrap id = id := IntWalk.u64_in _ (by omega)
    have e1 : IntKind.u64.wrap (((xs.map to31).length : Nat) : Int) = (xs.length : Int) := by rw [List.length_map]; exact IntWalk.u64_in _ (by omega)
    have n1 := num_f id 4 (k + 1) hid.1 (by omega) (by decide) (by decide) (by omega)
    have n2 := num_f next 8 (k + 1) hnx.1 hnx.2 (by decide) (by decide) (by omega)
    have n3 := num_f (xs.length : Int) 1 (k + 1) (by omega) (by omega) (by decide) (by decide) (by omega)
    have z1 : (strOfNums (be id 4 4)).size = 4 := by rw [strOfNums_size, be_len]
    have z2 : (strOfNums (be next 8 8)).size = 8 := by rw [strOfNums_size, be_len]
    have z3 : (strOfNums (be (xs.length : Int) 1 1)).size = 1 := by rw [strOfNums_size, be_len]
    have c1 : (strOfNums (be id 4 4)).size + (strOfNums (be next 8 8)).size ≤ 9223372036854775807 := by omega
    have c2 : (strOfNums (be id 4 4) ++ strOfNums (be next 8 8)).size + (strOfNums (be (xs.length : Int) 1 1)).size ≤ 9223372036854775807 := by rw [ByteArray.size_append]; omega
    have hpl := put_l0 id next xs h8 hp (be id 4 4 ++ be next 8 8 ++ be (xs.length : Int) 1 1) (by simp [be_len]) xs.length 0 (k + 1) (by omega) (Nat.zero_le _) (by omega)
    have hpre : be id 4 4 ++ be next 8 8 ++ be (xs.length : Int) 1 1 ++ ((xs.take 0).map ixL).flatten = be id 4 4 ++ be next 8 8 ++ be (xs.length : Int) 1 1 := by simp
    have hput : be id 4 4 ++ be next 8 8 ++ be (xs.length : Int) 1 1 ++ (xs.map ixL).flatten = putL id next xs := by simp [putL]
    rw [hpre, hput, ← str_app, ← str_app] at hpl
    show (Option.bind (rubricatorref01_Num.f (k + 1) (IntKind.u64.wrap id) ((4 : Nat) : Int)) fun t173 => Option.bind (rubricatorref01_Num.f (k + 1) next ((8 : Nat) : Int)) fun t174 => if t173.size + t174.size ≤ 9223372036854775807 then (Option.bind (rubricatorref01_Num.f (k + 1) (IntKind.u64.wrap (((xs.map to31).length : Nat) : Int)) ((1 : Nat) : Int)) fun t175 => if (t173 ++ t174).size + t175.size ≤ 9223372036854775807 then rubricatorref21_Put.l0 (k + 1) (t173 ++ t174 ++ t175) 0 id next (xs.map to31) else none) else none) = _
    rw [e0, e1, n1]
    simp only [Option.bind_some]
    rw [n2]
    simp only [Option.bind_some]
    rw [if_pos c1, n3]
    simp only [Option.bind_some]
    rw [if_pos c2]
    exact hpl
theorem RefPut_any (id next : Int) (A : Option Addr) (c : Nat) (xs : List Ix) (w : World) (hr : RdI w A xs) (hc : xs.length ≤ c) (hid : 0 ≤ id ∧ id < 4294967296) (hnx : 0 ≤ next ∧ next < 18446744073709551616) (hp : ∀ x, x ∈ xs → x.path.size ≤ 1000000) (hl : xs.length ≤ 1000) :
    Calls Tryd.prog 8 #[.agg #[.int .u32 id, .int .u64 next, .slice A xs.length c]] w fun e w' => e = .returned (.tuple #[.string (refPut id next xs).1, .int .i64 (refPut id next xs).2]) ∧ Fr No w w' := by
  have hC := C31_of hr (by unfold maxLen; omega)
  have h := rubricatorref21_Put.calls (5000100 + 1) id next A c (xs.map to31) (refPut id next xs).1 (refPut id next xs).2 w hC (by rw [List.length_map]; exact hc) (put_f 5000100 (Nat.le_refl _) id next xs hid hnx hp hl)
  rw [List.length_map] at h
  exact h.mono fun e w' ⟨h1, h2⟩ => ⟨h1, Fr.of_below h2 (Nat.le_refl _)⟩
end Go.Proofs.YtkgffeclgapkbaaDoor
namespace Go.Proofs.YtkgffeclgapkbaaDoor
open Go.RowKit Go.Proofs.YtkgffeclgapkbaaDoorW.PrintWords
set_option linter.unusedVariables false
set_option linter.unusedSimpArgs false
theorem Bs.app {a b : List Int} (ha : Bs a) (hb : Bs b) : Bs (a ++ b) := fun x hx => (List.mem_append.1 hx).elim (ha x) (hb x)
theorem Bs.nil : Bs [] := fun b hb => by cases hb
theorem bytesOf_bs (s : ByteArray) : Bs (bytesOf s) := by
  intro b hb
  unfold bytesOf at hb
  obtain ⟨c, _, rfl⟩ := List.mem_map.1 hb
  have := c.toNat_lt
  omega
theorem hiL_bs : ∀ (k m : Nat), m < k → Bs (hiL m) := by
  intro k
  induction k with
  | zero => intro m h; omega
  | succ k ih =>
    intro m hm b hb
    by_cases h0 : m = 0
    · subst h0
      rw [hiL_zero] at hb
      cases hb
    · rw [hiL_pos h0] at hb
      rcases List.mem_cons.1 hb with rfl | hb
      · omega
      · exact ih (m / 128) (by omega) b hb
theorem short_bs (n : Nat) : Bs (shortL n) := by
  rw [short_form]
  refine Bs.app ?_ ?_
  · intro b hb
    exact hiL_bs (n / 128 + 1) (n / 128) (by omega) b (List.mem_reverse.1 hb)
  · intro b hb
    rw [List.mem_singleton] at hb
    subst hb
    omega
theorem ixL_bs (x : Ix) : Bs (ixL x) := by
  unfold ixL
  repeat' apply Bs.app
  all_goals first | exact be_bs _ _ _ | exact short_bs _ | exact bytesOf_bs _
theorem putL_bs (id next : Int) (xs : List Ix) : Bs (putL id next xs) := by
  unfold putL
  refine Bs.app (be_bs _ _ _) (Bs.app (be_bs _ _ _) (Bs.app (be_bs _ _ _) ?_))
  intro b hb
  obtain ⟨l, hl, hb⟩ := List.mem_flatten.1 hb
  obtain ⟨x, _, rfl⟩ := List.mem_map.1 hl
  exact ixL_bs x b hb
theorem putL_len (id next : Int) (xs : List Ix) (hn : xs.length ≤ 12) (hp : ∀ x, x ∈ xs → x.path.size ≤ 300) : 13 ≤ (putL id next xs).length ∧ (putL id next xs).length ≤ 10000 := by
  have hf : ((xs.map ixL).flatten).length ≤ xs.length * 400 := by
    clear hn
    induction xs with
    | nil => simp
    | cons a l ih =>
      have h0 := hp a List.mem_cons_self
      have h1 : (ixL a).length ≤ 400 := by
        have := shortL_len a.path.size (by omega)
        simp [ixL, be_len, bytesOf_length]; omega
      have h2 := ih (fun x hx => hp x (List.mem_cons_of_mem _ hx))
      simp only [List.map_cons, List.flatten_cons, List.length_append, List.length_cons]
      omega
  unfold putL
  simp only [List.length_append, be_len]
  omega
/-- What is put is a collection's bytes; what is got is what was put. -/
theorem put_ok (id next : Int) (xs : List Ix) (hid : 0 ≤ id ∧ id < 4294967296) (hnx : 0 ≤ next ∧ next < 18446744073709551616) (hp : ∀ x, x ∈ xs → x.path.size ≤ 300) (hb : rightB id next xs = true) :
    gId (putL id next xs) = id ∧ gNext (putL id next xs) = next ∧ gXs (putL id next xs) = xs ∧ collOk (putL id next xs) = true := by
  have h8 := (right_ids id next xs hb).1
  have h := put_got id next xs hid hnx h8 (fun x hx => by
    obtain ⟨j, hj, rfl⟩ := List.mem_iff_getElem.1 hx
    have h1 := right_id1 id next xs hb j hj
    rw [List.getD_eq_getElem?_getD, List.getElem?_eq_getElem hj] at h1
    have h2 := hp _ hx
    simp only [Option.getD_some] at h1
    omega)
  refine ⟨h.1, h.2.1, h.2.2.1, ?_⟩
  unfold collOk putG
  rw [h.1, h.2.1, h.2.2.1, h.2.2.2, hb]
  simp
/-- Bytes that are a collection's are put anew. -/
theorem coll_back (bs : List Int) (h : collOk bs = true) (hb : Bs bs) : rightB (gId bs) (gNext bs) (gXs bs) = true ∧ strOfNums (putL (gId bs) (gNext bs) (gXs bs)) = strOfNums bs := by
  unfold collOk at h
  simp only [Bool.and_eq_true, decide_eq_true_eq, beq_iff_eq] at h
  refine ⟨h.1.2, ?_⟩
  have h3 := h.2
  unfold putG at h3
  rw [Lib.toList_data, Lib.toList_data] at h3
  exact ByteArray.ext (Array.toList_inj.1 h3)
theorem pNum_bs {n : Nat} {s : Option (List Int)} (h : ∀ xs, s = some xs → Bs xs) : ∀ xs, (pNum n s).2 = some xs → Bs xs := by
  intro xs hx
  unfold pNum at hx
  rcases s with _ | ys
  · cases hx
  · simp only at hx
    split at hx
    · injection hx with hx
      subst hx
      exact fun b hb => h ys rfl b (List.mem_of_mem_drop hb)
    · cases hx
theorem got_bounds (bs : List Int) (hb : Bs bs) (hl : bs.length ≤ 100000) :
    (0 ≤ gId bs ∧ gId bs < 4294967296) ∧ (0 ≤ gNext bs ∧ gNext bs < 18446744073709551616) ∧ ∀ x, x ∈ gXs bs → x.path.size ≤ 100000 := by
  have b0 : ∀ xs, some bs = some xs → Bs xs := fun xs h => by injection h with h; subst h; exact hb
  have h1 := pNum_range (s := some bs) (n := 4) b0 (by decide)
  have h2 := pNum_range (s := s1 bs) (n := 8) (pNum_bs b0) (by decide)
  have e4 : (256 : Int) ^ 4 = 4294967296 := by decide
  have e8 : (256 : Int) ^ 8 = 18446744073709551616 := by decide
  rw [e4] at h1
  rw [e8] at h2
  have hsh : Short 100000 (some bs) := fun xs h => by injection h with h; subst h; exact hl
  exact ⟨h1, h2, (pIxs_short (((hsh.num 4).num 8).num 1) (gCnt bs).toNat).2⟩
end Go.Proofs.YtkgffeclgapkbaaDoor
namespace Go.Proofs.YtkgffeclgapkbaaDoor
open Go.RowKit Go.Proofs.YtkgffeclgapkbaaDoorW.PrintWords
set_option linter.unusedVariables false
set_option linter.unusedSimpArgs false
set_option maxRecDepth 100000
/-- The law's four guards. -/
def Skip (xs : List Ix) (s : ByteArray) (nb nd : Nat) : Prop := 12 < xs.length ∨ 60 < s.size ∨ 20 < nb ∨ nd < nb
set_option maxHeartbeats 8000000 in
theorem Puts_skip (id next : Int) (A : Option Addr) (c : Nat) (xs : List Ix) (s : ByteArray) (B : Option Addr) (nb cb : Nat) (D : Option Addr) (nd cd : Nat) (w : World) (hg : Gl w) (h : Skip xs s nb nd) :
    Calls Tryd.prog 3 #[.agg #[.int .u32 id, .int .u64 next, .slice A xs.length c], .string s, .slice B nb cb, .slice D nd cd] w fun r w' => r = .returned (.bool true) ∧ Fr No w w' := by
  have hf0 : Fr No w (w.alloc (.cells #[.int .u32 id, .int .u64 next, .slice A xs.length c] 26)) := (Fr.refl _ _).alloc _
  have hAw := awake_any _ (hg.keep0 hf0)
  have HF0 := hide hf0
  obtain ⟨w0, hw0⟩ : ∃ w0, w0 = w.alloc (.cells #[.int .u32 id, .int .u64 next, .slice A xs.length c] 26) := ⟨_, rfl⟩
  have hb0 : w0.heap[w.heap.size]? = some (.cells #[.int .u32 id, .int .u64 next, .slice A xs.length c] 26 (0, 0)) := by rw [hw0]; exact heap_alloc_new w _
  have HB0 := hide (And.intro hw0 hb0)
  obtain ⟨n, hn⟩ : ∃ n, n = xs.length := ⟨_, rfl⟩
  unfold Skip at h
  rw [← hn] at h hAw HF0 HB0 ⊢
  clear hw0 hb0 hg hf0
  clear hn
  by_cases h1 : 12 < n
  · have d1 : decide ((12 : Int) < (n : Int)) = true := decide_eq_true (by omega)
    have e1 : decide (12 < n) = true := decide_eq_true (by omega)
    clear h
    go_enter Tryd.func3, Tryd.ntmps3
    go_wp2_with fail
    refine hAw.mono ?_
    clear hAw
    rintro r w1 ⟨rfl, hf1⟩
    rw [← HB0.out.1] at hf1
    have hb1 := hf1.blk HB0.out.2 (fun h => h)
    have hc2 : w1.cell? ⟨w.heap.size, 2, none⟩ = some (.slice A n c) := blk_cell hb1 2
    rw [← HB0.out.1] at HF0
    have HF1 := hide (HF0.out.then0 hf1)
    clear hf1 hb1
    go_wp2_with fail
    go_ret
    exact ⟨rfl, HF1.out⟩
  · by_cases h2 : 60 < s.size
    · have d1 : decide ((12 : Int) < (n : Int)) = false := decide_eq_false (by omega)
      have e1 : decide (12 < n) = false := decide_eq_false (by omega)
      have d2 : decide ((60 : Int) < (s.size : Int)) = true := decide_eq_true (by omega)
      have e2 : decide (60 < s.size) = true := decide_eq_true (by omega)
      clear h
      go_enter Tryd.func3, Tryd.ntmps3
      go_wp2_with fail
      refine hAw.mono ?_
      clear hAw
      rintro r w1 ⟨rfl, hf1⟩
      rw [← HB0.out.1] at hf1
      have hb1 := hf1.blk HB0.out.2 (fun h => h)
      have hc2 : w1.cell? ⟨w.heap.size, 2, none⟩ = some (.slice A n c) := blk_cell hb1 2
      rw [← HB0.out.1] at HF0
      have HF1 := hide (HF0.out.then0 hf1)
      clear hf1 hb1
      go_wp2_with fail
      go_ret
      exact ⟨rfl, HF1.out⟩
    · by_cases h3 : 20 < nb
      · have d1 : decide ((12 : Int) < (n : Int)) = false := decide_eq_false (by omega)
        have e1 : decide (12 < n) = false := decide_eq_false (by omega)
        have d2 : decide ((60 : Int) < (s.size : Int)) = false := decide_eq_false (by omega)
        have e2 : decide (60 < s.size) = false := decide_eq_false (by omega)
        have d3 : decide ((20 : Int) < (nb : Int)) = true := decide_eq_true (by omega)
        have e3 : decide (20 < nb) = true := decide_eq_true (by omega)
        clear h
        go_enter Tryd.func3, Tryd.ntmps3
        go_wp2_with fail
        refine hAw.mono ?_
        clear hAw
        rintro r w1 ⟨rfl, hf1⟩
        rw [← HB0.out.1] at hf1
        have hb1 := hf1.blk HB0.out.2 (fun h => h)
        have hc2 : w1.cell? ⟨w.heap.size, 2, none⟩ = some (.slice A n c) := blk_cell hb1 2
        rw [← HB0.out.1] at HF0
        have HF1 := hide (HF0.out.then0 hf1)
        clear hf1 hb1
        go_wp2_with fail
        go_ret
        exact ⟨rfl, HF1.out⟩
      · have h4 : nd < nb := by omega
        have d1 : decide ((12 : Int) < (n : Int)) = false := decide_eq_false (by omega)
        have e1 : decide (12 < n) = false := decide_eq_false (by omega)
        have d2 : decide ((60 : Int) < (s.size : Int)) = false := decide_eq_false (by omega)
        have e2 : decide (60 < s.size) = false := decide_eq_false (by omega)
        have d3 : decide ((20 : Int) < (nb : Int)) = false := decide_eq_false (by omega)
        have e3 : decide (20 < nb) = false := decide_eq_false (by omega)
        have d4 : decide ((nd : Int) < (nb : Int)) = true := decide_eq_true (by omega)
        have e4 : decide (nd < nb) = true := decide_eq_true (by omega)
        clear h
        go_enter Tryd.func3, Tryd.ntmps3
        go_wp2_with fail
        refine hAw.mono ?_
        clear hAw
        rintro r w1 ⟨rfl, hf1⟩
        rw [← HB0.out.1] at hf1
        have hb1 := hf1.blk HB0.out.2 (fun h => h)
        have hc2 : w1.cell? ⟨w.heap.size, 2, none⟩ = some (.slice A n c) := blk_cell hb1 2
        rw [← HB0.out.1] at HF0
        have HF1 := hide (HF0.out.then0 hf1)
        clear hf1 hb1
        go_wp2_with fail
        go_ret
        exact ⟨rfl, HF1.out⟩
end Go.Proofs.YtkgffeclgapkbaaDoor
namespace Go.Proofs.YtkgffeclgapkbaaDoor
open Go.RowKit Go.Proofs.YtkgffeclgapkbaaDoorW.PrintWords
set_option linter.unusedVariables false
set_option linter.unusedSimpArgs false
set_option maxRecDepth 100000
/-- What is known of the law's arguments. -/
structure PutsIn (w : World) (id next : Int) (A : Option Addr) (c : Nat) (xs : List Ix) (s : ByteArray) (B : Option Addr) (ats : List Int) (D : Option Addr) (ds : List Int) : Prop where
  gl : Gl w
  id : 0 ≤ id ∧ id < 4294967296
  next : 0 ≤ next ∧ next < 18446744073709551616
  rd : RdI w A xs
  cap : xs.length ≤ c
  nA : A = none → c = 0
  rb : ReadsInt w .u16 B ats.length ats
  vb : ∀ x, x ∈ ats → 0 ≤ x ∧ x ≤ 65535
  rdd : ReadsInt w .u8 D ds.length ds
  vd : Bs ds
set_option maxHeartbeats 8000000 in
theorem Puts_main (id next : Int) (A : Option Addr) (c : Nat) (xs : List Ix) (s : ByteArray) (B : Option Addr) (cb : Nat) (ats : List Int) (D : Option Addr) (cd : Nat) (ds : List Int) (w : World) (h : PutsIn w id next A c xs s B ats D ds) (hk : ¬ Skip xs s ats.length ds.length) :
    Calls Tryd.prog 3 #[.agg #[.int .u32 id, .int .u64 next, .slice A xs.length c], .string s, .slice B ats.length cb, .slice D ds.length cd] w fun r w' => r = .returned (.bool true) ∧ Fr No w w' := by
  have hf0 : Fr No w (w.alloc (.cells #[.int .u32 id, .int .u64 next, .slice A xs.length c] 26)) := (Fr.refl _ _).alloc _
  have hAw := awake_any _ (h.gl.keep0 hf0)
  obtain ⟨w0, hw0⟩ : ∃ w0, w0 = w.alloc (.cells #[.int .u32 id, .int .u64 next, .slice A xs.length c] 26) := ⟨_, rfl⟩
  have hb0 : w0.heap[w.heap.size]? = some (.cells #[.int .u32 id, .int .u64 next, .slice A xs.length c] 26 (0, 0)) := by rw [hw0]; exact heap_alloc_new w _
  have HB0 := hide (And.intro hw0 (And.intro hb0 (And.intro hf0 h)))
  have n12 : xs.length ≤ 12 := by unfold Skip at hk; omega
  have n60 : s.size ≤ 60 := by unfold Skip at hk; omega
  have n20 : ats.length ≤ 20 := by unfold Skip at hk; omega
  have nd : ats.length ≤ ds.length := by unfold Skip at hk; omega
  have d1 : decide ((12 : Int) < (xs.length : Int)) = false := decide_eq_false (by omega)
  have e1 : decide (12 < xs.length) = false := decide_eq_false (by omega)
  have d2 : decide ((60 : Int) < (s.size : Int)) = false := decide_eq_false (by omega)
  have e2 : decide (60 < s.size) = false := decide_eq_false (by omega)
  have d3 : decide ((20 : Int) < (ats.length : Int)) = false := decide_eq_false (by omega)
  have e3 : decide (20 < ats.length) = false := decide_eq_false (by omega)
  have d4 : decide ((ds.length : Int) < (ats.length : Int)) = false := decide_eq_false (by omega)
  have e4 : decide (ds.length < ats.length) = false := decide_eq_false (by omega)
  clear h hk hf0 hw0 hb0
  go_enter Tryd.func3, Tryd.ntmps3
  go_wp2_with fail
  refine hAw.mono ?_
  clear hAw
  rintro r w1 ⟨rfl, hf1⟩
  rw [← HB0.out.1] at hf1
  have hb1 := hf1.blk HB0.out.2.1 (fun h => h)
  have hc2 : w1.cell? ⟨w.heap.size, 2, none⟩ = some (.slice A xs.length c) := blk_cell hb1 2
  have hF1 : Fr No w w1 := by
    have := HB0.out.2.2.1
    rw [← HB0.out.1] at this
    exact this.then0 hf1
  have HF1 := hide (And.intro hF1 (And.intro hb1 HB0.out.2.2.2))
  clear hf1 hb1 hF1
  go_wp2_with fail
  go_loop [10] (fun i => ∃ k : Nat, k ≤ xs.length ∧ i = .int .i64 k ∧ Aside0 (∀ j, j < k → (xs.getD j ix0).path.size ≤ 300)) (fun i => xs.length - (intOf i).toNat)
  case atStart => exact ⟨0, Nat.zero_le _, rfl, ⟨fun j hj => absurd hj (by omega)⟩⟩
  case round =>
    obtain ⟨k, hk, rfl, HP⟩ := hrel
    by_cases hlt : k < xs.length
    · obtain ⟨ad, rfl, q0, q1, q2⟩ := (HF1.out.2.2.rd.keep0 HF1.out.1) k hlt
      obtain ⟨x, hx⟩ : ∃ x, xs.getD k ix0 = x := ⟨_, rfl⟩
      rw [hx] at q0 q1 q2
      have HX := hide hx
      clear hx
      by_cases hp : 300 < x.path.size
      · have d5 : decide ((300 : Int) < (x.path.size : Int)) = true := decide_eq_true (by omega)
        go_wp2
        go_ret
        exact ⟨rfl, HF1.out.1⟩
      · have d5 : decide ((300 : Int) < (x.path.size : Int)) = false := decide_eq_false (by omega)
        go_wp2
        go_round
        case rel =>
          refine ⟨k + 1, by omega, by go_num, ⟨fun j hj => ?_⟩⟩
          by_cases e : j = k
          · subst e
            rw [HX.out]
            omega
          · exact HP.out j (by omega)
        case measure => simp [intOf]; omega
    · have hkn : k = xs.length := by omega
      subst hkn
      have hp : ∀ x, x ∈ xs → x.path.size ≤ 300 := by
        intro x hx
        obtain ⟨j, hj, rfl⟩ := List.mem_iff_getElem.1 hx
        have := HP.out j hj
        rwa [List.getD_eq_getElem?_getD, List.getElem?_eq_getElem hj] at this
      have HP := hide hp
      have hc0 : w1.cell? ⟨w.heap.size, 0, none⟩ = some (.int .u32 id) := blk_cell HF1.out.2.1 0
      have hc1 : w1.cell? ⟨w.heap.size, 1, none⟩ = some (.int .u64 next) := blk_cell HF1.out.2.1 1
      have hOf := Of_any id next A c xs w1 (HF1.out.2.2.rd.keep0 HF1.out.1) HF1.out.2.2.cap (by omega)
      clear hp
      go_wp2_with fail
      refine hOf.mono ?_
      rintro r w2 ⟨A2, c2, rfl, hle2, hr2, hf2⟩
      have hb2 := hf2.blk HF1.out.2.1 (fun h => h)
      have hk0 : ∀ o, (w2.alloc o).cell? ⟨w.heap.size, 0, none⟩ = some (.int .u32 id) := fun o => blk_cell (((Fr.refl No w2).alloc o).blk hb2 (fun h => h)) 0
      have hk1 : ∀ o, (w2.alloc o).cell? ⟨w.heap.size, 1, none⟩ = some (.int .u64 next) := fun o => blk_cell (((Fr.refl No w2).alloc o).blk hb2 (fun h => h)) 1
      have hk2 : ∀ o, (w2.alloc o).cell? ⟨w.heap.size, 2, none⟩ = some (.slice A xs.length c) := fun o => blk_cell (((Fr.refl No w2).alloc o).blk hb2 (fun h => h)) 2
      have HF2 := hide (And.intro (HF1.out.1.then0 hf2) (And.intro hb2 (And.intro hr2 hle2)))
      clear hf2 hb2 hr2 hle2 hc0 hc1 hc2 hOf
      go_wp2_with fail
      obtain ⟨w3, hw3⟩ : ∃ w3, w3 = w2.alloc (.cells #[.int .u32 id, .int .u64 next, .slice A2 xs.length c2] 34) := ⟨_, rfl⟩
      have hf3 : Fr No w2 w3 := by rw [hw3]; exact (Fr.refl _ _).alloc _
      have hb3 : w3.heap[w2.heap.size]? = some (.cells #[.int .u32 id, .int .u64 next, .slice A2 xs.length c2] 34 (0, 0)) := by rw [hw3]; exact heap_alloc_new w2 _
      have hP := Put_any id next A2 c2 xs w3 (HF1.out.2.2.gl.keep0 (HF2.out.1.then0 hf3)) (HF2.out.2.2.1.keep0 hf3) HF2.out.2.2.2 HF1.out.2.2.id HF1.out.2.2.next (by omega) (fun x hx => by have := HP.out x hx; omega)
      have hb13 := hf3.blk HF2.out.2.1 (fun h => h)
      have hF3 := HF2.out.1.then0 hf3
      have hR := fun W (hf : Fr No w3 W) => RefPut_any id next A c xs W (HF1.out.2.2.rd.keep0 (hF3.then0 hf)) HF1.out.2.2.cap HF1.out.2.2.id HF1.out.2.2.next (fun x hx => by have := HP.out x hx; omega) (by omega)
      have HF3 := hide (And.intro hF3 (And.intro hb13 (And.intro hb3 (HF2.out.2.2.1.keep0 hf3))))
      have HR := hide hR
      rw [← hw3]
      clear hw3 hf3 hb13 hb3 hF3 hR hk0 hk1 hk2
      refine hP.mono ?_
      rintro r w4 ⟨hpp, hf4⟩
      unfold PutPost at hpp
      have hk0 : w4.cell? ⟨w.heap.size, 0, none⟩ = some (.int .u32 id) := blk_cell (hf4.blk HF3.out.2.1 (fun h => h)) 0
      have hk1 : w4.cell? ⟨w.heap.size, 1, none⟩ = some (.int .u64 next) := blk_cell (hf4.blk HF3.out.2.1 (fun h => h)) 1
      have hk2 : w4.cell? ⟨w.heap.size, 2, none⟩ = some (.slice A xs.length c) := blk_cell (hf4.blk HF3.out.2.1 (fun h => h)) 2
      have hRP := HR.out w4 hf4
      have HF4 := hide hf4
      clear hP hf4
      by_cases hrb : rightB id next xs = true
      · rw [if_pos hrb] at hpp
        have hrp : refPut id next xs = (strOfNums (putL id next xs), 0) := if_pos hrb
        rw [hrp] at hRP
        obtain ⟨v, rfl, hm⟩ := hpp
        obtain ⟨Av, cv, rfl, hcv0, hrv⟩ := hm.rd
        obtain ⟨L, hL⟩ : ∃ L, putL id next xs = L := ⟨_, rfl⟩
        rw [hL] at hrv hm hcv0 hRP ⊢
        have HM := hide (And.intro hm (And.intro hL (And.intro hrb hcv0)))
        have HRP := hide hRP
        clear hm hL hrb hrp hRP hcv0
        go_wp2_with fail
        refine HRP.out.mono ?_
        rintro r w5 ⟨rfl, hf5⟩
        have hF5 := HF4.out.then0 hf5
        have hm5 : w5.ownsRow w3.heap.size 5 1 (.slice Av L.length cv) L.length (nums .u8 L) := own_fr HM.out.1 hf5 (fun k hk h => h)
        have hr5 := hf5.rd0 hrv
        have hb1 := hF5.blk HF3.out.2.1 (fun h => h)
        have hb2 := hF5.blk HF3.out.2.2.1 (fun h => h)
        have ha0 : w5.cell? ⟨w.heap.size, 0, none⟩ = some (.int .u32 id) := blk_cell hb1 0
        have ha1 : w5.cell? ⟨w.heap.size, 1, none⟩ = some (.int .u64 next) := blk_cell hb1 1
        have ha2 : w5.cell? ⟨w.heap.size, 2, none⟩ = some (.slice A xs.length c) := blk_cell hb1 2
        have hc0 : w5.cell? ⟨w2.heap.size, 0, none⟩ = some (.int .u32 id) := blk_cell hb2 0
        have hc1 : w5.cell? ⟨w2.heap.size, 1, none⟩ = some (.int .u64 next) := blk_cell hb2 1
        have hc2 : w5.cell? ⟨w2.heap.size, 2, none⟩ = some (.slice A2 xs.length c2) := blk_cell hb2 2
        clear hk0 hk1 hk2
        have HFS := hide (And.intro hF5 (And.intro hm5 hr5))
        clear hb1 hb2 hm5 hr5
        go_wp2_with fail
        obtain ⟨q1, hq1⟩ : ∃ q, rightB id next xs = q := ⟨_, rfl⟩
        obtain ⟨q2, hq2⟩ : ∃ q, nameOk s = q := ⟨_, rfl⟩
        have hA1 : ∀ W, Fr No w5 W → Calls Tryd.prog 9 #[.agg #[.int .u32 id, .int .u64 next, .slice A2 xs.length c2]] W fun r w' => r = .returned (.bool q1) ∧ Fr No w5 w' := fun W hf => by
          rw [← hq1]
          exact (Right_any id next A2 c2 xs W (HF1.out.2.2.gl.keep0 (HF3.out.1.then0 (HFS.out.1.then0 hf))) (HF3.out.2.2.2.keep0 (HFS.out.1.then0 hf)) HF2.out.2.2.2 (by omega) (fun x hx => by have := HP.out x hx; omega)).mono fun r w' ⟨h1, h2⟩ => ⟨h1, hf.then0 h2⟩
        have hA2 : ∀ W, Fr No w5 W → Calls Tryd.prog 10 #[.agg #[.int .u32 id, .int .u64 next, .slice A xs.length c]] W fun r w' => r = .returned (.bool q1) ∧ Fr No w5 w' := fun W hf => by
          rw [← hq1]
          exact (RefRight_any id next A c xs W (HF1.out.2.2.rd.keep0 (HF3.out.1.then0 (HFS.out.1.then0 hf))) HF1.out.2.2.cap (by have := HF1.out.2.2.id; omega) (by have := HF1.out.2.2.next; omega) (fun x hx => by have := HP.out x hx; omega) (by omega)).mono fun r w' ⟨h1, h2⟩ => ⟨h1, hf.then0 h2⟩
        have hA3 : ∀ W, Fr No w5 W → Calls Tryd.prog 11 #[.string s] W fun r w' => r = .returned (.bool q2) ∧ Fr No w5 w' := fun W hf => by
          rw [← hq2]
          exact (Name_any s W (by omega)).mono fun r w' ⟨h1, h2⟩ => ⟨h1, hf.then0 h2⟩
        have hA4 : ∀ W, Fr No w5 W → Calls Tryd.prog 12 #[.string s] W fun r w' => r = .returned (.bool q2) ∧ Fr No w5 w' := fun W hf => by
          rw [← hq2]
          exact (RefName_any s W (by omega)).mono fun r w' ⟨h1, h2⟩ => ⟨h1, hf.then0 h2⟩
        have gb1 := HFS.out.1.blk HF3.out.2.1 (fun h => h)
        have gb2 := HFS.out.1.blk HF3.out.2.2.1 (fun h => h)
        have s0 : ∀ W, Fr No w5 W → W.cell? ⟨w.heap.size, 0, none⟩ = some (.int .u32 id) := fun W hf => blk_cell (hf.blk gb1 (fun h => h)) 0
        have s1 : ∀ W, Fr No w5 W → W.cell? ⟨w.heap.size, 1, none⟩ = some (.int .u64 next) := fun W hf => blk_cell (hf.blk gb1 (fun h => h)) 1
        have s2 : ∀ W, Fr No w5 W → W.cell? ⟨w.heap.size, 2, none⟩ = some (.slice A xs.length c) := fun W hf => blk_cell (hf.blk gb1 (fun h => h)) 2
        have s3 : ∀ W, Fr No w5 W → W.cell? ⟨w2.heap.size, 0, none⟩ = some (.int .u32 id) := fun W hf => blk_cell (hf.blk gb2 (fun h => h)) 0
        have s4 : ∀ W, Fr No w5 W → W.cell? ⟨w2.heap.size, 1, none⟩ = some (.int .u64 next) := fun W hf => blk_cell (hf.blk gb2 (fun h => h)) 1
        have s5 : ∀ W, Fr No w5 W → W.cell? ⟨w2.heap.size, 2, none⟩ = some (.slice A2 xs.length c2) := fun W hf => blk_cell (hf.blk gb2 (fun h => h)) 2
        have hcv : ∀ W : World, Fr No w5 W → (convert 28 9 (.slice Av L.length cv)).run Tryd.prog W = .ok (.string (strOfNums L)) W := fun W hf => string_of_reads (P := Tryd.prog) (src := 28) (dst := 9) (c := cv) Tryd.underlying28 Tryd.underlying5 Tryd.underlying9 (hf.rd0 HFS.out.2.2)
        clear gb1 gb2 ha0 ha1 ha2 hc0 hc1 hc2 hq1 hq2 hrv
        have hF5 := Fr.refl No w5
        go_region_held3 (fun w' => Fr No w5 w') (first | exact hf9 | exact hf8 | exact hf7 | exact hf6 | exact hF5.drew | exact hF5) (first | (go_at_call 9; refine (hA1 _ (by first | exact hF5 | exact hF5.drew)).mono ?_; rintro e w6 ⟨rfl, hf6⟩) | (go_at_call 10; refine (hA2 _ hf6).mono ?_; rintro e w7 ⟨rfl, hf7⟩) | (go_at_call 11; refine (hA3 _ hf7).mono ?_; rintro e w8 ⟨rfl, hf8⟩) | (go_at_call 12; refine (hA4 _ hf8).mono ?_; rintro e w9 ⟨rfl, hf9⟩))
        clear hA1 hA2 hA3 hA4 s0 s1 s2 s3 s4 s5 hcv
        have hF9 := HFS.out.1.then0 hf9
        have hm9 : w9.ownsRow w3.heap.size 5 1 (.slice Av L.length cv) L.length (nums .u8 L) := own_fr HFS.out.2.1 hf9 (fun k hk h => h)
        have hll := putL_len id next xs n12 HP.out
        have hbl := putL_bs id next xs
        have hok := put_ok id next xs HF1.out.2.2.id HF1.out.2.2.next HP.out HM.out.2.2.1
        rw [HM.out.2.1] at hll hbl hok
        obtain ⟨g, hg, hgl⟩ : ∃ g, Av = some ⟨g, 0, none⟩ ∧ w3.heap.size ≤ g := by
          rcases hm9.2 with ⟨_, h0⟩ | ⟨g, cap, cur, he, hb, _⟩
          · omega
          · injection he with he _ _
            exact ⟨g, he, hb⟩
        subst hg
        have hG := Get_any (some ⟨g, 0, none⟩) cv L w9 (HF1.out.2.2.gl.keep0 (HF3.out.1.then0 hF9)) (hf9.rd0 HFS.out.2.2) (fun h => by cases h) hbl (by omega)
        have HF9 := hide (And.intro hF9 (And.intro hm9 (And.intro hgl (And.intro hbl hok))))
        have HG := hide hG
        have hl13 := hll.1
        have hl10 := hll.2
        clear hF5 hf6 hf7 hf8 hf9 hF9 hm9 hgl hbl hok hG hll
        go_wp2_with fail
        refine HG.out.mono ?_
        rintro r w10 ⟨hgp, hf10⟩
        unfold GetPost at hgp
        rw [if_pos HF9.out.2.2.2.2.2.2.2, HF9.out.2.2.2.2.1, HF9.out.2.2.2.2.2.1, HF9.out.2.2.2.2.2.2.1] at hgp
        obtain ⟨A', c', rfl, hle', hr'⟩ := hgp
        have hF10 := HF9.out.1.then0 hf10
        have hb1 := hF10.blk HF3.out.2.1 (fun h => h)
        have hk0 : ∀ o, (w10.alloc o).cell? ⟨w.heap.size, 0, none⟩ = some (.int .u32 id) := fun o => blk_cell (((Fr.refl No w10).alloc o).blk hb1 (fun h => h)) 0
        have hk1 : ∀ o, (w10.alloc o).cell? ⟨w.heap.size, 1, none⟩ = some (.int .u64 next) := fun o => blk_cell (((Fr.refl No w10).alloc o).blk hb1 (fun h => h)) 1
        have hk2 : ∀ o, (w10.alloc o).cell? ⟨w.heap.size, 2, none⟩ = some (.slice A xs.length c) := fun o => blk_cell (((Fr.refl No w10).alloc o).blk hb1 (fun h => h)) 2
        have HF10 := hide (And.intro hF10 (And.intro hf10 (And.intro hr' hle')))
        clear hF10 hf10 hr' hle' hb1
        go_wp2_with fail
        refine (Same_any id next A' A c' c xs _ (HF10.out.2.2.1.keep0 ((Fr.refl _ _).alloc _)) (HF1.out.2.2.rd.keep0 ((HF3.out.1.then0 HF10.out.1).alloc _)) HF10.out.2.2.2 HF1.out.2.2.cap (by omega)).mono ?_
        rintro r w11 ⟨rfl, hf11⟩
        have hF11 : Fr No w9 w11 := (HF10.out.2.1.alloc _).then0 hf11
        have hm11 : w11.ownsRow w3.heap.size 5 1 (.slice (some ⟨g, 0, none⟩) L.length cv) L.length (nums .u8 L) := own_fr HF9.out.2.1 hF11 (fun k hk h => h)
        have HF11 := hide (And.intro (HF3.out.1.then0 (HF9.out.1.then0 hF11)) hm11)
        obtain ⟨nL, hnL⟩ : ∃ nL, L.length = nL := ⟨_, rfl⟩
        have HNL := hide hnL
        have g13 : 13 ≤ nL := by omega
        have g10 : nL ≤ 10000 := by omega
        clear hf11 hF11 hm11 hk0 hk1 hk2 hl13 hl10
        go_wp2_with fail
        clear hnL
        go_loopw [18] (fun i wr => ∃ (k : Nat) (ys : List Int), k ≤ ats.length ∧ i = .int .i64 k ∧ Aside0 (ys.length = nL ∧ Bs ys ∧ wr.ownsRow w3.heap.size 5 1 (.slice (some ⟨g, 0, none⟩) nL cv) nL (nums .u8 ys) ∧ Fr (At g) w11 wr)) (fun i _ => ats.length - (intOf i).toNat)
        case atStart => exact ⟨0, L, Nat.zero_le _, rfl, ⟨HNL.out, HF9.out.2.2.2.1, by have := HF11.out.2; rwa [HNL.out] at this, Fr.refl _ _⟩⟩
        case round =>
          obtain ⟨k, ys, hk2, rfl, HY⟩ := hrel
          by_cases hlt2 : k < ats.length
          · have hlx : k < ds.length := by omega
            obtain ⟨a, ha⟩ : ∃ a, ats.getD k 0 = a := ⟨_, rfl⟩
            have hav : 0 ≤ a ∧ a ≤ 65535 := by rw [← ha]; exact HF1.out.2.2.vb _ (getD_mem' _ hlt2)
            obtain ⟨b, hb⟩ : ∃ b, ds.getD k 0 = b := ⟨_, rfl⟩
            have hbv : 0 ≤ b ∧ b ≤ 255 := by rw [← hb]; exact HF1.out.2.2.vd _ (getD_mem' _ hlx)
            obtain ⟨adB, rfl, hcB⟩ := HF1.out.2.2.rb.2.2 (by omega)
            obtain ⟨adD, rfl, hcD⟩ := HF1.out.2.2.rdd.2.2 (by omega)
            have hqB := hcB k hlt2
            have hqD := hcD k hlx
            rw [ha] at hqB
            rw [hb] at hqD
            have hgw : w.heap.size ≤ g := Nat.le_trans HF3.out.1.size HF9.out.2.2.1
            have hfw : Fr (At g) w wr := (HF11.out.1.mono (T := At g) (fun i h => h.elim)).trans HY.out.2.2.2 (fun i hi => .inl hi)
            have hcb : wr.cell? (adB.add k) = some (.int .u16 a) := hfw.cell hqB (fun e => by have := World.block_lt_of_cell? w _ hqB; have e : (adB.add k).block = g := e; omega)
            have hcd : wr.cell? (adD.add k) = some (.int .u8 b) := hfw.cell hqD (fun e => by have := World.block_lt_of_cell? w _ hqD; have e : (adD.add k).block = g := e; omega)
            obtain ⟨m, hm⟩ : ∃ m : Nat, m = a.toNat % nL := ⟨_, rfl⟩
            have hmn : m < nL := by rw [hm]; exact Nat.mod_lt _ (by omega)
            have hmi : a.tmod (nL : Int) = (m : Int) := by
              rw [Int.tmod_eq_emod_of_nonneg hav.1, hm]
              have : a = (a.toNat : Int) := by omega
              conv => lhs; rw [this]
              exact (Int.natCast_emod _ _).symm
            have hme : a % (nL : Int) = (m : Int) := by rw [← hmi, Int.tmod_eq_emod_of_nonneg hav.1]
            have hwa : IntKind.i64.wrap a = a := IntWalk.i64_in _ (by omega)
            have hwu : IntKind.u16.wrap a = a := IntWalk.u16_in _ (by omega)
            obtain ⟨y, hy⟩ : ∃ y, ys.getD m 0 = y := ⟨_, rfl⟩
            have hcy : wr.cell? ⟨g, m, none⟩ = some (.int .u8 y) := by
              rw [HY.out.2.2.1.cellAt m (by omega)]
              have hml : m < ys.length := by rw [HY.out.1]; exact hmn
              simp [nums, List.getElem?_eq_getElem hml]
              rw [← hy, List.getD_eq_getElem?_getD, List.getElem?_eq_getElem hml]
              rfl
            have hfz := HY.out.2.2.1.frozenAt m
            have hm0 : (0 : Int) ≤ (m : Int) := by omega
            have hm1 : (m : Int) < (nL : Int) := by omega
            have hk0 : (0 : Int) ≤ (k : Int) := by omega
            have hk1 : (k : Int) < (ats.length : Int) := by omega
            have hk3 : (k : Int) < (ds.length : Int) := by omega
            have d6 : decide ((k : Int) < (ats.length : Int)) = true := decide_eq_true hk1
            have e6 : decide (k < ats.length) = true := decide_eq_true hlt2
            have d7 : decide ((0 : Int) < (nL : Int)) = true := decide_eq_true (by omega)
            have e7 : decide (0 < nL) = true := decide_eq_true (by omega)
            have hn0 : ((nL : Int) == 0) = false := by simp; omega
            have HM2 := hide (And.intro hm hy)
            clear hqB hqD hcB hcD hm hy ha hb hfw
            go_wp2_with fail
            go_region
            go_wp2
            go_roundw
            case rel =>
              have hst := HY.out.2.2.1.stored m (.int .u8 (bits .xor .u8 y b))
              refine ⟨k + 1, ys.set m (bits .xor .u8 y b), by omega, by go_num, ⟨by rw [List.length_set]; exact HY.out.1, ?_, ?_, ?_⟩⟩
              · intro z hz
                rcases List.mem_or_eq_of_mem_set hz with hz | hz
                · exact HY.out.2.1 z hz
                · subst hz
                  have := bounds_u8 (Go.wf_bits .xor .u8 y b)
                  omega
              · have h1 := hst.1
                have e : (nums .u8 ys).set m (.int .u8 (bits .xor .u8 y b)) = nums .u8 (ys.set m (bits .xor .u8 y b)) := by simp [nums, List.map_set]
                rw [e] at h1
                exact h1.drew
              · exact (HY.out.2.2.2.setCell (p := ⟨g, m, none⟩) (.inl rfl) _).drew
            case measure => simp [intOf]; omega
          · have hkn : k = ats.length := by omega
            subst hkn
            have d6 : decide ((ats.length : Int) < (ats.length : Int)) = false := decide_eq_false (by omega)
            have e6 : decide (ats.length < ats.length) = false := decide_eq_false (by omega)
            have hgw : w.heap.size ≤ g := Nat.le_trans HF3.out.1.size HF9.out.2.2.1
            have hfw : Fr No w wr := HF11.out.1.trans HY.out.2.2.2 (fun i hi => .inr (by have hi : i = g := hi; omega))
            obtain ⟨Ay, cy, hey, hly, hcy, hrdy⟩ := own_rd HY.out.2.2.1
            have hey2 : Ay = some ⟨g, 0, none⟩ ∧ cy = cv := by
              injection hey with h1 h2 h3
              exact ⟨h1.symm, h3.symm⟩
            obtain ⟨rfl, rfl⟩ := hey2
            have hG2 := Get_any (some ⟨g, 0, none⟩) cy ys wr (HF1.out.2.2.gl.keep0 hfw) hrdy (fun h => by cases h) HY.out.2.1 (by omega)
            rw [hly] at hG2
            have hcv2 : ∀ W : World, Fr No wr W → (convert 28 9 (.slice (some ⟨g, 0, none⟩) nL cy)).run Tryd.prog W = .ok (.string (strOfNums ys)) W := fun W hf => by
              have := string_of_reads (P := Tryd.prog) (src := 28) (dst := 9) (c := cy) Tryd.underlying28 Tryd.underlying5 Tryd.underlying9 (hf.rd0 hrdy)
              rwa [hly] at this
            have HG2 := hide (And.intro hG2 hcv2)
            have HW := hide hfw
            have hgb := got_bounds ys HY.out.2.1 (by omega)
            have HGB := hide hgb
            clear hfw hG2 hcv2 hgb hey hly hcy hrdy HG HRP HR
            go_wp2_with fail
            refine HG2.out.1.mono ?_
            rintro r w12 ⟨hgp, hf12⟩
            unfold GetPost at hgp
            have HF12 := hide (And.intro hf12 (HW.out.then0 hf12))
            clear hf12
            by_cases hck : collOk ys = true
            · rw [if_pos hck] at hgp
              obtain ⟨A3, c3, rfl, hle3, hr3⟩ := hgp
              have hbk := coll_back ys hck HY.out.2.1
              have hP2 := fun W (hf : Fr No w12 W) => Put_any (gId ys) (gNext ys) A3 c3 (gXs ys) W (HF1.out.2.2.gl.keep0 (HF12.out.2.then0 hf)) (hr3.keep0 hf) hle3 HGB.out.1 HGB.out.2.1 (by have := (right_ids _ _ _ hbk.1).1; omega) (fun x hx => by have := HGB.out.2.2 x hx; omega)
              obtain ⟨xi, hxi⟩ : ∃ xi, gId ys = xi := ⟨_, rfl⟩
              obtain ⟨xn, hxn⟩ : ∃ xn, gNext ys = xn := ⟨_, rfl⟩
              obtain ⟨xx, hxx⟩ : ∃ xx, gXs ys = xx := ⟨_, rfl⟩
              rw [hxi, hxn, hxx] at hP2 hbk ⊢
              have HP2 := hide (And.intro hP2 hbk)
              clear hP2 hbk hxi hxn hxx hck hr3 hle3
              go_wp2_with fail
              refine (HP2.out.1 _ ((Fr.refl _ _).alloc _)).mono ?_
              rintro r w13 ⟨hpp, hf13⟩
              unfold PutPost at hpp
              rw [if_pos HP2.out.2.1] at hpp
              obtain ⟨v, rfl, hm⟩ := hpp
              obtain ⟨Av, cv2, rfl, hlv, hrv⟩ := hm.rd
              obtain ⟨M, hM⟩ : ∃ M, putL xi xn xx = M := ⟨_, rfl⟩
              rw [hM] at hrv ⊢
              have hf14 := (((Fr.refl No w12).alloc _).then0 hf13)
              have hv1 := string_of_reads (P := Tryd.prog) (src := 28) (dst := 9) (c := cv2) Tryd.underlying28 Tryd.underlying5 Tryd.underlying9 hrv
              have hv2 := HG2.out.2 w13 (HF12.out.1.then0 hf14)
              have hse : strOfNums M = strOfNums ys := by rw [← hM]; exact HP2.out.2.2
              rw [hse] at hv1
              have HF14 := hide (HF12.out.2.then0 hf14)
              clear hse hf14 hf13 hm hrv hM hlv
              go_wp2_with fail
              go_ret
              exact ⟨rfl, HF14.out⟩
            · rw [if_neg hck] at hgp
              subst hgp
              clear hck
              go_wp2_with fail
              go_ret
              exact ⟨rfl, HF12.out.2.alloc _⟩
      · rw [if_neg hrb] at hpp
        have hrp : refPut id next xs = (⟨#[]⟩, 1) := if_neg hrb
        rw [hrp] at hRP
        subst hpp
        have HRB := hide hrb
        have HRP := hide hRP
        clear hrb hrp hRP
        go_wp2_with fail
        refine HRP.out.mono ?_
        rintro r w5 ⟨rfl, hf5⟩
        have hF5 := HF4.out.then0 hf5
        have hb1 := hF5.blk HF3.out.2.1 (fun h => h)
        have hb2 := hF5.blk HF3.out.2.2.1 (fun h => h)
        have ha0 : w5.cell? ⟨w.heap.size, 0, none⟩ = some (.int .u32 id) := blk_cell hb1 0
        have ha1 : w5.cell? ⟨w.heap.size, 1, none⟩ = some (.int .u64 next) := blk_cell hb1 1
        have ha2 : w5.cell? ⟨w.heap.size, 2, none⟩ = some (.slice A xs.length c) := blk_cell hb1 2
        have hc0 : w5.cell? ⟨w2.heap.size, 0, none⟩ = some (.int .u32 id) := blk_cell hb2 0
        have hc1 : w5.cell? ⟨w2.heap.size, 1, none⟩ = some (.int .u64 next) := blk_cell hb2 1
        have hc2 : w5.cell? ⟨w2.heap.size, 2, none⟩ = some (.slice A2 xs.length c2) := blk_cell hb2 2
        clear hk0 hk1 hk2
        have hF5w := HF3.out.1.then0 hF5
        have HFS := hide (And.intro hF5 (And.intro hb1 hb2))
        clear hF5w hb1 hb2
        go_wp2_with fail
        obtain ⟨q1, hq1⟩ : ∃ q, rightB id next xs = q := ⟨_, rfl⟩
        obtain ⟨q2, hq2⟩ : ∃ q, nameOk s = q := ⟨_, rfl⟩
        have hA1 : ∀ W, Fr No w3 W → Calls Tryd.prog 9 #[.agg #[.int .u32 id, .int .u64 next, .slice A2 xs.length c2]] W fun r w' => r = .returned (.bool q1) ∧ Fr No w3 w' := fun W hf => by
          rw [← hq1]
          exact (Right_any id next A2 c2 xs W (HF1.out.2.2.gl.keep0 (HF3.out.1.then0 hf)) (HF3.out.2.2.2.keep0 hf) HF2.out.2.2.2 (by omega) (fun x hx => by have := HP.out x hx; omega)).mono fun r w' ⟨h1, h2⟩ => ⟨h1, hf.then0 h2⟩
        have hA2 : ∀ W, Fr No w3 W → Calls Tryd.prog 10 #[.agg #[.int .u32 id, .int .u64 next, .slice A xs.length c]] W fun r w' => r = .returned (.bool q1) ∧ Fr No w3 w' := fun W hf => by
          rw [← hq1]
          exact (RefRight_any id next A c xs W (HF1.out.2.2.rd.keep0 (HF3.out.1.then0 hf)) HF1.out.2.2.cap (by have := HF1.out.2.2.id; omega) (by have := HF1.out.2.2.next; omega) (fun x hx => by have := HP.out x hx; omega) (by omega)).mono fun r w' ⟨h1, h2⟩ => ⟨h1, hf.then0 h2⟩
        have hA3 : ∀ W, Fr No w3 W → Calls Tryd.prog 11 #[.string s] W fun r w' => r = .returned (.bool q2) ∧ Fr No w3 w' := fun W hf => by
          rw [← hq2]
          exact (Name_any s W (by omega)).mono fun r w' ⟨h1, h2⟩ => ⟨h1, hf.then0 h2⟩
        have hA4 : ∀ W, Fr No w3 W → Calls Tryd.prog 12 #[.string s] W fun r w' => r = .returned (.bool q2) ∧ Fr No w3 w' := fun W hf => by
          rw [← hq2]
          exact (RefName_any s W (by omega)).mono fun r w' ⟨h1, h2⟩ => ⟨h1, hf.then0 h2⟩
        have gb1 := HF3.out.2.1
        have gb2 := HF3.out.2.2.1
        have s0 : ∀ W, Fr No w3 W → W.cell? ⟨w.heap.size, 0, none⟩ = some (.int .u32 id) := fun W hf => blk_cell (hf.blk gb1 (fun h => h)) 0
        have s1 : ∀ W, Fr No w3 W → W.cell? ⟨w.heap.size, 1, none⟩ = some (.int .u64 next) := fun W hf => blk_cell (hf.blk gb1 (fun h => h)) 1
        have s2 : ∀ W, Fr No w3 W → W.cell? ⟨w.heap.size, 2, none⟩ = some (.slice A xs.length c) := fun W hf => blk_cell (hf.blk gb1 (fun h => h)) 2
        have s3 : ∀ W, Fr No w3 W → W.cell? ⟨w2.heap.size, 0, none⟩ = some (.int .u32 id) := fun W hf => blk_cell (hf.blk gb2 (fun h => h)) 0
        have s4 : ∀ W, Fr No w3 W → W.cell? ⟨w2.heap.size, 1, none⟩ = some (.int .u64 next) := fun W hf => blk_cell (hf.blk gb2 (fun h => h)) 1
        have s5 : ∀ W, Fr No w3 W → W.cell? ⟨w2.heap.size, 2, none⟩ = some (.slice A2 xs.length c2) := fun W hf => blk_cell (hf.blk gb2 (fun h => h)) 2
        have hcv : ∀ W : World, (convert 28 9 (.slice none 0 0)).run Tryd.prog W = .ok (.string ⟨#[]⟩) W := fun W => string_of_reads (P := Tryd.prog) (src := 28) (dst := 9) (c := 0) Tryd.underlying28 Tryd.underlying5 Tryd.underlying9 (Rd.nil W none)
        clear gb1 gb2 ha0 ha1 ha2 hc0 hc1 hc2 hq1 hq2
        go_region_held3 (fun w' => Fr No w3 w') (first | exact hf9 | exact hf8 | exact hf7 | exact hf6 | exact hF5.drew | exact hF5) (first | (go_at_call 9; refine (hA1 _ (by first | exact hF5 | exact hF5.drew)).mono ?_; rintro e w6 ⟨rfl, hf6⟩) | (go_at_call 10; refine (hA2 _ hf6).mono ?_; rintro e w7 ⟨rfl, hf7⟩) | (go_at_call 11; refine (hA3 _ hf7).mono ?_; rintro e w8 ⟨rfl, hf8⟩) | (go_at_call 12; refine (hA4 _ hf8).mono ?_; rintro e w9 ⟨rfl, hf9⟩))
        clear hA1 hA2 hA3 hA4 s0 s1 s2 s3 s4 s5 hcv
        have hF9 := HF3.out.1.then0 hf9
        have hGet := fun W (hf : Fr No w9 W) => Get_any none 0 [] W (HF1.out.2.2.gl.keep0 (hF9.then0 hf)) (Rd.nil W none) (fun _ => rfl) (fun b hb => by cases hb) (by decide)
        have HF9 := hide (And.intro hF9 hGet)
        clear hF5 hf6 hf7 hf8 hf9 hF9 hGet
        go_wp2_with fail
        go_loop [18] (fun i => i = .int .i64 0) (fun _ => 0)
        case atStart => exact rfl
        case round =>
          subst hrel
          by_cases hz : ats.length = 0
          · have d6 : decide ((0 : Int) < (ats.length : Int)) = false := decide_eq_false (by omega)
            have e6 : decide (0 < ats.length) = false := decide_eq_false (by omega)
            clear hz
            go_wp2_with fail
            refine (HF9.out.2 _ (Fr.refl _ _)).mono ?_
            rintro r w10 ⟨hgp, hf10⟩
            have hno : ¬ collOk [] = true := by decide
            unfold GetPost at hgp
            rw [if_neg hno] at hgp
            subst hgp
            have HF10 := hide (HF9.out.1.then0 hf10)
            clear hno hf10
            go_wp2_with fail
            go_ret
            exact ⟨rfl, HF10.out.alloc _⟩
          · have d6 : decide ((0 : Int) < (ats.length : Int)) = true := decide_eq_true (by omega)
            have e6 : decide (0 < ats.length) = true := decide_eq_true (by omega)
            clear hz
            go_wp2_with fail
            refine (HF9.out.2 _ (Fr.refl _ _)).mono ?_
            rintro r w10 ⟨hgp, hf10⟩
            have hno : ¬ collOk [] = true := by decide
            unfold GetPost at hgp
            rw [if_neg hno] at hgp
            subst hgp
            have HF10 := hide (HF9.out.1.then0 hf10)
            clear hno hf10
            go_wp2_with fail
            go_ret
            exact ⟨rfl, HF10.out.alloc _⟩
end Go.Proofs.YtkgffeclgapkbaaDoor
