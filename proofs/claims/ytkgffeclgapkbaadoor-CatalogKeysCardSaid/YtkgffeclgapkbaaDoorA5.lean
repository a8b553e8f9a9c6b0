/- octet's Reader: Num, Raw. -/
import Derived.Test.YtkgffeclgapkbaaDoorA4
import Derived.Laws.BitsAllLaws
import Derived.Laws.BitsLemmas
namespace Go.Proofs.YtkgffeclgapkbaaDoor
open Go.RowKit Go.Proofs.YtkgffeclgapkbaaDoorW.PrintWords
set_option linter.unusedVariables false
set_option linter.unusedSimpArgs false
set_option maxRecDepth 100000
/-- all are bytes -/
def Bs (xs : List Int) : Prop := ∀ b, b ∈ xs → 0 ≤ b ∧ b ≤ 255
/-- a number, of base B, the highest first -/
def valOf (B : Int) (xs : List Int) : Int := xs.foldl (fun x c => x * B + c) 0
theorem valOf_snoc (B : Int) (xs : List Int) (c : Int) : valOf B (xs ++ [c]) = valOf B xs * B + c := by simp [valOf, List.foldl_append]
theorem take_snoc' {xs : List Int} {k : Nat} (h : k < xs.length) : xs.take (k + 1) = xs.take k ++ [xs.getD k 0] := by
  rw [List.take_succ_eq_append_getElem h, List.getD_eq_getElem?_getD, List.getElem?_eq_getElem h]; rfl
theorem valOf_bound {xs : List Int} (h : Bs xs) : ∀ k, k ≤ xs.length → 0 ≤ valOf 256 (xs.take k) ∧ valOf 256 (xs.take k) < 256 ^ k
  | 0, _ => by simp [valOf]
  | k + 1, hk => by
    obtain ⟨h1, h2⟩ := valOf_bound h k (by omega)
    rw [take_snoc' (by omega), valOf_snoc]
    have hb := h (xs.getD k 0) (by rw [List.getD_eq_getElem?_getD, List.getElem?_eq_getElem (by omega)]; exact List.getElem_mem _)
    rw [Int.pow_succ]
    omega
theorem or_add (x c : Int) (k : Nat) (h0 : 0 ≤ x) (h1 : x * 2 ^ k + c < 18446744073709551616) (c0 : 0 ≤ c) (c1 : c < 2 ^ k) : bits .or .u64 (x * 2 ^ k) c = x * 2 ^ k + c := by
  obtain ⟨a, rfl⟩ := Int.eq_ofNat_of_zero_le h0
  obtain ⟨b, rfl⟩ := Int.eq_ofNat_of_zero_le c0
  have hb : b < 2 ^ k := by exact_mod_cast c1
  have e : (a : Int) * 2 ^ k = ((a * 2 ^ k : Nat) : Int) := by push_cast; rfl
  rw [e] at h1 ⊢
  have hlt : a * 2 ^ k + b < 18446744073709551616 := by omega
  rw [← Nat.shiftLeft_eq] at hlt ⊢
  show IntKind.u64.wrap ((BitVec.ofInt 64 _ ||| BitVec.ofInt 64 _).toNat : Int) = _
  rw [BitVec.toNat_or, BitVec.ofInt_natCast, BitVec.ofInt_natCast, BitVec.toNat_ofNat, BitVec.toNat_ofNat, Nat.mod_eq_of_lt (by omega), Nat.mod_eq_of_lt (by omega), ← Nat.shiftLeft_add_eq_or_of_lt hb]
  rw [IntWalk.u64_in _ (by omega)]
  push_cast
  rfl
theorem or_add8 (x c : Int) (h0 : 0 ≤ x) (h1 : x * 256 + c < 18446744073709551616) (c0 : 0 ≤ c) (c1 : c ≤ 255) : bits .or .u64 (x * 256) (IntKind.u64.wrap c) = x * 256 + c := by
  rw [IntWalk.u64_in _ (by omega)]
  exact or_add x c 8 h0 h1 c0 (by omega)
theorem getD_bs {xs : List Int} (h : Bs xs) (k : Nat) : 0 ≤ xs.getD k 0 ∧ xs.getD k 0 ≤ 255 := by
  rw [List.getD_eq_getElem?_getD]
  rcases Nat.lt_or_ge k xs.length with hk | hk
  · rw [List.getElem?_eq_getElem hk]
    exact h _ (List.getElem_mem _)
  · rw [List.getElem?_eq_none hk]
    exact ⟨by decide, by decide⟩
theorem pow256 (k : Nat) (h : k ≤ 7) : (256 : Int) ^ k ≤ 72057594037927936 := by
  have : k = 0 ∨ k = 1 ∨ k = 2 ∨ k = 3 ∨ k = 4 ∨ k = 5 ∨ k = 6 ∨ k = 7 := by omega
  rcases this with h | h | h | h | h | h | h | h <;> subst h <;> decide
set_option maxHeartbeats 1000000 in
theorem RNum_ok (g : Nat) (w : World) (xs : List Int) (n : Nat) (h : IsR w g xs 0) (hn : n ≤ xs.length) (hs : xs.length ≤ 100000000) (h1 : 1 ≤ n) (h8 : n ≤ 8) (hb : Bs xs) :
    Calls Tryd.prog 34 #[.pointer (some ⟨g, 0, none⟩), .int .i64 n] w fun r w' => r = .returned (.int .u64 (valOf 256 (xs.take n))) ∧ IsR w' g (xs.drop n) 0 ∧ Fr (At g) w w' := by
  have H := hide h
  clear h
  obtain ⟨ys, hys⟩ : ∃ ys, xs.take n = ys := ⟨_, rfl⟩
  have hyl : ys.length = n := by rw [← hys, List.length_take]; omega
  have hbs : Bs ys := by rw [← hys]; exact fun b hb' => hb b (List.mem_of_mem_take hb')
  have hle : ys.length ≤ n := by omega
  have hge : n ≤ ys.length := by omega
  rw [hys]
  have HYS := hide hys
  clear hys hyl
  go_enter Tryd.func34, Tryd.ntmps34
  go_wp2_with fail
  refine (may_ok _ _ (by omega) (by omega)).mono ?_
  rintro e w' ⟨rfl, rfl⟩
  go_wp2_with fail
  refine (take_ok g w xs n H.out hn hs).mono ?_
  rintro r w1 ⟨A, rfl, hr, hA, hR, hf⟩
  have HR := hide (And.intro hR hf)
  clear H hR hf
  rw [HYS.out] at hr
  go_wp2_with fail
  go_loop [5, 19] (fun x i => ∃ k : Nat, k ≤ n ∧ i = .int .i64 k ∧ x = .int .u64 (valOf 256 (ys.take k))) (fun _ i => n - (intOf i).toNat)
  case atStart => exact ⟨0, Nat.zero_le _, rfl, by simp [valOf]⟩
  case round =>
    obtain ⟨k, hk, rfl, rfl⟩ := hrel
    obtain ⟨v0, v1⟩ := valOf_bound hbs k (by omega)
    obtain ⟨c0, c1⟩ := getD_bs hbs k
    by_cases hlt : k < n
    · obtain ⟨ad, rfl, hc⟩ := hr.2.2 (by omega)
      have hck := hc k (by omega)
      have hp := pow256 k (by omega)
      have e1 : IntKind.u64.wrap (valOf 256 (ys.take k) * 2 ^ 8) = valOf 256 (ys.take k) * 2 ^ 8 := IntWalk.u64_in _ (by omega)
      have e2 := hide (or_add8 (valOf 256 (ys.take k)) (ys.getD k 0) v0 (by omega) c0 (by omega))
      have HC := hide hc
      clear hc
      go_wp2
      go_round
      case rel => exact ⟨k + 1, by omega, by go_num, by rw [take_snoc' (by omega), valOf_snoc, ← List.getD_eq_getElem?_getD]; exact congrArg _ e2.out⟩
      case measure => simp [intOf]; omega
    · have hkn : k = n := by omega
      subst hkn
      have ht : ys.take k = ys := List.take_of_length_le (by omega)
      have HT := hide ht
      clear ht
      go_wp2
      go_ret
      exact ⟨by rw [HT.out]; rfl, HR.out⟩
set_option maxHeartbeats 1000000 in
theorem RNum_no (g : Nat) (w : World) (xs : List Int) (e : Int) (n : Nat) (h : IsR w g xs e) (hn : e ≠ 0 ∨ xs.length < n) (hs : xs.length ≤ 100000000) (h1 : 1 ≤ n) (h8 : n ≤ 8) :
    Calls Tryd.prog 34 #[.pointer (some ⟨g, 0, none⟩), .int .i64 n] w fun r w' => r = .returned (.int .u64 0) ∧ IsR w' g xs (takeE xs.length n e) ∧ Fr (At g) w w' := by
  have H := hide h
  have HN := hide hn
  clear h hn
  go_enter Tryd.func34, Tryd.ntmps34
  go_wp2_with fail
  refine (may_ok _ _ (by omega) (by omega)).mono ?_
  rintro r w' ⟨rfl, rfl⟩
  go_wp2_with fail
  refine (take_no g w xs e n H.out HN.out hs).mono ?_
  rintro r w1 ⟨rfl, hR, hf⟩
  have HR := hide (And.intro hR hf)
  clear H hR hf
  go_wp2_with fail
  go_loop [5, 19] (fun x i => i = .int .i64 0 ∧ x = .int .u64 0) (fun _ i => 0)
  case atStart => exact ⟨rfl, rfl⟩
  case round =>
    obtain ⟨rfl, rfl⟩ := hrel
    go_wp2
    go_ret
    exact ⟨rfl, HR.out⟩
set_option maxHeartbeats 1000000 in
theorem RRaw_ok (g : Nat) (w : World) (xs : List Int) (n : Nat) (h : IsR w g xs 0) (hn : n ≤ xs.length) (hs : xs.length ≤ 100000000) :
    Calls Tryd.prog 61 #[.pointer (some ⟨g, 0, none⟩), .int .i64 n] w fun r w' => ∃ v, r = .returned v ∧ Mine w w' v (xs.take n) ∧ IsR w' g (xs.drop n) 0 ∧ Fr (At g) w w' := by
  have H := hide h
  clear h
  have d1 : decide ((n : Int) < 0) = false := decide_eq_false (by omega)
  have hl : (xs.take n).length = n := by rw [List.length_take]; omega
  have HL := hide hl
  clear hl
  go_enter Tryd.func61, Tryd.ntmps61
  go_wp2_with fail
  refine (take_ok g w xs n H.out hn hs).mono ?_
  rintro r w1 ⟨A, rfl, hr, hA, hR, hf⟩
  go_wp2_with fail
  have hc := Clone_any w1 A n (xs.take n) hr hA (by rw [HL.out]; omega)
  rw [HL.out] at hc
  refine hc.mono ?_
  rintro r w2 ⟨v, rfl, hm, hf2⟩
  go_wp2_with fail
  go_ret
  refine ⟨_, rfl, own_weaken hm hf.size, ?_, hf.trans hf2 (fun _ h => h.elim)⟩
  obtain ⟨A', c, hb, hl, hA', hrd, hT⟩ := hR
  exact ⟨A', c, hf2.blk hb (fun h => h), hl, hA', hf2.rd0 hrd, hT.keep0 hf2⟩
theorem IsR.keep {w w1 : World} {g : Nat} {xs : List Int} {e : Int} (h : IsR w g xs e) (hf : Fr No w w1) : IsR w1 g xs e := by
  obtain ⟨A', c, hb, hl, hA', hrd, hT⟩ := h
  exact ⟨A', c, hf.blk hb (fun h => h), hl, hA', hf.rd0 hrd, hT.keep0 hf⟩
set_option maxHeartbeats 1000000 in
theorem RRaw_no (g : Nat) (w : World) (xs : List Int) (e : Int) (n : Nat) (h : IsR w g xs e) (hn : e ≠ 0 ∨ xs.length < n) (hs : xs.length ≤ 100000000) :
    Calls Tryd.prog 61 #[.pointer (some ⟨g, 0, none⟩), .int .i64 n] w fun r w' => ∃ v, r = .returned v ∧ Mine w w' v [] ∧ IsR w' g xs (takeE xs.length n e) ∧ Fr (At g) w w' := by
  have H := hide h
  have HN := hide hn
  clear h hn
  have d1 : decide ((n : Int) < 0) = false := decide_eq_false (by omega)
  go_enter Tryd.func61, Tryd.ntmps61
  go_wp2_with fail
  refine (take_no g w xs e n H.out HN.out hs).mono ?_
  rintro r w1 ⟨rfl, hR, hf⟩
  go_wp2_with fail
  refine (Clone_nil w1).mono ?_
  rintro r w2 ⟨rfl, rfl⟩
  go_wp2_with fail
  go_ret
  exact ⟨_, rfl, own_nil _ _ _ _, hR, hf⟩
end Go.Proofs.YtkgffeclgapkbaaDoor
