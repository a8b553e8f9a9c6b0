/- The reference's number as a text; the law's example. -/
import Derived.Test.YtkgffeclgapkbaaDoorA17
namespace Go.Proofs.YtkgffeclgapkbaaDoor
open Go.RowKit Go.Proofs.YtkgffeclgapkbaaDoorW.PrintWords
set_option linter.unusedVariables false
set_option linter.unusedSimpArgs false
set_option maxRecDepth 100000
/-- the k lowest bytes, the highest of them first -/
def lowB (x : Int) : Nat → List Int
  | 0 => []
  | k + 1 => (x / 256 ^ k % 256) :: lowB x k
theorem rd_one (w : World) (b : Int) : Rd (w.alloc (.cells #[.int .u8 b] 5)) (some ⟨w.heap.size, 0, none⟩) [b] := by
  refine ⟨rfl, by simp, fun _ => ⟨_, rfl, fun j hj => ?_⟩⟩
  have : j = 0 := by
    have : j < 1 := hj
    omega
  subst this
  have e : (⟨w.heap.size, 0, none⟩ : Addr).add 0 = ⟨w.heap.size, 0, none⟩ := rfl
  rw [e]
  exact blk_cell (heap_alloc_new w (.cells #[.int .u8 b] 5)) 0
theorem str_cons (b : Int) (l : List Int) : strOfNums [b] ++ strOfNums l = strOfNums (b :: l) := by
  apply ByteArray.ext
  simp [strOfNums, ByteArray.data_append]
theorem lowB_len (x : Int) : ∀ k, (lowB x k).length = k
  | 0 => rfl
  | k + 1 => by show (lowB x k).length + 1 = _; rw [lowB_len x k]
set_option maxHeartbeats 1000000 in
theorem RefNum_any (x : Int) (n : Nat) (w : World) (h0 : 0 ≤ x) (hx : x < 18446744073709551616) (h1 : 1 ≤ n) (h8 : n ≤ 8) :
    Calls Tryd.prog 15 #[.int .u64 x, .int .i64 n] w fun r w' => r = .returned (.string (strOfNums (lowB x n))) ∧ Fr No w w' := by
  have d1 : decide ((n : Int) < 1) = false := decide_eq_false (by omega)
  have d2 : decide ((8 : Int) < (n : Int)) = false := decide_eq_false (by omega)
  have d3 : decide (n < 1) = false := decide_eq_false (by omega)
  have d4 : decide (8 < n) = false := decide_eq_false (by omega)
  go_enter Tryd.func15, Tryd.ntmps15
  go_wp2_with fail
  go_loopw [0, 5, 6] (fun y s i wr => ∃ k : Nat, k ≤ n ∧ i = .int .i64 k ∧ y = .int .u64 (x / 256 ^ k) ∧ s = .string (strOfNums (lowB x k)) ∧ Aside0 (Fr No w wr)) (fun _ _ i _ => n - (intOf i).toNat)
  case atStart => exact ⟨0, Nat.zero_le _, rfl, by simp, rfl, ⟨Fr.refl _ _⟩⟩
  case round =>
    obtain ⟨k, hk, rfl, rfl, rfl, HS⟩ := hrel
    by_cases hlt : k < n
    · have hd : decide ((k : Int) < (n : Int)) = true := by simp; omega
      have hd' : decide (k < n) = true := by simp; omega
      obtain ⟨y, hy⟩ : ∃ y, x / 256 ^ k = y := ⟨_, rfl⟩
      rw [hy]
      have hy0 : 0 ≤ y ∧ y < 18446744073709551616 := by
        rw [← hy]
        have hp : (1 : Int) ≤ 256 ^ k := Int.pow_pos (by decide)
        exact ⟨Int.ediv_nonneg h0 (by omega), Int.lt_of_le_of_lt (Int.ediv_le_self _ h0) hx⟩
      have HY := hide hy
      have b0 : y.tmod 256 = y % 256 := Int.tmod_eq_emod_of_nonneg (by omega)
      have b1 : y.tdiv 256 = y / 256 := Int.tdiv_eq_ediv_of_nonneg (by omega)
      have b2 : IntKind.u8.wrap (y % 256) = y % 256 := IntWalk.u8_in _ (by omega)
      have b3 : IntKind.u64.wrap (y % 256) = y % 256 := IntWalk.u64_in _ (by omega)
      have b4 : IntKind.u64.wrap (y / 256) = y / 256 := IntWalk.u64_in _ (by omega)
      have hcv : (convert 28 9 (.slice (some ⟨wr.heap.size, 0, none⟩) 1 1)).run Tryd.prog (wr.alloc (.cells #[.int .u8 (y % 256)] 5)) = .ok (.string (strOfNums [y % 256])) (wr.alloc (.cells #[.int .u8 (y % 256)] 5)) := string_of_reads (P := Tryd.prog) (src := 28) (dst := 9) (c := 1) Tryd.underlying28 Tryd.underlying5 Tryd.underlying9 (rd_one wr (y % 256))
      have hns : (9223372036854775807 < (strOfNums [y % 256]).size + (strOfNums (lowB x k)).size) = False := by
        rw [strOfNums_size, strOfNums_size, lowB_len]
        simp
        omega
      have hst : strOfNums [y % 256] ++ strOfNums (lowB x k) = strOfNums (lowB x (k + 1)) := by
        rw [str_cons, ← hy]
        rfl
      have HST := hide hst
      have hy2 : y / 256 = x / 256 ^ (k + 1) := by
        rw [← hy, Int.pow_succ, Int.ediv_ediv_of_nonneg (Int.le_of_lt (Int.pow_pos (by decide)))]
      have HY2 := hide hy2
      clear hy hst hy2
      go_wp2_with fail
      go_roundw
      case rel => exact ⟨k + 1, by omega, by go_num, by rw [HY2.out], by rw [HST.out], ⟨HS.out.alloc _⟩⟩
      case measure => simp [intOf]; omega
    · have hkn : k = n := by omega
      subst hkn
      have hd : decide ((k : Int) < (k : Int)) = false := by simp
      have hd' : decide (k < k) = false := by simp
      go_wp2_with fail
      go_ret
      exact ⟨rfl, HS.out⟩
/-- .. is the writer's number -/
theorem be_low (x : Int) (n : Nat) : ∀ k, k ≤ n → be x n (n - k) ++ lowB x k = be x n n
  | 0, _ => by simp [lowB]
  | k + 1, h => by
    have ih := be_low x n k (by omega)
    have e : n - k = (n - (k + 1)) + 1 := by omega
    rw [e, be_succ] at ih
    rw [← ih]
    have hb : byteAt x n (n - (k + 1)) = x / 256 ^ k % 256 := by
      unfold byteAt
      have e2 : 8 * (n - 1 - (n - (k + 1))) = 8 * k := by omega
      rw [e2, Int.pow_mul]
      rfl
    rw [hb]
    simp [lowB]
theorem low_be (x : Int) (n : Nat) : lowB x n = be x n n := by
  have := be_low x n n (Nat.le_refl _)
  simpa [be] using this
theorem RefNum_be (x : Int) (n : Nat) (w : World) (h0 : 0 ≤ x) (hx : x < 18446744073709551616) (h1 : 1 ≤ n) (h8 : n ≤ 8) :
    Calls Tryd.prog 15 #[.int .u64 x, .int .i64 n] w fun r w' => r = .returned (.string (strOfNums (be x n n))) ∧ Fr No w w' := by
  rw [← low_be]
  exact RefNum_any x n w h0 hx h1 h8
end Go.Proofs.YtkgffeclgapkbaaDoor
