/- The reference's number as a text; the law's example. -/
import Derived.Test.YtkgffeclgapkbaaDoorM3
import Derived.Test.YtkgffeclgapkbaaDoorWMore
import Derived.ProofKit
import Derived.OpenShut
import Derived.Deep.Slices
import Derived.Deep.Strs
namespace Go.Proofs.YtkgffeclgapkbaaDoor
open Go.RowKit Go.Proofs.YtkgffeclgapkbaaDoorW.PrintWords
set_option linter.unusedVariables false
set_option linter.unusedSimpArgs false
set_option maxRecDepth 100000
/-- the k lowest bytes, the highest of them first -/
def lowB (x : Int) : Nat → List Int
  | 0 => []
  | k + 1 => (x / 256 ^ k % 256) :: lowB x k
theorem rd_one (w : World) (b : Int) : Rd (w.alloc (.cells #[.int .u8 b] 5)) (some ⟨w.heap.size, 0, none⟩) [b] := by
  refine ⟨rfl, by simp, fun _ => ⟨_, rfl, fun j hj => ?_⟩⟩
  have : j = 0 := by
    have : j < 1 := hj
    omega
  subst this
  have e : (⟨w.heap.size, 0, none⟩ : Addr).add 0 = ⟨w.heap.size, 0, none⟩ := rfl
  rw [e]
  exact blk_cell (heap_alloc_new w (.cells #[.int .u8 b] 5)) 0
theorem str_cons (b : Int) (l : List Int) : strOfNums [b] ++ strOfNums l = strOfNums (b :: l) := by
  apply ByteArray.ext
  simp [strOfNums, ByteArray.data_append]
theorem lowB_len (x : Int) : ∀ k, (lowB x k).length = k
  | 0 => rfl
  | k + 1 => by show (lowB x k).length + 1 = _; rw [lowB_len x k]
set_option maxHeartbeats 1000000 in
theorem RefNum_any (x : Int) (n : Nat) (w : World) (h0 : 0 ≤ x) (hx : x < 18446744073709551616) (h1 : 1 ≤ n) (h8 : n ≤ 8) :
    Calls Tryd.prog 15 #[.int .u64 x, .int .i64 n] w fun r w' => r = .returned (.string (strOfNums (lowB x n))) ∧ Fr No w w' := by
  have d1 : decide ((n : Int) < 1) = false := decide_eq_false (by omega)
  have d2 : decide ((8 : Int) < (n : Int)) = false := decide_eq_false (by omega)
  have d3 : decide (n < 1) = false := decide_eq_false (by omega)
  have d4 : decide (8 < n) = false := decide_eq_false (by omega)
  go_enter Tryd.func15, Tryd.ntmps15
  go_wp2_with fail
  go_loopw [0, 5, 6] (fun y s i wr => ∃ k : Nat, k ≤ n ∧ i = .int .i64 k ∧ y = .int .u64 (x / 256 ^ k) ∧ s = .string (strOfNums (lowB x k)) ∧ Aside0 (Fr No w wr)) (fun _ _ i _ => n - (intOf i).toNat)
  case atStart => exact ⟨0, Nat.zero_le _, rfl, by simp, rfl, ⟨Fr.refl _ _⟩⟩
  case round =>
    obtain ⟨k, hk, rfl, rfl, rfl, HS⟩ := hrel
    by_cases hlt : k < n
    · have hd : decide ((k : Int) < (n : Int)) = true := by simp; omega
      have hd' : decide (k < n) = true := by simp; omega
      obtain ⟨y, hy⟩ : ∃ y, x / 256 ^ k = y := ⟨_, rfl⟩
      rw [hy]
      have hy0 : 0 ≤ y ∧ y < 18446744073709551616 := by
        rw [← hy]
        have hp : (1 : Int) ≤ 256 ^ k := Int.pow_pos (by decide)
        exact ⟨Int.ediv_nonneg h0 (by omega), Int.lt_of_le_of_lt (Int.ediv_le_self _ h0) hx⟩
      have HY := hide hy
      have b0 : y.tmod 256 = y % 256 := Int.tmod_eq_emod_of_nonneg (by omega)
      have b1 : y.tdiv 256 = y / 256 := Int.tdiv_eq_ediv_of_nonneg (by omega)
      have b2 : IntKind.u8.wrap (y % 256) = y % 256 := IntWalk.u8_in _ (by omega)
      have b3 : IntKind.u64.wrap (y % 256) = y % 256 := IntWalk.u64_in _ (by omega)
      have b4 : IntKind.u64.wrap (y / 256) = y / 256 := IntWalk.u64_in _ (by omega)
      have hcv : (convert 28 9 (.slice (some ⟨wr.heap.size, 0, none⟩) 1 1)).run Tryd.prog (wr.alloc (.cells #[.int .u8 (y % 256)] 5)) = .ok (.string (strOfNums [y % 256])) (wr.alloc (.cells #[.int .u8 (y % 256)] 5)) := string_of_reads (P := Tryd.prog) (src := 28) (dst := 9) (c := 1) Tryd.underlying28 Tryd.underlying5 Tryd.underlying9 (rd_one wr (y % 256))
      have hns : (9223372036854775807 < (strOfNums [y % 256]).size + (strOfNums (lowB x k)).size) = False := by
        rw [strOfNums_size, strOfNums_size, lowB_len]
        simp
        omega
      have hst : strOfNums [y % 256] ++ strOfNums (lowB x k) = strOfNums (lowB x (k + 1)) := by
        rw [str_cons, ← hy]
        rfl
      have HST := hide hst
      have hy2 : y / 256 = x / 256 ^ (k + 1) := by
        rw [← hy, Int.pow_succ, Int.ediv_ediv_of_nonneg (Int.le_of_lt (Int.pow_pos (by decide)))]
      have HY2 := hide hy2
      clear hy hst hy2
      go_wp2_with fail
      go_roundw
      case rel => exact ⟨k + 1, by omega, by go_num, by rw [HY2.out], by rw [HST.out], ⟨HS.out.alloc _⟩⟩
      case measure => simp [intOf]; omega
    · have hkn : k = n := by omega
      subst hkn
      have hd : decide ((k : Int) < (k : Int)) = false := by simp
      have hd' : decide (k < k) = false := by simp
      go_wp2_with fail
      go_ret
      exact ⟨rfl, HS.out⟩
/-- .. is the writer's number -/
theorem be_low (x : Int) (n : Nat) : ∀ k, k ≤ n → be x n (n - k) ++ lowB x k = be x n n
  | 0, _ => by simp [lowB]
  | k + 1, h => by
    have ih := be_low x n k (by omega)
    have e : n - k = (n - (k + 1)) + 1 := by omega
    rw [e, be_succ] at ih
    rw [← ih]
    have hb : byteAt x n (n - (k + 1)) = x / 256 ^ k % 256 := by
      unfold byteAt
      have e2 : 8 * (n - 1 - (n - (k + 1))) = 8 * k := by omega
      rw [e2, Int.pow_mul]
      rfl
    rw [hb]
    simp [lowB]
theorem low_be (x : Int) (n : Nat) : lowB x n = be x n n := by
  have := be_low x n n (Nat.le_refl _)
  simpa [be] using this
theorem RefNum_be (x : Int) (n : Nat) (w : World) (h0 : 0 ≤ x) (hx : x < 18446744073709551616) (h1 : 1 ≤ n) (h8 : n ≤ 8) :
    Calls Tryd.prog 15 #[.int .u64 x, .int .i64 n] w fun r w' => r = .returned (.string (strOfNums (be x n n))) ∧ Fr No w w' := by
  rw [← low_be]
  exact RefNum_any x n w h0 hx h1 h8
end Go.Proofs.YtkgffeclgapkbaaDoor
namespace Go.Proofs.YtkgffeclgapkbaaDoor
open Go.RowKit Go.Proofs.YtkgffeclgapkbaaDoorW.PrintWords
set_option linter.unusedVariables false
set_option linter.unusedSimpArgs false
set_option maxRecDepth 100000
def ixA : Ix := ⟨3, ⟨#[97]⟩, true⟩
def awB : List Int := [0, 0, 0, 1, 0, 0, 0, 0, 0, 0, 0, 2, 1, 3, 1, 1, 97]
def awK : List Int := [100, 0, 0, 0, 1, 0, 0, 0, 0, 0, 0, 0, 2]
theorem awR : rightB 1 2 [ixA] = true := by kernel_rfl
theorem awP : putL 1 2 [ixA] = awB := by kernel_rfl
theorem awG : collOk awB = true := by kernel_rfl
theorem awX : gXs awB = [ixA] := by kernel_rfl
theorem awI : gId awB = 1 := by kernel_rfl
theorem awE : gNext awB = 2 := by kernel_rfl
theorem awN : nameOk ⟨#[97, 95, 49]⟩ = true := by kernel_rfl
theorem awM : nameOk ⟨#[65]⟩ = false := by kernel_rfl
theorem awD : 100 :: (be (1 : Nat) 4 4 ++ be (2 : Nat) 8 8) = awK := by kernel_rfl
theorem awO : docOf awK = 2 := by kernel_rfl
theorem awS : strOfNums awK = ⟨#[100, 0, 0, 0, 1, 0, 0, 0, 0, 0, 0, 0, 2]⟩ := by kernel_rfl
theorem awT : strOfNums [115] = ⟨#[115]⟩ := by kernel_rfl
theorem aw_bs : Bs awB := by unfold Bs awB; decide
theorem awk_bs : Bs awK := by unfold Bs awK; decide
theorem RdI_one (w : World) (x : Ix) : RdI (w.alloc (.cells #[.int .i64 x.id, .string x.path, .bool x.un] 57)) (some ⟨w.heap.size, 0, none⟩) [x] := by
  intro j hj
  have : j = 0 := by
    have : j < 1 := hj
    omega
  subst this
  have hb := heap_alloc_new w (.cells #[.int .i64 x.id, .string x.path, .bool x.un] 57)
  exact ⟨_, rfl, blk_cell hb 0, blk_cell hb 1, blk_cell hb 2⟩
theorem rd_nil {w : World} {A : Option Addr} {xs : List Int} (h : Rd w A xs) (c : Nat) (hc : xs.length ≤ c) (h0 : 0 < xs.length) : A = none → c = 0 := by
  rintro rfl
  obtain ⟨ad, e, _⟩ := h.2.2 h0
  cases e
set_option maxHeartbeats 4000000 in
theorem awake_any (w : World) (hg : Gl w) : Calls Tryd.prog 5 #[] w fun r w' => r = .returned (.bool true) ∧ Fr No w w' := by
  have hf0 : Fr No w (w.alloc (.cells #[.int .i64 3, .string ⟨#[97]⟩, .bool true] 57)) := (Fr.refl _ _).alloc _
  have hP : Calls Tryd.prog 7 #[.agg #[.int .u32 1, .int .u64 2, .slice (some ⟨w.heap.size, 0, none⟩) 1 1]] (w.alloc (.cells #[.int .i64 3, .string ⟨#[97]⟩, .bool true] 57)) fun r w' => PutPost (w.alloc (.cells #[.int .i64 3, .string ⟨#[97]⟩, .bool true] 57)) 1 2 [ixA] r w' ∧ Fr No (w.alloc (.cells #[.int .i64 3, .string ⟨#[97]⟩, .bool true] 57)) w' :=
    Put_any 1 2 (some ⟨w.heap.size, 0, none⟩) 1 [ixA] _ (hg.keep0 hf0) (RdI_one w ixA) (Nat.le_refl _) (by decide) (by decide) (by decide) (by intro x hx; rw [List.mem_singleton.1 hx]; decide)
  have HP := hide hP
  have HG := hide (And.intro hg hf0)
  clear hP hg hf0
  go_enter Tryd.func5, Tryd.ntmps5
  go_wp2_with fail
  refine HP.out.mono ?_
  rintro r w1 ⟨hpp, hf1⟩
  unfold PutPost at hpp
  rw [if_pos awR] at hpp
  obtain ⟨v, rfl, hm⟩ := hpp
  rw [awP] at hm
  obtain ⟨A, c, rfl, hle, hrd⟩ := hm.rd
  obtain ⟨bs, hbs⟩ : ∃ bs, awB = bs := ⟨_, rfl⟩
  rw [hbs] at hrd hle ⊢
  have hbl : bs.length = 17 := by rw [← hbs]; rfl
  have d1 : decide ((bs.length : Int) = 17) = true := by rw [hbl]; rfl
  have d2 : decide (bs.length = 17) = true := by rw [hbl]; rfl
  have d3 : ((bs.length : Int) == 17) = true := by rw [hbl]; rfl
  have hF1 := HG.out.2.then0 hf1
  have hGet := Get_any A c bs w1 (HG.out.1.keep0 hF1) hrd (rd_nil hrd c hle (by omega)) (by rw [← hbs]; exact aw_bs) (by omega)
  have HGet := hide hGet
  have HB := hide (And.intro hbs hF1)
  clear hGet hbs hbl hF1 hf1 hm hrd
  go_wp2_with fail
  refine HGet.out.mono ?_
  rintro r w2 ⟨hpp, hf2⟩
  unfold GetPost at hpp
  rw [← HB.out.1, if_pos awG, awX, awI, awE] at hpp
  obtain ⟨A2, c2, rfl, hle2, hri⟩ := hpp
  obtain ⟨ad, rfl, q0, q1, q2⟩ := hri 0 (by decide)
  have q2' : w2.cell? ⟨ad.block, ad.off + 2, none⟩ = some (.bool true) := q2
  have HF2 := hide (HB.out.2.then0 hf2)
  clear q0 q1 q2 hri hf2
  go_wp2_with fail
  have hD : Calls Tryd.prog 19 #[.int .u32 1, .int .u64 2] (w2.alloc (.cells #[.int .u32 1, .int .u64 2, .slice (some ad) 1 c2] 34)) fun e w' => ∃ v, e = .returned v ∧ Mine (w2.alloc (.cells #[.int .u32 1, .int .u64 2, .slice (some ad) 1 c2] 34)) w' v (100 :: (be (1 : Nat) 4 4 ++ be (2 : Nat) 8 8)) ∧ Fr No (w2.alloc (.cells #[.int .u32 1, .int .u64 2, .slice (some ad) 1 c2] 34)) w' := DocKey_any 1 2 _ (by decide) (by decide)
  rw [awD] at hD
  refine hD.mono ?_
  rintro r w3 ⟨vk, rfl, hmk, hf3⟩
  obtain ⟨Ak, ck, rfl, hlk, hrk⟩ := hmk.rd
  have hn3 : Fr No w2 w3 := ((Fr.refl No w2).alloc _).then0 hf3
  have hb3 := hf3.blk (heap_alloc_new w2 _) (fun h => h)
  have p1 : w3.cell? ⟨w2.heap.size, 1, none⟩ = some (.int .u64 2) := blk_cell hb3 1
  have p2 : w3.cell? ⟨w2.heap.size, 2, none⟩ = some (.slice (some ad) 1 c2) := blk_cell hb3 2
  have p3 : w3.cell? ⟨ad.block, ad.off + 2, none⟩ = some (.bool true) := hn3.cell q2' (fun h => h)
  obtain ⟨ks, hks⟩ : ∃ ks, awK = ks := ⟨_, rfl⟩
  rw [hks] at hrk hlk ⊢
  have hkl : ks.length = 13 := by rw [← hks]; rfl
  have hDoc := Doc_any Ak ck ks w3 hrk hlk (rd_nil hrk ck hlk (by omega)) (by omega) (by rw [← hks]; exact awk_bs)
  have hcv := string_of_reads (P := Tryd.prog) (src := 28) (dst := 9) (c := ck) Tryd.underlying28 Tryd.underlying5 Tryd.underlying9 hrk
  rw [← hks, awS, hks] at hcv
  have hdoc2 : docOf ks = 2 := by rw [← hks]; exact awO
  rw [hdoc2] at hDoc
  have HD := hide hDoc
  have HF3 := hide (HF2.out.then0 hn3)
  clear hD hks hkl hDoc hdoc2 hmk hrk hf3 hn3 hb3 q2'
  go_wp2_with fail
  refine HD.out.mono ?_
  rintro r w4 ⟨rfl, hf4⟩
  have hN := Name_any ⟨#[97, 95, 49]⟩ w4 (by decide)
  rw [awN] at hN
  have HF4 := hide (HF3.out.then0 hf4)
  clear hf4
  go_wp2_with fail
  refine hN.mono ?_
  clear hN
  rintro r w5 ⟨rfl, hf5⟩
  have hN := Name_any ⟨#[65]⟩ w5 (by decide)
  rw [awM] at hN
  have HF5 := hide (HF4.out.then0 hf5)
  clear hf5
  go_wp2_with fail
  refine hN.mono ?_
  clear hN
  rintro r w6 ⟨rfl, hf6⟩
  have HF6 := hide (HF5.out.then0 hf6)
  clear hf6
  go_wp2_with fail
  refine (NextKey_any w6).mono ?_
  rintro r w7 ⟨vn, rfl, hm, hf7⟩
  obtain ⟨An, cn, rfl, _, hrn⟩ := hm.rd
  have hcn : (convert 28 9 (.slice An 1 cn)).run Tryd.prog w7 = .ok (.string ⟨#[115]⟩) w7 := by
    rw [← awT]
    exact string_of_reads (P := Tryd.prog) (src := 28) (dst := 9) (c := cn) Tryd.underlying28 Tryd.underlying5 Tryd.underlying9 hrn
  have HF7 := hide (HF6.out.then0 hf7)
  clear hm hrn hf7
  go_wp2_with fail
  go_ret
  exact ⟨rfl, HF7.out⟩
end Go.Proofs.YtkgffeclgapkbaaDoor
namespace Go.Proofs.YtkgffeclgapkbaaDoor
open Go.RowKit Go.Proofs.YtkgffeclgapkbaaDoorW.PrintWords Go.Proofs.YtkgffeclgapkbaaDoorW.PrintMore
attribute [local go_sem] min2_int min_two
set_option linter.unusedVariables false
set_option linter.unusedSimpArgs false
set_option maxRecDepth 100000
theorem valOf_acc (B : Int) (b : List Int) : ∀ v, b.foldl (fun x c => x * B + c) v = v * B ^ b.length + valOf B b := by
  induction b with
  | nil => intro v; simp [valOf]
  | cons c l ih =>
    intro v
    have h1 := ih (v * B + c)
    have h2 := ih (0 * B + c)
    show l.foldl (fun x c => x * B + c) (v * B + c) = v * B ^ (l.length + 1) + l.foldl (fun x c => x * B + c) (0 * B + c)
    rw [h1, h2, Int.pow_succ, Int.add_mul, Int.add_mul]
    have : v * (B ^ l.length * B) = v * B * B ^ l.length := by rw [Int.mul_comm (B ^ l.length), Int.mul_assoc]
    rw [this]
    omega
theorem valOf_app (B : Int) (a b : List Int) : valOf B (a ++ b) = valOf B a * B ^ b.length + valOf B b := by
  unfold valOf
  rw [List.foldl_append, valOf_acc]
  rfl
theorem emod_mul' (x a : Int) (ha : 0 < a) : x % (a * 256) = x % a + a * (x / a % 256) := by
  have h1 := Int.emod_add_mul_ediv x a
  have h2 := Int.emod_add_mul_ediv (x / a) 256
  have r1 := Int.emod_nonneg x (Int.ne_of_gt ha)
  have r2 := Int.emod_lt_of_pos x ha
  have r3 : 0 ≤ x / a % 256 ∧ x / a % 256 < 256 := by omega
  have e : x = x % a + a * (x / a % 256) + (a * 256) * (x / a / 256) := by
    have : a * (x / a) = a * (x / a % 256) + (a * 256) * (x / a / 256) := by
      conv => lhs; rw [← h2, Int.mul_add, ← Int.mul_assoc]
    omega
  have h0 : 0 ≤ a * (x / a % 256) := Int.mul_nonneg (Int.le_of_lt ha) r3.1
  have h3 : a * (x / a % 256) ≤ a * 255 := Int.mul_le_mul_of_nonneg_left (by omega) (Int.le_of_lt ha)
  conv => lhs; rw [e]
  rw [Int.add_mul_emod_self_left]
  exact Int.emod_eq_of_lt (by omega) (by omega)
theorem str_bytes (s : ByteArray) : strOfNums (bytesOf s) = s := by
  apply ByteArray.ext
  simp only [strOfNums, Lib.toList_data]
  have : (bytesOf s).map (fun n => UInt8.ofNat n.toNat) = s.data.toList := by
    simp [bytesOf, List.map_map, Function.comp_def]
  rw [this]
theorem lowB_val (x : Int) (h0 : 0 ≤ x) : ∀ n, valOf 256 (lowB x n) = x % 256 ^ n
  | 0 => by simp [lowB, valOf, Int.emod_one]
  | n + 1 => by
    have ih := lowB_val x h0 n
    have e : lowB x (n + 1) = [x / 256 ^ n % 256] ++ lowB x n := rfl
    rw [e, valOf_app, lowB_len, ih]
    have e1 : valOf 256 [x / 256 ^ n % 256] = x / 256 ^ n % 256 := by simp [valOf]
    rw [e1, Int.pow_succ]
    have hp : (0 : Int) < 256 ^ n := Int.pow_pos (by decide)
    rw [emod_mul' x _ hp, Int.mul_comm, Int.add_comm]
theorem be_val (x : Int) (h0 : 0 ≤ x) (n : Nat) (hx : x < 256 ^ n) : valOf 256 (be x n n) = x := by
  rw [← low_be, lowB_val x h0, Int.emod_eq_of_lt h0 hx]
theorem docOf_key (pre : List Int) (y : Int) (h0 : 0 ≤ y) (hy : y < 18446744073709551616) : docOf (pre ++ be y 8 8) = y := by
  unfold docOf
  have hl : (be y 8 8).length = 8 := be_len y 8 8
  rw [if_neg (by rw [List.length_append, hl]; omega), List.length_append, hl, Nat.add_sub_cancel, List.drop_left]
  exact be_val y h0 8 (by simpa using hy)
theorem be_bs (x : Int) (n k : Nat) : Bs (be x n k) := by
  intro b hb
  simp only [be, List.mem_map] at hb
  obtain ⟨i, _, rfl⟩ := hb
  unfold byteAt
  omega
theorem str_app (a b : List Int) : strOfNums a ++ strOfNums b = strOfNums (a ++ b) := by
  apply ByteArray.ext
  simp [strOfNums, ByteArray.data_append]
set_option maxHeartbeats 8000000 in
theorem Keys_ok (s : ByteArray) (x y : Nat) (i : Int) (A : Option Addr) (c : Nat) (os : List Int) (w : World) (hg : Gl w) (hs : s.size ≤ 100) (hx : x < 4294967296) (hy : y < 18446744073709551616) (hr : Rd w A os) (hc : os.length ≤ c) (hA : A = none → c = 0) (hb : Bs os) (ho : os.length ≤ 82) :
    Calls Tryd.prog 4 #[.string s, .int .u32 x, .int .i64 i, .slice A os.length c, .int .u64 y] w fun r w' => r = .returned (.bool true) ∧ Fr No w w' := by
  have d1 : decide ((100 : Int) < (s.size : Int)) = false := decide_eq_false (by omega)
  have d2 : decide (100 < s.size) = false := decide_eq_false (by omega)
  have d3 : decide ((200 : Int) < (os.length : Int)) = false := decide_eq_false (by omega)
  have d4 : decide (200 < os.length) = false := decide_eq_false (by omega)
  have d5 : decide ((os.length : Int) ≤ 82) = true := decide_eq_true (by omega)
  have d6 : decide (os.length ≤ 82) = true := decide_eq_true (by omega)
  have e0 : IntKind.u64.wrap (x : Int) = (x : Int) := IntWalk.u64_in _ (by omega)
  have HR := hide (And.intro hr (And.intro hA hb))
  have hAw := awake_any w hg
  clear hr hA hb hg
  go_enter Tryd.func4, Tryd.ntmps4
  go_wp2_with fail
  refine hAw.mono ?_
  clear hAw
  rintro r w1 ⟨rfl, hf1⟩
  have HF1 := hide hf1
  clear hf1
  go_wp2_with fail
  refine (RefNum_be x 4 w1 (by omega) (by omega) (by decide) (by decide)).mono ?_
  rintro r w2 ⟨rfl, hf2⟩
  have HF2 := hide (HF1.out.then0 hf2)
  obtain ⟨sf, hsf⟩ : ∃ sf, strOfNums (be x 4 4) = sf := ⟨_, rfl⟩
  have zf : sf.size = 4 := by rw [← hsf, strOfNums_size, be_len]
  rw [hsf]
  have HSF := hide hsf
  clear hf2 hsf
  go_wp2_with fail
  refine (RefNum_be y 8 w2 (by omega) (by omega) (by decide) (by decide)).mono ?_
  rintro r w3 ⟨rfl, hf3⟩
  have HF3 := hide (HF2.out.then0 hf3)
  obtain ⟨se, hse⟩ : ∃ se, strOfNums (be y 8 8) = se := ⟨_, rfl⟩
  have ze : se.size = 8 := by rw [← hse, strOfNums_size, be_len]
  rw [hse]
  have HSE := hide hse
  clear hf3 hse
  have hiu : IntKind.u64.wrap i = asU64 i := rfl
  have hir := asU64_range i
  go_wp2_with fail
  refine (RefNum_be (asU64 i) 1 w3 hir.1 hir.2 (by decide) (by decide)).mono ?_
  rintro r w4 ⟨rfl, hf4⟩
  have HF4 := hide (HF3.out.then0 hf4)
  obtain ⟨so, hso⟩ : ∃ so, strOfNums (be (asU64 i) 1 1) = so := ⟨_, rfl⟩
  have zo : so.size = 1 := by rw [← hso, strOfNums_size, be_len]
  rw [hso]
  have HSO := hide hso
  clear hf4 hso
  go_wp2_with fail
  refine (EntryKey_any x y i A c os w4 hx hy (HF4.out.rd0 HR.out.1) ho).mono ?_
  rintro r w5 ⟨v, rfl, hm, hf5⟩
  obtain ⟨Ak, ck, rfl, hlk, hrk⟩ := hm.rd
  obtain ⟨ks, hks⟩ : ∃ ks, 120 :: (be x 4 4 ++ be (asU64 i) 1 1 ++ os ++ be y 8 8) = ks := ⟨_, rfl⟩
  rw [hks] at hrk hlk ⊢
  have hkl : ks.length = os.length + 14 := by rw [← hks]; simp [be_len]; omega
  have hF5 := HF4.out.then0 hf5
  have hcv := string_of_reads (P := Tryd.prog) (src := 28) (dst := 9) (c := ck) Tryd.underlying28 Tryd.underlying5 Tryd.underlying9 hrk
  have hco := string_of_reads (P := Tryd.prog) (src := 28) (dst := 9) (c := c) Tryd.underlying28 Tryd.underlying5 Tryd.underlying9 (hF5.rd0 HR.out.1)
  have hkb : Bs ks := by
    rw [← hks]
    intro b hb
    rcases List.mem_cons.1 hb with rfl | hb
    · decide
    · rcases List.mem_append.1 hb with hb | hb
      · rcases List.mem_append.1 hb with hb | hb
        · rcases List.mem_append.1 hb with hb | hb
          · exact be_bs _ _ _ b hb
          · exact be_bs _ _ _ b hb
        · exact HR.out.2.2 b hb
      · exact be_bs _ _ _ b hb
  have hDoc := Doc_any Ak ck ks w5 hrk hlk (rd_nil hrk ck hlk (by omega)) (by omega) hkb
  have hdoc : docOf ks = y := by
    rw [← hks]
    exact docOf_key (120 :: (be x 4 4 ++ be (asU64 i) 1 1 ++ os)) y (by omega) (by omega)
  rw [hdoc] at hDoc
  obtain ⟨kst, hkst⟩ : ∃ kst, strOfNums ks = kst := ⟨_, rfl⟩
  obtain ⟨ost, host⟩ : ∃ ost, strOfNums os = ost := ⟨_, rfl⟩
  rw [hkst] at hcv
  rw [host] at hco
  have zos : ost.size = os.length := by rw [← host, strOfNums_size]
  have hsum : (⟨#[120]⟩ : ByteArray) ++ sf ++ so ++ ost ++ se = kst := by
    rw [← HSF.out, ← HSE.out, ← HSO.out, ← host, ← hkst, ← hks]
    have e1 : (⟨#[120]⟩ : ByteArray) = strOfNums [120] := rfl
    rw [e1, str_app, str_app, str_app, str_app]
    simp
  rw [← hsum] at hcv
  have d7 : decide ((96 : Int) < (ks.length : Int)) = false := decide_eq_false (by omega)
  have d8 : decide (96 < ks.length) = false := decide_eq_false (by omega)
  have HD := hide hDoc
  have HF5 := hide hF5
  have HO := hide (And.intro zos hsum)
  clear hks hkl hDoc hdoc hkst host hm hrk hf5 hF5 hkb hsum
  go_wp2_with fail
  refine HD.out.mono ?_
  rintro r w6 ⟨rfl, hf6⟩
  have HF6 := hide (HF5.out.then0 hf6)
  have hns : ((y : Int) != (y : Int)) = false := by simp
  clear hf6 hcv hco
  go_wp2_with fail
  refine (CollKey_any s w6 (by omega)).mono ?_
  rintro r w7 ⟨v, rfl, hm, hf7⟩
  obtain ⟨Ac, cc, rfl, _, hrc⟩ := hm.rd
  obtain ⟨L0, hL0⟩ : ∃ L, 99 :: bytesOf s = L := ⟨_, rfl⟩
  rw [hL0] at hrc ⊢
  have hcv := string_of_reads (P := Tryd.prog) (src := 28) (dst := 9) (c := cc) Tryd.underlying28 Tryd.underlying5 Tryd.underlying9 hrc
  have hcs : strOfNums L0 = ⟨#[99]⟩ ++ s := by
    rw [← hL0]
    have e1 : (⟨#[99]⟩ : ByteArray) = strOfNums [99] := rfl
    have e2 : s = strOfNums (bytesOf s) := (str_bytes s).symm
    rw [e1]
    conv => rhs; rw [e2]
    rw [str_app]
    rfl
  rw [hcs] at hcv
  have HF7 := hide (HF6.out.then0 hf7)
  clear hf7 hm hrc hcs hL0
  go_wp2_with fail
  refine (DocKey_any x y w7 hx hy).mono ?_
  rintro r w8 ⟨v, rfl, hm, hf8⟩
  obtain ⟨Ad, cd, rfl, _, hrd⟩ := hm.rd
  obtain ⟨L1, hL1⟩ : ∃ L, 100 :: (be x 4 4 ++ be y 8 8) = L := ⟨_, rfl⟩
  rw [hL1] at hrd ⊢
  clear hcv
  have hcv := string_of_reads (P := Tryd.prog) (src := 28) (dst := 9) (c := cd) Tryd.underlying28 Tryd.underlying5 Tryd.underlying9 hrd
  have hcs : strOfNums L1 = (⟨#[100]⟩ : ByteArray) ++ sf ++ se := by
    rw [← hL1]
    have e1 : (⟨#[100]⟩ : ByteArray) = strOfNums [100] := rfl
    rw [e1, ← HSF.out, ← HSE.out, str_app, str_app]
    rfl
  rw [hcs] at hcv
  have HF8 := hide (HF7.out.then0 hf8)
  clear hf8 hm hrd hcs hL1
  go_wp2_with fail
  refine (DocFront_any x w8 hx).mono ?_
  rintro r w9 ⟨v, rfl, hm, hf9⟩
  obtain ⟨Af, cf, rfl, _, hrf⟩ := hm.rd
  obtain ⟨L2, hL2⟩ : ∃ L, 100 :: be x 4 4 = L := ⟨_, rfl⟩
  rw [hL2] at hrf ⊢
  clear hcv
  have hcv := string_of_reads (P := Tryd.prog) (src := 28) (dst := 9) (c := cf) Tryd.underlying28 Tryd.underlying5 Tryd.underlying9 hrf
  have hcs : strOfNums L2 = (⟨#[100]⟩ : ByteArray) ++ sf := by
    rw [← hL2]
    have e1 : (⟨#[100]⟩ : ByteArray) = strOfNums [100] := rfl
    rw [e1, ← HSF.out, str_app]
    rfl
  rw [hcs] at hcv
  have HF9 := hide (HF8.out.then0 hf9)
  clear hf9 hm hrf hcs hL2
  go_wp2_with fail
  refine (EntryFront_any x i w9 hx).mono ?_
  rintro r w10 ⟨v, rfl, hm, hf10⟩
  obtain ⟨Ae, ce, rfl, _, hre⟩ := hm.rd
  obtain ⟨L3, hL3⟩ : ∃ L, 120 :: (be x 4 4 ++ be (asU64 i) 1 1) = L := ⟨_, rfl⟩
  rw [hL3] at hre ⊢
  clear hcv
  have hcv := string_of_reads (P := Tryd.prog) (src := 28) (dst := 9) (c := ce) Tryd.underlying28 Tryd.underlying5 Tryd.underlying9 hre
  have hcs : strOfNums L3 = (⟨#[120]⟩ : ByteArray) ++ sf ++ so := by
    rw [← hL3]
    have e1 : (⟨#[120]⟩ : ByteArray) = strOfNums [120] := rfl
    rw [e1, ← HSF.out, ← HSO.out, str_app, str_app]
    rfl
  rw [hcs] at hcv
  have hF10 := HF9.out.then0 hf10
  obtain ⟨m, hm2⟩ : ∃ m, m = min os.length 7 := ⟨_, rfl⟩
  have hmx : m ≤ os.length := by omega
  have hmi : min (os.length : Int) 7 = (m : Int) := by omega
  have hif2 : (if (7 : Int) < (os.length : Int) then (7 : Int) else (os.length : Int)) = (m : Int) := by split <;> omega
  have e1 := cut28h A os.length c m hmx hc
  have hml : (os.take m).length = m := by rw [List.length_take]; omega
  have hDoc := Doc_any A c (os.take m) w10 (Fr.rd0 hF10 ((HR.out.1).take m hmx)) (by omega) HR.out.2.1 (by omega) (fun b hb => HR.out.2.2 b (List.mem_of_mem_take hb))
  have hdoc : docOf (os.take m) = 0 := by unfold docOf; rw [if_pos (by omega)]
  rw [hdoc, hml] at hDoc
  have HD2 := hide hDoc
  have HF10 := hide hF10
  clear hf10 hm hre hcs hL3 hm2 hml hDoc hdoc hF10
  go_wp2_with fail
  refine HD2.out.mono ?_
  rintro r w11 ⟨rfl, hf11⟩
  have HF11 := hide (HF10.out.then0 hf11)
  clear hf11
  go_wp2_with fail
  go_ret
  exact ⟨rfl, HF11.out⟩
end Go.Proofs.YtkgffeclgapkbaaDoor
namespace Go.Proofs.YtkgffeclgapkbaaDoor
open Go.RowKit Go.Proofs.YtkgffeclgapkbaaDoorW.PrintWords Go.Proofs.YtkgffeclgapkbaaDoorW.PrintMore
attribute [local go_sem] min2_int min_two
set_option linter.unusedVariables false
set_option linter.unusedSimpArgs false
set_option maxRecDepth 100000
set_option maxHeartbeats 4000000 in
theorem Keys_skip (s : ByteArray) (x y i : Int) (A : Option Addr) (c n : Nat) (w : World) (hg : Gl w) (h : 100 < s.size ∨ 200 < n) :
    Calls Tryd.prog 4 #[.string s, .int .u32 x, .int .i64 i, .slice A n c, .int .u64 y] w fun r w' => r = .returned (.bool true) ∧ Fr No w w' := by
  have hAw := awake_any w hg
  clear hg
  by_cases h1 : 100 < s.size
  · have d1 : decide ((100 : Int) < (s.size : Int)) = true := decide_eq_true (by omega)
    have d2 : decide (100 < s.size) = true := decide_eq_true (by omega)
    clear h
    go_enter Tryd.func4, Tryd.ntmps4
    go_wp2_with fail
    refine hAw.mono ?_
    clear hAw
    rintro r w1 ⟨rfl, hf1⟩
    have HF1 := hide hf1
    clear hf1
    go_wp2_with fail
    go_ret
    exact ⟨rfl, HF1.out⟩
  · have h2 : 200 < n := by omega
    have d1 : decide ((100 : Int) < (s.size : Int)) = false := decide_eq_false (by omega)
    have d2 : decide (100 < s.size) = false := decide_eq_false (by omega)
    have d3 : decide ((200 : Int) < (n : Int)) = true := decide_eq_true (by omega)
    have d4 : decide (200 < n) = true := decide_eq_true (by omega)
    clear h
    go_enter Tryd.func4, Tryd.ntmps4
    go_wp2_with fail
    refine hAw.mono ?_
    clear hAw
    rintro r w1 ⟨rfl, hf1⟩
    have HF1 := hide hf1
    clear hf1
    go_wp2_with fail
    go_ret
    exact ⟨rfl, HF1.out⟩
end Go.Proofs.YtkgffeclgapkbaaDoor
namespace Go.Proofs.YtkgffeclgapkbaaDoor
open Go.RowKit Go.Proofs.YtkgffeclgapkbaaDoorW.PrintWords Go.Proofs.YtkgffeclgapkbaaDoorW.PrintMore
attribute [local go_sem] min2_int min_two
set_option linter.unusedVariables false
set_option linter.unusedSimpArgs false
set_option maxRecDepth 100000
set_option maxHeartbeats 8000000 in
theorem Keys_big (s : ByteArray) (x y : Nat) (i : Int) (A : Option Addr) (c : Nat) (os : List Int) (w : World) (hg : Gl w) (hs : s.size ≤ 100) (hx : x < 4294967296) (hy : y < 18446744073709551616) (hr : Rd w A os) (hc : os.length ≤ c) (hA : A = none → c = 0) (hb : Bs os) (ho1 : 82 < os.length) (ho : os.length ≤ 200) :
    Calls Tryd.prog 4 #[.string s, .int .u32 x, .int .i64 i, .slice A os.length c, .int .u64 y] w fun r w' => r = .returned (.bool true) ∧ Fr No w w' := by
  have d1 : decide ((100 : Int) < (s.size : Int)) = false := decide_eq_false (by omega)
  have d2 : decide (100 < s.size) = false := decide_eq_false (by omega)
  have d3 : decide ((200 : Int) < (os.length : Int)) = false := decide_eq_false (by omega)
  have d4 : decide (200 < os.length) = false := decide_eq_false (by omega)
  have d5 : decide ((os.length : Int) ≤ 82) = false := decide_eq_false (by omega)
  have d6 : decide (os.length ≤ 82) = false := decide_eq_false (by omega)
  have e0 : IntKind.u64.wrap (x : Int) = (x : Int) := IntWalk.u64_in _ (by omega)
  have HR := hide (And.intro hr (And.intro hA hb))
  have hAw := awake_any w hg
  clear hr hA hb hg
  go_enter Tryd.func4, Tryd.ntmps4
  go_wp2_with fail
  refine hAw.mono ?_
  clear hAw
  rintro r w1 ⟨rfl, hf1⟩
  have HF1 := hide hf1
  clear hf1
  go_wp2_with fail
  refine (RefNum_be x 4 w1 (by omega) (by omega) (by decide) (by decide)).mono ?_
  rintro r w2 ⟨rfl, hf2⟩
  have HF2 := hide (HF1.out.then0 hf2)
  obtain ⟨sf, hsf⟩ : ∃ sf, strOfNums (be x 4 4) = sf := ⟨_, rfl⟩
  have zf : sf.size = 4 := by rw [← hsf, strOfNums_size, be_len]
  rw [hsf]
  have HSF := hide hsf
  clear hf2 hsf
  go_wp2_with fail
  refine (RefNum_be y 8 w2 (by omega) (by omega) (by decide) (by decide)).mono ?_
  rintro r w3 ⟨rfl, hf3⟩
  have HF3 := hide (HF2.out.then0 hf3)
  obtain ⟨se, hse⟩ : ∃ se, strOfNums (be y 8 8) = se := ⟨_, rfl⟩
  have ze : se.size = 8 := by rw [← hse, strOfNums_size, be_len]
  rw [hse]
  have HSE := hide hse
  clear hf3 hse
  have hiu : IntKind.u64.wrap i = asU64 i := rfl
  have hir := asU64_range i
  go_wp2_with fail
  refine (RefNum_be (asU64 i) 1 w3 hir.1 hir.2 (by decide) (by decide)).mono ?_
  rintro r w4 ⟨rfl, hf4⟩
  have HF4 := hide (HF3.out.then0 hf4)
  obtain ⟨so, hso⟩ : ∃ so, strOfNums (be (asU64 i) 1 1) = so := ⟨_, rfl⟩
  have zo : so.size = 1 := by rw [← hso, strOfNums_size, be_len]
  rw [hso]
  have HSO := hide hso
  clear hf4 hso
  go_wp2_with fail
  refine (EntryKey_big x y i A os.length c w4 ho1).mono ?_
  rintro r w6 ⟨rfl, rfl⟩
  have HF6 := HF4
  go_wp2_with fail
  refine (CollKey_any s w4 (by omega)).mono ?_
  rintro r w7 ⟨v, rfl, hm, hf7⟩
  obtain ⟨Ac, cc, rfl, _, hrc⟩ := hm.rd
  obtain ⟨L0, hL0⟩ : ∃ L, 99 :: bytesOf s = L := ⟨_, rfl⟩
  rw [hL0] at hrc ⊢
  have hcv := string_of_reads (P := Tryd.prog) (src := 28) (dst := 9) (c := cc) Tryd.underlying28 Tryd.underlying5 Tryd.underlying9 hrc
  have hcs : strOfNums L0 = ⟨#[99]⟩ ++ s := by
    rw [← hL0]
    have e1 : (⟨#[99]⟩ : ByteArray) = strOfNums [99] := rfl
    have e2 : s = strOfNums (bytesOf s) := (str_bytes s).symm
    rw [e1]
    conv => rhs; rw [e2]
    rw [str_app]
    rfl
  rw [hcs] at hcv
  have HF7 := hide (HF6.out.then0 hf7)
  clear hf7 hm hrc hcs hL0
  go_wp2_with fail
  refine (DocKey_any x y w7 hx hy).mono ?_
  rintro r w8 ⟨v, rfl, hm, hf8⟩
  obtain ⟨Ad, cd, rfl, _, hrd⟩ := hm.rd
  obtain ⟨L1, hL1⟩ : ∃ L, 100 :: (be x 4 4 ++ be y 8 8) = L := ⟨_, rfl⟩
  rw [hL1] at hrd ⊢
  clear hcv
  have hcv := string_of_reads (P := Tryd.prog) (src := 28) (dst := 9) (c := cd) Tryd.underlying28 Tryd.underlying5 Tryd.underlying9 hrd
  have hcs : strOfNums L1 = (⟨#[100]⟩ : ByteArray) ++ sf ++ se := by
    rw [← hL1]
    have e1 : (⟨#[100]⟩ : ByteArray) = strOfNums [100] := rfl
    rw [e1, ← HSF.out, ← HSE.out, str_app, str_app]
    rfl
  rw [hcs] at hcv
  have HF8 := hide (HF7.out.then0 hf8)
  clear hf8 hm hrd hcs hL1
  go_wp2_with fail
  refine (DocFront_any x w8 hx).mono ?_
  rintro r w9 ⟨v, rfl, hm, hf9⟩
  obtain ⟨Af, cf, rfl, _, hrf⟩ := hm.rd
  obtain ⟨L2, hL2⟩ : ∃ L, 100 :: be x 4 4 = L := ⟨_, rfl⟩
  rw [hL2] at hrf ⊢
  clear hcv
  have hcv := string_of_reads (P := Tryd.prog) (src := 28) (dst := 9) (c := cf) Tryd.underlying28 Tryd.underlying5 Tryd.underlying9 hrf
  have hcs : strOfNums L2 = (⟨#[100]⟩ : ByteArray) ++ sf := by
    rw [← hL2]
    have e1 : (⟨#[100]⟩ : ByteArray) = strOfNums [100] := rfl
    rw [e1, ← HSF.out, str_app]
    rfl
  rw [hcs] at hcv
  have HF9 := hide (HF8.out.then0 hf9)
  clear hf9 hm hrf hcs hL2
  go_wp2_with fail
  refine (EntryFront_any x i w9 hx).mono ?_
  rintro r w10 ⟨v, rfl, hm, hf10⟩
  obtain ⟨Ae, ce, rfl, _, hre⟩ := hm.rd
  obtain ⟨L3, hL3⟩ : ∃ L, 120 :: (be x 4 4 ++ be (asU64 i) 1 1) = L := ⟨_, rfl⟩
  rw [hL3] at hre ⊢
  clear hcv
  have hcv := string_of_reads (P := Tryd.prog) (src := 28) (dst := 9) (c := ce) Tryd.underlying28 Tryd.underlying5 Tryd.underlying9 hre
  have hcs : strOfNums L3 = (⟨#[120]⟩ : ByteArray) ++ sf ++ so := by
    rw [← hL3]
    have e1 : (⟨#[120]⟩ : ByteArray) = strOfNums [120] := rfl
    rw [e1, ← HSF.out, ← HSO.out, str_app, str_app]
    rfl
  rw [hcs] at hcv
  have hF10 := HF9.out.then0 hf10
  obtain ⟨m, hm2⟩ : ∃ m, m = min os.length 7 := ⟨_, rfl⟩
  have hmx : m ≤ os.length := by omega
  have hmi : min (os.length : Int) 7 = (m : Int) := by omega
  have hif2 : (if (7 : Int) < (os.length : Int) then (7 : Int) else (os.length : Int)) = (m : Int) := by split <;> omega
  have e1 := cut28h A os.length c m hmx hc
  have hml : (os.take m).length = m := by rw [List.length_take]; omega
  have hDoc := Doc_any A c (os.take m) w10 (Fr.rd0 hF10 ((HR.out.1).take m hmx)) (by omega) HR.out.2.1 (by omega) (fun b hb => HR.out.2.2 b (List.mem_of_mem_take hb))
  have hdoc : docOf (os.take m) = 0 := by unfold docOf; rw [if_pos (by omega)]
  have hm7 : m = 7 := by omega
  rw [hdoc, hml, hm7] at hDoc
  have HD2 := hide hDoc
  have HF10 := hide hF10
  clear hf10 hm hre hcs hL3 hm2 hml hDoc hdoc hF10 hm7
  go_wp2_with fail
  refine HD2.out.mono ?_
  rintro r w11 ⟨rfl, hf11⟩
  have HF11 := hide (HF10.out.then0 hf11)
  clear hf11
  go_wp2_with fail
  go_ret
  exact ⟨rfl, HF11.out⟩
theorem Keys_any (s : ByteArray) (x y : Nat) (i : Int) (A : Option Addr) (c : Nat) (os : List Int) (w : World) (hg : Gl w) (hx : x < 4294967296) (hy : y < 18446744073709551616) (hr : Rd w A os) (hc : os.length ≤ c) (hA : A = none → c = 0) (hb : Bs os) :
    Calls Tryd.prog 4 #[.string s, .int .u32 x, .int .i64 i, .slice A os.length c, .int .u64 y] w fun r w' => r = .returned (.bool true) ∧ Fr No w w' := by
  by_cases hs : 100 < s.size
  · exact Keys_skip s x y i A c os.length w hg (.inl hs)
  · by_cases h2 : 200 < os.length
    · exact Keys_skip s x y i A c os.length w hg (.inr h2)
    · by_cases h8 : os.length ≤ 82
      · exact Keys_ok s x y i A c os w hg (by omega) hx hy hr hc hA hb h8
      · exact Keys_big s x y i A c os w hg (by omega) hx hy hr hc hA hb (by omega) (by omega)
end Go.Proofs.YtkgffeclgapkbaaDoor
namespace Go.Proofs.YtkgffeclgapkbaaDoor
open Go.RowKit Go.Proofs.YtkgffeclgapkbaaDoorW.PrintWords
set_option linter.unusedVariables false
set_option linter.unusedSimpArgs false
set_option maxRecDepth 100000
theorem hiL_pos {y : Nat} (h : y ≠ 0) : hiL y = ((y % 128 : Nat) + 128 : Int) :: hiL (y / 128) := by
  rw [hiL, dif_neg h]
theorem hiL_zero : hiL 0 = [] := by rw [hiL, dif_pos rfl]
set_option maxHeartbeats 1000000 in
theorem RefVar_any (x : Nat) (w : World) (hx : x < 18446744073709551616) :
    Calls Tryd.prog 46 #[.int .u64 x] w fun r w' => r = .returned (.string (strOfNums (shortL x))) ∧ Fr No w w' := by
  have hsl := shortL_len x hx
  obtain ⟨S, hS⟩ : ∃ S, shortL x = S := ⟨_, rfl⟩
  rw [hS] at hsl ⊢
  have b0 : ((x : Int)).tmod 128 = ((x % 128 : Nat) : Int) := by rw [Int.tmod_eq_emod_of_nonneg (by omega)]; omega
  have b2 : IntKind.u8.wrap ((x % 128 : Nat) : Int) = ((x % 128 : Nat) : Int) := IntWalk.u8_in _ (by omega)
  have b3 : IntKind.u64.wrap ((x % 128 : Nat) : Int) = ((x % 128 : Nat) : Int) := IntWalk.u64_in _ (by omega)
  obtain ⟨d, hd⟩ : ∃ d : Nat, x % 128 = d := ⟨_, rfl⟩
  have hd8 : d < 128 := by omega
  have hs0 : (hiL (x / 128)).reverse ++ [(d : Int)] = S := by rw [← hS, ← hd]; simp [shortL]
  rw [hd] at b0 b2 b3
  have b0' : (x : Int) % 128 = (d : Int) := by omega
  have hcv : (convert 28 9 (.slice (some ⟨w.heap.size, 0, none⟩) 1 1)).run Tryd.prog (w.alloc (.cells #[.int .u8 d] 5)) = .ok (.string (strOfNums [(d : Int)])) (w.alloc (.cells #[.int .u8 d] 5)) := string_of_reads (P := Tryd.prog) (src := 28) (dst := 9) (c := 1) Tryd.underlying28 Tryd.underlying5 Tryd.underlying9 (rd_one w (d : Int))
  have HS0 := hide hs0
  clear hs0 hS hd
  go_enter Tryd.func46, Tryd.ntmps46
  go_wp2_with fail
  go_loopw [0, 3] (fun v s wr => ∃ (y : Nat) (l : List Int), y < 18446744073709551616 ∧ v = .int .u64 y ∧ s = .string (strOfNums l) ∧ Aside0 ((hiL (y / 128)).reverse ++ l = S) ∧ Aside0 (Fr No w wr)) (fun v _ _ => (intOf v).toNat)
  case atStart => exact ⟨x, [(d : Int)], hx, rfl, rfl, HS0, ⟨(Fr.refl _ _).alloc _⟩⟩
  case round =>
    obtain ⟨y, l, hy, rfl, rfl, HL, HF⟩ := hrel
    by_cases hlt : 127 < y
    · have hd : decide ((127 : Int) < (y : Int)) = true := by simp; omega
      have hd' : decide (127 < y) = true := by simp; omega
      obtain ⟨z, hz⟩ : ∃ z : Nat, y / 128 = z := ⟨_, rfl⟩
      have hz0 : z ≠ 0 := by omega
      obtain ⟨e, he⟩ : ∃ e : Nat, z % 128 = e := ⟨_, rfl⟩
      have he8 : e < 128 := by omega
      have c1 : ((y : Int)).tdiv 128 = (z : Int) := by rw [Int.tdiv_eq_ediv_of_nonneg (by omega)]; omega
      have c1' : (y : Int) / 128 = (z : Int) := by omega
      have c2 : IntKind.u64.wrap (z : Int) = (z : Int) := IntWalk.u64_in _ (by omega)
      have c3 : ((z : Int)).tmod 128 = (e : Int) := by rw [Int.tmod_eq_emod_of_nonneg (by omega)]; omega
      have c3' : (z : Int) % 128 = (e : Int) := by omega
      have c4 : IntKind.u64.wrap (e : Int) = (e : Int) := IntWalk.u64_in _ (by omega)
      have c5 : IntKind.u8.wrap (e : Int) = (e : Int) := IntWalk.u8_in _ (by omega)
      have c6 : IntKind.u8.wrap ((e : Int) + 128) = (e : Int) + 128 := IntWalk.u8_in _ (by omega)
      obtain ⟨b, hb⟩ : ∃ b : Int, (e : Int) + 128 = b := ⟨_, rfl⟩
      rw [hb] at c6
      have hL2 : (hiL (z / 128)).reverse ++ (b :: l) = S := by
        have := HL.out
        rw [hz, hiL_pos hz0, he, hb] at this
        simpa using this
      have hll : (b :: l).length ≤ 10 := by
        have := congrArg List.length hL2
        rw [List.length_append] at this
        omega
      have hns : (9223372036854775807 < (strOfNums [b]).size + (strOfNums l).size) = False := by
        rw [strOfNums_size, strOfNums_size]
        simp at hll ⊢
        omega
      have hcv2 : (convert 28 9 (.slice (some ⟨wr.heap.size, 0, none⟩) 1 1)).run Tryd.prog (wr.alloc (.cells #[.int .u8 b] 5)) = .ok (.string (strOfNums [b])) (wr.alloc (.cells #[.int .u8 b] 5)) := string_of_reads (P := Tryd.prog) (src := 28) (dst := 9) (c := 1) Tryd.underlying28 Tryd.underlying5 Tryd.underlying9 (rd_one wr b)
      have HL2 := hide hL2
      have hzy : z < y := by omega
      have hst : strOfNums [b] ++ strOfNums l = strOfNums (b :: l) := str_cons b l
      have HST := hide hst
      clear hz he hL2 hst hcv hll
      go_wp2_with fail
      go_roundw
      case rel => exact ⟨z, b :: l, by omega, rfl, by rw [HST.out], HL2, ⟨HF.out.alloc _⟩⟩
      case measure => simp [intOf]; omega
    · have hd : decide ((127 : Int) < (y : Int)) = false := by simp; omega
      have hd' : decide (127 < y) = false := by simp; omega
      have hy0 : y / 128 = 0 := by omega
      have hl : l = S := by
        have := HL.out
        rw [hy0, hiL_zero] at this
        simpa using this
      have HLL := hide hl
      clear hl hy0 hcv
      go_wp2_with fail
      go_ret
      exact ⟨by rw [HLL.out]; rfl, HF.out⟩
set_option maxHeartbeats 1000000 in
theorem RefBytes_any (s : ByteArray) (w : World) (hs : s.size ≤ 1000000) :
    Calls Tryd.prog 27 #[.string s] w fun r w' => r = .returned (.string (strOfNums (shortL s.size ++ bytesOf s))) ∧ Fr No w w' := by
  have e0 : IntKind.u64.wrap (s.size : Int) = (s.size : Int) := IntWalk.u64_in _ (by omega)
  have hl := shortL_len s.size (by omega)
  obtain ⟨S, hS⟩ : ∃ S, strOfNums (shortL s.size) = S := ⟨_, rfl⟩
  have hz : S.size ≤ 10 := by rw [← hS, strOfNums_size]; exact hl
  have hns : (9223372036854775807 < S.size + s.size) = False := by simp; omega
  have hsum : S ++ s = strOfNums (shortL s.size ++ bytesOf s) := by
    rw [← str_app, hS, str_bytes]
  have HV := hide (RefVar_any s.size w (by omega))
  rw [hS] at HV
  rw [← hsum]
  clear hS hsum hl
  go_enter Tryd.func27, Tryd.ntmps27
  go_wp2_with fail
  refine HV.out.mono ?_
  rintro r w1 ⟨rfl, hf⟩
  have HF := hide hf
  clear hf
  go_wp2_with fail
  go_ret
  exact ⟨rfl, HF.out⟩
end Go.Proofs.YtkgffeclgapkbaaDoor
namespace Go.Proofs.YtkgffeclgapkbaaDoor
open Go.RowKit Go.Proofs.YtkgffeclgapkbaaDoorW.PrintWords Go.ChangeShapes Go.WideShapes Go.Deep
set_option linter.unusedVariables false
set_option linter.unusedSimpArgs false
set_option maxRecDepth 100000
theorem cells31 : Tryd.prog.cellsOf 31 = 3 := by kernel_rfl
theorem cells3 : Tryd.prog.cellsOf 3 = 1 := by kernel_rfl
theorem cells9 : Tryd.prog.cellsOf 9 = 1 := by kernel_rfl
theorem cells4 : Tryd.prog.cellsOf 4 = 1 := by kernel_rfl
theorem cells22 : Tryd.prog.cellsOf 22 = 1 := by kernel_rfl
theorem cells23 : Tryd.prog.cellsOf 23 = 1 := by kernel_rfl
theorem cells24 : Tryd.prog.cellsOf 24 = 1 := by kernel_rfl
section
variable {H : Type} {enc : TypeId × Value → H} {w : World} {base : Nat} {spare : Nat → Bool} {held : Bool}
/-- One index, opened. -/
theorem open_ix {fuel : Nat} {cs : List Value} {x : DataW H × List MemPlace} (h : DataW.trod enc Tryd.prog w base spare held fuel 31 cs = some x) :
    ∃ y : Ix, cs = [.int .i64 y.id, .string y.path, .bool y.un] ∧ -9223372036854775808 ≤ y.id ∧ y.id ≤ 9223372036854775807 ∧ y.path.size ≤ maxLen := by
  obtain ⟨y0, y1, y2, n, rfl, hl, t0, t1, t2⟩ := trod_struct3 Tryd.underlying31 h
  rw [cells31] at hl
  match cs, hl with
  | [c0, c1, c2], _ =>
    simp [cells3, cells9, cells4] at t0 t1 t2
    obtain ⟨i, e0, _, hw⟩ := DataW.trod_int Tryd.underlying3 t0
    obtain ⟨s, e1, _, hs⟩ := DataW.trod_string Tryd.underlying9 t1
    obtain ⟨b, e2, _⟩ := DataW.trod_bool Tryd.underlying4 t2
    have hb := bounds_i64 hw
    refine ⟨⟨i, s, b⟩, ?_, hb.1, hb.2, hs⟩
    simp at e0 e1 e2
    rw [e0, e1, e2]
/-- What is known of a row of indexes handed in. -/
structure IxIn (w : World) (A : Option Addr) (n c : Nat) (xs : List Ix) : Prop where
  len : xs.length = n
  cap : n ≤ c
  nil : A = none → c = 0
  rd : RdI w A xs
  ids : ∀ y, y ∈ xs → -9223372036854775808 ≤ y.id ∧ y.id ≤ 9223372036854775807 ∧ y.path.size ≤ maxLen
theorem open_ixs {A : Option Addr} {n c fuel : Nat} {x : DataW H × List MemPlace} (h : DataW.trod enc Tryd.prog w base spare held fuel 24 [.slice A n c] = some x) : ∃ xs, IxIn w A n c xs := by
  rcases open_slice Tryd.underlying24 h with ⟨hcs, _⟩ | ⟨a, len, cap, m, k, D, Pl, hcs, hb, hl, hm, hmm, _, hel⟩
  · simp at hcs
    obtain ⟨rfl, rfl, rfl⟩ := hcs
    exact ⟨[], rfl, Nat.le_refl _, fun _ => rfl, fun j hj => absurd hj (by simp), fun y hy => absurd hy (by simp)⟩
  · simp at hcs
    obtain ⟨rfl, rfl, rfl⟩ := hcs
    have hnm : n ≤ m := by rw [hmm]; split <;> omega
    have hall : ∀ i, i < n → ∃ y : Ix, (w.cell? (a.add (i * 3)) = some (.int .i64 y.id) ∧ w.cell? ⟨(a.add (i * 3)).block, (a.add (i * 3)).off + 1, none⟩ = some (.string y.path) ∧ w.cell? ⟨(a.add (i * 3)).block, (a.add (i * 3)).off + 2, none⟩ = some (.bool y.un)) ∧ -9223372036854775808 ≤ y.id ∧ y.id ≤ 9223372036854775807 ∧ y.path.size ≤ maxLen := by
      intro i hi
      obtain ⟨cs', hc, ht⟩ := hel i (by omega)
      rw [cells31] at hc
      obtain ⟨y, rfl, hy⟩ := open_ix ht
      obtain ⟨_, _, hcell⟩ := World.cells?_some hc
      refine ⟨y, ?_, hy⟩
      have h0 := hcell 0 (by decide)
      have h1 := hcell 1 (by decide)
      have h2 := hcell 2 (by decide)
      clear hc hcell ht
      obtain ⟨b, hb'⟩ : ∃ b, a.add (i * 3) = b := ⟨_, rfl⟩
      rw [hb'] at h0 h1 h2 ⊢
      have e0 : b.add 0 = b := by simp [Addr.add]
      rw [e0] at h0
      obtain ⟨bk, of, sp⟩ := b
      have hsp : sp = none := by simpa using World.cell?_spot h0
      subst hsp
      rw [WideShapes.add_plain] at h1 h2
      exact ⟨h0, h1, h2⟩
    haveI : Inhabited Ix := ⟨ix0⟩
    obtain ⟨f, hf⟩ := choose_lt hall
    have hget : ∀ j, j < n → ((List.range n).map f).getD j ix0 = f j := by
      intro j hj
      rw [List.getD_eq_getElem?_getD, List.getElem?_map, List.getElem?_range hj]
      rfl
    refine ⟨(List.range n).map f, by simp, hl, (fun h => by cases h), ?_, ?_⟩
    · intro j hj
      have hj : j < n := by simpa using hj
      rw [hget j hj]
      exact ⟨a, rfl, (hf j hj).1⟩
    · intro y hy
      obtain ⟨j, hj, rfl⟩ := List.mem_map.1 hy
      exact (hf j (List.mem_range.1 hj)).2
/-- The whole collection. -/
theorem open_coll {v : Value} {d : DataW H} {p : List MemPlace} {r : Reach} {b0 : Nat} (hval : Value.okWide Tryd.prog w r b0 26 v) (h : DataW.Trod enc Tryd.prog w base spare held 26 v d p) :
    ∃ (id next : Int) (A : Option Addr) (n c : Nat) (xs : List Ix), v = .agg #[.int .u32 id, .int .u64 next, .slice A n c] ∧ 0 ≤ id ∧ id < 4294967296 ∧ 0 ≤ next ∧ next < 18446744073709551616 ∧ IxIn w A n c xs := by
  obtain ⟨fuel, hf⟩ := h
  obtain ⟨cs, rfl, hcs⟩ := okWide_struct Tryd.underlying26 hval
  obtain ⟨y0, y1, y2, n, _, hl, t0, t1, t2⟩ := trod_struct3 Tryd.underlying26 hf
  have h3 : Tryd.prog.cellsOf 26 = 3 := by kernel_rfl
  rw [h3] at hcs
  obtain ⟨c0, c1, c2, rfl⟩ : ∃ c0 c1 c2, cs = #[c0, c1, c2] := by
    obtain ⟨l⟩ := cs
    match l, hcs with
    | [c0, c1, c2], _ => exact ⟨c0, c1, c2, rfl⟩
  simp [cells22, cells23, cells24, Value.cells] at t0 t1 t2
  obtain ⟨i, e0, _, hw0⟩ := DataW.trod_int Tryd.underlying22 t0
  obtain ⟨k, e1, _, hw1⟩ := DataW.trod_int Tryd.underlying23 t1
  simp at e0 e1
  subst e0 e1
  have b0 := bounds_u32 hw0
  have b1 := bounds_u64 hw1
  obtain ⟨A, n', c', rfl⟩ : ∃ A n' c', c2 = .slice A n' c' := by
    rcases open_slice Tryd.underlying24 t2 with ⟨h, _⟩ | ⟨a, len, cap, m, k, D, Pl, h, _⟩
    · simp at h
      exact ⟨none, 0, 0, h⟩
    · simp at h
      exact ⟨_, _, _, h⟩
  obtain ⟨xs, hxs⟩ := open_ixs t2
  exact ⟨i, k, A, n', c', xs, rfl, b0.1, by omega, b1.1, by omega, hxs⟩
end
end Go.Proofs.YtkgffeclgapkbaaDoor
