/- CatalogKeys: its walk. -/
import Derived.Test.YtkgffeclgapkbaaDoorA19
import Derived.Test.YtkgffeclgapkbaaDoorWMore
namespace Go.Proofs.YtkgffeclgapkbaaDoor
open Go.RowKit Go.Proofs.YtkgffeclgapkbaaDoorW.PrintWords Go.Proofs.YtkgffeclgapkbaaDoorW.PrintMore
attribute [local go_sem] min2_int min_two
set_option linter.unusedVariables false
set_option linter.unusedSimpArgs false
set_option maxRecDepth 100000
theorem valOf_acc (B : Int) (b : List Int) : ∀ v, b.foldl (fun x c => x * B + c) v = v * B ^ b.length + valOf B b := by
  induction b with
  | nil => intro v; simp [valOf]
  | cons c l ih =>
    intro v
    have h1 := ih (v * B + c)
    have h2 := ih (0 * B + c)
    show l.foldl (fun x c => x * B + c) (v * B + c) = v * B ^ (l.length + 1) + l.foldl (fun x c => x * B + c) (0 * B + c)
    rw [h1, h2, Int.pow_succ, Int.add_mul, Int.add_mul]
    have : v * (B ^ l.length * B) = v * B * B ^ l.length := by rw [Int.mul_comm (B ^ l.length), Int.mul_assoc]
    rw [this]
    omega
theorem valOf_app (B : Int) (a b : List Int) : valOf B (a ++ b) = valOf B a * B ^ b.length + valOf B b := by
  unfold valOf
  rw [List.foldl_append, valOf_acc]
  rfl
theorem emod_mul' (x a : Int) (ha : 0 < a) : x % (a * 256) = x % a + a * (x / a % 256) := by
  have h1 := Int.emod_add_mul_ediv x a
  have h2 := Int.emod_add_mul_ediv (x / a) 256
  have r1 := Int.emod_nonneg x (Int.ne_of_gt ha)
  have r2 := Int.emod_lt_of_pos x ha
  have r3 : 0 ≤ x / a % 256 ∧ x / a % 256 < 256 := by omega
  have e : x = x % a + a * (x / a % 256) + (a * 256) * (x / a / 256) := by
    have : a * (x / a) = a * (x / a % 256) + (a * 256) * (x / a / 256) := by
      conv => lhs; rw [← h2, Int.mul_add, ← Int.mul_assoc]
    omega
  have h0 : 0 ≤ a * (x / a % 256) := Int.mul_nonneg (Int.le_of_lt ha) r3.1
  have h3 : a * (x / a % 256) ≤ a * 255 := Int.mul_le_mul_of_nonneg_left (by omega) (Int.le_of_lt ha)
  conv => lhs; rw [e]
  rw [Int.add_mul_emod_self_left]
  exact Int.emod_eq_of_lt (by omega) (by omega)
theorem str_bytes (s : ByteArray) : strOfNums (bytesOf s) = s := by
  apply ByteArray.ext
  simp only [strOfNums, Lib.toList_data]
  have : (bytesOf s).map (fun n => UInt8.ofNat n.toNat) = s.data.toList := by
    simp [bytesOf, List.map_map, Function.comp_def]
  rw [this]
theorem lowB_val (x : Int) (h0 : 0 ≤ x) : ∀ n, valOf 256 (lowB x n) = x % 256 ^ n
  | 0 => by simp [lowB, valOf, Int.emod_one]
  | n + 1 => by
    have ih := lowB_val x h0 n
    have e : lowB x (n + 1) = [x / 256 ^ n % 256] ++ lowB x n := rfl
    rw [e, valOf_app, lowB_len, ih]
    have e1 : valOf 256 [x / 256 ^ n % 256] = x / 256 ^ n % 256 := by simp [valOf]
    rw [e1, Int.pow_succ]
    have hp : (0 : Int) < 256 ^ n := Int.pow_pos (by decide)
    rw [emod_mul' x _ hp, Int.mul_comm, Int.add_comm]
theorem be_val (x : Int) (h0 : 0 ≤ x) (n : Nat) (hx : x < 256 ^ n) : valOf 256 (be x n n) = x := by
  rw [← low_be, lowB_val x h0, Int.emod_eq_of_lt h0 hx]
theorem docOf_key (pre : List Int) (y : Int) (h0 : 0 ≤ y) (hy : y < 18446744073709551616) : docOf (pre ++ be y 8 8) = y := by
  unfold docOf
  have hl : (be y 8 8).length = 8 := be_len y 8 8
  rw [if_neg (by rw [List.length_append, hl]; omega), List.length_append, hl, Nat.add_sub_cancel, List.drop_left]
  exact be_val y h0 8 (by simpa using hy)
theorem be_bs (x : Int) (n k : Nat) : Bs (be x n k) := by
  intro b hb
  simp only [be, List.mem_map] at hb
  obtain ⟨i, _, rfl⟩ := hb
  unfold byteAt
  omega
theorem str_app (a b : List Int) : strOfNums a ++ strOfNums b = strOfNums (a ++ b) := by
  apply ByteArray.ext
  simp [strOfNums, ByteArray.data_append]
set_option maxHeartbeats 8000000 in
theorem Keys_ok (s : ByteArray) (x y : Nat) (i : Int) (A : Option Addr) (c : Nat) (os : List Int) (w : World) (hg : Gl w) (hs : s.size ≤ 100) (hx : x < 4294967296) (hy : y < 18446744073709551616) (hr : Rd w A os) (hc : os.length ≤ c) (hA : A = none → c = 0) (hb : Bs os) (ho : os.length ≤ 82) :
    Calls Tryd.prog 4 #[.string s, .int .u32 x, .int .i64 i, .slice A os.length c, .int .u64 y] w fun r w' => r = .returned (.bool true) ∧ Fr No w w' := by
  have d1 : decide ((100 : Int) < (s.size : Int)) = false := decide_eq_false (by omega)
  have d2 : decide (100 < s.size) = false := decide_eq_false (by omega)
  have d3 : decide ((200 : Int) < (os.length : Int)) = false := decide_eq_false (by omega)
  have d4 : decide (200 < os.length) = false := decide_eq_false (by omega)
  have d5 : decide ((os.length : Int) ≤ 82) = true := decide_eq_true (by omega)
  have d6 : decide (os.length ≤ 82) = true := decide_eq_true (by omega)
  have e0 : IntKind.u64.wrap (x : Int) = (x : Int) := IntWalk.u64_in _ (by omega)
  have HR := hide (And.intro hr (And.intro hA hb))
  have hAw := awake_any w hg
  clear hr hA hb hg
  go_enter Tryd.func4, Tryd.ntmps4
  go_wp2_with fail
  refine hAw.mono ?_
  clear hAw
  rintro r w1 ⟨rfl, hf1⟩
  have HF1 := hide hf1
  clear hf1
  go_wp2_with fail
  refine (RefNum_be x 4 w1 (by omega) (by omega) (by decide) (by decide)).mono ?_
  rintro r w2 ⟨rfl, hf2⟩
  have HF2 := hide (HF1.out.then0 hf2)
  obtain ⟨sf, hsf⟩ : ∃ sf, strOfNums (be x 4 4) = sf := ⟨_, rfl⟩
  have zf : sf.size = 4 := by rw [← hsf, strOfNums_size, be_len]
  rw [hsf]
  have HSF := hide hsf
  clear hf2 hsf
  go_wp2_with fail
  refine (RefNum_be y 8 w2 (by omega) (by omega) (by decide) (by decide)).mono ?_
  rintro r w3 ⟨rfl, hf3⟩
  have HF3 := hide (HF2.out.then0 hf3)
  obtain ⟨se, hse⟩ : ∃ se, strOfNums (be y 8 8) = se := ⟨_, rfl⟩
  have ze : se.size = 8 := by rw [← hse, strOfNums_size, be_len]
  rw [hse]
  have HSE := hide hse
  clear hf3 hse
  have hiu : IntKind.u64.wrap i = asU64 i := rfl
  have hir := asU64_range i
  go_wp2_with fail
  refine (RefNum_be (asU64 i) 1 w3 hir.1 hir.2 (by decide) (by decide)).mono ?_
  rintro r w4 ⟨rfl, hf4⟩
  have HF4 := hide (HF3.out.then0 hf4)
  obtain ⟨so, hso⟩ : ∃ so, strOfNums (be (asU64 i) 1 1) = so := ⟨_, rfl⟩
  have zo : so.size = 1 := by rw [← hso, strOfNums_size, be_len]
  rw [hso]
  have HSO := hide hso
  clear hf4 hso
  go_wp2_with fail
  refine (EntryKey_any x y i A c os w4 hx hy (HF4.out.rd0 HR.out.1) ho).mono ?_
  rintro r w5 ⟨v, rfl, hm, hf5⟩
  obtain ⟨Ak, ck, rfl, hlk, hrk⟩ := hm.rd
  obtain ⟨ks, hks⟩ : ∃ ks, 120 :: (be x 4 4 ++ be (asU64 i) 1 1 ++ os ++ be y 8 8) = ks := ⟨_, rfl⟩
  rw [hks] at hrk hlk ⊢
  have hkl : ks.length = os.length + 14 := by rw [← hks]; simp [be_len]; omega
  have hF5 := HF4.out.then0 hf5
  have hcv := string_of_reads (P := Tryd.prog) (src := 28) (dst := 9) (c := ck) Tryd.underlying28 Tryd.underlying5 Tryd.underlying9 hrk
  have hco := string_of_reads (P := Tryd.prog) (src := 28) (dst := 9) (c := c) Tryd.underlying28 Tryd.underlying5 Tryd.underlying9 (hF5.rd0 HR.out.1)
  have hkb : Bs ks := by
    rw [← hks]
    intro b hb
    rcases List.mem_cons.1 hb with rfl | hb
    · decide
    · rcases List.mem_append.1 hb with hb | hb
      · rcases List.mem_append.1 hb with hb | hb
        · rcases List.mem_append.1 hb with hb | hb
          · exact be_bs _ _ _ b hb
          · exact be_bs _ _ _ b hb
        · exact HR.out.2.2 b hb
      · exact be_bs _ _ _ b hb
  have hDoc := Doc_any Ak ck ks w5 hrk hlk (rd_nil hrk ck hlk (by omega)) (by omega) hkb
  have hdoc : docOf ks = y := by
    rw [← hks]
    exact docOf_key (120 :: (be x 4 4 ++ be (asU64 i) 1 1 ++ os)) y (by omega) (by omega)
  rw [hdoc] at hDoc
  obtain ⟨kst, hkst⟩ : ∃ kst, strOfNums ks = kst := ⟨_, rfl⟩
  obtain ⟨ost, host⟩ : ∃ ost, strOfNums os = ost := ⟨_, rfl⟩
  rw [hkst] at hcv
  rw [host] at hco
  have zos : ost.size = os.length := by rw [← host, strOfNums_size]
  have hsum : (⟨#[120]⟩ : ByteArray) ++ sf ++ so ++ ost ++ se = kst := by
    rw [← HSF.out, ← HSE.out, ← HSO.out, ← host, ← hkst, ← hks]
    have e1 : (⟨#[120]⟩ : ByteArray) = strOfNums [120] := rfl
    rw [e1, str_app, str_app, str_app, str_app]
    simp
  rw [← hsum] at hcv
  have d7 : decide ((96 : Int) < (ks.length : Int)) = false := decide_eq_false (by omega)
  have d8 : decide (96 < ks.length) = false := decide_eq_false (by omega)
  have HD := hide hDoc
  have HF5 := hide hF5
  have HO := hide (And.intro zos hsum)
  clear hks hkl hDoc hdoc hkst host hm hrk hf5 hF5 hkb hsum
  go_wp2_with fail
  refine HD.out.mono ?_
  rintro r w6 ⟨rfl, hf6⟩
  have HF6 := hide (HF5.out.then0 hf6)
  have hns : ((y : Int) != (y : Int)) = false := by simp
  clear hf6 hcv hco
  go_wp2_with fail
  refine (CollKey_any s w6 (by omega)).mono ?_
  rintro r w7 ⟨v, rfl, hm, hf7⟩
  obtain ⟨Ac, cc, rfl, _, hrc⟩ := hm.rd
  obtain ⟨L0, hL0⟩ : ∃ L, 99 :: bytesOf s = L := ⟨_, rfl⟩
  rw [hL0] at hrc ⊢
  have hcv := string_of_reads (P := Tryd.prog) (src := 28) (dst := 9) (c := cc) Tryd.underlying28 Tryd.underlying5 Tryd.underlying9 hrc
  have hcs : strOfNums L0 = ⟨#[99]⟩ ++ s := by
    rw [← hL0]
    have e1 : (⟨#[99]⟩ : ByteArray) = strOfNums [99] := rfl
    have e2 : s = strOfNums (bytesOf s) := (str_bytes s).symm
    rw [e1]
    conv => rhs; rw [e2]
    rw [str_app]
    rfl
  rw [hcs] at hcv
  have HF7 := hide (HF6.out.then0 hf7)
  clear hf7 hm hrc hcs hL0
  go_wp2_with fail
  refine (DocKey_any x y w7 hx hy).mono ?_
  rintro r w8 ⟨v, rfl, hm, hf8⟩
  obtain ⟨Ad, cd, rfl, _, hrd⟩ := hm.rd
  obtain ⟨L1, hL1⟩ : ∃ L, 100 :: (be x 4 4 ++ be y 8 8) = L := ⟨_, rfl⟩
  rw [hL1] at hrd ⊢
  clear hcv
  have hcv := string_of_reads (P := Tryd.prog) (src := 28) (dst := 9) (c := cd) Tryd.underlying28 Tryd.underlying5 Tryd.underlying9 hrd
  have hcs : strOfNums L1 = (⟨#[100]⟩ : ByteArray) ++ sf ++ se := by
    rw [← hL1]
    have e1 : (⟨#[100]⟩ : ByteArray) = strOfNums [100] := rfl
    rw [e1, ← HSF.out, ← HSE.out, str_app, str_app]
    rfl
  rw [hcs] at hcv
  have HF8 := hide (HF7.out.then0 hf8)
  clear hf8 hm hrd hcs hL1
  go_wp2_with fail
  refine (DocFront_any x w8 hx).mono ?_
  rintro r w9 ⟨v, rfl, hm, hf9⟩
  obtain ⟨Af, cf, rfl, _, hrf⟩ := hm.rd
  obtain ⟨L2, hL2⟩ : ∃ L, 100 :: be x 4 4 = L := ⟨_, rfl⟩
  rw [hL2] at hrf ⊢
  clear hcv
  have hcv := string_of_reads (P := Tryd.prog) (src := 28) (dst := 9) (c := cf) Tryd.underlying28 Tryd.underlying5 Tryd.underlying9 hrf
  have hcs : strOfNums L2 = (⟨#[100]⟩ : ByteArray) ++ sf := by
    rw [← hL2]
    have e1 : (⟨#[100]⟩ : ByteArray) = strOfNums [100] := rfl
    rw [e1, ← HSF.out, str_app]
    rfl
  rw [hcs] at hcv
  have HF9 := hide (HF8.out.then0 hf9)
  clear hf9 hm hrf hcs hL2
  go_wp2_with fail
  refine (EntryFront_any x i w9 hx).mono ?_
  rintro r w10 ⟨v, rfl, hm, hf10⟩
  obtain ⟨Ae, ce, rfl, _, hre⟩ := hm.rd
  obtain ⟨L3, hL3⟩ : ∃ L, 120 :: (be x 4 4 ++ be (asU64 i) 1 1) = L := ⟨_, rfl⟩
  rw [hL3] at hre ⊢
  clear hcv
  have hcv := string_of_reads (P := Tryd.prog) (src := 28) (dst := 9) (c := ce) Tryd.underlying28 Tryd.underlying5 Tryd.underlying9 hre
  have hcs : strOfNums L3 = (⟨#[120]⟩ : ByteArray) ++ sf ++ so := by
    rw [← hL3]
    have e1 : (⟨#[120]⟩ : ByteArray) = strOfNums [120] := rfl
    rw [e1, ← HSF.out, ← HSO.out, str_app, str_app]
    rfl
  rw [hcs] at hcv
  have hF10 := HF9.out.then0 hf10
  obtain ⟨m, hm2⟩ : ∃ m, m = min os.length 7 := ⟨_, rfl⟩
  have hmx : m ≤ os.length := by omega
  have hmi : min (os.length : Int) 7 = (m : Int) := by omega
  have hif2 : (if (7 : Int) < (os.length : Int) then (7 : Int) else (os.length : Int)) = (m : Int) := by split <;> omega
  have e1 := cut28h A os.length c m hmx hc
  have hml : (os.take m).length = m := by rw [List.length_take]; omega
  have hDoc := Doc_any A c (os.take m) w10 (Fr.rd0 hF10 ((HR.out.1).take m hmx)) (by omega) HR.out.2.1 (by omega) (fun b hb => HR.out.2.2 b (List.mem_of_mem_take hb))
  have hdoc : docOf (os.take m) = 0 := by unfold docOf; rw [if_pos (by omega)]
  rw [hdoc, hml] at hDoc
  have HD2 := hide hDoc
  have HF10 := hide hF10
  clear hf10 hm hre hcs hL3 hm2 hml hDoc hdoc hF10
  go_wp2_with fail
  refine HD2.out.mono ?_
  rintro r w11 ⟨rfl, hf11⟩
  have HF11 := hide (HF10.out.then0 hf11)
  clear hf11
  go_wp2_with fail
  go_ret
  exact ⟨rfl, HF11.out⟩
end Go.Proofs.YtkgffeclgapkbaaDoor
