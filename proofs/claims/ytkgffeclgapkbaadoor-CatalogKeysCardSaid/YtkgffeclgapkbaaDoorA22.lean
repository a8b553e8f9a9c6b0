/- CatalogKeys: a great order; the texts too long. -/
import Derived.Test.YtkgffeclgapkbaaDoorA21
import Derived.Test.YtkgffeclgapkbaaDoorWMore
namespace Go.Proofs.YtkgffeclgapkbaaDoor
open Go.RowKit Go.Proofs.YtkgffeclgapkbaaDoorW.PrintWords Go.Proofs.YtkgffeclgapkbaaDoorW.PrintMore
attribute [local go_sem] min2_int min_two
set_option linter.unusedVariables false
set_option linter.unusedSimpArgs false
set_option maxRecDepth 100000
set_option maxHeartbeats 8000000 in
theorem Keys_big (s : ByteArray) (x y : Nat) (i : Int) (A : Option Addr) (c : Nat) (os : List Int) (w : World) (hg : Gl w) (hs : s.size ≤ 100) (hx : x < 4294967296) (hy : y < 18446744073709551616) (hr : Rd w A os) (hc : os.length ≤ c) (hA : A = none → c = 0) (hb : Bs os) (ho1 : 82 < os.length) (ho : os.length ≤ 200) :
    Calls Tryd.prog 4 #[.string s, .int .u32 x, .int .i64 i, .slice A os.length c, .int .u64 y] w fun r w' => r = .returned (.bool true) ∧ Fr No w w' := by
  have d1 : decide ((100 : Int) < (s.size : Int)) = false := decide_eq_false (by omega)
  have d2 : decide (100 < s.size) = false := decide_eq_false (by omega)
  have d3 : decide ((200 : Int) < (os.length : Int)) = false := decide_eq_false (by omega)
  have d4 : decide (200 < os.length) = false := decide_eq_false (by omega)
  have d5 : decide ((os.length : Int) ≤ 82) = false := decide_eq_false (by omega)
  have d6 : decide (os.length ≤ 82) = false := decide_eq_false (by omega)
  have e0 : IntKind.u64.wrap (x : Int) = (x : Int) := IntWalk.u64_in _ (by omega)
  have HR := hide (And.intro hr (And.intro hA hb))
  have hAw := awake_any w hg
  clear hr hA hb hg
  go_enter Tryd.func4, Tryd.ntmps4
  go_wp2_with fail
  refine hAw.mono ?_
  clear hAw
  rintro r w1 ⟨rfl, hf1⟩
  have HF1 := hide hf1
  clear hf1
  go_wp2_with fail
  refine (RefNum_be x 4 w1 (by omega) (by omega) (by decide) (by decide)).mono ?_
  rintro r w2 ⟨rfl, hf2⟩
  have HF2 := hide (HF1.out.then0 hf2)
  obtain ⟨sf, hsf⟩ : ∃ sf, strOfNums (be x 4 4) = sf := ⟨_, rfl⟩
  have zf : sf.size = 4 := by rw [← hsf, strOfNums_size, be_len]
  rw [hsf]
  have HSF := hide hsf
  clear hf2 hsf
  go_wp2_with fail
  refine (RefNum_be y 8 w2 (by omega) (by omega) (by decide) (by decide)).mono ?_
  rintro r w3 ⟨rfl, hf3⟩
  have HF3 := hide (HF2.out.then0 hf3)
  obtain ⟨se, hse⟩ : ∃ se, strOfNums (be y 8 8) = se := ⟨_, rfl⟩
  have ze : se.size = 8 := by rw [← hse, strOfNums_size, be_len]
  rw [hse]
  have HSE := hide hse
  clear hf3 hse
  have hiu : IntKind.u64.wrap i = asU64 i := rfl
  have hir := asU64_range i
  go_wp2_with fail
  refine (RefNum_be (asU64 i) 1 w3 hir.1 hir.2 (by decide) (by decide)).mono ?_
  rintro r w4 ⟨rfl, hf4⟩
  have HF4 := hide (HF3.out.then0 hf4)
  obtain ⟨so, hso⟩ : ∃ so, strOfNums (be (asU64 i) 1 1) = so := ⟨_, rfl⟩
  have zo : so.size = 1 := by rw [← hso, strOfNums_size, be_len]
  rw [hso]
  have HSO := hide hso
  clear hf4 hso
  go_wp2_with fail
  refine (EntryKey_big x y i A os.length c w4 ho1).mono ?_
  rintro r w6 ⟨rfl, rfl⟩
  have HF6 := HF4
  go_wp2_with fail
  refine (CollKey_any s w4 (by omega)).mono ?_
  rintro r w7 ⟨v, rfl, hm, hf7⟩
  obtain ⟨Ac, cc, rfl, _, hrc⟩ := hm.rd
  obtain ⟨L0, hL0⟩ : ∃ L, 99 :: bytesOf s = L := ⟨_, rfl⟩
  rw [hL0] at hrc ⊢
  have hcv := string_of_reads (P := Tryd.prog) (src := 28) (dst := 9) (c := cc) Tryd.underlying28 Tryd.underlying5 Tryd.underlying9 hrc
  have hcs : strOfNums L0 = ⟨#[99]⟩ ++ s := by
    rw [← hL0]
    have e1 : (⟨#[99]⟩ : ByteArray) = strOfNums [99] := rfl
    have e2 : s = strOfNums (bytesOf s) := (str_bytes s).symm
    rw [e1]
    conv => rhs; rw [e2]
    rw [str_app]
    rfl
  rw [hcs] at hcv
  have HF7 := hide (HF6.out.then0 hf7)
  clear hf7 hm hrc hcs hL0
  go_wp2_with fail
  refine (DocKey_any x y w7 hx hy).mono ?_
  rintro r w8 ⟨v, rfl, hm, hf8⟩
  obtain ⟨Ad, cd, rfl, _, hrd⟩ := hm.rd
  obtain ⟨L1, hL1⟩ : ∃ L, 100 :: (be x 4 4 ++ be y 8 8) = L := ⟨_, rfl⟩
  rw [hL1] at hrd ⊢
  clear hcv
  have hcv := string_of_reads (P := Tryd.prog) (src := 28) (dst := 9) (c := cd) Tryd.underlying28 Tryd.underlying5 Tryd.underlying9 hrd
  have hcs : strOfNums L1 = (⟨#[100]⟩ : ByteArray) ++ sf ++ se := by
    rw [← hL1]
    have e1 : (⟨#[100]⟩ : ByteArray) = strOfNums [100] := rfl
    rw [e1, ← HSF.out, ← HSE.out, str_app, str_app]
    rfl
  rw [hcs] at hcv
  have HF8 := hide (HF7.out.then0 hf8)
  clear hf8 hm hrd hcs hL1
  go_wp2_with fail
  refine (DocFront_any x w8 hx).mono ?_
  rintro r w9 ⟨v, rfl, hm, hf9⟩
  obtain ⟨Af, cf, rfl, _, hrf⟩ := hm.rd
  obtain ⟨L2, hL2⟩ : ∃ L, 100 :: be x 4 4 = L := ⟨_, rfl⟩
  rw [hL2] at hrf ⊢
  clear hcv
  have hcv := string_of_reads (P := Tryd.prog) (src := 28) (dst := 9) (c := cf) Tryd.underlying28 Tryd.underlying5 Tryd.underlying9 hrf
  have hcs : strOfNums L2 = (⟨#[100]⟩ : ByteArray) ++ sf := by
    rw [← hL2]
    have e1 : (⟨#[100]⟩ : ByteArray) = strOfNums [100] := rfl
    rw [e1, ← HSF.out, str_app]
    rfl
  rw [hcs] at hcv
  have HF9 := hide (HF8.out.then0 hf9)
  clear hf9 hm hrf hcs hL2
  go_wp2_with fail
  refine (EntryFront_any x i w9 hx).mono ?_
  rintro r w10 ⟨v, rfl, hm, hf10⟩
  obtain ⟨Ae, ce, rfl, _, hre⟩ := hm.rd
  obtain ⟨L3, hL3⟩ : ∃ L, 120 :: (be x 4 4 ++ be (asU64 i) 1 1) = L := ⟨_, rfl⟩
  rw [hL3] at hre ⊢
  clear hcv
  have hcv := string_of_reads (P := Tryd.prog) (src := 28) (dst := 9) (c := ce) Tryd.underlying28 Tryd.underlying5 Tryd.underlying9 hre
  have hcs : strOfNums L3 = (⟨#[120]⟩ : ByteArray) ++ sf ++ so := by
    rw [← hL3]
    have e1 : (⟨#[120]⟩ : ByteArray) = strOfNums [120] := rfl
    rw [e1, ← HSF.out, ← HSO.out, str_app, str_app]
    rfl
  rw [hcs] at hcv
  have hF10 := HF9.out.then0 hf10
  obtain ⟨m, hm2⟩ : ∃ m, m = min os.length 7 := ⟨_, rfl⟩
  have hmx : m ≤ os.length := by omega
  have hmi : min (os.length : Int) 7 = (m : Int) := by omega
  have hif2 : (if (7 : Int) < (os.length : Int) then (7 : Int) else (os.length : Int)) = (m : Int) := by split <;> omega
  have e1 := cut28h A os.length c m hmx hc
  have hml : (os.take m).length = m := by rw [List.length_take]; omega
  have hDoc := Doc_any A c (os.take m) w10 (Fr.rd0 hF10 ((HR.out.1).take m hmx)) (by omega) HR.out.2.1 (by omega) (fun b hb => HR.out.2.2 b (List.mem_of_mem_take hb))
  have hdoc : docOf (os.take m) = 0 := by unfold docOf; rw [if_pos (by omega)]
  have hm7 : m = 7 := by omega
  rw [hdoc, hml, hm7] at hDoc
  have HD2 := hide hDoc
  have HF10 := hide hF10
  clear hf10 hm hre hcs hL3 hm2 hml hDoc hdoc hF10 hm7
  go_wp2_with fail
  refine HD2.out.mono ?_
  rintro r w11 ⟨rfl, hf11⟩
  have HF11 := hide (HF10.out.then0 hf11)
  clear hf11
  go_wp2_with fail
  go_ret
  exact ⟨rfl, HF11.out⟩
theorem Keys_any (s : ByteArray) (x y : Nat) (i : Int) (A : Option Addr) (c : Nat) (os : List Int) (w : World) (hg : Gl w) (hx : x < 4294967296) (hy : y < 18446744073709551616) (hr : Rd w A os) (hc : os.length ≤ c) (hA : A = none → c = 0) (hb : Bs os) :
    Calls Tryd.prog 4 #[.string s, .int .u32 x, .int .i64 i, .slice A os.length c, .int .u64 y] w fun r w' => r = .returned (.bool true) ∧ Fr No w w' := by
  by_cases hs : 100 < s.size
  · exact Keys_skip s x y i A c os.length w hg (.inl hs)
  · by_cases h2 : 200 < os.length
    · exact Keys_skip s x y i A c os.length w hg (.inr h2)
    · by_cases h8 : os.length ≤ 82
      · exact Keys_ok s x y i A c os w hg (by omega) hx hy hr hc hA hb h8
      · exact Keys_big s x y i A c os w hg (by omega) hx hy hr hc hA hb (by omega) (by omega)
end Go.Proofs.YtkgffeclgapkbaaDoor
