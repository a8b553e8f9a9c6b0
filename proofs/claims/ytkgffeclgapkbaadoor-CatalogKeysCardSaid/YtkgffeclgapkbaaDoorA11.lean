/- catalog's EntryKey and Doc. -/
import Derived.Test.YtkgffeclgapkbaaDoorA10
namespace Go.Proofs.YtkgffeclgapkbaaDoor
open Go.RowKit Go.Proofs.YtkgffeclgapkbaaDoorW.PrintWords
set_option linter.unusedVariables false
set_option linter.unusedSimpArgs false
set_option maxRecDepth 100000
theorem EntryFront_len (x : Nat) (i : Int) (w : World) (hx : x < 4294967296) : Calls Tryd.prog 21 #[.int .u32 x, .int .i64 i] w fun e w' => ∃ A c, e = .returned (.slice A 6 c) ∧ Rd w' A (120 :: (be x 4 4 ++ be (asU64 i) 1 1)) ∧ Fr No w w' :=
  (EntryFront_any x i w hx).mono fun e w' ⟨v, he, hm, hf⟩ => by
    obtain ⟨A1, c1, rfl, hl1, hr1⟩ := hm.rd
    have h6 : (120 :: (be x 4 4 ++ be (asU64 i) 1 1)).length = 6 := by simp [be_len]
    rw [h6] at he
    exact ⟨A1, c1, he, hr1, hf⟩
set_option maxHeartbeats 1000000 in
theorem EntryKey_big (x y i : Int) (A : Option Addr) (n c : Nat) (w : World) (hn : 82 < n) : Calls Tryd.prog 16 #[.int .u32 x, .int .i64 i, .slice A n c, .int .u64 y] w fun e w' => e = .returned (.tuple #[.slice none 0 0, .int .i64 13]) ∧ w = w' := by
  have d1 : decide ((82 : Int) < (n : Int)) = true := decide_eq_true (by omega)
  have d2 : decide (82 < n) = true := decide_eq_true (by omega)
  go_enter Tryd.func16, Tryd.ntmps16
  go_wp2
  go_ret2
  exact ⟨rfl, rfl⟩
set_option maxHeartbeats 1000000 in
theorem EntryKey_any (x y : Nat) (i : Int) (A : Option Addr) (c : Nat) (os : List Int) (w : World) (hx : x < 4294967296) (hy : y < 18446744073709551616) (hr : Rd w A os) (hn : os.length ≤ 82) :
    Calls Tryd.prog 16 #[.int .u32 x, .int .i64 i, .slice A os.length c, .int .u64 y] w fun e w' => ∃ v, e = .returned (.tuple #[v, .int .i64 0]) ∧ Mine w w' v (120 :: (be x 4 4 ++ be (asU64 i) 1 1 ++ os ++ be y 8 8)) ∧ Fr No w w' := by
  have d1 : decide ((82 : Int) < (os.length : Int)) = false := decide_eq_false (by omega)
  have d2 : decide (82 < os.length) = false := decide_eq_false (by omega)
  have HR := hide hr
  clear hr
  go_enter Tryd.func16, Tryd.ntmps16
  go_wp2_with fail
  refine (EntryFront_len x i w hx).mono ?_
  rintro e w1 ⟨A1, c1, rfl, hr1, hf1⟩
  have HM := hide (And.intro hf1 (And.intro (hf1.rd0 HR.out) hr1))
  clear hf1 hr1
  go_wp2_with fail
  refine (num_len y 8 w1 (by omega) (by omega) (by decide) (by decide)).mono ?_
  rintro e w2 ⟨A2, c2, rfl, hr2, hf2⟩
  have HM2 := hide (And.intro (HM.out.1.then0 hf2) (And.intro (hf2.rd0 HM.out.2.1) (And.intro (hf2.rd0 HM.out.2.2) hr2)))
  clear hf2 hr2 HM HR
  go_wp2_with fail
  refine (Concat_any (some ⟨w2.heap.size, 0, none⟩) 3 [120 :: (be x 4 4 ++ be (asU64 i) 1 1), os, be y 8 8] _ (rdS_new3 w2 A1 A A2 c1 c c2 6 os.length 8 _ _ _ HM2.out.2.2.1 HM2.out.2.1 HM2.out.2.2.2 (by simp [be_len]) rfl (be_len _ _ _).symm) (by simp) (by simp [total, be_len]; omega)).mono ?_
  rintro e w3 ⟨v, rfl, hm, hf⟩
  go_wp2_with fail
  go_ret2
  have h0 := HM2.out.1.alloc (.cells #[.slice A1 6 c1, .slice A os.length c, .slice A2 8 c2] 28)
  exact ⟨_, rfl, by simpa using Mine.lower hm h0.size, h0.then0 hf⟩
/-- the number of the last eight bytes -/
def docOf (ks : List Int) : Int := if ks.length < 8 then 0 else valOf 256 (ks.drop (ks.length - 8))
set_option maxHeartbeats 1000000 in
theorem Doc_any (A : Option Addr) (c : Nat) (ks : List Int) (w : World) (hr : Rd w A ks) (hc : ks.length ≤ c) (hA : A = none → c = 0) (hl : ks.length ≤ 1000000) (hb : Bs ks) :
    Calls Tryd.prog 17 #[.slice A ks.length c] w fun e w' => e = .returned (.int .u64 (docOf ks)) ∧ Fr No w w' := by
  by_cases h8 : ks.length < 8
  · have d1 : decide ((ks.length : Int) < 8) = true := decide_eq_true (by omega)
    have hd : docOf ks = 0 := by unfold docOf; rw [if_pos h8]
    have HD := hide hd
    clear hd
    go_enter Tryd.func17, Tryd.ntmps17
    go_wp2
    go_ret
    exact ⟨by rw [HD.out]; rfl, Fr.refl _ _⟩
  · have d1 : decide ((ks.length : Int) < 8) = false := decide_eq_false (by omega)
    obtain ⟨m, hm⟩ : ∃ m, ks.length - 8 = m := ⟨_, rfl⟩
    have hml : m ≤ ks.length := by omega
    obtain ⟨A', e2, hd, _, hA'⟩ := cut28 A ks.length c m hml hA
    have hrd' := hd w ks rfl hc hr
    have hdl : (ks.drop m).length = 8 := by rw [List.length_drop]; omega
    have h8' : ks.length - m = 8 := by omega
    rw [h8'] at e2
    have hmi : (ks.length : Int) - 8 = (m : Int) := by omega
    have hdoc : docOf ks = valOf 256 (ks.drop m) := by unfold docOf; rw [if_neg h8, hm]
    rw [hdoc]
    have hbd : Bs (ks.drop m) := fun b hb' => hb b (List.mem_of_mem_drop hb')
    obtain ⟨ys, hys⟩ : ∃ ys, ks.drop m = ys := ⟨_, rfl⟩
    rw [hys] at hrd' hdl hbd ⊢
    have hAc : A' = none → c - m = 0 := hA'
    have hnr := fun W (hf : Fr No w W) => by
      have := NewReader_any W A' (c - m) ys (hf.rd0 hrd') hAc (by omega)
      rw [hdl] at this
      exact this
    have HN := hide hnr
    have HL := hide (And.intro hdl hbd)
    clear hnr hrd' hdl hbd hys hdoc hd hA' hAc hr hA hb hm h8' h8
    go_enter Tryd.func17, Tryd.ntmps17
    go_wp2_with fail
    refine (HN.out w (Fr.refl _ _)).mono ?_
    rintro e w1 ⟨g, rfl, hR, hf, hg⟩
    go_wp2_with fail
    refine (RNum_ok g w1 ys 8 hR (by rw [HL.out.1]; decide) (by rw [HL.out.1]; decide) (by decide) (by decide) HL.out.2).mono ?_
    rintro e w2 ⟨rfl, hR2, hf2⟩
    have ht : ys.take 8 = ys := List.take_of_length_le (by rw [HL.out.1]; decide)
    have HT := hide ht
    clear ht
    go_wp2_with fail
    go_ret
    refine ⟨by rw [HT.out]; rfl, hf.trans hf2 (fun i hi => .inr (by have : i = g := hi; omega))⟩
end Go.Proofs.YtkgffeclgapkbaaDoor
