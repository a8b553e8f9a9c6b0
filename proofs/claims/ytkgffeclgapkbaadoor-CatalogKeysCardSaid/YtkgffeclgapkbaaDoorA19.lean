/- The law's example. -/
import Derived.Test.YtkgffeclgapkbaaDoorA18
namespace Go.Proofs.YtkgffeclgapkbaaDoor
open Go.RowKit Go.Proofs.YtkgffeclgapkbaaDoorW.PrintWords
set_option linter.unusedVariables false
set_option linter.unusedSimpArgs false
set_option maxRecDepth 100000
def ixA : Ix := ⟨3, ⟨#[97]⟩, true⟩
def awB : List Int := [0, 0, 0, 1, 0, 0, 0, 0, 0, 0, 0, 2, 1, 3, 1, 1, 97]
def awK : List Int := [100, 0, 0, 0, 1, 0, 0, 0, 0, 0, 0, 0, 2]
theorem awR : rightB 1 2 [ixA] = true := by kernel_rfl
theorem awP : putL 1 2 [ixA] = awB := by kernel_rfl
theorem awG : collOk awB = true := by kernel_rfl
theorem awX : gXs awB = [ixA] := by kernel_rfl
theorem awI : gId awB = 1 := by kernel_rfl
theorem awE : gNext awB = 2 := by kernel_rfl
theorem awN : nameOk ⟨#[97, 95, 49]⟩ = true := by kernel_rfl
theorem awM : nameOk ⟨#[65]⟩ = false := by kernel_rfl
theorem awD : 100 :: (be (1 : Nat) 4 4 ++ be (2 : Nat) 8 8) = awK := by kernel_rfl
theorem awO : docOf awK = 2 := by kernel_rfl
theorem awS : strOfNums awK = ⟨#[100, 0, 0, 0, 1, 0, 0, 0, 0, 0, 0, 0, 2]⟩ := by kernel_rfl
theorem awT : strOfNums [115] = ⟨#[115]⟩ := by kernel_rfl
theorem aw_bs : Bs awB := by unfold Bs awB; decide
theorem awk_bs : Bs awK := by unfold Bs awK; decide
theorem RdI_one (w : World) (x : Ix) : RdI (w.alloc (.cells #[.int .i64 x.id, .string x.path, .bool x.un] 57)) (some ⟨w.heap.size, 0, none⟩) [x] := by
  intro j hj
  have : j = 0 := by
    have : j < 1 := hj
    omega
  subst this
  have hb := heap_alloc_new w (.cells #[.int .i64 x.id, .string x.path, .bool x.un] 57)
  exact ⟨_, rfl, blk_cell hb 0, blk_cell hb 1, blk_cell hb 2⟩
theorem rd_nil {w : World} {A : Option Addr} {xs : List Int} (h : Rd w A xs) (c : Nat) (hc : xs.length ≤ c) (h0 : 0 < xs.length) : A = none → c = 0 := by
  rintro rfl
  obtain ⟨ad, e, _⟩ := h.2.2 h0
  cases e
set_option maxHeartbeats 4000000 in
theorem awake_any (w : World) (hg : Gl w) : Calls Tryd.prog 5 #[] w fun r w' => r = .returned (.bool true) ∧ Fr No w w' := by
  have hf0 : Fr No w (w.alloc (.cells #[.int .i64 3, .string ⟨#[97]⟩, .bool true] 57)) := (Fr.refl _ _).alloc _
  have hP : Calls Tryd.prog 7 #[.agg #[.int .u32 1, .int .u64 2, .slice (some ⟨w.heap.size, 0, none⟩) 1 1]] (w.alloc (.cells #[.int .i64 3, .string ⟨#[97]⟩, .bool true] 57)) fun r w' => PutPost (w.alloc (.cells #[.int .i64 3, .string ⟨#[97]⟩, .bool true] 57)) 1 2 [ixA] r w' ∧ Fr No (w.alloc (.cells #[.int .i64 3, .string ⟨#[97]⟩, .bool true] 57)) w' :=
    Put_any 1 2 (some ⟨w.heap.size, 0, none⟩) 1 [ixA] _ (hg.keep0 hf0) (RdI_one w ixA) (Nat.le_refl _) (by decide) (by decide) (by decide) (by intro x hx; rw [List.mem_singleton.1 hx]; decide)
  have HP := hide hP
  have HG := hide (And.intro hg hf0)
  clear hP hg hf0
  go_enter Tryd.func5, Tryd.ntmps5
  go_wp2_with fail
  refine HP.out.mono ?_
  rintro r w1 ⟨hpp, hf1⟩
  unfold PutPost at hpp
  rw [if_pos awR] at hpp
  obtain ⟨v, rfl, hm⟩ := hpp
  rw [awP] at hm
  obtain ⟨A, c, rfl, hle, hrd⟩ := hm.rd
  obtain ⟨bs, hbs⟩ : ∃ bs, awB = bs := ⟨_, rfl⟩
  rw [hbs] at hrd hle ⊢
  have hbl : bs.length = 17 := by rw [← hbs]; rfl
  have d1 : decide ((bs.length : Int) = 17) = true := by rw [hbl]; rfl
  have d2 : decide (bs.length = 17) = true := by rw [hbl]; rfl
  have d3 : ((bs.length : Int) == 17) = true := by rw [hbl]; rfl
  have hF1 := HG.out.2.then0 hf1
  have hGet := Get_any A c bs w1 (HG.out.1.keep0 hF1) hrd (rd_nil hrd c hle (by omega)) (by rw [← hbs]; exact aw_bs) (by omega)
  have HGet := hide hGet
  have HB := hide (And.intro hbs hF1)
  clear hGet hbs hbl hF1 hf1 hm hrd
  go_wp2_with fail
  refine HGet.out.mono ?_
  rintro r w2 ⟨hpp, hf2⟩
  unfold GetPost at hpp
  rw [← HB.out.1, if_pos awG, awX, awI, awE] at hpp
  obtain ⟨A2, c2, rfl, hle2, hri⟩ := hpp
  obtain ⟨ad, rfl, q0, q1, q2⟩ := hri 0 (by decide)
  have q2' : w2.cell? ⟨ad.block, ad.off + 2, none⟩ = some (.bool true) := q2
  have HF2 := hide (HB.out.2.then0 hf2)
  clear q0 q1 q2 hri hf2
  go_wp2_with fail
  have hD : Calls Tryd.prog 19 #[.int .u32 1, .int .u64 2] (w2.alloc (.cells #[.int .u32 1, .int .u64 2, .slice (some ad) 1 c2] 34)) fun e w' => ∃ v, e = .returned v ∧ Mine (w2.alloc (.cells #[.int .u32 1, .int .u64 2, .slice (some ad) 1 c2] 34)) w' v (100 :: (be (1 : Nat) 4 4 ++ be (2 : Nat) 8 8)) ∧ Fr No (w2.alloc (.cells #[.int .u32 1, .int .u64 2, .slice (some ad) 1 c2] 34)) w' := DocKey_any 1 2 _ (by decide) (by decide)
  rw [awD] at hD
  refine hD.mono ?_
  rintro r w3 ⟨vk, rfl, hmk, hf3⟩
  obtain ⟨Ak, ck, rfl, hlk, hrk⟩ := hmk.rd
  have hn3 : Fr No w2 w3 := ((Fr.refl No w2).alloc _).then0 hf3
  have hb3 := hf3.blk (heap_alloc_new w2 _) (fun h => h)
  have p1 : w3.cell? ⟨w2.heap.size, 1, none⟩ = some (.int .u64 2) := blk_cell hb3 1
  have p2 : w3.cell? ⟨w2.heap.size, 2, none⟩ = some (.slice (some ad) 1 c2) := blk_cell hb3 2
  have p3 : w3.cell? ⟨ad.block, ad.off + 2, none⟩ = some (.bool true) := hn3.cell q2' (fun h => h)
  obtain ⟨ks, hks⟩ : ∃ ks, awK = ks := ⟨_, rfl⟩
  rw [hks] at hrk hlk ⊢
  have hkl : ks.length = 13 := by rw [← hks]; rfl
  have hDoc := Doc_any Ak ck ks w3 hrk hlk (rd_nil hrk ck hlk (by omega)) (by omega) (by rw [← hks]; exact awk_bs)
  have hcv := string_of_reads (P := Tryd.prog) (src := 28) (dst := 9) (c := ck) Tryd.underlying28 Tryd.underlying5 Tryd.underlying9 hrk
  rw [← hks, awS, hks] at hcv
  have hdoc2 : docOf ks = 2 := by rw [← hks]; exact awO
  rw [hdoc2] at hDoc
  have HD := hide hDoc
  have HF3 := hide (HF2.out.then0 hn3)
  clear hD hks hkl hDoc hdoc2 hmk hrk hf3 hn3 hb3 q2'
  go_wp2_with fail
  refine HD.out.mono ?_
  rintro r w4 ⟨rfl, hf4⟩
  have hN := Name_any ⟨#[97, 95, 49]⟩ w4 (by decide)
  rw [awN] at hN
  have HF4 := hide (HF3.out.then0 hf4)
  clear hf4
  go_wp2_with fail
  refine hN.mono ?_
  clear hN
  rintro r w5 ⟨rfl, hf5⟩
  have hN := Name_any ⟨#[65]⟩ w5 (by decide)
  rw [awM] at hN
  have HF5 := hide (HF4.out.then0 hf5)
  clear hf5
  go_wp2_with fail
  refine hN.mono ?_
  clear hN
  rintro r w6 ⟨rfl, hf6⟩
  have HF6 := hide (HF5.out.then0 hf6)
  clear hf6
  go_wp2_with fail
  refine (NextKey_any w6).mono ?_
  rintro r w7 ⟨vn, rfl, hm, hf7⟩
  obtain ⟨An, cn, rfl, _, hrn⟩ := hm.rd
  have hcn : (convert 28 9 (.slice An 1 cn)).run Tryd.prog w7 = .ok (.string ⟨#[115]⟩) w7 := by
    rw [← awT]
    exact string_of_reads (P := Tryd.prog) (src := 28) (dst := 9) (c := cn) Tryd.underlying28 Tryd.underlying5 Tryd.underlying9 hrn
  have HF7 := hide (HF6.out.then0 hf7)
  clear hm hrn hf7
  go_wp2_with fail
  go_ret
  exact ⟨rfl, HF7.out⟩
end Go.Proofs.YtkgffeclgapkbaaDoor
