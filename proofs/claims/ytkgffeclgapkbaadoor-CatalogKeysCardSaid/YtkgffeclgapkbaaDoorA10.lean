/- catalog's keys. -/
import Derived.Test.YtkgffeclgapkbaaDoorA9
namespace Go.Proofs.YtkgffeclgapkbaaDoor
open Go.RowKit Go.Proofs.YtkgffeclgapkbaaDoorW.PrintWords
set_option linter.unusedVariables false
set_option linter.unusedSimpArgs false
set_option maxRecDepth 100000
/-- A new block of one byte reads. -/
theorem rd_new1 (w : World) (x : Int) : Rd (w.alloc (.cells #[.int .u8 x] 5)) (some ⟨w.heap.size, 0, none⟩) [x] :=
  ⟨rfl, by simp, fun _ => ⟨_, rfl, fun j hj => by
    have : j = 0 := by simp at hj; omega
    subst this
    rw [add_plain, cell_of_row _ _ _ _ _ _ (heap_alloc_new w _)]
    rfl⟩⟩
/-- A new block of slices reads. -/
theorem rdS_new2 (w : World) (A0 A1 : Option Addr) (c0 c1 n0 n1 : Nat) (x0 x1 : List Int) (h0 : Rd w A0 x0) (h1 : Rd w A1 x1) (e0 : n0 = x0.length) (e1 : n1 = x1.length) :
    RdS (w.alloc (.cells #[.slice A0 n0 c0, .slice A1 n1 c1] 28)) (some ⟨w.heap.size, 0, none⟩) [x0, x1] := fun _ => by
  subst e0 e1
  have hf := (Fr.refl No w).alloc (.cells #[.slice A0 x0.length c0, .slice A1 x1.length c1] 28)
  refine ⟨_, rfl, fun j hj => ?_⟩
  rw [add_plain, cell_of_row _ _ _ _ _ _ (heap_alloc_new w _)]
  match j, hj with
  | 0, _ => exact ⟨A0, c0, rfl, hf.rd0 h0⟩
  | 1, _ => exact ⟨A1, c1, rfl, hf.rd0 h1⟩
theorem rdS_new3 (w : World) (A0 A1 A2 : Option Addr) (c0 c1 c2 n0 n1 n2 : Nat) (x0 x1 x2 : List Int) (h0 : Rd w A0 x0) (h1 : Rd w A1 x1) (h2 : Rd w A2 x2) (e0 : n0 = x0.length) (e1 : n1 = x1.length) (e2 : n2 = x2.length) :
    RdS (w.alloc (.cells #[.slice A0 n0 c0, .slice A1 n1 c1, .slice A2 n2 c2] 28)) (some ⟨w.heap.size, 0, none⟩) [x0, x1, x2] := fun _ => by
  subst e0 e1 e2
  have hf := (Fr.refl No w).alloc (.cells #[.slice A0 x0.length c0, .slice A1 x1.length c1, .slice A2 x2.length c2] 28)
  refine ⟨_, rfl, fun j hj => ?_⟩
  rw [add_plain, cell_of_row _ _ _ _ _ _ (heap_alloc_new w _)]
  match j, hj with
  | 0, _ => exact ⟨A0, c0, rfl, hf.rd0 h0⟩
  | 1, _ => exact ⟨A1, c1, rfl, hf.rd0 h1⟩
  | 2, _ => exact ⟨A2, c2, rfl, hf.rd0 h2⟩
theorem rdS_new1 (w : World) (A0 : Option Addr) (c0 n0 : Nat) (x0 : List Int) (h0 : Rd w A0 x0) (e0 : n0 = x0.length) :
    RdS (w.alloc (.cells #[.slice A0 n0 c0] 28)) (some ⟨w.heap.size, 0, none⟩) [x0] := fun _ => by
  subst e0
  have hf := (Fr.refl No w).alloc (.cells #[.slice A0 x0.length c0] 28)
  refine ⟨_, rfl, fun j hj => ?_⟩
  rw [add_plain, cell_of_row _ _ _ _ _ _ (heap_alloc_new w _)]
  match j, hj with
  | 0, _ => exact ⟨A0, c0, rfl, hf.rd0 h0⟩
theorem Fr.then0 {w w1 w2 : World} (h : Fr No w w1) (k : Fr No w1 w2) : Fr No w w2 := h.trans k (fun _ h => .inl h)
theorem Mine.lower {w0 w1 w2 : World} {v : Value} {xs : List Int} (h : Mine w1 w2 v xs) (hs : w0.heap.size ≤ w1.heap.size) : Mine w0 w2 v xs := own_weaken h hs
set_option maxHeartbeats 1000000 in
theorem key_any (s : Int) (A : Option Addr) (c : Nat) (ps : List (List Int)) (w : World) (hr : RdS w A ps) (hn : ps.length ≤ 900) (ht : total ps ≤ 9000000) :
    Calls Tryd.prog 41 #[.int .u8 s, .slice A ps.length c] w fun e w' => ∃ v, e = .returned v ∧ Mine w w' v (s :: ps.flatten) ∧ Fr No w w' := by
  have HR := hide hr
  obtain ⟨zs, hzs⟩ : ∃ zs, ps.flatten = zs := ⟨_, rfl⟩
  have hzl : zs.length ≤ 9000000 := by rw [← hzs]; exact ht
  rw [hzs]
  have HZ := hide hzs
  clear hr hzs
  go_enter Tryd.func41, Tryd.ntmps41
  go_wp2_with fail
  have hf0 : Fr No w (w.alloc (.cells #[.int .u8 s] 5)) := (Fr.refl No w).alloc _
  refine (Concat_any A c ps _ (HR.out.keep hf0) (by omega) (by omega)).mono ?_
  rintro e w1 ⟨v, rfl, hm, hf⟩
  rw [HZ.out] at hm
  obtain ⟨A1, c1, rfl, hl1, hr1⟩ := hm.rd
  have hr0 := hf.rd0 (rd_new1 w s)
  have HM := hide (And.intro hf0 (And.intro hf (And.intro hr0 hr1)))
  clear hm hf0 hf hr0 hr1
  go_wp2_with fail
  have hrs := rdS_new2 w1 (some ⟨w.heap.size, 0, none⟩) A1 1 c1 1 zs.length [s] zs HM.out.2.2.1 HM.out.2.2.2 rfl rfl
  refine (Concat_any (some ⟨w1.heap.size, 0, none⟩) 2 [[s], zs] _ hrs (by simp) (by unfold total; simp; omega)).mono ?_
  rintro e w2 ⟨v, rfl, hm2, hf2⟩
  go_wp2_with fail
  go_ret
  have hfr : Fr No w w2 := ((HM.out.1.then0 HM.out.2.1).alloc _).then0 hf2
  refine ⟨_, rfl, ?_, hfr⟩
  have := Mine.lower (w0 := w) hm2 (by have := (HM.out.1.then0 HM.out.2.1).size; simp; omega)
  simpa using this
theorem Mine.next {w0 w1 w2 : World} {A : Option Addr} {n c : Nat} {xs : List Int} (hm : Mine w0 w1 (.slice A n c) xs) (hf : Fr No w1 w2) : n = xs.length ∧ Rd w2 A xs := by
  obtain ⟨A1, c1, e, hl1, hr1⟩ := hm.rd
  injection e with e1 e2 e3
  subst e1
  exact ⟨e2, hf.rd0 hr1⟩
set_option maxHeartbeats 1000000 in
theorem NextKey_any (w : World) : Calls Tryd.prog 22 #[] w fun e w' => ∃ v, e = .returned v ∧ Mine w w' v [115] ∧ Fr No w w' := by
  go_enter Tryd.func22, Tryd.ntmps22
  go_wp2_with fail
  refine (key_any 115 none 0 [] w (fun h => absurd h (by simp)) (by simp) (by simp [total])).mono ?_
  rintro e w1 ⟨v, rfl, hm, hf⟩
  go_wp2_with fail
  go_ret
  exact ⟨_, rfl, hm, hf⟩
theorem be_len (x : Int) (n k : Nat) : (be x n k).length = k := by simp [be]
/-- num's slice, its length written out -/
theorem num_len (x : Int) (n : Nat) (w : World) (hx0 : 0 ≤ x) (hx : x < 18446744073709551616) (h1 : 1 ≤ n) (h2 : n ≤ 8) :
    Calls Tryd.prog 40 #[.int .u64 x, .int .i64 n] w fun e w' => ∃ A c, e = .returned (.slice A n c) ∧ Rd w' A (be x n n) ∧ Fr No w w' :=
  (num_any x n w hx0 hx h1 h2).mono fun e w' ⟨v, he, hm, hf⟩ => by
    obtain ⟨A1, c1, rfl, hl1, hr1⟩ := hm.rd
    rw [be_len] at he
    exact ⟨A1, c1, he, hr1, hf⟩
theorem bytes_fr (w : World) (s : ByteArray) : Fr No w (Lib.bytesWorld w 5 s) := Fr.of_below (bytes_below (Below.refl w.heap.size w) (Nat.le_refl _) 5 s) (Nat.le_refl _)
set_option maxHeartbeats 1000000 in
theorem CollKey_any (s : ByteArray) (w : World) (hs : s.size ≤ 1000000) : Calls Tryd.prog 18 #[.string s] w fun e w' => ∃ v, e = .returned v ∧ Mine w w' v (99 :: bytesOf s) ∧ Fr No w w' := by
  have kb := fun W => print_bytes (P := Tryd.prog) 9 28 5 Tryd.underlying9 Tryd.underlying28 Tryd.underlying5 s W
  have hl := bytesOf_length s
  have hrd : Rd (Lib.bytesWorld w 5 s) (some ⟨w.heap.size, 0, none⟩) (bytesOf s) := by
    have := bytes_reads w 5 s (by omega)
    unfold Rd
    rw [hl]
    exact this
  have HH := hide (And.intro hl hrd)
  clear hl hrd
  go_enter Tryd.func18, Tryd.ntmps18
  go_wp2_with fail
  refine (key_any 99 (some ⟨(Lib.bytesWorld w 5 s).heap.size, 0, none⟩) 1 [bytesOf s] _ (rdS_new1 (Lib.bytesWorld w 5 s) (some ⟨w.heap.size, 0, none⟩) _ s.size (bytesOf s) HH.out.2 HH.out.1.symm) (by simp) (by simp [total, HH.out.1]; omega)).mono ?_
  rintro e w1 ⟨v, rfl, hm, hf⟩
  go_wp2_with fail
  go_ret
  have h0 := (bytes_fr w s).alloc (.cells #[.slice (some ⟨w.heap.size, 0, none⟩) s.size (grownCap w s.size 0 5)] 28)
  exact ⟨_, rfl, by simpa using Mine.lower hm h0.size, h0.then0 hf⟩
set_option maxHeartbeats 1000000 in
theorem DocFront_any (x : Nat) (w : World) (hx : x < 4294967296) : Calls Tryd.prog 20 #[.int .u32 x] w fun e w' => ∃ v, e = .returned v ∧ Mine w w' v (100 :: be x 4 4) ∧ Fr No w w' := by
  have e0 : IntKind.u64.wrap (x : Int) = (x : Int) := IntWalk.u64_in _ (by omega)
  go_enter Tryd.func20, Tryd.ntmps20
  go_wp2_with fail
  refine (num_len x 4 w (by omega) (by omega) (by decide) (by decide)).mono ?_
  rintro e w1 ⟨A, c, rfl, hr, hf⟩
  have HM := hide (And.intro hf hr)
  clear hf hr
  go_wp2_with fail
  refine (key_any 100 (some ⟨w1.heap.size, 0, none⟩) 1 [be x 4 4] _ (rdS_new1 w1 A c 4 _ HM.out.2 (be_len _ _ _).symm) (by simp) (by simp [total, be_len])).mono ?_
  rintro e w2 ⟨v, rfl, hm, hf⟩
  go_wp2_with fail
  go_ret
  have h0 := HM.out.1.alloc (.cells #[.slice A 4 c] 28)
  exact ⟨_, rfl, by simpa using Mine.lower hm h0.size, h0.then0 hf⟩
set_option maxHeartbeats 1000000 in
theorem DocKey_any (x y : Nat) (w : World) (hx : x < 4294967296) (hy : y < 18446744073709551616) : Calls Tryd.prog 19 #[.int .u32 x, .int .u64 y] w fun e w' => ∃ v, e = .returned v ∧ Mine w w' v (100 :: (be x 4 4 ++ be y 8 8)) ∧ Fr No w w' := by
  have e0 : IntKind.u64.wrap (x : Int) = (x : Int) := IntWalk.u64_in _ (by omega)
  go_enter Tryd.func19, Tryd.ntmps19
  go_wp2_with fail
  refine (num_len x 4 w (by omega) (by omega) (by decide) (by decide)).mono ?_
  rintro e w1 ⟨A, c, rfl, hr, hf⟩
  have HM := hide (And.intro hf hr)
  clear hf hr
  go_wp2_with fail
  refine (num_len y 8 w1 (by omega) (by omega) (by decide) (by decide)).mono ?_
  rintro e w2 ⟨A2, c2, rfl, hr2, hf2⟩
  have HM2 := hide (And.intro (HM.out.1.then0 hf2) (And.intro (hf2.rd0 HM.out.2) hr2))
  clear hf2 hr2
  go_wp2_with fail
  refine (key_any 100 (some ⟨w2.heap.size, 0, none⟩) 2 [be x 4 4, be y 8 8] _ (rdS_new2 w2 A A2 c c2 4 8 _ _ HM2.out.2.1 HM2.out.2.2 (be_len _ _ _).symm (be_len _ _ _).symm) (by simp) (by simp [total, be_len])).mono ?_
  rintro e w3 ⟨v, rfl, hm, hf⟩
  go_wp2_with fail
  go_ret
  have h0 := HM2.out.1.alloc (.cells #[.slice A 4 c, .slice A2 8 c2] 28)
  exact ⟨_, rfl, by simpa using Mine.lower hm h0.size, h0.then0 hf⟩
/-- an int's value as a uint64's -/
def asU64 (i : Int) : Int := IntKind.u64.wrap i
theorem asU64_range (i : Int) : 0 ≤ asU64 i ∧ asU64 i < 18446744073709551616 := by
  simp [asU64, IntKind.wrap, IntKind.bits, IntKind.signed]; omega
set_option maxHeartbeats 1000000 in
theorem EntryFront_any (x : Nat) (i : Int) (w : World) (hx : x < 4294967296) : Calls Tryd.prog 21 #[.int .u32 x, .int .i64 i] w fun e w' => ∃ v, e = .returned v ∧ Mine w w' v (120 :: (be x 4 4 ++ be (asU64 i) 1 1)) ∧ Fr No w w' := by
  have e0 : IntKind.u64.wrap (x : Int) = (x : Int) := IntWalk.u64_in _ (by omega)
  have hr0 := asU64_range i
  go_enter Tryd.func21, Tryd.ntmps21
  go_wp2_with fail
  refine (num_len x 4 w (by omega) (by omega) (by decide) (by decide)).mono ?_
  rintro e w1 ⟨A, c, rfl, hr, hf⟩
  have HM := hide (And.intro hf hr)
  clear hf hr
  go_wp2_with fail
  refine (num_len (asU64 i) 1 w1 hr0.1 hr0.2 (by decide) (by decide)).mono ?_
  rintro e w2 ⟨A2, c2, rfl, hr2, hf2⟩
  have HM2 := hide (And.intro (HM.out.1.then0 hf2) (And.intro (hf2.rd0 HM.out.2) hr2))
  clear hf2 hr2
  go_wp2_with fail
  refine (key_any 120 (some ⟨w2.heap.size, 0, none⟩) 2 [be x 4 4, be (asU64 i) 1 1] _ (rdS_new2 w2 A A2 c c2 4 1 _ _ HM2.out.2.1 HM2.out.2.2 (be_len _ _ _).symm (be_len _ _ _).symm) (by simp) (by simp [total, be_len])).mono ?_
  rintro e w3 ⟨v, rfl, hm, hf⟩
  go_wp2_with fail
  go_ret
  have h0 := HM2.out.1.alloc (.cells #[.slice A 4 c, .slice A2 1 c2] 28)
  exact ⟨_, rfl, by simpa using Mine.lower hm h0.size, h0.then0 hf⟩
end Go.Proofs.YtkgffeclgapkbaaDoor
