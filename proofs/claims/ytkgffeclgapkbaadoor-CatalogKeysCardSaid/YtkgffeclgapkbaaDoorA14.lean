/- catalog.Put. -/
import Derived.Test.YtkgffeclgapkbaaDoorA13
namespace Go.Proofs.YtkgffeclgapkbaaDoor
open Go.RowKit Go.Proofs.YtkgffeclgapkbaaDoorW.PrintWords
set_option linter.unusedVariables false
set_option linter.unusedSimpArgs false
set_option maxRecDepth 100000
def ixL (x : Ix) : List Int := be (asU64 x.id) 1 1 ++ (be (if x.un then 1 else 0) 1 1 ++ (shortL x.path.size ++ bytesOf x.path))
def putL (id next : Int) (xs : List Ix) : List Int := be id 4 4 ++ (be next 8 8 ++ (be xs.length 1 1 ++ (xs.map ixL).flatten))
theorem IsW.lt {w : World} {g : Nat} {row : Option Nat} {xs : List Int} (h : IsW w g row xs) : ∀ i, GR g row i → i < w.heap.size := by
  obtain ⟨v, hb, hr, ho⟩ := h
  rintro i (rfl | hi)
  · exact blk_lt hb
  · exact own_lt ho i (by rw [hr, ← hi])
/-- A writer made since w0. -/
structure WSt (w0 w : World) (g : Nat) (xs : List Int) : Prop where
  st : ∃ row, IsW w g row xs ∧ (∀ i, GR g row i → w0.heap.size ≤ i)
  fr : Fr No w0 w
theorem WSt.keep {w0 w w1 : World} {g : Nat} {xs : List Int} (h : WSt w0 w g xs) (hf : Fr No w w1) : WSt w0 w1 g xs := by
  obtain ⟨⟨row, h1, h2⟩, h3⟩ := h
  exact ⟨⟨row, h1.keep hf, h2⟩, h3.then0 hf⟩
/-- what a call on the writer leaves -/
theorem WSt.step {w0 w w1 : World} {g : Nat} {xs ys : List Int} {row : Option Nat} (hg : ∀ i, GR g row i → w0.heap.size ≤ i) (hf0 : Fr No w0 w) (h : ∃ row', IsW w1 g row' ys ∧ Fr (GR g row) w w1 ∧ Row2 w row row') : WSt w0 w1 g ys := by
  obtain ⟨row', h1, h2, h3⟩ := h
  refine ⟨⟨row', h1, ?_⟩, hf0.trans h2 (fun i hi => .inr (hg i hi))⟩
  rintro i (hi | hi)
  · exact hg i (.inl hi)
  · rcases h3 with h3 | ⟨b, h3, h4⟩
    · exact hg i (.inr (by rw [hi, h3]))
    · rw [h3] at hi
      injection hi with hi
      have := hf0.size
      omega
/-- One more number. -/
theorem WNum_st {w0 w : World} {g : Nat} {xs : List Int} (x : Int) (n : Nat) (h : WSt w0 w g xs) (hx0 : 0 ≤ x) (hx : x < 18446744073709551616) (h1 : 1 ≤ n) (h2 : n ≤ 8) (hl : xs.length ≤ 100000000) :
    Calls Tryd.prog 24 #[.pointer (some ⟨g, 0, none⟩), .int .u64 x, .int .i64 n] w fun e w' => e = .returned (.tuple #[]) ∧ WSt w0 w' g (xs ++ be x n n) ∧ (∀ k o, k < w.heap.size → (∃ t cs fr, o = .cells cs t fr ∧ t ≠ 81 ∧ t ≠ 5) → w.heap[k]? = some o → w'.heap[k]? = some o) := by
  obtain ⟨⟨row, hw, hg⟩, hf⟩ := h
  refine (Num_any g x n w hx0 hx h1 h2 row xs hw hl).mono fun e w' ⟨he, hr⟩ => ⟨he, WSt.step (xs := xs) hg hf hr, ?_⟩
  obtain ⟨row', _, hk, _⟩ := hr
  obtain ⟨v, hb, hro, ho⟩ := hw
  rintro k o hk1 ⟨t, cs, fr, rfl, h81, h5⟩ hko
  refine hk.blk hko ?_
  rintro (rfl | hi)
  · rw [hb] at hko
    injection hko with hko
    injection hko with _ ht _
    exact h81 ht.symm
  · obtain ⟨cells, hc⟩ := own_typed ho k (by rw [hro, ← hi])
    rw [hc] at hko
    injection hko with hko
    injection hko with _ ht _
    exact h5 ht.symm
theorem WBytes_st {w0 wp w : World} {g : Nat} {xs : List Int} (h : WSt w0 wp g xs) (hfp : Fr No wp w) (hl : xs.length ≤ 10000000) (A : Option Addr) (c : Nat) (ys : List Int) (hr : Rd w A ys) (hyl : ys.length ≤ 10000000) (hA : ∀ ad, A = some ad → wp.heap.size ≤ ad.block) :
    Calls Tryd.prog 25 #[.pointer (some ⟨g, 0, none⟩), .slice A ys.length c] w fun e w' => e = .returned (.tuple #[]) ∧ WSt w0 w' g (xs ++ (shortL ys.length ++ ys)) ∧ (∀ k o, k < w.heap.size → (∃ t cs fr, o = .cells cs t fr ∧ t ≠ 81 ∧ t ≠ 5) → w.heap[k]? = some o → w'.heap[k]? = some o) := by
  obtain ⟨⟨row, hwp, hg⟩, hf⟩ := h
  have hw := hwp.keep hfp
  have hw' := hw
  obtain ⟨v, hb, hro, ho⟩ := hw'
  refine (WBytes_any g w row xs hw hl A c ys hr hyl ?_).mono fun e w' ⟨he, hr⟩ => ⟨he, WSt.step (xs := xs) hg (hf.then0 hfp) hr, ?_⟩
  · rintro ad hA1 h0 hgr
    have h1 := hwp.lt _ hgr
    have h2 := hA ad hA1
    omega
  · obtain ⟨row', _, hk, _⟩ := hr
    rintro k o hk1 ⟨t, cs, fr, rfl, h81, h5⟩ hko
    refine hk.blk hko ?_
    rintro (rfl | hi)
    · rw [hb] at hko
      injection hko with hko
      injection hko with _ ht _
      exact h81 ht.symm
    · obtain ⟨cells, hc⟩ := own_typed ho k (by rw [hro, ← hi])
      rw [hc] at hko
      injection hko with hko
      injection hko with _ ht _
      exact h5 ht.symm
/-- How a row of indexes is put, from k on. -/
theorem flat_take_succ {xs : List Ix} {k : Nat} (h : k < xs.length) : ((xs.take (k + 1)).map ixL).flatten = ((xs.take k).map ixL).flatten ++ ixL (xs.getD k ix0) := by
  rw [List.take_succ_eq_append_getElem h, List.map_append, List.flatten_append, List.getD_eq_getElem?_getD, List.getElem?_eq_getElem h]
  simp
theorem ixL_len (x : Ix) (h : x.path.size ≤ 1000000) : (ixL x).length ≤ 1000020 := by
  have := shortL_len x.path.size (by omega)
  simp [ixL, be_len, bytesOf_length]; omega
theorem flat_len {xs : List Ix} (h : ∀ x, x ∈ xs → x.path.size ≤ 1000000) : ((xs.map ixL).flatten).length ≤ xs.length * 1000020 := by
  induction xs with
  | nil => simp
  | cons a l ih =>
    have h1 := ixL_len a (h a List.mem_cons_self)
    have h2 := ih (fun x hx => h x (List.mem_cons_of_mem _ hx))
    simp only [List.map_cons, List.flatten_cons, List.length_append, List.length_cons]
    omega
def PutPost (w : World) (id next : Int) (xs : List Ix) (e : Ending) (w' : World) : Prop :=
  if rightB id next xs = true then ∃ v, e = .returned (.tuple #[v, .int .i64 0]) ∧ Mine w w' v (putL id next xs) else e = .returned (.tuple #[.slice none 0 0, .int .i64 1])
set_option maxHeartbeats 2000000 in
theorem Put_no (id next : Int) (A : Option Addr) (c : Nat) (xs : List Ix) (w : World) (hg : Gl w) (hr : RdI w A xs) (hc : xs.length ≤ c) (hl : xs.length ≤ 1000000) (hp : ∀ x, x ∈ xs → x.path.size ≤ 1000000) (hb : rightB id next xs = false) :
    Calls Tryd.prog 7 #[.agg #[.int .u32 id, .int .u64 next, .slice A xs.length c]] w fun r w' => r = .returned (.tuple #[.slice none 0 0, .int .i64 1]) ∧ Fr No w w' := by
  have hf1 : Fr No w (w.alloc (.cells #[.int .u32 id, .int .u64 next, .slice A xs.length c] 34)) := (Fr.refl _ _).alloc _
  have hR := Right_any id next A c xs _ (hg.keep0 hf1) (hr.keep0 hf1) hc hl hp
  rw [hb] at hR
  have HR := hide hR
  have HF := hide hf1
  clear hR hf1 hb hg hr hp
  go_enter Tryd.func7, Tryd.ntmps7
  go_wp2_with fail
  refine HR.out.mono ?_
  rintro r w2 ⟨rfl, hf2⟩
  go_wp2_with fail
  go_ret2
  exact ⟨rfl, HF.out.then0 hf2⟩
set_option maxHeartbeats 4000000 in
theorem Put_ok (id next : Int) (A : Option Addr) (c : Nat) (xs : List Ix) (w : World) (hg : Gl w) (hr : RdI w A xs) (hc : xs.length ≤ c) (hid : 0 ≤ id ∧ id < 4294967296) (hnx : 0 ≤ next ∧ next < 18446744073709551616) (hl : xs.length ≤ 8) (hp : ∀ x, x ∈ xs → x.path.size ≤ 1000000) (hb : rightB id next xs = true) :
    Calls Tryd.prog 7 #[.agg #[.int .u32 id, .int .u64 next, .slice A xs.length c]] w fun r w' => (∃ v, r = .returned (.tuple #[v, .int .i64 0]) ∧ Mine w w' v (putL id next xs)) ∧ Fr No w w' := by
  have hf1 : Fr No w (w.alloc (.cells #[.int .u32 id, .int .u64 next, .slice A xs.length c] 34)) := (Fr.refl _ _).alloc _
  have hR := Right_any id next A c xs _ (hg.keep0 hf1) (hr.keep0 hf1) hc (by omega) hp
  rw [hb] at hR
  have HR := hide hR
  have HF := hide (And.intro hf1 (And.intro hr hp))
  have e0 : IntKind.u64.wrap id = id := IntWalk.u64_in _ (by omega)
  have e1 : IntKind.u64.wrap (xs.length : Int) = (xs.length : Int) := IntWalk.u64_in _ (by omega)
  obtain ⟨w1, hw1⟩ : ∃ w1, w1 = w.alloc (.cells #[.int .u32 id, .int .u64 next, .slice A xs.length c] 34) := ⟨_, rfl⟩
  have hbx : w1.heap[w.heap.size]? = some (.cells #[.int .u32 id, .int .u64 next, .slice A xs.length c] 34 (0, 0)) := by rw [hw1]; exact heap_alloc_new w _
  clear hR hf1 hb hg hr hp
  go_enter Tryd.func7, Tryd.ntmps7
  go_wp2_with fail
  refine HR.out.mono ?_
  rw [← hw1] at HF ⊢
  rintro r w2 ⟨rfl, hf2⟩
  have hbx2 := hf2.blk hbx (fun h => h)
  have hc0 : w2.cell? ⟨w.heap.size, 0, none⟩ = some (.int .u32 id) := blk_cell hbx2 0
  have HF2 := hide (And.intro (HF.out.1.then0 hf2) hbx2)
  clear hf2 hbx hbx2 hw1 HR
  go_wp2_with fail
  refine (NewWriter_any w2).mono ?_
  rintro e w3 ⟨g, rfl, hg3, hf3, hgl⟩
  have hs3 : WSt w2 w3 g [] := ⟨⟨none, hg3, fun i hi => by
    rcases hi with rfl | hi
    · exact hgl
    · cases hi⟩, hf3⟩
  have hT : ∃ t cs fr, (Obj.cells #[Value.int .u32 id, .int .u64 next, .slice A xs.length c] 34 (0, 0)) = .cells cs t fr ∧ t ≠ 81 ∧ t ≠ 5 := ⟨34, _, _, rfl, by decide, by decide⟩
  have HT := hide hT
  have hbx3 := hf3.blk HF2.out.2 (fun h => h)
  have hc03 : w3.cell? ⟨w.heap.size, 0, none⟩ = some (.int .u32 id) := blk_cell hbx3 0
  have HS3 := hide (And.intro hs3 hbx3)
  clear hg3 hf3 hs3 hbx3 hc0 hT
  go_wp2_with fail
  refine (WNum_st id 4 HS3.out.1 hid.1 (by omega) (by decide) (by decide) (by simp)).mono ?_
  rintro e w4 ⟨rfl, hs4, hk4⟩
  have hbx4 := hk4 _ _ (blk_lt HS3.out.2) HT.out HS3.out.2
  have hc14 : w4.cell? ⟨w.heap.size, 1, none⟩ = some (.int .u64 next) := blk_cell hbx4 1
  have HS4 := hide (And.intro hs4 hbx4)
  clear hs4 hk4 hbx4 hc03
  go_wp2_with fail
  refine (WNum_st next 8 HS4.out.1 hnx.1 (by omega) (by decide) (by decide) (by simp [be_len])).mono ?_
  rintro e w5 ⟨rfl, hs5, hk5⟩
  have hbx5 := hk5 _ _ (blk_lt HS4.out.2) HT.out HS4.out.2
  have hc25 : w5.cell? ⟨w.heap.size, 2, none⟩ = some (.slice A xs.length c) := blk_cell hbx5 2
  have HS5 := hide (And.intro hs5 hbx5)
  clear hs5 hk5 hbx5 hc14
  go_wp2_with fail
  refine (WNum_st (xs.length : Int) 1 HS5.out.1 (by omega) (by omega) (by decide) (by decide) (by simp [be_len])).mono ?_
  rintro e w6 ⟨rfl, hs6, hk6⟩
  have hbx6 := hk6 _ _ (blk_lt HS5.out.2) HT.out HS5.out.2
  have hc26 : w6.cell? ⟨w.heap.size, 2, none⟩ = some (.slice A xs.length c) := blk_cell hbx6 2
  obtain ⟨pre, hpre⟩ : ∃ pre, [] ++ be id 4 4 ++ be next 8 8 ++ be xs.length 1 1 = pre := ⟨_, rfl⟩
  have hprel : pre.length = 13 := by rw [← hpre]; simp [be_len]
  rw [hpre] at hs6
  have hput : putL id next xs = pre ++ (xs.map ixL).flatten := by rw [← hpre]; simp [putL]
  have HS6 := hide (And.intro hs6 (And.intro hprel hput))
  clear hs6 hk6 hbx6 hc25 hpre hprel hput HS3 HS4 HS5
  go_wp2_with fail
  go_loopw [30] (fun i wr => ∃ k : Nat, k ≤ xs.length ∧ i = .int .i64 k ∧ Aside0 (WSt w2 wr g (pre ++ ((xs.take k).map ixL).flatten))) (fun i _ => xs.length - (intOf i).toNat)
  case atStart => exact ⟨0, Nat.zero_le _, rfl, ⟨by simpa using HS6.out.1⟩⟩
  case round =>
    obtain ⟨k, hk, rfl, HS⟩ := hrel
    by_cases hlt : k < xs.length
    · obtain ⟨ad, rfl, q0, q1, q2⟩ := (HF.out.2.1.keep0 (HF2.out.1.then0 HS.out.fr)) k hlt
      obtain ⟨x, hx⟩ : ∃ x, xs.getD k ix0 = x := ⟨_, rfl⟩
      rw [hx] at q0 q1 q2
      have hpz : x.path.size ≤ 1000000 := by rw [← hx]; exact HF.out.2.2 _ (getD_mem' _ hlt)
      have hll : (pre ++ ((xs.take k).map ixL).flatten).length ≤ 9000000 := by
        have := flat_len (xs := xs.take k) (fun y hy => HF.out.2.2 y (List.mem_of_mem_take hy))
        rw [List.length_take] at this
        rw [List.length_append, HS6.out.2.1]
        have : min k xs.length ≤ 8 := by omega
        omega
      have hsx : pre ++ ((xs.take (k + 1)).map ixL).flatten = (pre ++ ((xs.take k).map ixL).flatten) ++ be (asU64 x.id) 1 1 ++ be (if x.un then 1 else 0) 1 1 ++ (shortL x.path.size ++ bytesOf x.path) := by
        rw [flat_take_succ hlt, hx]
        simp [ixL]
      obtain ⟨L, hL⟩ : ∃ L, pre ++ ((xs.take k).map ixL).flatten = L := ⟨_, rfl⟩
      have hsl : WSt w2 wr g L := by rw [← hL]; exact HS.out
      rw [hL] at hll hsx
      have kb := fun W => print_bytes (P := Tryd.prog) 9 28 5 Tryd.underlying9 Tryd.underlying28 Tryd.underlying5 x.path W
      have HL := hide (And.intro hsl (And.intro hsx hpz))
      clear hsl hsx hx hL hpz HS
      have hua := asU64_range x.id
      have hT2 : ∃ t cs fr, (Obj.cells #[Value.int .i64 x.id, Value.string x.path, Value.bool x.un] 57 (0, 0)) = .cells cs t fr ∧ t ≠ 81 ∧ t ≠ 5 := ⟨57, _, _, rfl, by decide, by decide⟩
      have HT2 := hide hT2
      clear hT2
      have hfa : Fr No wr (wr.alloc (.cells #[.int .i64 x.id, .string x.path, .bool x.un] 57)) := (Fr.refl _ _).alloc _
      have hxa : IxBox (wr.alloc (.cells #[.int .i64 x.id, .string x.path, .bool x.un] 57)) wr.heap.size x := heap_alloc_new wr _
      have HFA := hide (And.intro hfa hxa)
      clear hfa hxa
      go_wp2_with fail
      refine (WNum_st (asU64 x.id) 1 (HL.out.1.keep HFA.out.1) hua.1 hua.2 (by decide) (by decide) (by omega)).mono ?_
      rintro e w7 ⟨rfl, hs7, hk7⟩
      have hx7 : IxBox w7 wr.heap.size x := hk7 _ _ (blk_lt HFA.out.2) HT2.out HFA.out.2
      have hu7 : w7.cell? ⟨wr.heap.size, 2, none⟩ = some (.bool x.un) := blk_cell hx7 2
      have HS7 := hide (And.intro hs7 hx7)
      have hl7 : (L ++ be (asU64 x.id) 1 1).length ≤ 9000001 := by simp [be_len]; omega
      clear hs7 hx7 hk7
      obtain ⟨u, hu⟩ : ∃ u, x.un = u := ⟨_, rfl⟩
      rw [hu] at hu7
      have HU := hide hu
      clear hu
      cases u
      all_goals
        go_wp2_with fail
        refine (WNum_st _ 1 HS7.out.1 (by decide) (by decide) (by decide) (by decide) (by omega)).mono ?_
        rintro e w8 ⟨rfl, hs8, hk8⟩
        have hx8 : IxBox w8 wr.heap.size x := hk8 _ _ (blk_lt HS7.out.2) HT2.out HS7.out.2
        have hp8 : w8.cell? ⟨wr.heap.size, 1, none⟩ = some (.string x.path) := blk_cell hx8 1
        have HS8 := hide hs8
        clear hs8 hx8 hk8 hu7
        go_wp2_with fail
        have hlen := bytesOf_length x.path
        have hrd : Rd (Lib.bytesWorld w8 5 x.path) (some ⟨w8.heap.size, 0, none⟩) (bytesOf x.path) := by
          have := bytes_reads w8 5 x.path (by have := HL.out.2.2; omega)
          unfold Rd
          rw [hlen]
          exact this
        have hwb := WBytes_st HS8.out (bytes_fr w8 x.path) (by simp [be_len]; omega) (some ⟨w8.heap.size, 0, none⟩) (grownCap w8 x.path.size 0 5) (bytesOf x.path) hrd (by rw [hlen]; have := HL.out.2.2; omega) (by rintro ad e; injection e with e; subst e; exact Nat.le_refl _)
        rw [hlen] at hwb
        refine hwb.mono ?_
        rintro e w9 ⟨rfl, hs9, hk9⟩
        have HS9 := hide hs9
        clear hs9 hk9 hwb hrd hlen
        go_wp2_with fail
        go_roundw
        case rel =>
          refine ⟨k + 1, by omega, by go_num, ⟨?_⟩⟩
          have h1 := HS9.out
          have h2 := HL.out.2.1
          rw [HU.out] at h2
          rw [h2]
          simpa using h1
        case measure => simp [intOf]; omega
    · have hkl : k = xs.length := by omega
      subst hkl
      obtain ⟨⟨row, hw, _⟩, hfz⟩ := HS.out
      have hfull : pre ++ ((xs.take xs.length).map ixL).flatten = putL id next xs := by rw [List.take_length, HS6.out.2.2]
      rw [hfull] at hw
      have hll : (putL id next xs).length ≤ 9000000 := by
        have := flat_len (xs := xs) HF.out.2.2
        rw [HS6.out.2.2, List.length_append, HS6.out.2.1]
        omega
      have HZ := hide (And.intro hw hfz)
      clear hw hfz hfull
      go_wp2_with fail
      refine (Out_any g wr row _ HZ.out.1 (by omega)).mono ?_
      rintro e w7 ⟨v, rfl, hm, hf7⟩
      go_wp2_with fail
      go_ret2
      have h0 := HF2.out.1.then0 HZ.out.2
      exact ⟨⟨_, rfl, Mine.lower hm h0.size⟩, h0.then0 hf7⟩
theorem Put_any (id next : Int) (A : Option Addr) (c : Nat) (xs : List Ix) (w : World) (hg : Gl w) (hr : RdI w A xs) (hc : xs.length ≤ c) (hid : 0 ≤ id ∧ id < 4294967296) (hnx : 0 ≤ next ∧ next < 18446744073709551616) (hl : xs.length ≤ 1000000) (hp : ∀ x, x ∈ xs → x.path.size ≤ 1000000) :
    Calls Tryd.prog 7 #[.agg #[.int .u32 id, .int .u64 next, .slice A xs.length c]] w fun r w' => PutPost w id next xs r w' ∧ Fr No w w' := by
  unfold PutPost
  cases hb : rightB id next xs with
  | false => exact (Put_no id next A c xs w hg hr hc hl hp hb).mono fun r w' h => by rw [if_neg (by decide)]; exact h
  | true =>
    have h8 : xs.length ≤ 8 := by
      unfold rightB at hb
      simp at hb
      omega
    exact (Put_ok id next A c xs w hg hr hc hid hnx h8 hp hb).mono fun r w' h => by rw [if_pos rfl]; exact h
end Go.Proofs.YtkgffeclgapkbaaDoor
