/- catalog.Right, with the closure that it hands to slices.ContainsFunc. -/
import Derived.Test.YtkgffeclgapkbaaDoorA12
namespace Go.Proofs.YtkgffeclgapkbaaDoor
open Go.RowKit Go.Proofs.YtkgffeclgapkbaaDoorW.PrintWords
set_option linter.unusedVariables false
set_option linter.unusedSimpArgs false
set_option maxRecDepth 100000
/-- An index. -/
structure Ix where
  id : Int
  path : ByteArray
  un : Bool
def ix0 : Ix := ⟨0, ByteArray.empty, false⟩
/-- A slice of indexes that is read. -/
def RdI (w : World) (A : Option Addr) (xs : List Ix) : Prop := ∀ j, j < xs.length → ∃ ad, A = some ad ∧ w.cell? (ad.add (j * 3)) = some (.int .i64 (xs.getD j ix0).id) ∧
  w.cell? ⟨(ad.add (j * 3)).block, (ad.add (j * 3)).off + 1, none⟩ = some (.string (xs.getD j ix0).path) ∧ w.cell? ⟨(ad.add (j * 3)).block, (ad.add (j * 3)).off + 2, none⟩ = some (.bool (xs.getD j ix0).un)
theorem RdI.keep {S : Nat → Prop} {w w1 : World} {A : Option Addr} {xs : List Ix} (h : RdI w A xs) (hf : Fr S w w1) (hn : ∀ ad, A = some ad → ¬ S ad.block) : RdI w1 A xs := fun j hj => by
  obtain ⟨ad, e, h0, h1, h2⟩ := h j hj
  have hb := hn ad e
  exact ⟨ad, e, hf.cell h0 (by rw [add_block']; exact hb), hf.cell h1 (by show ¬ S (ad.add (j * 3)).block; rw [add_block']; exact hb), hf.cell h2 (by show ¬ S (ad.add (j * 3)).block; rw [add_block']; exact hb)⟩
theorem RdI.keep0 {w w1 : World} {A : Option Addr} {xs : List Ix} (h : RdI w A xs) (hf : Fr No w w1) : RdI w1 A xs := h.keep hf (fun _ _ h => h)
theorem RdI.take {w : World} {A : Option Addr} {xs : List Ix} (h : RdI w A xs) (k : Nat) : RdI w A (xs.take k) := fun j hj => by
  have hj' : j < k ∧ j < xs.length := by simpa [List.length_take, Nat.lt_min] using hj
  have e : (xs.take k).getD j ix0 = xs.getD j ix0 := by
    rw [List.getD_eq_getElem?_getD, List.getD_eq_getElem?_getD, List.getElem?_take, if_pos hj'.1]
  rw [e]
  exact h j hj'.2
/-- A variable that holds an index. -/
def IxBox (w : World) (g : Nat) (x : Ix) : Prop := w.heap[g]? = some (.cells #[.int .i64 x.id, .string x.path, .bool x.un] 57 (0, 0))
theorem IxBox.keep0 {w w1 : World} {g : Nat} {x : Ix} (h : IxBox w g x) (hf : Fr No w w1) : IxBox w1 g x := hf.blk h (fun h => h)
/-- do two have one path? -/
def samePath (x y : Ix) : Bool := y.path.toList == x.path.toList
set_option maxHeartbeats 1000000 in
theorem same_calls (x y : Ix) (g : Nat) (w : World) (hx : IxBox w g x) :
    Calls Tryd.prog 30 #[.agg #[.int .i64 y.id, .string y.path, .bool y.un], .pointer (some ⟨g, 0, none⟩)] w fun r w' => r = .returned (.bool (samePath x y)) ∧ Fr No w w' := by
  have h1 : w.cell? ⟨g, 1, none⟩ = some (.string x.path) := blk_cell hx 1
  have hl := blk_lt hx
  go_enter Tryd.func30, Tryd.ntmps30
  go_wp2_with fail
  go_ret
  exact ⟨rfl, (Fr.refl _ _).alloc _⟩
theorem take_any_succ {α : Type} {xs : List α} {p : α → Bool} {k : Nat} (d : α) (h : k < xs.length) : (xs.take (k + 1)).any p = ((xs.take k).any p || p (xs.getD k d)) := by
  rw [List.take_succ_eq_append_getElem h, List.any_append, List.getD_eq_getElem?_getD, List.getElem?_eq_getElem h]
  simp
set_option maxHeartbeats 1000000 in
theorem IndexFuncI_any (w : World) (A : Option Addr) (c g : Nat) (x : Ix) (ys : List Ix) (hr : RdI w A ys) (hx : IxBox w g x) (hl : ys.length ≤ 1000000) :
    Calls Tryd.prog 48 #[.slice A ys.length c, .func (.func 30) #[] #[.pointer (some ⟨g, 0, none⟩)]] w fun r w' => (∃ i : Int, r = .returned (.int .i64 i) ∧ (decide (0 ≤ i) = ys.any (samePath x))) ∧ Fr No w w' := by
  have HR := hide hr
  have HX := hide hx
  clear hr hx
  go_enter Tryd.func48, Tryd.ntmps48
  go_wp2_with fail
  go_loopw [8] (fun i wr => ∃ k : Nat, k ≤ ys.length ∧ i = .int .i64 k ∧ Aside0 ((ys.take k).any (samePath x) = false) ∧ Aside0 (Fr No w wr)) (fun i _ => ys.length - (intOf i).toNat)
  case atStart => exact ⟨0, Nat.zero_le _, rfl, ⟨rfl⟩, ⟨Fr.refl _ _⟩⟩
  case round =>
    obtain ⟨k, hk, rfl, HA, HF⟩ := hrel
    by_cases hlt : k < ys.length
    · obtain ⟨ad, rfl, h0, h1, h2⟩ := (HR.out.keep0 HF.out) k hlt
      obtain ⟨y, hy⟩ : ∃ y, ys.getD k ix0 = y := ⟨_, rfl⟩
      rw [hy] at h0 h1 h2
      have HY := hide hy
      clear hy
      obtain ⟨b, hb⟩ : ∃ b, samePath x y = b := ⟨_, rfl⟩
      have hcall := same_calls x y g wr (HX.out.keep0 HF.out)
      rw [hb] at hcall
      have HC := hide hcall
      have HB := hide hb
      clear hcall hb
      cases b with
      | false =>
        go_wp2_with (go_at_call 30; refine HC.out.mono ?_; rintro r w2 ⟨rfl, hf2⟩)
        go_roundw
        case rel =>
          refine ⟨k + 1, by omega, by go_num, ⟨?_⟩, ⟨HF.out.then0 hf2⟩⟩
          rw [take_any_succ ix0 hlt, HA.out, HY.out, HB.out]
          rfl
        case measure => simp [intOf]; omega
      | true =>
        go_wp2_with (go_at_call 30; refine HC.out.mono ?_; rintro r w2 ⟨rfl, hf2⟩)
        go_ret
        refine ⟨⟨k, rfl, ?_⟩, HF.out.then0 hf2⟩
        rw [decide_eq_true (by omega)]
        exact (List.any_eq_true.2 ⟨y, by rw [← HY.out]; exact getD_mem' _ hlt, HB.out⟩).symm
    · have hkl : k = ys.length := by omega
      subst hkl
      go_wp2_with fail
      go_ret
      refine ⟨⟨-1, rfl, ?_⟩, HF.out⟩
      have := HA.out
      rw [List.take_length] at this
      rw [this]
      rfl
set_option maxHeartbeats 1000000 in
theorem ContainsFuncI_any (w : World) (A : Option Addr) (c g : Nat) (x : Ix) (ys : List Ix) (hr : RdI w A ys) (hx : IxBox w g x) (hl : ys.length ≤ 1000000) :
    Calls Tryd.prog 29 #[.slice A ys.length c, .func (.func 30) #[] #[.pointer (some ⟨g, 0, none⟩)]] w fun r w' => r = .returned (.bool (ys.any (samePath x))) ∧ Fr No w w' := by
  have hc := IndexFuncI_any w A c g x ys hr hx hl
  obtain ⟨b, hb⟩ : ∃ b, ys.any (samePath x) = b := ⟨_, rfl⟩
  rw [hb] at hc ⊢
  have HC := hide hc
  clear hc hb hr hx
  go_enter Tryd.func29, Tryd.ntmps29
  go_wp2_with fail
  refine HC.out.mono ?_
  rintro r w1 ⟨⟨i, rfl, hi⟩, hf⟩
  have HI := hide hi
  clear hi
  go_wp2_with fail
  go_ret
  exact ⟨by rw [← HI.out]; rfl, hf⟩
/-- may the index at k be? -/
def okAt (xs : List Ix) (k : Nat) : Bool :=
  decide ((if k = 0 then 0 else (xs.getD (k - 1) ix0).id) < (xs.getD k ix0).id) && decide ((xs.getD k ix0).id ≤ 255) && pathOk (xs.getD k ix0).path && !((xs.take k).any (samePath (xs.getD k ix0)))
def rightB (id next : Int) (xs : List Ix) : Bool := decide (1 ≤ id) && decide (1 ≤ next) && decide (xs.length ≤ 8) && (List.range xs.length).all (okAt xs)
theorem cut32 (A : Option Addr) (n c k : Nat) (hk : k ≤ n) (hn : n ≤ c) (W : World) : (Instr.slice 32 (.slice A n c) none (some (.int .i64 (k : Int))) none).run Tryd.prog W = .ok (.slice A k c) W := by
  obtain ⟨i0, hi0, hz⟩ : ∃ i0, Tryd.prog.info? 57 = some i0 ∧ i0.size = 3 := by
    have h : (Tryd.prog.info? 57).map (·.size) = some 3 := by kernel_rfl
    obtain ⟨i0, h1, h2⟩ := Option.map_eq_some_iff.1 h
    exact ⟨i0, h1, h2⟩
  have hel : Tryd.prog.elem 32 = 57 := by simp [Program.elem, Tryd.underlying32]
  have hu : Tryd.prog.underlying 32 = some (.slice (Tryd.prog.elem 32)) := by rw [hel]; exact Tryd.underlying32
  have ha : (A.map fun x => x.add 0) = A := by cases A <;> simp [Addr.add]
  rw [run_slice_h W 32 A n c hu .i64 k (by omega) (by omega), hel]
  simp [sizeOf, typeInfo, hi0, hz, sliced, Result.andThen, ha]
set_option maxHeartbeats 2000000 in
theorem Right_any (id next : Int) (A : Option Addr) (c : Nat) (xs : List Ix) (w : World) (hg : Gl w) (hr : RdI w A xs) (hc : xs.length ≤ c) (hl : xs.length ≤ 1000000) (hp : ∀ x, x ∈ xs → x.path.size ≤ 1000000) :
    Calls Tryd.prog 9 #[.agg #[.int .u32 id, .int .u64 next, .slice A xs.length c]] w fun r w' => r = .returned (.bool (rightB id next xs)) ∧ Fr No w w' := by
  have HG := hide (And.intro hg (And.intro hr hp))
  clear hg hr hp
  by_cases h1 : id < 1
  · have d1 : decide (id < 1) = true := decide_eq_true h1
    have hb := hide (show rightB id next xs = false by unfold rightB; rw [decide_eq_false (by omega)]; rfl)
    go_enter Tryd.func9, Tryd.ntmps9
    go_wp2_with fail
    go_ret
    exact ⟨by rw [hb.out]; rfl, (Fr.refl _ _).alloc _⟩
  · have d1 : decide (id < 1) = false := decide_eq_false h1
    by_cases h2 : next < 1
    · have d2 : decide (next < 1) = true := decide_eq_true h2
      have hb := hide (show rightB id next xs = false by unfold rightB; rw [decide_eq_false (by omega : ¬ 1 ≤ next), Bool.and_false]; rfl)
      go_enter Tryd.func9, Tryd.ntmps9
      go_wp2_with fail
      go_ret
      exact ⟨by rw [hb.out]; rfl, (Fr.refl _ _).alloc _⟩
    · have d2 : decide (next < 1) = false := decide_eq_false h2
      by_cases h3 : 8 < xs.length
      · have d3 : decide ((8 : Int) < (xs.length : Int)) = true := decide_eq_true (by omega)
        have hb := hide (show rightB id next xs = false by unfold rightB; rw [decide_eq_false (by omega : ¬ xs.length ≤ 8), Bool.and_false]; rfl)
        go_enter Tryd.func9, Tryd.ntmps9
        go_wp2_with fail
        go_ret
        exact ⟨by rw [hb.out]; rfl, (Fr.refl _ _).alloc _⟩
      · have d3 : decide ((8 : Int) < (xs.length : Int)) = false := decide_eq_false (by omega)
        have hb := hide (show rightB id next xs = (List.range xs.length).all (okAt xs) by unfold rightB; rw [decide_eq_true (by omega : 1 ≤ id), decide_eq_true (by omega : 1 ≤ next), decide_eq_true (by omega : xs.length ≤ 8)]; rfl)
        go_enter Tryd.func9, Tryd.ntmps9
        go_wp2_with fail
        have hf1 : Fr No w (w.alloc (.cells #[.int .u32 id, .int .u64 next, .slice A xs.length c] 34)) := (Fr.refl _ _).alloc _
        have hbx := heap_alloc_new w (.cells #[.int .u32 id, .int .u64 next, .slice A xs.length c] 34)
        obtain ⟨w1, hw1⟩ : ∃ w1, w1 = w.alloc (.cells #[.int .u32 id, .int .u64 next, .slice A xs.length c] 34) := ⟨_, rfl⟩
        rw [← hw1] at hf1 hbx ⊢
        have HW := hide (And.intro hf1 hbx)
        clear hf1 hbx hw1
        go_loopw [3, 26] (fun l i wr => ∃ k : Nat, k ≤ xs.length ∧ i = .int .i64 k ∧ l = .int .i64 (if k = 0 then 0 else (xs.getD (k - 1) ix0).id) ∧ Aside0 ((List.range k).all (okAt xs) = true) ∧ Aside0 (Fr No w1 wr)) (fun _ i _ => xs.length - (intOf i).toNat)
        case atStart => exact ⟨0, Nat.zero_le _, rfl, rfl, ⟨rfl⟩, ⟨Fr.refl _ _⟩⟩
        case round =>
          obtain ⟨k, hk, rfl, rfl, HA, HF⟩ := hrel
          have hbx : wr.heap[w.heap.size]? = some (.cells #[.int .u32 id, .int .u64 next, .slice A xs.length c] 34 (0, 0)) := HF.out.blk HW.out.2 (fun h => h)
          have hbc : wr.cell? ⟨w.heap.size, 2, none⟩ = some (.slice A xs.length c) := blk_cell hbx 2
          have HBX := hide hbx
          clear hbx
          by_cases hlt : k < xs.length
          · obtain ⟨ad, rfl, q0, q1, q2⟩ := (HG.out.2.1.keep0 (HW.out.1.then0 HF.out)) k hlt
            obtain ⟨last, hlast⟩ : ∃ last, (if k = 0 then 0 else (xs.getD (k - 1) ix0).id) = last := ⟨_, rfl⟩
            obtain ⟨x, hx⟩ : ∃ x, xs.getD k ix0 = x := ⟨_, rfl⟩
            have hok : okAt xs k = (decide (last < x.id) && decide (x.id ≤ 255) && pathOk x.path && !((xs.take k).any (samePath x))) := by unfold okAt; rw [hlast, hx]
            have hpz : x.path.size ≤ 1000000 := by rw [← hx]; exact HG.out.2.2 _ (getD_mem' _ hlt)
            have ecut := cut32 (some ad) xs.length c k (by omega) hc
            rw [hlast]
            rw [hx] at q0 q1 q2
            have HX := hide (And.intro hok (And.intro hx hlast))
            have HP := hide hpz
            clear hok hx hlast hpz
            have hb2 : wr.heap.size < (wr.alloc (.cells #[.int .i64 x.id, .string x.path, .bool x.un] 57)).heap.size := by simp
            go_wp2_with fail
            have hfa : Fr No wr (wr.alloc (.cells #[.int .i64 x.id, .string x.path, .bool x.un] 57)) := (Fr.refl _ _).alloc _
            have hxb : IxBox (wr.alloc (.cells #[.int .i64 x.id, .string x.path, .bool x.un] 57)) wr.heap.size x := heap_alloc_new wr _
            refine (Parse_any x.path _ (HG.out.1.keep0 ((HW.out.1.then0 HF.out).then0 hfa)) HP.out).mono ?_
            rintro e w2 ⟨hpp, hf2⟩
            obtain ⟨v, cd, rfl, hcd⟩ : ∃ v cd, e = .returned (.tuple #[v, .int .i64 cd]) ∧ (cd != 0) = !pathOk x.path := by
              unfold ParsePost at hpp
              cases hpo : pathOk x.path with
              | true =>
                rw [if_pos hpo] at hpp
                obtain ⟨Ap, he, _⟩ := hpp
                exact ⟨_, _, he, rfl⟩
              | false =>
                rw [if_neg (by rw [hpo]; decide)] at hpp
                exact ⟨_, _, hpp, rfl⟩
            clear hpp
            have hfs := HF.out.then0 (hfa.then0 hf2)
            have hxb2 := hxb.keep0 hf2
            have hbx2 : w2.heap[w.heap.size]? = some (.cells #[.int .u32 id, .int .u64 next, .slice (some ad) xs.length c] 34 (0, 0)) := (hfa.then0 hf2).blk HBX.out (fun h => h)
            have hbc2 : w2.cell? ⟨w.heap.size, 2, none⟩ = some (.slice (some ad) xs.length c) := blk_cell hbx2 2
            have hxc0 : w2.cell? ⟨wr.heap.size, 0, none⟩ = some (.int .i64 x.id) := blk_cell hxb2 0
            have htl : (xs.take k).length = k := by rw [List.length_take]; omega
            have hcf := ContainsFuncI_any w2 (some ad) c wr.heap.size x (xs.take k) (((HG.out.2.1.keep0 (HW.out.1.then0 hfs))).take k) hxb2 (by omega)
            rw [htl] at hcf
            obtain ⟨tw, htw⟩ : ∃ tw, (xs.take k).any (samePath x) = tw := ⟨_, rfl⟩
            rw [htw] at hcf
            obtain ⟨po, hpo⟩ : ∃ po, pathOk x.path = po := ⟨_, rfl⟩
            rw [hpo] at hcd
            have HK := hide (And.intro hfs (And.intro hxb2 (And.intro htw hpo)))
            have HCF := hide hcf
            clear hfs hxb2 hbx2 htl hcf htw hpo hfa hxb hf2
            go_wp2_with fail
            refine HCF.out.mono ?_
            rintro e w3 ⟨rfl, hf3⟩
            have hxb3 : IxBox w3 wr.heap.size x := HK.out.2.1.keep0 hf3
            have hxc3 : w3.cell? ⟨wr.heap.size, 0, none⟩ = some (.int .i64 x.id) := blk_cell hxb3 0
            have hfe := hide (HK.out.1.then0 hf3)
            clear hxb3 hxc0 hbc2
            have hfin : okAt xs k = (decide (last < x.id) && decide (x.id ≤ 255) && po && !tw) := by rw [HX.out.1, HK.out.2.2.1, HK.out.2.2.2]
            have hbad : (decide (last < x.id) && decide (x.id ≤ 255) && po && !tw) = false → (List.range xs.length).all (okAt xs) = false := by
              intro hk2
              cases ha : (List.range xs.length).all (okAt xs) with
              | false => rfl
              | true =>
                have := List.all_eq_true.1 ha k (List.mem_range.2 hlt)
                rw [hfin, hk2] at this
                cases this
            have HFIN := hide (And.intro hfin hbad)
            clear hfin hbad
            by_cases k1 : x.id ≤ last
            · have t1 : decide (x.id ≤ last) = true := decide_eq_true k1
              go_wp2_with fail
              go_ret
              exact ⟨by rw [hb.out, HFIN.out.2 (by rw [decide_eq_false (by omega)]; rfl)]; rfl, HW.out.1.then0 hfe.out⟩
            · have t1 : decide (x.id ≤ last) = false := decide_eq_false k1
              by_cases k2 : 255 < x.id
              · have t2 : decide (255 < x.id) = true := decide_eq_true k2
                go_wp2_with fail
                go_ret
                exact ⟨by rw [hb.out, HFIN.out.2 (by rw [decide_eq_false (by omega : ¬ x.id ≤ 255), Bool.and_false]; rfl)]; rfl, HW.out.1.then0 hfe.out⟩
              · have t2 : decide (255 < x.id) = false := decide_eq_false k2
                cases po with
                | false =>
                  go_wp2_with fail
                  go_ret
                  exact ⟨by rw [hb.out, HFIN.out.2 (by rw [Bool.and_false]; rfl)]; rfl, HW.out.1.then0 hfe.out⟩
                | true =>
                  cases tw with
                  | true =>
                    go_wp2_with fail
                    go_ret
                    exact ⟨by rw [hb.out, HFIN.out.2 (by rw [Bool.not_true, Bool.and_false])]; rfl, HW.out.1.then0 hfe.out⟩
                  | false =>
                    go_wp2_with fail
                    go_roundw
                    case rel =>
                      refine ⟨k + 1, by omega, by go_num, ?_, ⟨?_⟩, hfe⟩
                      · rw [if_neg (by omega), Nat.add_sub_cancel, HX.out.2.1]
                      · rw [List.range_succ, List.all_append, HA.out, Bool.true_and]
                        simp only [List.all_cons, List.all_nil, Bool.and_true]
                        rw [HFIN.out.1, decide_eq_true (by omega : last < x.id), decide_eq_true (by omega : x.id ≤ 255)]
                        rfl
                    case measure => simp [intOf]; omega
          · have hkl : k = xs.length := by omega
            subst hkl
            go_wp2_with fail
            all_goals (go_ret; exact ⟨by rw [hb.out, HA.out]; rfl, HW.out.1.then0 HF.out⟩)
end Go.Proofs.YtkgffeclgapkbaaDoor
