-- PRINTED BY print.sh 35421559b90ae4d0a3588c463048766b98c2df88dd9212a6774a882060cdf62d: not written by this session
import Derived.Test.YtkgffeclgapkbaaDoorPCatalogPutsx0
namespace Go.Proofs.YtkgffeclgapkbaaDoor.PCatalogPuts
open Go.RowKit Go.Proofs.YtkgffeclgapkbaaDoorW.PrintWords Go.Proofs.YtkgffeclgapkbaaDoorW.PrintLast Go.Proofs.YtkgffeclgapkbaaDoorW.PrintMore
attribute [local go_sem] max2_int min2_int max_two min_two max_three min_three max_four min_four   -- for this text's walks alone
set_option linter.unusedVariables false
set_option linter.unusedSimpArgs false

/-! ### rubricatorlaw21_same: function 14 -/
mutual
def rubricatorlaw21_same.j0 : Nat → Bool → Int → Int → List (S57) → Int → Int → List (S31) → Option (Bool)
  | 0, _, _, _, _, _, _, _ => none
  | k + 1, x26, x184000, x184001, x184002, x185000, x185001, x185002 => if x26 = true then (some false) else (rubricatorlaw21_same.l0 k 0 x184000 x184001 x184002 x185000 x185001 x185002)
def rubricatorlaw21_same.l0 : Nat → Int → Int → Int → List (S57) → Int → Int → List (S31) → Option (Bool)
  | 0, _, _, _, _, _, _, _ => none
  | k + 1, x5, x184000, x184001, x184002, x185000, x185001, x185002 => if x5 < (x184002.length : Int) then (if 0 ≤ x5 then (if x5 < (x185002.length : Int) then (if ((rd_T57 x184002 x5).f0) = ((rd_T31 x185002 x5).f0) then (if ((rd_T57 x184002 x5).f1).toList = ((rd_T31 x185002 x5).f1).toList then (if (((rd_T57 x184002 x5).f2) != ((rd_T31 x185002 x5).f2)) = true then (some false) else (rubricatorlaw21_same.l0 k (wrap64 (x5 + 1)) x184000 x184001 x184002 x185000 x185001 x185002)) else (some false)) else (some false)) else (none)) else (none)) else (some true)
end
def rubricatorlaw21_same.f (k : Nat) (a0_0 : Int) (a0_1 : Int) (l0_2 : List (S57)) (a1_0 : Int) (a1_1 : Int) (l1_2 : List (S31)) : Option (Bool) := if a0_0 = a1_0 then (if a0_1 = a1_1 then (rubricatorlaw21_same.j0 k ((l0_2.length : Int) != (l1_2.length : Int)) a0_0 a0_1 l0_2 a1_0 a1_1 l1_2) else (rubricatorlaw21_same.j0 k true a0_0 a0_1 l0_2 a1_0 a1_1 l1_2)) else (rubricatorlaw21_same.j0 k true a0_0 a0_1 l0_2 a1_0 a1_1 l1_2)
theorem rubricatorlaw21_same.mono_l : ∀ k, (∀ y0 y1 y2 y3 y4 y5 y6, LeO (rubricatorlaw21_same.j0 k y0 y1 y2 y3 y4 y5 y6) (rubricatorlaw21_same.j0 (k + 1) y0 y1 y2 y3 y4 y5 y6)) ∧ (∀ y0 y1 y2 y3 y4 y5 y6, LeO (rubricatorlaw21_same.l0 k y0 y1 y2 y3 y4 y5 y6) (rubricatorlaw21_same.l0 (k + 1) y0 y1 y2 y3 y4 y5 y6))
  | 0 => ⟨fun _ _ _ _ _ _ _ r h => by simp [rubricatorlaw21_same.j0] at h, fun _ _ _ _ _ _ _ r h => by simp [rubricatorlaw21_same.l0] at h⟩
  | k + 1 => by
    obtain ⟨ih0, ih1⟩ := rubricatorlaw21_same.mono_l k
    refine ⟨?_, ?_⟩
    · intro y0 y1 y2 y3 y4 y5 y6
      unfold rubricatorlaw21_same.j0
      repeat' first
      | (with_reducible exact ih0 _ _ _ _ _ _ _)
      | (with_reducible exact ih1 _ _ _ _ _ _ _)
      | (with_reducible exact LeO.refl _)
      | (with_reducible exact LeO.none _)
      | (with_reducible refine LeO.ite ?_ ?_)
      | (with_reducible refine LeO.bind ?_ (fun _ => ?_))
      | exact ih0 _ _ _ _ _ _ _
      | exact ih1 _ _ _ _ _ _ _
      | exact LeO.none _
      | refine LeO.ite ?_ ?_
      | refine LeO.bind ?_ (fun _ => ?_)
    · intro y0 y1 y2 y3 y4 y5 y6
      unfold rubricatorlaw21_same.l0
      repeat' first
      | (with_reducible exact ih0 _ _ _ _ _ _ _)
      | (with_reducible exact ih1 _ _ _ _ _ _ _)
      | (with_reducible exact LeO.refl _)
      | (with_reducible exact LeO.none _)
      | (with_reducible refine LeO.ite ?_ ?_)
      | (with_reducible refine LeO.bind ?_ (fun _ => ?_))
      | exact ih0 _ _ _ _ _ _ _
      | exact ih1 _ _ _ _ _ _ _
      | exact LeO.none _
      | refine LeO.ite ?_ ?_
      | refine LeO.bind ?_ (fun _ => ?_)
theorem rubricatorlaw21_same.mono : ∀ a0 a1 a2 a3 a4 a5 k, LeO (rubricatorlaw21_same.f k a0 a1 a2 a3 a4 a5) (rubricatorlaw21_same.f (k + 1) a0 a1 a2 a3 a4 a5) := by
  intro a0 a1 a2 a3 a4 a5 k
  obtain ⟨ih0, ih1⟩ := rubricatorlaw21_same.mono_l k
  unfold rubricatorlaw21_same.f
  repeat' first
      | (with_reducible exact ih0 _ _ _ _ _ _ _)
      | (with_reducible exact ih1 _ _ _ _ _ _ _)
      | (with_reducible exact LeO.refl _)
      | (with_reducible exact LeO.none _)
      | (with_reducible refine LeO.ite ?_ ?_)
      | (with_reducible refine LeO.bind ?_ (fun _ => ?_))
      | exact ih0 _ _ _ _ _ _ _
      | exact ih1 _ _ _ _ _ _ _
      | exact LeO.none _
      | refine LeO.ite ?_ ?_
      | refine LeO.bind ?_ (fun _ => ?_)
set_option maxHeartbeats 8000000 in
set_option maxRecDepth 100000 in
theorem rubricatorlaw21_same.calls (k : Nat) (a0_0 : Int) (a0_1 : Int) (A0_2 : Option Addr) (c0_2 : Nat) (l0_2 : List (S57)) (a1_0 : Int) (a1_1 : Int) (A1_2 : Option Addr) (c1_2 : Nat) (l1_2 : List (S31)) (r : Bool) (w : World) (hr0_2 : Kd.C k57 w A0_2 l0_2.length l0_2) (hc0_2 : l0_2.length ≤ c0_2) (hr1_2 : Kd.C k31 w A1_2 l1_2.length l1_2) (hc1_2 : l1_2.length ≤ c1_2) (h : rubricatorlaw21_same.f k a0_0 a0_1 l0_2 a1_0 a1_1 l1_2 = some r) :
    Calls Tryd.prog 14 #[.agg #[.int .u32 a0_0, .int .u64 a0_1, .slice A0_2 l0_2.length c0_2], .agg #[.int .u32 a1_0, .int .u64 a1_1, .slice A1_2 l1_2.length c1_2]] w fun e w' => e = .returned (.bool r) ∧ Below w.heap.size w w' := by
  have hu34 := Tryd.underlying34
  have hu26 := Tryd.underlying26
  have HR0_2 := Aside0.mk hr0_2
  have HC0_2 := Aside0.mk hc0_2
  clear hr0_2 hc0_2
  have HR1_2 := Aside0.mk hr1_2
  have HC1_2 := Aside0.mk hc1_2
  clear hr1_2 hc1_2
  have HB := Aside0.mk (Below.refl w.heap.size w)
  have H : (if a0_0 = a1_0 then (if a0_1 = a1_1 then (rubricatorlaw21_same.j0 k ((l0_2.length : Int) != (l1_2.length : Int)) a0_0 a0_1 l0_2 a1_0 a1_1 l1_2) else (rubricatorlaw21_same.j0 k true a0_0 a0_1 l0_2 a1_0 a1_1 l1_2)) else (rubricatorlaw21_same.j0 k true a0_0 a0_1 l0_2 a1_0 a1_1 l1_2)) = some r := h
  clear h
  have HC3 := Aside0.mk H
  clear H
  go_enter Tryd.func14, Tryd.ntmps14
  go_upto_region 1 with (first | ((with_reducible refine gate_dst (N := 2) rfl ?_); (try (refine gate_guard (by rfl) ?_; dsimp only)); refine box_event ?hg (N := 2) ?hd (cs := #[.int .u32 a0_0, .int .u64 a0_1, .slice A0_2 l0_2.length c0_2]) (t := 34) ?hr ?_; (case hd => rfl); (case hg => rfl); (case hr => first | (go_simp; done) | (go_simp; rfl)); intro gb183 hg w4 hbox hb; have n0_ := Aside0.mk (below_step (by repeat (first | (with_reducible first | exact HB.out | apply below_alloc | apply pw_below_drewN | apply below_drew1) | exact HB.out)) hb); have n1_ := Aside0.mk (hbox); have n2_ := Aside0.mk ((by rw [hg]; exact (below_size (by repeat (first | (with_reducible first | exact HB.out | apply below_alloc | apply pw_below_drewN | apply below_drew1) | exact HB.out))) : w.heap.size ≤ gb183)); have n3_ := Aside0.mk ((by rw [hg]; exact (below_size (by repeat (first | (with_reducible first | exact HB.out | apply below_alloc | apply pw_below_drewN | apply below_drew1) | exact HB.out))) : w.heap.size ≤ gb183)); clear HB; have HB := n0_; have BK183 := n1_; have GW183 := n2_; have GE183 := n3_; clear n0_ n1_ n2_ n3_; clear hb hbox hg) | ((with_reducible refine gate_dst (N := 3) rfl ?_); (try (refine gate_guard (by rfl) ?_; dsimp only)); refine box_event ?hg (N := 3) ?hd (cs := #[.int .u32 a1_0, .int .u64 a1_1, .slice A1_2 l1_2.length c1_2]) (t := 26) ?hr ?_; (case hd => rfl); (case hg => rfl); (case hr => first | (go_simp; done) | (go_simp; rfl)); intro gb184 hg w5 hbox hb; have n0_ := Aside0.mk (blk_below (g := gb183) (o := .cells #[.int .u32 a0_0, .int .u64 a0_1, .slice A0_2 l0_2.length c0_2] 34 (0, 0)) (by (with_reducible repeat (first | refine blk_drewN ?_ _ | refine blk_drew ?_ | refine blk_alloc ?_ _)); exact BK183.out) hb); have n1_ := Aside0.mk (below_step (by repeat (first | (with_reducible first | exact HB.out | apply below_alloc | apply pw_below_drewN | apply below_drew1 | refine below_set ?_ GE183.out) | exact HB.out)) hb); have n2_ := Aside0.mk (hbox); have n3_ := Aside0.mk ((by rw [hg]; exact (below_size (by repeat (first | (with_reducible first | exact HB.out | apply below_alloc | apply pw_below_drewN | apply below_drew1 | refine below_set ?_ GE183.out) | exact HB.out))) : w.heap.size ≤ gb184)); have n4_ := Aside0.mk ((by rw [hg]; exact (below_size (by repeat (first | (with_reducible first | exact HB.out | apply below_alloc | apply pw_below_drewN | apply below_drew1 | refine below_set ?_ GE183.out) | exact HB.out))) : w.heap.size ≤ gb184)); have n5_ := Aside0.mk ((by rw [hg]; exact Nat.ne_of_lt (blk_lt (g := gb183) (o := .cells #[.int .u32 a0_0, .int .u64 a0_1, .slice A0_2 l0_2.length c0_2] 34 (0, 0)) (by (with_reducible repeat (first | refine blk_drewN ?_ _ | refine blk_drew ?_ | refine blk_alloc ?_ _)); exact BK183.out)) : gb183 ≠ gb184)); have n6_ := Aside0.mk ((by rw [hg]; exact Nat.ne_of_gt (blk_lt (g := gb183) (o := .cells #[.int .u32 a0_0, .int .u64 a0_1, .slice A0_2 l0_2.length c0_2] 34 (0, 0)) (by (with_reducible repeat (first | refine blk_drewN ?_ _ | refine blk_drew ?_ | refine blk_alloc ?_ _)); exact BK183.out)) : gb184 ≠ gb183)); clear BK183; clear HB; have BK183 := n0_; have HB := n1_; have BK184 := n2_; have GW184 := n3_; have GE184 := n4_; have NB183_184 := n5_; have NB184_183 := n6_; clear n0_ n1_ n2_ n3_ n4_ n5_ n6_; clear hb hbox hg))
  repeat (go_quiet (first | ((with_reducible refine gate_dst (N := 2) rfl ?_); (try (refine gate_guard (by rfl) ?_; dsimp only)); refine box_event ?hg (N := 2) ?hd (cs := #[.int .u32 a0_0, .int .u64 a0_1, .slice A0_2 l0_2.length c0_2]) (t := 34) ?hr ?_; (case hd => rfl); (case hg => rfl); (case hr => first | (go_simp; done) | (go_simp; rfl)); intro gb183 hg w4 hbox hb; have n0_ := Aside0.mk (below_step (by repeat (first | (with_reducible first | exact HB.out | apply below_alloc | apply pw_below_drewN | apply below_drew1) | exact HB.out)) hb); have n1_ := Aside0.mk (hbox); have n2_ := Aside0.mk ((by rw [hg]; exact (below_size (by repeat (first | (with_reducible first | exact HB.out | apply below_alloc | apply pw_below_drewN | apply below_drew1) | exact HB.out))) : w.heap.size ≤ gb183)); have n3_ := Aside0.mk ((by rw [hg]; exact (below_size (by repeat (first | (with_reducible first | exact HB.out | apply below_alloc | apply pw_below_drewN | apply below_drew1) | exact HB.out))) : w.heap.size ≤ gb183)); clear HB; have HB := n0_; have BK183 := n1_; have GW183 := n2_; have GE183 := n3_; clear n0_ n1_ n2_ n3_; clear hb hbox hg) | ((with_reducible refine gate_dst (N := 3) rfl ?_); (try (refine gate_guard (by rfl) ?_; dsimp only)); refine box_event ?hg (N := 3) ?hd (cs := #[.int .u32 a1_0, .int .u64 a1_1, .slice A1_2 l1_2.length c1_2]) (t := 26) ?hr ?_; (case hd => rfl); (case hg => rfl); (case hr => first | (go_simp; done) | (go_simp; rfl)); intro gb184 hg w5 hbox hb; have n0_ := Aside0.mk (blk_below (g := gb183) (o := .cells #[.int .u32 a0_0, .int .u64 a0_1, .slice A0_2 l0_2.length c0_2] 34 (0, 0)) (by (with_reducible repeat (first | refine blk_drewN ?_ _ | refine blk_drew ?_ | refine blk_alloc ?_ _)); exact BK183.out) hb); have n1_ := Aside0.mk (below_step (by repeat (first | (with_reducible first | exact HB.out | apply below_alloc | apply pw_below_drewN | apply below_drew1 | refine below_set ?_ GE183.out) | exact HB.out)) hb); have n2_ := Aside0.mk (hbox); have n3_ := Aside0.mk ((by rw [hg]; exact (below_size (by repeat (first | (with_reducible first | exact HB.out | apply below_alloc | apply pw_below_drewN | apply below_drew1 | refine below_set ?_ GE183.out) | exact HB.out))) : w.heap.size ≤ gb184)); have n4_ := Aside0.mk ((by rw [hg]; exact (below_size (by repeat (first | (with_reducible first | exact HB.out | apply below_alloc | apply pw_below_drewN | apply below_drew1 | refine below_set ?_ GE183.out) | exact HB.out))) : w.heap.size ≤ gb184)); have n5_ := Aside0.mk ((by rw [hg]; exact Nat.ne_of_lt (blk_lt (g := gb183) (o := .cells #[.int .u32 a0_0, .int .u64 a0_1, .slice A0_2 l0_2.length c0_2] 34 (0, 0)) (by (with_reducible repeat (first | refine blk_drewN ?_ _ | refine blk_drew ?_ | refine blk_alloc ?_ _)); exact BK183.out)) : gb183 ≠ gb184)); have n6_ := Aside0.mk ((by rw [hg]; exact Nat.ne_of_gt (blk_lt (g := gb183) (o := .cells #[.int .u32 a0_0, .int .u64 a0_1, .slice A0_2 l0_2.length c0_2] 34 (0, 0)) (by (with_reducible repeat (first | refine blk_drewN ?_ _ | refine blk_drew ?_ | refine blk_alloc ?_ _)); exact BK183.out)) : gb184 ≠ gb183)); clear BK183; clear HB; have BK183 := n0_; have HB := n1_; have BK184 := n2_; have GW184 := n3_; have GE184 := n4_; have NB183_184 := n5_; have NB184_183 := n6_; clear n0_ n1_ n2_ n3_ n4_ n5_ n6_; clear hb hbox hg)); go_upto_region 1 with (first | ((with_reducible refine gate_dst (N := 2) rfl ?_); (try (refine gate_guard (by rfl) ?_; dsimp only)); refine box_event ?hg (N := 2) ?hd (cs := #[.int .u32 a0_0, .int .u64 a0_1, .slice A0_2 l0_2.length c0_2]) (t := 34) ?hr ?_; (case hd => rfl); (case hg => rfl); (case hr => first | (go_simp; done) | (go_simp; rfl)); intro gb183 hg w4 hbox hb; have n0_ := Aside0.mk (below_step (by repeat (first | (with_reducible first | exact HB.out | apply below_alloc | apply pw_below_drewN | apply below_drew1) | exact HB.out)) hb); have n1_ := Aside0.mk (hbox); have n2_ := Aside0.mk ((by rw [hg]; exact (below_size (by repeat (first | (with_reducible first | exact HB.out | apply below_alloc | apply pw_below_drewN | apply below_drew1) | exact HB.out))) : w.heap.size ≤ gb183)); have n3_ := Aside0.mk ((by rw [hg]; exact (below_size (by repeat (first | (with_reducible first | exact HB.out | apply below_alloc | apply pw_below_drewN | apply below_drew1) | exact HB.out))) : w.heap.size ≤ gb183)); clear HB; have HB := n0_; have BK183 := n1_; have GW183 := n2_; have GE183 := n3_; clear n0_ n1_ n2_ n3_; clear hb hbox hg) | ((with_reducible refine gate_dst (N := 3) rfl ?_); (try (refine gate_guard (by rfl) ?_; dsimp only)); refine box_event ?hg (N := 3) ?hd (cs := #[.int .u32 a1_0, .int .u64 a1_1, .slice A1_2 l1_2.length c1_2]) (t := 26) ?hr ?_; (case hd => rfl); (case hg => rfl); (case hr => first | (go_simp; done) | (go_simp; rfl)); intro gb184 hg w5 hbox hb; have n0_ := Aside0.mk (blk_below (g := gb183) (o := .cells #[.int .u32 a0_0, .int .u64 a0_1, .slice A0_2 l0_2.length c0_2] 34 (0, 0)) (by (with_reducible repeat (first | refine blk_drewN ?_ _ | refine blk_drew ?_ | refine blk_alloc ?_ _)); exact BK183.out) hb); have n1_ := Aside0.mk (below_step (by repeat (first | (with_reducible first | exact HB.out | apply below_alloc | apply pw_below_drewN | apply below_drew1 | refine below_set ?_ GE183.out) | exact HB.out)) hb); have n2_ := Aside0.mk (hbox); have n3_ := Aside0.mk ((by rw [hg]; exact (below_size (by repeat (first | (with_reducible first | exact HB.out | apply below_alloc | apply pw_below_drewN | apply below_drew1 | refine below_set ?_ GE183.out) | exact HB.out))) : w.heap.size ≤ gb184)); have n4_ := Aside0.mk ((by rw [hg]; exact (below_size (by repeat (first | (with_reducible first | exact HB.out | apply below_alloc | apply pw_below_drewN | apply below_drew1 | refine below_set ?_ GE183.out) | exact HB.out))) : w.heap.size ≤ gb184)); have n5_ := Aside0.mk ((by rw [hg]; exact Nat.ne_of_lt (blk_lt (g := gb183) (o := .cells #[.int .u32 a0_0, .int .u64 a0_1, .slice A0_2 l0_2.length c0_2] 34 (0, 0)) (by (with_reducible repeat (first | refine blk_drewN ?_ _ | refine blk_drew ?_ | refine blk_alloc ?_ _)); exact BK183.out)) : gb183 ≠ gb184)); have n6_ := Aside0.mk ((by rw [hg]; exact Nat.ne_of_gt (blk_lt (g := gb183) (o := .cells #[.int .u32 a0_0, .int .u64 a0_1, .slice A0_2 l0_2.length c0_2] 34 (0, 0)) (by (with_reducible repeat (first | refine blk_drewN ?_ _ | refine blk_drew ?_ | refine blk_alloc ?_ _)); exact BK183.out)) : gb184 ≠ gb183)); clear BK183; clear HB; have BK183 := n0_; have HB := n1_; have BK184 := n2_; have GW184 := n3_; have GE184 := n4_; have NB183_184 := n5_; have NB184_183 := n6_; clear n0_ n1_ n2_ n3_ n4_ n5_ n6_; clear hb hbox hg)))
  (try simp only [Act.put, List.setIfInBounds_toArray, List.set_cons_zero, List.set_cons_succ])
  go_cut [26] (fun v26 wc => ∃ (kq : Nat) (x26_2 : Bool), v26 = .bool x26_2 ∧ Aside0 (rubricatorlaw21_same.j0 kq x26_2 a0_0 a0_1 l0_2 a1_0 a1_1 l1_2 = some r) ∧ Aside0 (kq ≤ k) ∧ Aside0 (wc.heap[gb183]? = some (.cells #[.int .u32 a0_0, .int .u64 a0_1, (.slice A0_2 l0_2.length c0_2)] 34 (0, 0))) ∧ Aside0 (wc.heap[gb184]? = some (.cells #[.int .u32 a1_0, .int .u64 a1_1, (.slice A1_2 l1_2.length c1_2)] 26 (0, 0))) ∧ Aside0 (Below w.heap.size w wc))
  case first =>
    have H := HC3.out
    clear HC3
    by_cases c6 : a0_0 = a1_0
    · rw [if_pos c6] at H
      have c6b0 : (a0_0 == a1_0) = true := beq_iff_eq.mpr c6
      have c6b1 : (a0_0 != a1_0) = false := bne_eq_false_iff_eq.mpr c6
      clear c6
      (first | rw [c6b0] | (simp only [i64_w, i32_w]; rw [c6b0]) | skip)
      by_cases c7 : a0_1 = a1_1
      · rw [if_pos c7] at H
        have c7b0 : (a0_1 == a1_1) = true := beq_iff_eq.mpr c7
        have c7b1 : (a0_1 != a1_1) = false := bne_eq_false_iff_eq.mpr c7
        clear c7
        have H' := Aside0.mk H
        clear H
        have hnb8 := NB183_184.out
        have hnc8 := NB184_183.out
        have hcz9_0 : w5.cell? ⟨gb183, 0, none⟩ = some (.int .u32 a0_0) := (blk_cell BK183.out 0).trans rfl
        have hcz9_1 : w5.cell? ⟨gb183, 1, none⟩ = some (.int .u64 a0_1) := (blk_cell BK183.out 1).trans rfl
        have hcz9_2 : w5.cell? ⟨gb183, 2, none⟩ = some (.slice A0_2 l0_2.length c0_2) := (blk_cell BK183.out 2).trans rfl
        have hfz9_0 := blk_frozen BK183.out 0
        have hfz9_1 := blk_frozen BK183.out 1
        have hfz9_2 := blk_frozen BK183.out 2
        have hcz10_0 : w5.cell? ⟨gb184, 0, none⟩ = some (.int .u32 a1_0) := (blk_cell BK184.out 0).trans rfl
        have hcz10_1 : w5.cell? ⟨gb184, 1, none⟩ = some (.int .u64 a1_1) := (blk_cell BK184.out 1).trans rfl
        have hcz10_2 : w5.cell? ⟨gb184, 2, none⟩ = some (.slice A1_2 l1_2.length c1_2) := (blk_cell BK184.out 2).trans rfl
        have hfz10_0 := blk_frozen BK184.out 0
        have hfz10_1 := blk_frozen BK184.out 1
        have hfz10_2 := blk_frozen BK184.out 2
        go_wp2
        repeat (go_quiet (fail); try go_wp2)
        go_meet
        case rel => exact ⟨_, (((l0_2.length : Int) != (l1_2.length : Int))), (by first | rfl | (simp; done) | (simp [*]; done)), H', ⟨by first | omega | exact Nat.le_refl _⟩, ⟨by (with_reducible repeat (first | refine blk_drewN ?_ _ | refine blk_drew ?_ | refine blk_alloc ?_ _)); exact BK183.out⟩, ⟨by (with_reducible repeat (first | refine blk_drewN ?_ _ | refine blk_drew ?_ | refine blk_alloc ?_ _)); exact BK184.out⟩, ⟨by repeat (first | (with_reducible first | exact HB.out | apply below_alloc | apply pw_below_drewN | apply below_drew1 | refine below_set ?_ GE183.out | refine below_set ?_ GE184.out) | exact HB.out)⟩⟩
      · rw [if_neg c7] at H
        have c7b0 : (a0_1 == a1_1) = false := beq_eq_false_iff_ne.mpr c7
        have c7b1 : (a0_1 != a1_1) = true := bne_iff_ne.mpr c7
        have H' := Aside0.mk H
        clear H
        have hnb11 := NB183_184.out
        have hnc11 := NB184_183.out
        have hcz12_0 : w5.cell? ⟨gb183, 0, none⟩ = some (.int .u32 a0_0) := (blk_cell BK183.out 0).trans rfl
        have hcz12_1 : w5.cell? ⟨gb183, 1, none⟩ = some (.int .u64 a0_1) := (blk_cell BK183.out 1).trans rfl
        have hcz12_2 : w5.cell? ⟨gb183, 2, none⟩ = some (.slice A0_2 l0_2.length c0_2) := (blk_cell BK183.out 2).trans rfl
        have hfz12_0 := blk_frozen BK183.out 0
        have hfz12_1 := blk_frozen BK183.out 1
        have hfz12_2 := blk_frozen BK183.out 2
        have hcz13_0 : w5.cell? ⟨gb184, 0, none⟩ = some (.int .u32 a1_0) := (blk_cell BK184.out 0).trans rfl
        have hcz13_1 : w5.cell? ⟨gb184, 1, none⟩ = some (.int .u64 a1_1) := (blk_cell BK184.out 1).trans rfl
        have hcz13_2 : w5.cell? ⟨gb184, 2, none⟩ = some (.slice A1_2 l1_2.length c1_2) := (blk_cell BK184.out 2).trans rfl
        have hfz13_0 := blk_frozen BK184.out 0
        have hfz13_1 := blk_frozen BK184.out 1
        have hfz13_2 := blk_frozen BK184.out 2
        go_wp2
        repeat (go_quiet (fail); try go_wp2)
        go_meet
        case rel => exact ⟨_, (true), (by first | rfl | (simp; done) | (simp [*]; done)), H', ⟨by first | omega | exact Nat.le_refl _⟩, ⟨by (with_reducible repeat (first | refine blk_drewN ?_ _ | refine blk_drew ?_ | refine blk_alloc ?_ _)); exact BK183.out⟩, ⟨by (with_reducible repeat (first | refine blk_drewN ?_ _ | refine blk_drew ?_ | refine blk_alloc ?_ _)); exact BK184.out⟩, ⟨by repeat (first | (with_reducible first | exact HB.out | apply below_alloc | apply pw_below_drewN | apply below_drew1 | refine below_set ?_ GE183.out | refine below_set ?_ GE184.out) | exact HB.out)⟩⟩
    · rw [if_neg c6] at H
      have c6b0 : (a0_0 == a1_0) = false := beq_eq_false_iff_ne.mpr c6
      have c6b1 : (a0_0 != a1_0) = true := bne_iff_ne.mpr c6
      (first | rw [c6b0] | (simp only [i64_w, i32_w]; rw [c6b0]) | skip)
      have H' := Aside0.mk H
      clear H
      have hnb14 := NB183_184.out
      have hnc14 := NB184_183.out
      have hcz15_0 : w5.cell? ⟨gb183, 0, none⟩ = some (.int .u32 a0_0) := (blk_cell BK183.out 0).trans rfl
      have hcz15_1 : w5.cell? ⟨gb183, 1, none⟩ = some (.int .u64 a0_1) := (blk_cell BK183.out 1).trans rfl
      have hcz15_2 : w5.cell? ⟨gb183, 2, none⟩ = some (.slice A0_2 l0_2.length c0_2) := (blk_cell BK183.out 2).trans rfl
      have hfz15_0 := blk_frozen BK183.out 0
      have hfz15_1 := blk_frozen BK183.out 1
      have hfz15_2 := blk_frozen BK183.out 2
      have hcz16_0 : w5.cell? ⟨gb184, 0, none⟩ = some (.int .u32 a1_0) := (blk_cell BK184.out 0).trans rfl
      have hcz16_1 : w5.cell? ⟨gb184, 1, none⟩ = some (.int .u64 a1_1) := (blk_cell BK184.out 1).trans rfl
      have hcz16_2 : w5.cell? ⟨gb184, 2, none⟩ = some (.slice A1_2 l1_2.length c1_2) := (blk_cell BK184.out 2).trans rfl
      have hfz16_0 := blk_frozen BK184.out 0
      have hfz16_1 := blk_frozen BK184.out 1
      have hfz16_2 := blk_frozen BK184.out 2
      go_wp2
      repeat (go_quiet (fail); try go_wp2)
      go_meet
      case rel => exact ⟨_, (true), (by first | rfl | (simp; done) | (simp [*]; done)), H', ⟨by first | omega | exact Nat.le_refl _⟩, ⟨by (with_reducible repeat (first | refine blk_drewN ?_ _ | refine blk_drew ?_ | refine blk_alloc ?_ _)); exact BK183.out⟩, ⟨by (with_reducible repeat (first | refine blk_drewN ?_ _ | refine blk_drew ?_ | refine blk_alloc ?_ _)); exact BK184.out⟩, ⟨by repeat (first | (with_reducible first | exact HB.out | apply below_alloc | apply pw_below_drewN | apply below_drew1 | refine below_set ?_ GE183.out | refine below_set ?_ GE184.out) | exact HB.out)⟩⟩
  case rest =>
    clear HC3
    try clear c1
    try clear p2
    try clear c6
    try clear c6b0
    try clear c6b1
    try clear c7
    try clear c7b0
    try clear c7b1
    try clear c8
    try clear c11
    try clear c14
    try clear hcz10_0
    try clear hcz10_1
    try clear hcz10_2
    try clear hcz12_0
    try clear hcz12_1
    try clear hcz12_2
    try clear hcz13_0
    try clear hcz13_1
    try clear hcz13_2
    try clear hcz15_0
    try clear hcz15_1
    try clear hcz15_2
    try clear hcz16_0
    try clear hcz16_1
    try clear hcz16_2
    try clear hcz9_0
    try clear hcz9_1
    try clear hcz9_2
    try clear hfz10_0
    try clear hfz10_1
    try clear hfz10_2
    try clear hfz12_0
    try clear hfz12_1
    try clear hfz12_2
    try clear hfz13_0
    try clear hfz13_1
    try clear hfz13_2
    try clear hfz15_0
    try clear hfz15_1
    try clear hfz15_2
    try clear hfz16_0
    try clear hfz16_1
    try clear hfz16_2
    try clear hfz9_0
    try clear hfz9_1
    try clear hfz9_2
    obtain ⟨kq, x26_2, rfl, HA, HJ2, BK183, BK184, HB⟩ := hcut
    cases kq with
    | zero => exact absurd HA.out (by simp [rubricatorlaw21_same.j0])
    | succ kj2 =>
      have H := HA.out
      clear HA
      simp only [rubricatorlaw21_same.j0] at H
      by_cases c17 : x26_2 = true
      · subst c17
        have H1 : (some false) = some r := by rw [if_pos rfl] at H; exact H
        clear H
        have H := H1
        clear H1
        obtain rfl := Option.some.inj H
        go_wp2
        repeat (go_quiet (fail); try go_wp2)
        go_ret
        exact ⟨by first | rfl | (simp [errW_none, errW_some] <;> rfl) | (simp [*, errW_none, errW_some] <;> rfl), by repeat (first | (with_reducible first | exact HB.out | apply below_alloc | apply pw_below_drewN | apply below_drew1 | refine below_set ?_ GE183.out | refine below_set ?_ GE184.out) | exact HB.out)⟩
      · replace c17 := Bool.eq_false_iff.mpr c17
        subst c17
        have H1 : (rubricatorlaw21_same.l0 kj2 0 a0_0 a0_1 l0_2 a1_0 a1_1 l1_2) = some r := by rw [if_neg (show ¬ (false = true) by decide)] at H; exact H
        clear H
        have H := H1
        clear H1
        have H' := Aside0.mk H
        clear H
        go_wp2
        repeat (go_quiet (fail); try go_wp2)
        go_loopg [5] kj2 (fun kq v5 w' => ∃ (x5_2 : Int), v5 = .int .i64 x5_2 ∧ Aside0 (rubricatorlaw21_same.l0 kq x5_2 a0_0 a0_1 l0_2 a1_0 a1_1 l1_2 = some r) ∧ Aside0 (kq ≤ kj2) ∧ Aside0 (w'.heap[gb183]? = some (.cells #[.int .u32 a0_0, .int .u64 a0_1, (.slice A0_2 l0_2.length c0_2)] 34 (0, 0))) ∧ Aside0 (w'.heap[gb184]? = some (.cells #[.int .u32 a1_0, .int .u64 a1_1, (.slice A1_2 l1_2.length c1_2)] 26 (0, 0))) ∧ Aside0 (Below w.heap.size w w'))
        case atStart => exact ⟨(0), (by first | rfl | (simp; done) | (simp [*]; done)), H', ⟨Nat.le_refl _⟩, ⟨by (with_reducible repeat (first | refine blk_drewN ?_ _ | refine blk_drew ?_ | refine blk_alloc ?_ _)); exact BK183.out⟩, ⟨by (with_reducible repeat (first | refine blk_drewN ?_ _ | refine blk_drew ?_ | refine blk_alloc ?_ _)); exact BK184.out⟩, ⟨by repeat (first | (with_reducible first | exact HB.out | apply below_alloc | apply pw_below_drewN | apply below_drew1 | refine below_set ?_ GE183.out | refine below_set ?_ GE184.out) | exact HB.out)⟩⟩
        case round =>
          clear H'
          try clear c1
          try clear p2
          try clear c6
          try clear c6b0
          try clear c6b1
          try clear c7
          try clear c7b0
          try clear c7b1
          try clear c8
          try clear c11
          try clear c14
          try clear c17
          try clear hcz10_0
          try clear hcz10_1
          try clear hcz10_2
          try clear hcz12_0
          try clear hcz12_1
          try clear hcz12_2
          try clear hcz13_0
          try clear hcz13_1
          try clear hcz13_2
          try clear hcz15_0
          try clear hcz15_1
          try clear hcz15_2
          try clear hcz16_0
          try clear hcz16_1
          try clear hcz16_2
          try clear hcz9_0
          try clear hcz9_1
          try clear hcz9_2
          try clear hfz10_0
          try clear hfz10_1
          try clear hfz10_2
          try clear hfz12_0
          try clear hfz12_1
          try clear hfz12_2
          try clear hfz13_0
          try clear hfz13_1
          try clear hfz13_2
          try clear hfz15_0
          try clear hfz15_1
          try clear hfz15_2
          try clear hfz16_0
          try clear hfz16_1
          try clear hfz16_2
          try clear hfz9_0
          try clear hfz9_1
          try clear hfz9_2
          try clear p2
          obtain ⟨x5_2, rfl, HA, HK2, BK183, BK184, HB⟩ := hrel
          cases gk with
          | zero => exact absurd HA.out (by simp [rubricatorlaw21_same.l0])
          | succ k2 =>
            have H := HA.out
            clear HA
            simp only [rubricatorlaw21_same.l0] at H
            by_cases c18 : x5_2 < (l0_2.length : Int)
            · rw [if_pos c18] at H
              have c18b0 : decide (x5_2 < (l0_2.length : Int)) = true := decide_eq_true c18
              clear c18
              by_cases c19 : 0 ≤ x5_2
              · rw [if_pos c19] at H
                have c19b0 : decide (0 ≤ x5_2) = true := decide_eq_true c19
                clear c19
                by_cases c20 : x5_2 < (l1_2.length : Int)
                · rw [if_pos c20] at H
                  have c20b0 : decide (x5_2 < (l1_2.length : Int)) = true := decide_eq_true c20
                  clear c20
                  by_cases c21 : ((rd_T57 l0_2 x5_2).f0) = ((rd_T31 l1_2 x5_2).f0)
                  · rw [if_pos c21] at H
                    have c21b0 : (((rd_T57 l0_2 x5_2).f0) == ((rd_T31 l1_2 x5_2).f0)) = true := beq_iff_eq.mpr c21
                    have c21b1 : (((rd_T57 l0_2 x5_2).f0) != ((rd_T31 l1_2 x5_2).f0)) = false := bne_eq_false_iff_eq.mpr c21
                    clear c21
                    by_cases c22 : ((rd_T57 l0_2 x5_2).f1).toList = ((rd_T31 l1_2 x5_2).f1).toList
                    · rw [if_pos c22] at H
                      have c22b0 : (((rd_T57 l0_2 x5_2).f1).toList == ((rd_T31 l1_2 x5_2).f1).toList) = true := beq_iff_eq.mpr c22
                      have c22b1 : (((rd_T57 l0_2 x5_2).f1).toList != ((rd_T31 l1_2 x5_2).f1).toList) = false := bne_eq_false_iff_eq.mpr c22
                      clear c22
                      by_cases c23 : (((rd_T57 l0_2 x5_2).f2) != ((rd_T31 l1_2 x5_2).f2)) = true
                      · rw [if_pos c23] at H
                        have c23b0 : (((rd_T57 l0_2 x5_2).f2) != ((rd_T31 l1_2 x5_2).f2)) = true := c23
                        (try (have c23b1 : decide (((rd_T57 l0_2 x5_2).f2) = ((rd_T31 l1_2 x5_2).f2)) = false := by simpa using c23))
                        (try (have c23b2 : (((rd_T57 l0_2 x5_2).f2) == ((rd_T31 l1_2 x5_2).f2)) = false := by simpa using c23))
                        (try (have c23b3 : ¬ (((rd_T57 l0_2 x5_2).f2) = ((rd_T31 l1_2 x5_2).f2)) := by simpa using c23))
                        clear c23
                        obtain rfl := Option.some.inj H
                        have hnb24 := NB183_184.out
                        have hnc24 := NB184_183.out
                        have hcz25_0 : wr.cell? ⟨gb183, 0, none⟩ = some (.int .u32 a0_0) := (blk_cell BK183.out 0).trans rfl
                        have hcz25_1 : wr.cell? ⟨gb183, 1, none⟩ = some (.int .u64 a0_1) := (blk_cell BK183.out 1).trans rfl
                        have hcz25_2 : wr.cell? ⟨gb183, 2, none⟩ = some (.slice A0_2 l0_2.length c0_2) := (blk_cell BK183.out 2).trans rfl
                        have hfz25_0 := blk_frozen BK183.out 0
                        have hfz25_1 := blk_frozen BK183.out 1
                        have hfz25_2 := blk_frozen BK183.out 2
                        have p185 : 0 ≤ (x5_2 : Int) := of_decide_eq_true (by first | (with_reducible assumption) | assumption)
                        have q185 : x5_2 < (l0_2.length : Int) := of_decide_eq_true (by first | (with_reducible assumption) | assumption)
                        obtain ⟨ad185, e185, hx185_0, hx185_1, hx185_2⟩ := at_T57 HR0_2.out x5_2 p185 q185
                        cases e185
                        replace hx185_0 := (HB.out.cell (World.block_lt_of_cell? w _ hx185_0)).trans hx185_0
                        replace hx185_1 := (HB.out.cell (World.block_lt_of_cell? w _ hx185_1)).trans hx185_1
                        replace hx185_2 := (HB.out.cell (World.block_lt_of_cell? w _ hx185_2)).trans hx185_2
                        replace p185 := eq_true p185
                        replace q185 := eq_true q185
                        have hcz26_0 : wr.cell? ⟨gb184, 0, none⟩ = some (.int .u32 a1_0) := (blk_cell BK184.out 0).trans rfl
                        have hcz26_1 : wr.cell? ⟨gb184, 1, none⟩ = some (.int .u64 a1_1) := (blk_cell BK184.out 1).trans rfl
                        have hcz26_2 : wr.cell? ⟨gb184, 2, none⟩ = some (.slice A1_2 l1_2.length c1_2) := (blk_cell BK184.out 2).trans rfl
                        have hfz26_0 := blk_frozen BK184.out 0
                        have hfz26_1 := blk_frozen BK184.out 1
                        have hfz26_2 := blk_frozen BK184.out 2
                        have p186 : 0 ≤ (x5_2 : Int) := of_decide_eq_true (by first | (with_reducible assumption) | assumption)
                        have q186 : x5_2 < (l1_2.length : Int) := of_decide_eq_true (by first | (with_reducible assumption) | assumption)
                        obtain ⟨ad186, e186, hx186_0, hx186_1, hx186_2⟩ := at_T31 HR1_2.out x5_2 p186 q186
                        cases e186
                        replace hx186_0 := (HB.out.cell (World.block_lt_of_cell? w _ hx186_0)).trans hx186_0
                        replace hx186_1 := (HB.out.cell (World.block_lt_of_cell? w _ hx186_1)).trans hx186_1
                        replace hx186_2 := (HB.out.cell (World.block_lt_of_cell? w _ hx186_2)).trans hx186_2
                        replace p186 := eq_true p186
                        replace q186 := eq_true q186
                        have p187 : 0 ≤ (x5_2 : Int) := of_decide_eq_true (by first | (with_reducible assumption) | assumption)
                        have q187 : x5_2 < (l0_2.length : Int) := of_decide_eq_true (by first | (with_reducible assumption) | assumption)
                        obtain ⟨ad187, e187, hx187_0, hx187_1, hx187_2⟩ := at_T57 HR0_2.out x5_2 p187 q187
                        obtain rfl : ad185 = ad187 := (by injection e187)
                        replace hx187_0 := (HB.out.cell (World.block_lt_of_cell? w _ hx187_0)).trans hx187_0
                        replace hx187_1 := (HB.out.cell (World.block_lt_of_cell? w _ hx187_1)).trans hx187_1
                        replace hx187_2 := (HB.out.cell (World.block_lt_of_cell? w _ hx187_2)).trans hx187_2
                        replace p187 := eq_true p187
                        replace q187 := eq_true q187
                        have p188 : 0 ≤ (x5_2 : Int) := of_decide_eq_true (by first | (with_reducible assumption) | assumption)
                        have q188 : x5_2 < (l1_2.length : Int) := of_decide_eq_true (by first | (with_reducible assumption) | assumption)
                        obtain ⟨ad188, e188, hx188_0, hx188_1, hx188_2⟩ := at_T31 HR1_2.out x5_2 p188 q188
                        obtain rfl : ad186 = ad188 := (by injection e188)
                        replace hx188_0 := (HB.out.cell (World.block_lt_of_cell? w _ hx188_0)).trans hx188_0
                        replace hx188_1 := (HB.out.cell (World.block_lt_of_cell? w _ hx188_1)).trans hx188_1
                        replace hx188_2 := (HB.out.cell (World.block_lt_of_cell? w _ hx188_2)).trans hx188_2
                        replace p188 := eq_true p188
                        replace q188 := eq_true q188
                        have p189 : 0 ≤ (x5_2 : Int) := of_decide_eq_true (by first | (with_reducible assumption) | assumption)
                        have q189 : x5_2 < (l0_2.length : Int) := of_decide_eq_true (by first | (with_reducible assumption) | assumption)
                        obtain ⟨ad189, e189, hx189_0, hx189_1, hx189_2⟩ := at_T57 HR0_2.out x5_2 p189 q189
                        obtain rfl : ad185 = ad189 := (by injection e189)
                        replace hx189_0 := (HB.out.cell (World.block_lt_of_cell? w _ hx189_0)).trans hx189_0
                        replace hx189_1 := (HB.out.cell (World.block_lt_of_cell? w _ hx189_1)).trans hx189_1
                        replace hx189_2 := (HB.out.cell (World.block_lt_of_cell? w _ hx189_2)).trans hx189_2
                        replace p189 := eq_true p189
                        replace q189 := eq_true q189
                        have p190 : 0 ≤ (x5_2 : Int) := of_decide_eq_true (by first | (with_reducible assumption) | assumption)
                        have q190 : x5_2 < (l1_2.length : Int) := of_decide_eq_true (by first | (with_reducible assumption) | assumption)
                        obtain ⟨ad190, e190, hx190_0, hx190_1, hx190_2⟩ := at_T31 HR1_2.out x5_2 p190 q190
                        obtain rfl : ad186 = ad190 := (by injection e190)
                        replace hx190_0 := (HB.out.cell (World.block_lt_of_cell? w _ hx190_0)).trans hx190_0
                        replace hx190_1 := (HB.out.cell (World.block_lt_of_cell? w _ hx190_1)).trans hx190_1
                        replace hx190_2 := (HB.out.cell (World.block_lt_of_cell? w _ hx190_2)).trans hx190_2
                        replace p190 := eq_true p190
                        replace q190 := eq_true q190
                        go_wp2
                        repeat (go_quiet (fail); try go_wp2)
                        go_ret
                        exact ⟨by first | rfl | (simp [errW_none, errW_some] <;> rfl) | (simp [*, errW_none, errW_some] <;> rfl), by repeat (first | (with_reducible first | exact HB.out | apply below_alloc | apply pw_below_drewN | apply below_drew1 | refine below_set ?_ GE183.out | refine below_set ?_ GE184.out) | exact HB.out)⟩
                      · rw [if_neg c23] at H
                        have c23b0 : (((rd_T57 l0_2 x5_2).f2) != ((rd_T31 l1_2 x5_2).f2)) = false := by simpa using c23
                        (try (have c23b1 : decide (((rd_T57 l0_2 x5_2).f2) = ((rd_T31 l1_2 x5_2).f2)) = true := by simpa using c23))
                        (try (have c23b2 : (((rd_T57 l0_2 x5_2).f2) == ((rd_T31 l1_2 x5_2).f2)) = true := by simpa using c23))
                        clear c23
                        have H' := Aside0.mk H
                        clear H
                        have hnb27 := NB183_184.out
                        have hnc27 := NB184_183.out
                        have hcz28_0 : wr.cell? ⟨gb183, 0, none⟩ = some (.int .u32 a0_0) := (blk_cell BK183.out 0).trans rfl
                        have hcz28_1 : wr.cell? ⟨gb183, 1, none⟩ = some (.int .u64 a0_1) := (blk_cell BK183.out 1).trans rfl
                        have hcz28_2 : wr.cell? ⟨gb183, 2, none⟩ = some (.slice A0_2 l0_2.length c0_2) := (blk_cell BK183.out 2).trans rfl
                        have hfz28_0 := blk_frozen BK183.out 0
                        have hfz28_1 := blk_frozen BK183.out 1
                        have hfz28_2 := blk_frozen BK183.out 2
                        have p185 : 0 ≤ (x5_2 : Int) := of_decide_eq_true (by first | (with_reducible assumption) | assumption)
                        have q185 : x5_2 < (l0_2.length : Int) := of_decide_eq_true (by first | (with_reducible assumption) | assumption)
                        obtain ⟨ad185, e185, hx185_0, hx185_1, hx185_2⟩ := at_T57 HR0_2.out x5_2 p185 q185
                        cases e185
                        replace hx185_0 := (HB.out.cell (World.block_lt_of_cell? w _ hx185_0)).trans hx185_0
                        replace hx185_1 := (HB.out.cell (World.block_lt_of_cell? w _ hx185_1)).trans hx185_1
                        replace hx185_2 := (HB.out.cell (World.block_lt_of_cell? w _ hx185_2)).trans hx185_2
                        replace p185 := eq_true p185
                        replace q185 := eq_true q185
                        have hcz29_0 : wr.cell? ⟨gb184, 0, none⟩ = some (.int .u32 a1_0) := (blk_cell BK184.out 0).trans rfl
                        have hcz29_1 : wr.cell? ⟨gb184, 1, none⟩ = some (.int .u64 a1_1) := (blk_cell BK184.out 1).trans rfl
                        have hcz29_2 : wr.cell? ⟨gb184, 2, none⟩ = some (.slice A1_2 l1_2.length c1_2) := (blk_cell BK184.out 2).trans rfl
                        have hfz29_0 := blk_frozen BK184.out 0
                        have hfz29_1 := blk_frozen BK184.out 1
                        have hfz29_2 := blk_frozen BK184.out 2
                        have p186 : 0 ≤ (x5_2 : Int) := of_decide_eq_true (by first | (with_reducible assumption) | assumption)
                        have q186 : x5_2 < (l1_2.length : Int) := of_decide_eq_true (by first | (with_reducible assumption) | assumption)
                        obtain ⟨ad186, e186, hx186_0, hx186_1, hx186_2⟩ := at_T31 HR1_2.out x5_2 p186 q186
                        cases e186
                        replace hx186_0 := (HB.out.cell (World.block_lt_of_cell? w _ hx186_0)).trans hx186_0
                        replace hx186_1 := (HB.out.cell (World.block_lt_of_cell? w _ hx186_1)).trans hx186_1
                        replace hx186_2 := (HB.out.cell (World.block_lt_of_cell? w _ hx186_2)).trans hx186_2
                        replace p186 := eq_true p186
                        replace q186 := eq_true q186
                        have p187 : 0 ≤ (x5_2 : Int) := of_decide_eq_true (by first | (with_reducible assumption) | assumption)
                        have q187 : x5_2 < (l0_2.length : Int) := of_decide_eq_true (by first | (with_reducible assumption) | assumption)
                        obtain ⟨ad187, e187, hx187_0, hx187_1, hx187_2⟩ := at_T57 HR0_2.out x5_2 p187 q187
                        obtain rfl : ad185 = ad187 := (by injection e187)
                        replace hx187_0 := (HB.out.cell (World.block_lt_of_cell? w _ hx187_0)).trans hx187_0
                        replace hx187_1 := (HB.out.cell (World.block_lt_of_cell? w _ hx187_1)).trans hx187_1
                        replace hx187_2 := (HB.out.cell (World.block_lt_of_cell? w _ hx187_2)).trans hx187_2
                        replace p187 := eq_true p187
                        replace q187 := eq_true q187
                        have p188 : 0 ≤ (x5_2 : Int) := of_decide_eq_true (by first | (with_reducible assumption) | assumption)
                        have q188 : x5_2 < (l1_2.length : Int) := of_decide_eq_true (by first | (with_reducible assumption) | assumption)
                        obtain ⟨ad188, e188, hx188_0, hx188_1, hx188_2⟩ := at_T31 HR1_2.out x5_2 p188 q188
                        obtain rfl : ad186 = ad188 := (by injection e188)
                        replace hx188_0 := (HB.out.cell (World.block_lt_of_cell? w _ hx188_0)).trans hx188_0
                        replace hx188_1 := (HB.out.cell (World.block_lt_of_cell? w _ hx188_1)).trans hx188_1
                        replace hx188_2 := (HB.out.cell (World.block_lt_of_cell? w _ hx188_2)).trans hx188_2
                        replace p188 := eq_true p188
                        replace q188 := eq_true q188
                        have p189 : 0 ≤ (x5_2 : Int) := of_decide_eq_true (by first | (with_reducible assumption) | assumption)
                        have q189 : x5_2 < (l0_2.length : Int) := of_decide_eq_true (by first | (with_reducible assumption) | assumption)
                        obtain ⟨ad189, e189, hx189_0, hx189_1, hx189_2⟩ := at_T57 HR0_2.out x5_2 p189 q189
                        obtain rfl : ad185 = ad189 := (by injection e189)
                        replace hx189_0 := (HB.out.cell (World.block_lt_of_cell? w _ hx189_0)).trans hx189_0
                        replace hx189_1 := (HB.out.cell (World.block_lt_of_cell? w _ hx189_1)).trans hx189_1
                        replace hx189_2 := (HB.out.cell (World.block_lt_of_cell? w _ hx189_2)).trans hx189_2
                        replace p189 := eq_true p189
                        replace q189 := eq_true q189
                        have p190 : 0 ≤ (x5_2 : Int) := of_decide_eq_true (by first | (with_reducible assumption) | assumption)
                        have q190 : x5_2 < (l1_2.length : Int) := of_decide_eq_true (by first | (with_reducible assumption) | assumption)
                        obtain ⟨ad190, e190, hx190_0, hx190_1, hx190_2⟩ := at_T31 HR1_2.out x5_2 p190 q190
                        obtain rfl : ad186 = ad190 := (by injection e190)
                        replace hx190_0 := (HB.out.cell (World.block_lt_of_cell? w _ hx190_0)).trans hx190_0
                        replace hx190_1 := (HB.out.cell (World.block_lt_of_cell? w _ hx190_1)).trans hx190_1
                        replace hx190_2 := (HB.out.cell (World.block_lt_of_cell? w _ hx190_2)).trans hx190_2
                        replace p190 := eq_true p190
                        replace q190 := eq_true q190
                        go_wp2
                        repeat (go_quiet (fail); try go_wp2)
                        go_roundg k2
                        case measure => have := HJ2.out; have := HK2.out; omega
                        case rel => exact ⟨(wrap64 (x5_2 + 1)), (by first | rfl | (simp; done) | (simp [*]; done)), H', ⟨by have := HJ2.out; have := HK2.out; omega⟩, ⟨by (with_reducible repeat (first | refine blk_drewN ?_ _ | refine blk_drew ?_ | refine blk_alloc ?_ _)); exact BK183.out⟩, ⟨by (with_reducible repeat (first | refine blk_drewN ?_ _ | refine blk_drew ?_ | refine blk_alloc ?_ _)); exact BK184.out⟩, ⟨by repeat (first | (with_reducible first | exact HB.out | apply below_alloc | apply pw_below_drewN | apply below_drew1 | refine below_set ?_ GE183.out | refine below_set ?_ GE184.out) | exact HB.out)⟩⟩
                    · rw [if_neg c22] at H
                      have c22b0 : (((rd_T57 l0_2 x5_2).f1).toList == ((rd_T31 l1_2 x5_2).f1).toList) = false := beq_eq_false_iff_ne.mpr c22
                      have c22b1 : (((rd_T57 l0_2 x5_2).f1).toList != ((rd_T31 l1_2 x5_2).f1).toList) = true := bne_iff_ne.mpr c22
                      obtain rfl := Option.some.inj H
                      have hnb30 := NB183_184.out
                      have hnc30 := NB184_183.out
                      have hcz31_0 : wr.cell? ⟨gb183, 0, none⟩ = some (.int .u32 a0_0) := (blk_cell BK183.out 0).trans rfl
                      have hcz31_1 : wr.cell? ⟨gb183, 1, none⟩ = some (.int .u64 a0_1) := (blk_cell BK183.out 1).trans rfl
                      have hcz31_2 : wr.cell? ⟨gb183, 2, none⟩ = some (.slice A0_2 l0_2.length c0_2) := (blk_cell BK183.out 2).trans rfl
                      have hfz31_0 := blk_frozen BK183.out 0
                      have hfz31_1 := blk_frozen BK183.out 1
                      have hfz31_2 := blk_frozen BK183.out 2
                      have p185 : 0 ≤ (x5_2 : Int) := of_decide_eq_true (by first | (with_reducible assumption) | assumption)
                      have q185 : x5_2 < (l0_2.length : Int) := of_decide_eq_true (by first | (with_reducible assumption) | assumption)
                      obtain ⟨ad185, e185, hx185_0, hx185_1, hx185_2⟩ := at_T57 HR0_2.out x5_2 p185 q185
                      cases e185
                      replace hx185_0 := (HB.out.cell (World.block_lt_of_cell? w _ hx185_0)).trans hx185_0
                      replace hx185_1 := (HB.out.cell (World.block_lt_of_cell? w _ hx185_1)).trans hx185_1
                      replace hx185_2 := (HB.out.cell (World.block_lt_of_cell? w _ hx185_2)).trans hx185_2
                      replace p185 := eq_true p185
                      replace q185 := eq_true q185
                      have hcz32_0 : wr.cell? ⟨gb184, 0, none⟩ = some (.int .u32 a1_0) := (blk_cell BK184.out 0).trans rfl
                      have hcz32_1 : wr.cell? ⟨gb184, 1, none⟩ = some (.int .u64 a1_1) := (blk_cell BK184.out 1).trans rfl
                      have hcz32_2 : wr.cell? ⟨gb184, 2, none⟩ = some (.slice A1_2 l1_2.length c1_2) := (blk_cell BK184.out 2).trans rfl
                      have hfz32_0 := blk_frozen BK184.out 0
                      have hfz32_1 := blk_frozen BK184.out 1
                      have hfz32_2 := blk_frozen BK184.out 2
                      have p186 : 0 ≤ (x5_2 : Int) := of_decide_eq_true (by first | (with_reducible assumption) | assumption)
                      have q186 : x5_2 < (l1_2.length : Int) := of_decide_eq_true (by first | (with_reducible assumption) | assumption)
                      obtain ⟨ad186, e186, hx186_0, hx186_1, hx186_2⟩ := at_T31 HR1_2.out x5_2 p186 q186
                      cases e186
                      replace hx186_0 := (HB.out.cell (World.block_lt_of_cell? w _ hx186_0)).trans hx186_0
                      replace hx186_1 := (HB.out.cell (World.block_lt_of_cell? w _ hx186_1)).trans hx186_1
                      replace hx186_2 := (HB.out.cell (World.block_lt_of_cell? w _ hx186_2)).trans hx186_2
                      replace p186 := eq_true p186
                      replace q186 := eq_true q186
                      have p187 : 0 ≤ (x5_2 : Int) := of_decide_eq_true (by first | (with_reducible assumption) | assumption)
                      have q187 : x5_2 < (l0_2.length : Int) := of_decide_eq_true (by first | (with_reducible assumption) | assumption)
                      obtain ⟨ad187, e187, hx187_0, hx187_1, hx187_2⟩ := at_T57 HR0_2.out x5_2 p187 q187
                      obtain rfl : ad185 = ad187 := (by injection e187)
                      replace hx187_0 := (HB.out.cell (World.block_lt_of_cell? w _ hx187_0)).trans hx187_0
                      replace hx187_1 := (HB.out.cell (World.block_lt_of_cell? w _ hx187_1)).trans hx187_1
                      replace hx187_2 := (HB.out.cell (World.block_lt_of_cell? w _ hx187_2)).trans hx187_2
                      replace p187 := eq_true p187
                      replace q187 := eq_true q187
                      have p188 : 0 ≤ (x5_2 : Int) := of_decide_eq_true (by first | (with_reducible assumption) | assumption)
                      have q188 : x5_2 < (l1_2.length : Int) := of_decide_eq_true (by first | (with_reducible assumption) | assumption)
                      obtain ⟨ad188, e188, hx188_0, hx188_1, hx188_2⟩ := at_T31 HR1_2.out x5_2 p188 q188
                      obtain rfl : ad186 = ad188 := (by injection e188)
                      replace hx188_0 := (HB.out.cell (World.block_lt_of_cell? w _ hx188_0)).trans hx188_0
                      replace hx188_1 := (HB.out.cell (World.block_lt_of_cell? w _ hx188_1)).trans hx188_1
                      replace hx188_2 := (HB.out.cell (World.block_lt_of_cell? w _ hx188_2)).trans hx188_2
                      replace p188 := eq_true p188
                      replace q188 := eq_true q188
                      go_wp2
                      repeat (go_quiet (fail); try go_wp2)
                      go_ret
                      exact ⟨by first | rfl | (simp [errW_none, errW_some] <;> rfl) | (simp [*, errW_none, errW_some] <;> rfl), by repeat (first | (with_reducible first | exact HB.out | apply below_alloc | apply pw_below_drewN | apply below_drew1 | refine below_set ?_ GE183.out | refine below_set ?_ GE184.out) | exact HB.out)⟩
                  · rw [if_neg c21] at H
                    have c21b0 : (((rd_T57 l0_2 x5_2).f0) == ((rd_T31 l1_2 x5_2).f0)) = false := beq_eq_false_iff_ne.mpr c21
                    have c21b1 : (((rd_T57 l0_2 x5_2).f0) != ((rd_T31 l1_2 x5_2).f0)) = true := bne_iff_ne.mpr c21
                    obtain rfl := Option.some.inj H
                    have hnb33 := NB183_184.out
                    have hnc33 := NB184_183.out
                    have hcz34_0 : wr.cell? ⟨gb183, 0, none⟩ = some (.int .u32 a0_0) := (blk_cell BK183.out 0).trans rfl
                    have hcz34_1 : wr.cell? ⟨gb183, 1, none⟩ = some (.int .u64 a0_1) := (blk_cell BK183.out 1).trans rfl
                    have hcz34_2 : wr.cell? ⟨gb183, 2, none⟩ = some (.slice A0_2 l0_2.length c0_2) := (blk_cell BK183.out 2).trans rfl
                    have hfz34_0 := blk_frozen BK183.out 0
                    have hfz34_1 := blk_frozen BK183.out 1
                    have hfz34_2 := blk_frozen BK183.out 2
                    have p185 : 0 ≤ (x5_2 : Int) := of_decide_eq_true (by first | (with_reducible assumption) | assumption)
                    have q185 : x5_2 < (l0_2.length : Int) := of_decide_eq_true (by first | (with_reducible assumption) | assumption)
                    obtain ⟨ad185, e185, hx185_0, hx185_1, hx185_2⟩ := at_T57 HR0_2.out x5_2 p185 q185
                    cases e185
                    replace hx185_0 := (HB.out.cell (World.block_lt_of_cell? w _ hx185_0)).trans hx185_0
                    replace hx185_1 := (HB.out.cell (World.block_lt_of_cell? w _ hx185_1)).trans hx185_1
                    replace hx185_2 := (HB.out.cell (World.block_lt_of_cell? w _ hx185_2)).trans hx185_2
                    replace p185 := eq_true p185
                    replace q185 := eq_true q185
                    have hcz35_0 : wr.cell? ⟨gb184, 0, none⟩ = some (.int .u32 a1_0) := (blk_cell BK184.out 0).trans rfl
                    have hcz35_1 : wr.cell? ⟨gb184, 1, none⟩ = some (.int .u64 a1_1) := (blk_cell BK184.out 1).trans rfl
                    have hcz35_2 : wr.cell? ⟨gb184, 2, none⟩ = some (.slice A1_2 l1_2.length c1_2) := (blk_cell BK184.out 2).trans rfl
                    have hfz35_0 := blk_frozen BK184.out 0
                    have hfz35_1 := blk_frozen BK184.out 1
                    have hfz35_2 := blk_frozen BK184.out 2
                    have p186 : 0 ≤ (x5_2 : Int) := of_decide_eq_true (by first | (with_reducible assumption) | assumption)
                    have q186 : x5_2 < (l1_2.length : Int) := of_decide_eq_true (by first | (with_reducible assumption) | assumption)
                    obtain ⟨ad186, e186, hx186_0, hx186_1, hx186_2⟩ := at_T31 HR1_2.out x5_2 p186 q186
                    cases e186
                    replace hx186_0 := (HB.out.cell (World.block_lt_of_cell? w _ hx186_0)).trans hx186_0
                    replace hx186_1 := (HB.out.cell (World.block_lt_of_cell? w _ hx186_1)).trans hx186_1
                    replace hx186_2 := (HB.out.cell (World.block_lt_of_cell? w _ hx186_2)).trans hx186_2
                    replace p186 := eq_true p186
                    replace q186 := eq_true q186
                    go_wp2
                    repeat (go_quiet (fail); try go_wp2)
                    go_ret
                    exact ⟨by first | rfl | (simp [errW_none, errW_some] <;> rfl) | (simp [*, errW_none, errW_some] <;> rfl), by repeat (first | (with_reducible first | exact HB.out | apply below_alloc | apply pw_below_drewN | apply below_drew1 | refine below_set ?_ GE183.out | refine below_set ?_ GE184.out) | exact HB.out)⟩
                · rw [if_neg c20] at H
                  exact absurd H (by simp)
              · rw [if_neg c19] at H
                exact absurd H (by simp)
            · rw [if_neg c18] at H
              have c18b0 : decide (x5_2 < (l0_2.length : Int)) = false := decide_eq_false c18
              clear c18
              obtain rfl := Option.some.inj H
              have hnb36 := NB183_184.out
              have hnc36 := NB184_183.out
              have hcz37_0 : wr.cell? ⟨gb183, 0, none⟩ = some (.int .u32 a0_0) := (blk_cell BK183.out 0).trans rfl
              have hcz37_1 : wr.cell? ⟨gb183, 1, none⟩ = some (.int .u64 a0_1) := (blk_cell BK183.out 1).trans rfl
              have hcz37_2 : wr.cell? ⟨gb183, 2, none⟩ = some (.slice A0_2 l0_2.length c0_2) := (blk_cell BK183.out 2).trans rfl
              have hfz37_0 := blk_frozen BK183.out 0
              have hfz37_1 := blk_frozen BK183.out 1
              have hfz37_2 := blk_frozen BK183.out 2
              go_wp2
              repeat (go_quiet (fail); try go_wp2)
              go_ret
              exact ⟨by first | rfl | (simp [errW_none, errW_some] <;> rfl) | (simp [*, errW_none, errW_some] <;> rfl), by repeat (first | (with_reducible first | exact HB.out | apply below_alloc | apply pw_below_drewN | apply below_drew1 | refine below_set ?_ GE183.out | refine below_set ?_ GE184.out) | exact HB.out)⟩

-- NOT PRINTED: function 3 (rubricatorlaw21_CatalogPuts)

end Go.Proofs.YtkgffeclgapkbaaDoor.PCatalogPuts
