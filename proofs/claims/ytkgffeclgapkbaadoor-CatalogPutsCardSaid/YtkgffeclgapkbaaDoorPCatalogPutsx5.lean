-- PRINTED BY print.sh 35421559b90ae4d0a3588c463048766b98c2df88dd9212a6774a882060cdf62d: not written by this session
import Derived.Test.YtkgffeclgapkbaaDoorPCatalogPutsx0
import Derived.Test.YtkgffeclgapkbaaDoorPCatalogPutsx4
namespace Go.Proofs.YtkgffeclgapkbaaDoor.PCatalogPuts
open Go.RowKit Go.Proofs.YtkgffeclgapkbaaDoorW.PrintWords Go.Proofs.YtkgffeclgapkbaaDoorW.PrintLast Go.Proofs.YtkgffeclgapkbaaDoorW.PrintMore
attribute [local go_sem] max2_int min2_int max_two min_two max_three min_three max_four min_four   -- for this text's walks alone
set_option linter.unusedVariables false
set_option linter.unusedSimpArgs false

/-! ### rubricatorref21_Right: function 10 -/
mutual
def rubricatorref21_Right.j0 : Nat → Bool → Int → Int → List (S31) → Option (Bool)
  | 0, _, _, _, _ => none
  | k + 1, x21, x153000, x153001, x153002 => if x21 = true then (some false) else (rubricatorref21_Right.l0 k 0 x153000 x153001 x153002)
def rubricatorref21_Right.l0 : Nat → Int → Int → Int → List (S31) → Option (Bool)
  | 0, _, _, _, _ => none
  | k + 1, x3, x153000, x153001, x153002 => if x3 < (x153002.length : Int) then (if 0 ≤ x3 then ((rubricatorref18_Parse.f k ((rd_T31 x153002 x3).f1)).bind fun bt155 => (if ((rd_T31 x153002 x3).f0) < 1 then (rubricatorref21_Right.j2 k x3 true x153000 x153001 x153002 ((rd_T31 x153002 x3).f0) ((rd_T31 x153002 x3).f1) ((rd_T31 x153002 x3).f2)) else (if ((rd_T31 x153002 x3).f0) > 255 then (rubricatorref21_Right.j2 k x3 true x153000 x153001 x153002 ((rd_T31 x153002 x3).f0) ((rd_T31 x153002 x3).f1) ((rd_T31 x153002 x3).f2)) else (if bt155.2 = 0 then (if x3 > 0 then (if 0 ≤ (wrap64 (x3 - 1)) then (if (wrap64 (x3 - 1)) < (x153002.length : Int) then (rubricatorref21_Right.j2 k x3 (decide (((rd_T31 x153002 (wrap64 (x3 - 1))).f0) ≥ ((rd_T31 x153002 x3).f0))) x153000 x153001 x153002 ((rd_T31 x153002 x3).f0) ((rd_T31 x153002 x3).f1) ((rd_T31 x153002 x3).f2)) else (none)) else (none)) else (rubricatorref21_Right.j2 k x3 false x153000 x153001 x153002 ((rd_T31 x153002 x3).f0) ((rd_T31 x153002 x3).f1) ((rd_T31 x153002 x3).f2))) else (rubricatorref21_Right.j2 k x3 true x153000 x153001 x153002 ((rd_T31 x153002 x3).f0) ((rd_T31 x153002 x3).f1) ((rd_T31 x153002 x3).f2)))))) else (none)) else (some true)
def rubricatorref21_Right.j2 : Nat → Int → Bool → Int → Int → List (S31) → Int → ByteArray → Bool → Option (Bool)
  | 0, _, _, _, _, _, _, _, _ => none
  | k + 1, x3, x67, x153000, x153001, x153002, x155000, x155001, x155002 => if x67 = true then (some false) else (rubricatorref21_Right.l1 k x3 0 x153000 x153001 x153002 x155000 x155001 x155002)
def rubricatorref21_Right.l1 : Nat → Int → Int → Int → Int → List (S31) → Int → ByteArray → Bool → Option (Bool)
  | 0, _, _, _, _, _, _, _, _ => none
  | k + 1, x3, x7, x153000, x153001, x153002, x155000, x155001, x155002 => if x7 < x3 then (if 0 ≤ x7 then (if x7 < (x153002.length : Int) then (if ((rd_T31 x153002 x7).f1).toList = x155001.toList then (some false) else (rubricatorref21_Right.l1 k x3 (wrap64 (x7 + 1)) x153000 x153001 x153002 x155000 x155001 x155002)) else (none)) else (none)) else (rubricatorref21_Right.l0 k (wrap64 (x3 + 1)) x153000 x153001 x153002)
end
def rubricatorref21_Right.f (k : Nat) (a0_0 : Int) (a0_1 : Int) (l0_2 : List (S31)) : Option (Bool) := if a0_0 = 0 then (rubricatorref21_Right.j0 k true a0_0 a0_1 l0_2) else (if a0_1 = 0 then (rubricatorref21_Right.j0 k true a0_0 a0_1 l0_2) else (rubricatorref21_Right.j0 k (decide ((l0_2.length : Int) > 8)) a0_0 a0_1 l0_2))
theorem rubricatorref21_Right.mono_l : ∀ k, (∀ y0 y1 y2 y3, LeO (rubricatorref21_Right.j0 k y0 y1 y2 y3) (rubricatorref21_Right.j0 (k + 1) y0 y1 y2 y3)) ∧ (∀ y0 y1 y2 y3, LeO (rubricatorref21_Right.l0 k y0 y1 y2 y3) (rubricatorref21_Right.l0 (k + 1) y0 y1 y2 y3)) ∧ (∀ y0 y1 y2 y3 y4 y5 y6 y7, LeO (rubricatorref21_Right.j2 k y0 y1 y2 y3 y4 y5 y6 y7) (rubricatorref21_Right.j2 (k + 1) y0 y1 y2 y3 y4 y5 y6 y7)) ∧ (∀ y0 y1 y2 y3 y4 y5 y6 y7, LeO (rubricatorref21_Right.l1 k y0 y1 y2 y3 y4 y5 y6 y7) (rubricatorref21_Right.l1 (k + 1) y0 y1 y2 y3 y4 y5 y6 y7))
  | 0 => ⟨fun _ _ _ _ r h => by simp [rubricatorref21_Right.j0] at h, fun _ _ _ _ r h => by simp [rubricatorref21_Right.l0] at h, fun _ _ _ _ _ _ _ _ r h => by simp [rubricatorref21_Right.j2] at h, fun _ _ _ _ _ _ _ _ r h => by simp [rubricatorref21_Right.l1] at h⟩
  | k + 1 => by
    obtain ⟨ih0, ih1, ih2, ih3⟩ := rubricatorref21_Right.mono_l k
    refine ⟨?_, ?_, ?_, ?_⟩
    · intro y0 y1 y2 y3
      unfold rubricatorref21_Right.j0
      repeat' first
      | (with_reducible exact ih0 _ _ _ _)
      | (with_reducible exact ih1 _ _ _ _)
      | (with_reducible exact ih2 _ _ _ _ _ _ _ _)
      | (with_reducible exact ih3 _ _ _ _ _ _ _ _)
      | (with_reducible exact rubricatorref18_Parse.mono _ _)
      | (with_reducible exact LeO.refl _)
      | (with_reducible exact LeO.none _)
      | (with_reducible refine LeO.ite ?_ ?_)
      | (with_reducible refine LeO.bind ?_ (fun _ => ?_))
      | exact ih0 _ _ _ _
      | exact ih1 _ _ _ _
      | exact ih2 _ _ _ _ _ _ _ _
      | exact ih3 _ _ _ _ _ _ _ _
      | exact rubricatorref18_Parse.mono _ _
      | exact LeO.none _
      | refine LeO.ite ?_ ?_
      | refine LeO.bind ?_ (fun _ => ?_)
    · intro y0 y1 y2 y3
      unfold rubricatorref21_Right.l0
      repeat' first
      | (with_reducible exact ih0 _ _ _ _)
      | (with_reducible exact ih1 _ _ _ _)
      | (with_reducible exact ih2 _ _ _ _ _ _ _ _)
      | (with_reducible exact ih3 _ _ _ _ _ _ _ _)
      | (with_reducible exact rubricatorref18_Parse.mono _ _)
      | (with_reducible exact LeO.refl _)
      | (with_reducible exact LeO.none _)
      | (with_reducible refine LeO.ite ?_ ?_)
      | (with_reducible refine LeO.bind ?_ (fun _ => ?_))
      | exact ih0 _ _ _ _
      | exact ih1 _ _ _ _
      | exact ih2 _ _ _ _ _ _ _ _
      | exact ih3 _ _ _ _ _ _ _ _
      | exact rubricatorref18_Parse.mono _ _
      | exact LeO.none _
      | refine LeO.ite ?_ ?_
      | refine LeO.bind ?_ (fun _ => ?_)
    · intro y0 y1 y2 y3 y4 y5 y6 y7
      unfold rubricatorref21_Right.j2
      repeat' first
      | (with_reducible exact ih0 _ _ _ _)
      | (with_reducible exact ih1 _ _ _ _)
      | (with_reducible exact ih2 _ _ _ _ _ _ _ _)
      | (with_reducible exact ih3 _ _ _ _ _ _ _ _)
      | (with_reducible exact rubricatorref18_Parse.mono _ _)
      | (with_reducible exact LeO.refl _)
      | (with_reducible exact LeO.none _)
      | (with_reducible refine LeO.ite ?_ ?_)
      | (with_reducible refine LeO.bind ?_ (fun _ => ?_))
      | exact ih0 _ _ _ _
      | exact ih1 _ _ _ _
      | exact ih2 _ _ _ _ _ _ _ _
      | exact ih3 _ _ _ _ _ _ _ _
      | exact rubricatorref18_Parse.mono _ _
      | exact LeO.none _
      | refine LeO.ite ?_ ?_
      | refine LeO.bind ?_ (fun _ => ?_)
    · intro y0 y1 y2 y3 y4 y5 y6 y7
      unfold rubricatorref21_Right.l1
      repeat' first
      | (with_reducible exact ih0 _ _ _ _)
      | (with_reducible exact ih1 _ _ _ _)
      | (with_reducible exact ih2 _ _ _ _ _ _ _ _)
      | (with_reducible exact ih3 _ _ _ _ _ _ _ _)
      | (with_reducible exact rubricatorref18_Parse.mono _ _)
      | (with_reducible exact LeO.refl _)
      | (with_reducible exact LeO.none _)
      | (with_reducible refine LeO.ite ?_ ?_)
      | (with_reducible refine LeO.bind ?_ (fun _ => ?_))
      | exact ih0 _ _ _ _
      | exact ih1 _ _ _ _
      | exact ih2 _ _ _ _ _ _ _ _
      | exact ih3 _ _ _ _ _ _ _ _
      | exact rubricatorref18_Parse.mono _ _
      | exact LeO.none _
      | refine LeO.ite ?_ ?_
      | refine LeO.bind ?_ (fun _ => ?_)
theorem rubricatorref21_Right.mono : ∀ a0 a1 a2 k, LeO (rubricatorref21_Right.f k a0 a1 a2) (rubricatorref21_Right.f (k + 1) a0 a1 a2) := by
  intro a0 a1 a2 k
  obtain ⟨ih0, ih1, ih2, ih3⟩ := rubricatorref21_Right.mono_l k
  unfold rubricatorref21_Right.f
  repeat' first
      | (with_reducible exact ih0 _ _ _ _)
      | (with_reducible exact ih1 _ _ _ _)
      | (with_reducible exact ih2 _ _ _ _ _ _ _ _)
      | (with_reducible exact ih3 _ _ _ _ _ _ _ _)
      | (with_reducible exact rubricatorref18_Parse.mono _ _)
      | (with_reducible exact LeO.refl _)
      | (with_reducible exact LeO.none _)
      | (with_reducible refine LeO.ite ?_ ?_)
      | (with_reducible refine LeO.bind ?_ (fun _ => ?_))
      | exact ih0 _ _ _ _
      | exact ih1 _ _ _ _
      | exact ih2 _ _ _ _ _ _ _ _
      | exact ih3 _ _ _ _ _ _ _ _
      | exact rubricatorref18_Parse.mono _ _
      | exact LeO.none _
      | refine LeO.ite ?_ ?_
      | refine LeO.bind ?_ (fun _ => ?_)
set_option maxHeartbeats 8000000 in
set_option maxRecDepth 100000 in
theorem rubricatorref21_Right.calls (k : Nat) (a0_0 : Int) (a0_1 : Int) (A0_2 : Option Addr) (c0_2 : Nat) (l0_2 : List (S31)) (r : Bool) (w : World) (hr0_2 : Kd.C k31 w A0_2 l0_2.length l0_2) (hc0_2 : l0_2.length ≤ c0_2) (h : rubricatorref21_Right.f k a0_0 a0_1 l0_2 = some r) :
    Calls Tryd.prog 10 #[.agg #[.int .u32 a0_0, .int .u64 a0_1, .slice A0_2 l0_2.length c0_2]] w fun e w' => e = .returned (.bool r) ∧ Below w.heap.size w w' := by
  have hu26 := Tryd.underlying26
  have hu31 := Tryd.underlying31
  have HR0_2 := Aside0.mk hr0_2
  have HC0_2 := Aside0.mk hc0_2
  clear hr0_2 hc0_2
  have HB := Aside0.mk (Below.refl w.heap.size w)
  have H : (if a0_0 = 0 then (rubricatorref21_Right.j0 k true a0_0 a0_1 l0_2) else (if a0_1 = 0 then (rubricatorref21_Right.j0 k true a0_0 a0_1 l0_2) else (rubricatorref21_Right.j0 k (decide ((l0_2.length : Int) > 8)) a0_0 a0_1 l0_2))) = some r := h
  clear h
  have HC2 := Aside0.mk H
  clear H
  go_enter Tryd.func10, Tryd.ntmps10
  go_upto_region 1 with (first | ((with_reducible refine gate_dst (N := 1) rfl ?_); (try (refine gate_guard (by rfl) ?_; dsimp only)); refine box_event ?hg (N := 1) ?hd (cs := #[.int .u32 a0_0, .int .u64 a0_1, .slice A0_2 l0_2.length c0_2]) (t := 26) ?hr ?_; (case hd => rfl); (case hg => rfl); (case hr => first | (go_simp; done) | (go_simp; rfl)); intro gb152 hg w3 hbox hb; have n0_ := Aside0.mk (below_step (by repeat (first | (with_reducible first | exact HB.out | apply below_alloc | apply pw_below_drewN | apply below_drew1) | exact HB.out)) hb); have n1_ := Aside0.mk (hbox); have n2_ := Aside0.mk ((by rw [hg]; exact (below_size (by repeat (first | (with_reducible first | exact HB.out | apply below_alloc | apply pw_below_drewN | apply below_drew1) | exact HB.out))) : w.heap.size ≤ gb152)); have n3_ := Aside0.mk ((by rw [hg]; exact (below_size (by repeat (first | (with_reducible first | exact HB.out | apply below_alloc | apply pw_below_drewN | apply below_drew1) | exact HB.out))) : w.heap.size ≤ gb152)); clear HB; have HB := n0_; have BK152 := n1_; have GW152 := n2_; have GE152 := n3_; clear n0_ n1_ n2_ n3_; clear hb hbox hg))
  repeat (go_quiet (first | ((with_reducible refine gate_dst (N := 1) rfl ?_); (try (refine gate_guard (by rfl) ?_; dsimp only)); refine box_event ?hg (N := 1) ?hd (cs := #[.int .u32 a0_0, .int .u64 a0_1, .slice A0_2 l0_2.length c0_2]) (t := 26) ?hr ?_; (case hd => rfl); (case hg => rfl); (case hr => first | (go_simp; done) | (go_simp; rfl)); intro gb152 hg w3 hbox hb; have n0_ := Aside0.mk (below_step (by repeat (first | (with_reducible first | exact HB.out | apply below_alloc | apply pw_below_drewN | apply below_drew1) | exact HB.out)) hb); have n1_ := Aside0.mk (hbox); have n2_ := Aside0.mk ((by rw [hg]; exact (below_size (by repeat (first | (with_reducible first | exact HB.out | apply below_alloc | apply pw_below_drewN | apply below_drew1) | exact HB.out))) : w.heap.size ≤ gb152)); have n3_ := Aside0.mk ((by rw [hg]; exact (below_size (by repeat (first | (with_reducible first | exact HB.out | apply below_alloc | apply pw_below_drewN | apply below_drew1) | exact HB.out))) : w.heap.size ≤ gb152)); clear HB; have HB := n0_; have BK152 := n1_; have GW152 := n2_; have GE152 := n3_; clear n0_ n1_ n2_ n3_; clear hb hbox hg)); go_upto_region 1 with (first | ((with_reducible refine gate_dst (N := 1) rfl ?_); (try (refine gate_guard (by rfl) ?_; dsimp only)); refine box_event ?hg (N := 1) ?hd (cs := #[.int .u32 a0_0, .int .u64 a0_1, .slice A0_2 l0_2.length c0_2]) (t := 26) ?hr ?_; (case hd => rfl); (case hg => rfl); (case hr => first | (go_simp; done) | (go_simp; rfl)); intro gb152 hg w3 hbox hb; have n0_ := Aside0.mk (below_step (by repeat (first | (with_reducible first | exact HB.out | apply below_alloc | apply pw_below_drewN | apply below_drew1) | exact HB.out)) hb); have n1_ := Aside0.mk (hbox); have n2_ := Aside0.mk ((by rw [hg]; exact (below_size (by repeat (first | (with_reducible first | exact HB.out | apply below_alloc | apply pw_below_drewN | apply below_drew1) | exact HB.out))) : w.heap.size ≤ gb152)); have n3_ := Aside0.mk ((by rw [hg]; exact (below_size (by repeat (first | (with_reducible first | exact HB.out | apply below_alloc | apply pw_below_drewN | apply below_drew1) | exact HB.out))) : w.heap.size ≤ gb152)); clear HB; have HB := n0_; have BK152 := n1_; have GW152 := n2_; have GE152 := n3_; clear n0_ n1_ n2_ n3_; clear hb hbox hg)))
  (try simp only [Act.put, List.setIfInBounds_toArray, List.set_cons_zero, List.set_cons_succ])
  go_cut [21] (fun v21 wc => ∃ (kq : Nat) (x21_1 : Bool), v21 = .bool x21_1 ∧ Aside0 (rubricatorref21_Right.j0 kq x21_1 a0_0 a0_1 l0_2 = some r) ∧ Aside0 (kq ≤ k) ∧ Aside0 (wc.heap[gb152]? = some (.cells #[.int .u32 a0_0, .int .u64 a0_1, (.slice A0_2 l0_2.length c0_2)] 26 (0, 0))) ∧ Aside0 (Below w.heap.size w wc))
  case first =>
    have H := HC2.out
    clear HC2
    by_cases c4 : a0_0 = 0
    · rw [if_pos c4] at H
      have c4b0 : (a0_0 == 0) = true := beq_iff_eq.mpr c4
      have c4b1 : (a0_0 != 0) = false := bne_eq_false_iff_eq.mpr c4
      clear c4
      (first | rw [c4b0] | (simp only [i64_w, i32_w]; rw [c4b0]) | skip)
      have H' := Aside0.mk H
      clear H
      have hcz5_0 : w3.cell? ⟨gb152, 0, none⟩ = some (.int .u32 a0_0) := (blk_cell BK152.out 0).trans rfl
      have hcz5_1 : w3.cell? ⟨gb152, 1, none⟩ = some (.int .u64 a0_1) := (blk_cell BK152.out 1).trans rfl
      have hcz5_2 : w3.cell? ⟨gb152, 2, none⟩ = some (.slice A0_2 l0_2.length c0_2) := (blk_cell BK152.out 2).trans rfl
      have hfz5_0 := blk_frozen BK152.out 0
      have hfz5_1 := blk_frozen BK152.out 1
      have hfz5_2 := blk_frozen BK152.out 2
      go_wp2
      repeat (go_quiet (fail); try go_wp2)
      go_meet
      case rel => exact ⟨_, (true), (by first | rfl | (simp; done) | (simp [*]; done)), H', ⟨by first | omega | exact Nat.le_refl _⟩, ⟨by (with_reducible repeat (first | refine blk_drewN ?_ _ | refine blk_drew ?_ | refine blk_alloc ?_ _)); exact BK152.out⟩, ⟨by repeat (first | (with_reducible first | exact HB.out | apply below_alloc | apply pw_below_drewN | apply below_drew1 | refine below_set ?_ GE152.out) | exact HB.out)⟩⟩
    · rw [if_neg c4] at H
      have c4b0 : (a0_0 == 0) = false := beq_eq_false_iff_ne.mpr c4
      have c4b1 : (a0_0 != 0) = true := bne_iff_ne.mpr c4
      (first | rw [c4b0] | (simp only [i64_w, i32_w]; rw [c4b0]) | skip)
      by_cases c6 : a0_1 = 0
      · rw [if_pos c6] at H
        have c6b0 : (a0_1 == 0) = true := beq_iff_eq.mpr c6
        have c6b1 : (a0_1 != 0) = false := bne_eq_false_iff_eq.mpr c6
        clear c6
        have H' := Aside0.mk H
        clear H
        have hcz7_0 : w3.cell? ⟨gb152, 0, none⟩ = some (.int .u32 a0_0) := (blk_cell BK152.out 0).trans rfl
        have hcz7_1 : w3.cell? ⟨gb152, 1, none⟩ = some (.int .u64 a0_1) := (blk_cell BK152.out 1).trans rfl
        have hcz7_2 : w3.cell? ⟨gb152, 2, none⟩ = some (.slice A0_2 l0_2.length c0_2) := (blk_cell BK152.out 2).trans rfl
        have hfz7_0 := blk_frozen BK152.out 0
        have hfz7_1 := blk_frozen BK152.out 1
        have hfz7_2 := blk_frozen BK152.out 2
        go_wp2
        repeat (go_quiet (fail); try go_wp2)
        go_meet
        case rel => exact ⟨_, (true), (by first | rfl | (simp; done) | (simp [*]; done)), H', ⟨by first | omega | exact Nat.le_refl _⟩, ⟨by (with_reducible repeat (first | refine blk_drewN ?_ _ | refine blk_drew ?_ | refine blk_alloc ?_ _)); exact BK152.out⟩, ⟨by repeat (first | (with_reducible first | exact HB.out | apply below_alloc | apply pw_below_drewN | apply below_drew1 | refine below_set ?_ GE152.out) | exact HB.out)⟩⟩
      · rw [if_neg c6] at H
        have c6b0 : (a0_1 == 0) = false := beq_eq_false_iff_ne.mpr c6
        have c6b1 : (a0_1 != 0) = true := bne_iff_ne.mpr c6
        have H' := Aside0.mk H
        clear H
        have hcz8_0 : w3.cell? ⟨gb152, 0, none⟩ = some (.int .u32 a0_0) := (blk_cell BK152.out 0).trans rfl
        have hcz8_1 : w3.cell? ⟨gb152, 1, none⟩ = some (.int .u64 a0_1) := (blk_cell BK152.out 1).trans rfl
        have hcz8_2 : w3.cell? ⟨gb152, 2, none⟩ = some (.slice A0_2 l0_2.length c0_2) := (blk_cell BK152.out 2).trans rfl
        have hfz8_0 := blk_frozen BK152.out 0
        have hfz8_1 := blk_frozen BK152.out 1
        have hfz8_2 := blk_frozen BK152.out 2
        go_wp2
        repeat (go_quiet (fail); try go_wp2)
        go_meet
        case rel => exact ⟨_, (decide ((l0_2.length : Int) > 8)), (by first | rfl | (simp; done) | (simp [*]; done)), H', ⟨by first | omega | exact Nat.le_refl _⟩, ⟨by (with_reducible repeat (first | refine blk_drewN ?_ _ | refine blk_drew ?_ | refine blk_alloc ?_ _)); exact BK152.out⟩, ⟨by repeat (first | (with_reducible first | exact HB.out | apply below_alloc | apply pw_below_drewN | apply below_drew1 | refine below_set ?_ GE152.out) | exact HB.out)⟩⟩
  case rest =>
    clear HC2
    try clear c1
    try clear p2
    try clear c4
    try clear c4b0
    try clear c4b1
    try clear c6
    try clear c6b0
    try clear c6b1
    try clear hcz5_0
    try clear hcz5_1
    try clear hcz5_2
    try clear hcz7_0
    try clear hcz7_1
    try clear hcz7_2
    try clear hcz8_0
    try clear hcz8_1
    try clear hcz8_2
    try clear hfz5_0
    try clear hfz5_1
    try clear hfz5_2
    try clear hfz7_0
    try clear hfz7_1
    try clear hfz7_2
    try clear hfz8_0
    try clear hfz8_1
    try clear hfz8_2
    obtain ⟨kq, x21_1, rfl, HA, HJ1, BK152, HB⟩ := hcut
    cases kq with
    | zero => exact absurd HA.out (by simp [rubricatorref21_Right.j0])
    | succ kj1 =>
      have H := HA.out
      clear HA
      simp only [rubricatorref21_Right.j0] at H
      by_cases c9 : x21_1 = true
      · subst c9
        have H1 : (some false) = some r := by rw [if_pos rfl] at H; exact H
        clear H
        have H := H1
        clear H1
        obtain rfl := Option.some.inj H
        go_wp2
        repeat (go_quiet (fail); try go_wp2)
        go_ret
        exact ⟨by first | rfl | (simp [errW_none, errW_some] <;> rfl) | (simp [*, errW_none, errW_some] <;> rfl), by repeat (first | (with_reducible first | exact HB.out | apply below_alloc | apply pw_below_drewN | apply below_drew1 | refine below_set ?_ GE152.out) | exact HB.out)⟩
      · replace c9 := Bool.eq_false_iff.mpr c9
        subst c9
        have H1 : (rubricatorref21_Right.l0 kj1 0 a0_0 a0_1 l0_2) = some r := by rw [if_neg (show ¬ (false = true) by decide)] at H; exact H
        clear H
        have H := H1
        clear H1
        have H' := Aside0.mk H
        clear H
        go_wp2
        repeat (go_quiet (fail); try go_wp2)
        go_loopg [3] kj1 (fun kq v3 w' => ∃ (x3_2 : Int), v3 = .int .i64 x3_2 ∧ Aside0 (rubricatorref21_Right.l0 kq x3_2 a0_0 a0_1 l0_2 = some r) ∧ Aside0 (kq ≤ kj1) ∧ Aside0 (w'.heap[gb152]? = some (.cells #[.int .u32 a0_0, .int .u64 a0_1, (.slice A0_2 l0_2.length c0_2)] 26 (0, 0))) ∧ Aside0 (Below w.heap.size w w'))
        case atStart => exact ⟨(0), (by first | rfl | (simp; done) | (simp [*]; done)), H', ⟨Nat.le_refl _⟩, ⟨by (with_reducible repeat (first | refine blk_drewN ?_ _ | refine blk_drew ?_ | refine blk_alloc ?_ _)); exact BK152.out⟩, ⟨by repeat (first | (with_reducible first | exact HB.out | apply below_alloc | apply pw_below_drewN | apply below_drew1 | refine below_set ?_ GE152.out) | exact HB.out)⟩⟩
        case round =>
          clear H'
          try clear c1
          try clear p2
          try clear c4
          try clear c4b0
          try clear c4b1
          try clear c6
          try clear c6b0
          try clear c6b1
          try clear c9
          try clear hcz5_0
          try clear hcz5_1
          try clear hcz5_2
          try clear hcz7_0
          try clear hcz7_1
          try clear hcz7_2
          try clear hcz8_0
          try clear hcz8_1
          try clear hcz8_2
          try clear hfz5_0
          try clear hfz5_1
          try clear hfz5_2
          try clear hfz7_0
          try clear hfz7_1
          try clear hfz7_2
          try clear hfz8_0
          try clear hfz8_1
          try clear hfz8_2
          try clear p2
          obtain ⟨x3_2, rfl, HA, HK2, BK152, HB⟩ := hrel
          cases gk with
          | zero => exact absurd HA.out (by simp [rubricatorref21_Right.l0])
          | succ k2 =>
            have H := HA.out
            clear HA
            simp only [rubricatorref21_Right.l0] at H
            by_cases c10 : x3_2 < (l0_2.length : Int)
            · rw [if_pos c10] at H
              have c10b0 : decide (x3_2 < (l0_2.length : Int)) = true := decide_eq_true c10
              clear c10
              by_cases c11 : 0 ≤ x3_2
              · rw [if_pos c11] at H
                have c11b0 : decide (0 ≤ x3_2) = true := decide_eq_true c11
                clear c11
                replace H := Option.bind_eq_some_iff.mp H
                obtain ⟨⟨t155, t156⟩, A120, H⟩ := H
                replace H : (if ((rd_T31 l0_2 x3_2).f0) < 1 then (rubricatorref21_Right.j2 k2 x3_2 true a0_0 a0_1 l0_2 ((rd_T31 l0_2 x3_2).f0) ((rd_T31 l0_2 x3_2).f1) ((rd_T31 l0_2 x3_2).f2)) else (if ((rd_T31 l0_2 x3_2).f0) > 255 then (rubricatorref21_Right.j2 k2 x3_2 true a0_0 a0_1 l0_2 ((rd_T31 l0_2 x3_2).f0) ((rd_T31 l0_2 x3_2).f1) ((rd_T31 l0_2 x3_2).f2)) else (if t156 = 0 then (if x3_2 > 0 then (if 0 ≤ (wrap64 (x3_2 - 1)) then (if (wrap64 (x3_2 - 1)) < (l0_2.length : Int) then (rubricatorref21_Right.j2 k2 x3_2 (decide (((rd_T31 l0_2 (wrap64 (x3_2 - 1))).f0) ≥ ((rd_T31 l0_2 x3_2).f0))) a0_0 a0_1 l0_2 ((rd_T31 l0_2 x3_2).f0) ((rd_T31 l0_2 x3_2).f1) ((rd_T31 l0_2 x3_2).f2)) else (none)) else (none)) else (rubricatorref21_Right.j2 k2 x3_2 false a0_0 a0_1 l0_2 ((rd_T31 l0_2 x3_2).f0) ((rd_T31 l0_2 x3_2).f1) ((rd_T31 l0_2 x3_2).f2))) else (rubricatorref21_Right.j2 k2 x3_2 true a0_0 a0_1 l0_2 ((rd_T31 l0_2 x3_2).f0) ((rd_T31 l0_2 x3_2).f1) ((rd_T31 l0_2 x3_2).f2))))) = some r := H
                have A12 := Aside0.mk A120
                clear A120
                have HC13 := Aside0.mk H
                clear H
                have hcz14_0 : wr.cell? ⟨gb152, 0, none⟩ = some (.int .u32 a0_0) := (blk_cell BK152.out 0).trans rfl
                have hcz14_1 : wr.cell? ⟨gb152, 1, none⟩ = some (.int .u64 a0_1) := (blk_cell BK152.out 1).trans rfl
                have hcz14_2 : wr.cell? ⟨gb152, 2, none⟩ = some (.slice A0_2 l0_2.length c0_2) := (blk_cell BK152.out 2).trans rfl
                have hfz14_0 := blk_frozen BK152.out 0
                have hfz14_1 := blk_frozen BK152.out 1
                have hfz14_2 := blk_frozen BK152.out 2
                have p153 : 0 ≤ (x3_2 : Int) := of_decide_eq_true (by first | (with_reducible assumption) | assumption)
                have q153 : x3_2 < (l0_2.length : Int) := of_decide_eq_true (by first | (with_reducible assumption) | assumption)
                obtain ⟨ad153, e153, hx153_0, hx153_1, hx153_2⟩ := at_T31 HR0_2.out x3_2 p153 q153
                cases e153
                replace hx153_0 := (HB.out.cell (World.block_lt_of_cell? w _ hx153_0)).trans hx153_0
                replace hx153_1 := (HB.out.cell (World.block_lt_of_cell? w _ hx153_1)).trans hx153_1
                replace hx153_2 := (HB.out.cell (World.block_lt_of_cell? w _ hx153_2)).trans hx153_2
                replace p153 := eq_true p153
                replace q153 := eq_true q153
                go_upto_region 8 with (first | ((with_reducible refine gate_dst (N := 4) rfl ?_); (try (refine gate_guard (by rfl) ?_; dsimp only)); refine box_event ?hg (N := 4) ?hd (cs := #[.int .i64 0, .string (⟨#[]⟩ : ByteArray), .bool false]) (t := 31) ?hr ?_; (case hd => rfl); (case hg => rfl); (case hr => first | (go_simp; done) | (go_simp; rfl)); intro gb154 hg w15 hbox hb; have n0_ := Aside0.mk (blk_below (g := gb152) (o := .cells #[.int .u32 a0_0, .int .u64 a0_1, .slice (some ad153) l0_2.length c0_2] 26 (0, 0)) (by (with_reducible repeat (first | refine blk_drewN ?_ _ | refine blk_drew ?_ | refine blk_alloc ?_ _)); exact BK152.out) hb); have n1_ := Aside0.mk (below_step (by repeat (first | (with_reducible first | exact HB.out | apply below_alloc | apply pw_below_drewN | apply below_drew1 | refine below_set ?_ GE152.out) | exact HB.out)) hb); have n2_ := Aside0.mk (hbox); have n3_ := Aside0.mk ((by rw [hg]; exact (below_size (by repeat (first | (with_reducible first | exact HB.out | apply below_alloc | apply pw_below_drewN | apply below_drew1 | refine below_set ?_ GE152.out) | exact HB.out))) : w.heap.size ≤ gb154)); have n4_ := Aside0.mk ((by rw [hg]; exact (below_size (by repeat (first | (with_reducible first | exact HB.out | apply below_alloc | apply pw_below_drewN | apply below_drew1 | refine below_set ?_ GE152.out) | exact HB.out))) : w.heap.size ≤ gb154)); have n5_ := Aside0.mk ((by rw [hg]; exact Nat.ne_of_lt (blk_lt (g := gb152) (o := .cells #[.int .u32 a0_0, .int .u64 a0_1, .slice (some ad153) l0_2.length c0_2] 26 (0, 0)) (by (with_reducible repeat (first | refine blk_drewN ?_ _ | refine blk_drew ?_ | refine blk_alloc ?_ _)); exact BK152.out)) : gb152 ≠ gb154)); have n6_ := Aside0.mk ((by rw [hg]; exact Nat.ne_of_gt (blk_lt (g := gb152) (o := .cells #[.int .u32 a0_0, .int .u64 a0_1, .slice (some ad153) l0_2.length c0_2] 26 (0, 0)) (by (with_reducible repeat (first | refine blk_drewN ?_ _ | refine blk_drew ?_ | refine blk_alloc ?_ _)); exact BK152.out)) : gb154 ≠ gb152)); clear BK152; clear HB; have BK152 := n0_; have HB := n1_; have BK154 := n2_; have GW154 := n3_; have GE154 := n4_; have NB152_154 := n5_; have NB154_152 := n6_; clear n0_ n1_ n2_ n3_ n4_ n5_ n6_; clear hb hbox hg; have hnb16 := NB154_152.out; have hnc16 := NB152_154.out; have hcz17_0 : w15.cell? ⟨gb154, 0, none⟩ = some (.int .i64 0) := (blk_cell BK154.out 0).trans rfl; have hcz17_1 : w15.cell? ⟨gb154, 1, none⟩ = some (.string (⟨#[]⟩ : ByteArray)) := (blk_cell BK154.out 1).trans rfl; have hcz17_2 : w15.cell? ⟨gb154, 2, none⟩ = some (.bool false) := (blk_cell BK154.out 2).trans rfl; have hfz17_0 := blk_frozen BK154.out 0; have hfz17_1 := blk_frozen BK154.out 1; have hfz17_2 := blk_frozen BK154.out 2) | (go_at_call 31; (with_reducible refine (rubricatorref18_Parse.calls k2 ((rd_T31 l0_2 x3_2).f1) t155 t156 _ A12.out).mono ?_); rintro e w18 ⟨v157, rfl, ho0, hb⟩; have n0_ := Aside0.mk (Kd.R_lower ho0 (below_size (by repeat (first | (with_reducible first | exact HB.out | apply below_alloc | apply pw_below_drewN | apply below_drew1 | refine below_set ?_ GE152.out | refine below_set ?_ GE154.out) | exact HB.out)))); have n1_ := Aside0.mk (blk_below (g := gb152) (o := .cells #[.int .u32 a0_0, .int .u64 a0_1, .slice (some ad153) l0_2.length c0_2] 26 (0, 0)) (by (with_reducible repeat (first | refine blk_drewN ?_ _ | refine blk_drew ?_ | refine blk_alloc ?_ _)); refine blk_far ?_ NB152_154.out _; (with_reducible repeat (first | refine blk_drewN ?_ _ | refine blk_drew ?_ | refine blk_alloc ?_ _)); refine blk_far ?_ NB152_154.out _; (with_reducible repeat (first | refine blk_drewN ?_ _ | refine blk_drew ?_ | refine blk_alloc ?_ _)); refine blk_far ?_ NB152_154.out _; (with_reducible repeat (first | refine blk_drewN ?_ _ | refine blk_drew ?_ | refine blk_alloc ?_ _)); exact BK152.out) hb); have n2_ := Aside0.mk (blk_below (g := gb154) (o := .cells #[.int .i64 ((rd_T31 l0_2 x3_2).f0), .string ((rd_T31 l0_2 x3_2).f1), .bool ((rd_T31 l0_2 x3_2).f2)] 31 (0, 0)) (by (with_reducible repeat (first | refine blk_drewN ?_ _ | refine blk_drew ?_ | refine blk_alloc ?_ _)); refine blk_put (cs := #[.int .i64 ((rd_T31 l0_2 x3_2).f0), .string ((rd_T31 l0_2 x3_2).f1), .bool false]) ?_ 2 _ rfl; (with_reducible repeat (first | refine blk_drewN ?_ _ | refine blk_drew ?_ | refine blk_alloc ?_ _)); refine blk_put (cs := #[.int .i64 ((rd_T31 l0_2 x3_2).f0), .string (⟨#[]⟩ : ByteArray), .bool false]) ?_ 1 _ rfl; (with_reducible repeat (first | refine blk_drewN ?_ _ | refine blk_drew ?_ | refine blk_alloc ?_ _)); refine blk_put (cs := #[.int .i64 0, .string (⟨#[]⟩ : ByteArray), .bool false]) ?_ 0 _ rfl; (with_reducible repeat (first | refine blk_drewN ?_ _ | refine blk_drew ?_ | refine blk_alloc ?_ _)); exact BK154.out) hb); have n3_ := Aside0.mk (below_step (by repeat (first | (with_reducible first | exact HB.out | apply below_alloc | apply pw_below_drewN | apply below_drew1 | refine below_set ?_ GE152.out | refine below_set ?_ GE154.out) | exact HB.out)) hb); clear BK152; clear BK154; clear HB; have HO158 := n0_; have BK152 := n1_; have BK154 := n2_; have HB := n3_; clear n0_ n1_ n2_ n3_; (try clear hb); (try clear hb2); (try clear hk); (try clear hi); (try clear ho0)))
                repeat (go_quiet (first | ((with_reducible refine gate_dst (N := 4) rfl ?_); (try (refine gate_guard (by rfl) ?_; dsimp only)); refine box_event ?hg (N := 4) ?hd (cs := #[.int .i64 0, .string (⟨#[]⟩ : ByteArray), .bool false]) (t := 31) ?hr ?_; (case hd => rfl); (case hg => rfl); (case hr => first | (go_simp; done) | (go_simp; rfl)); intro gb154 hg w15 hbox hb; have n0_ := Aside0.mk (blk_below (g := gb152) (o := .cells #[.int .u32 a0_0, .int .u64 a0_1, .slice (some ad153) l0_2.length c0_2] 26 (0, 0)) (by (with_reducible repeat (first | refine blk_drewN ?_ _ | refine blk_drew ?_ | refine blk_alloc ?_ _)); exact BK152.out) hb); have n1_ := Aside0.mk (below_step (by repeat (first | (with_reducible first | exact HB.out | apply below_alloc | apply pw_below_drewN | apply below_drew1 | refine below_set ?_ GE152.out) | exact HB.out)) hb); have n2_ := Aside0.mk (hbox); have n3_ := Aside0.mk ((by rw [hg]; exact (below_size (by repeat (first | (with_reducible first | exact HB.out | apply below_alloc | apply pw_below_drewN | apply below_drew1 | refine below_set ?_ GE152.out) | exact HB.out))) : w.heap.size ≤ gb154)); have n4_ := Aside0.mk ((by rw [hg]; exact (below_size (by repeat (first | (with_reducible first | exact HB.out | apply below_alloc | apply pw_below_drewN | apply below_drew1 | refine below_set ?_ GE152.out) | exact HB.out))) : w.heap.size ≤ gb154)); have n5_ := Aside0.mk ((by rw [hg]; exact Nat.ne_of_lt (blk_lt (g := gb152) (o := .cells #[.int .u32 a0_0, .int .u64 a0_1, .slice (some ad153) l0_2.length c0_2] 26 (0, 0)) (by (with_reducible repeat (first | refine blk_drewN ?_ _ | refine blk_drew ?_ | refine blk_alloc ?_ _)); exact BK152.out)) : gb152 ≠ gb154)); have n6_ := Aside0.mk ((by rw [hg]; exact Nat.ne_of_gt (blk_lt (g := gb152) (o := .cells #[.int .u32 a0_0, .int .u64 a0_1, .slice (some ad153) l0_2.length c0_2] 26 (0, 0)) (by (with_reducible repeat (first | refine blk_drewN ?_ _ | refine blk_drew ?_ | refine blk_alloc ?_ _)); exact BK152.out)) : gb154 ≠ gb152)); clear BK152; clear HB; have BK152 := n0_; have HB := n1_; have BK154 := n2_; have GW154 := n3_; have GE154 := n4_; have NB152_154 := n5_; have NB154_152 := n6_; clear n0_ n1_ n2_ n3_ n4_ n5_ n6_; clear hb hbox hg; have hnb16 := NB154_152.out; have hnc16 := NB152_154.out; have hcz17_0 : w15.cell? ⟨gb154, 0, none⟩ = some (.int .i64 0) := (blk_cell BK154.out 0).trans rfl; have hcz17_1 : w15.cell? ⟨gb154, 1, none⟩ = some (.string (⟨#[]⟩ : ByteArray)) := (blk_cell BK154.out 1).trans rfl; have hcz17_2 : w15.cell? ⟨gb154, 2, none⟩ = some (.bool false) := (blk_cell BK154.out 2).trans rfl; have hfz17_0 := blk_frozen BK154.out 0; have hfz17_1 := blk_frozen BK154.out 1; have hfz17_2 := blk_frozen BK154.out 2) | (go_at_call 31; (with_reducible refine (rubricatorref18_Parse.calls k2 ((rd_T31 l0_2 x3_2).f1) t155 t156 _ A12.out).mono ?_); rintro e w18 ⟨v157, rfl, ho0, hb⟩; have n0_ := Aside0.mk (Kd.R_lower ho0 (below_size (by repeat (first | (with_reducible first | exact HB.out | apply below_alloc | apply pw_below_drewN | apply below_drew1 | refine below_set ?_ GE152.out | refine below_set ?_ GE154.out) | exact HB.out)))); have n1_ := Aside0.mk (blk_below (g := gb152) (o := .cells #[.int .u32 a0_0, .int .u64 a0_1, .slice (some ad153) l0_2.length c0_2] 26 (0, 0)) (by (with_reducible repeat (first | refine blk_drewN ?_ _ | refine blk_drew ?_ | refine blk_alloc ?_ _)); refine blk_far ?_ NB152_154.out _; (with_reducible repeat (first | refine blk_drewN ?_ _ | refine blk_drew ?_ | refine blk_alloc ?_ _)); refine blk_far ?_ NB152_154.out _; (with_reducible repeat (first | refine blk_drewN ?_ _ | refine blk_drew ?_ | refine blk_alloc ?_ _)); refine blk_far ?_ NB152_154.out _; (with_reducible repeat (first | refine blk_drewN ?_ _ | refine blk_drew ?_ | refine blk_alloc ?_ _)); exact BK152.out) hb); have n2_ := Aside0.mk (blk_below (g := gb154) (o := .cells #[.int .i64 ((rd_T31 l0_2 x3_2).f0), .string ((rd_T31 l0_2 x3_2).f1), .bool ((rd_T31 l0_2 x3_2).f2)] 31 (0, 0)) (by (with_reducible repeat (first | refine blk_drewN ?_ _ | refine blk_drew ?_ | refine blk_alloc ?_ _)); refine blk_put (cs := #[.int .i64 ((rd_T31 l0_2 x3_2).f0), .string ((rd_T31 l0_2 x3_2).f1), .bool false]) ?_ 2 _ rfl; (with_reducible repeat (first | refine blk_drewN ?_ _ | refine blk_drew ?_ | refine blk_alloc ?_ _)); refine blk_put (cs := #[.int .i64 ((rd_T31 l0_2 x3_2).f0), .string (⟨#[]⟩ : ByteArray), .bool false]) ?_ 1 _ rfl; (with_reducible repeat (first | refine blk_drewN ?_ _ | refine blk_drew ?_ | refine blk_alloc ?_ _)); refine blk_put (cs := #[.int .i64 0, .string (⟨#[]⟩ : ByteArray), .bool false]) ?_ 0 _ rfl; (with_reducible repeat (first | refine blk_drewN ?_ _ | refine blk_drew ?_ | refine blk_alloc ?_ _)); exact BK154.out) hb); have n3_ := Aside0.mk (below_step (by repeat (first | (with_reducible first | exact HB.out | apply below_alloc | apply pw_below_drewN | apply below_drew1 | refine below_set ?_ GE152.out | refine below_set ?_ GE154.out) | exact HB.out)) hb); clear BK152; clear BK154; clear HB; have HO158 := n0_; have BK152 := n1_; have BK154 := n2_; have HB := n3_; clear n0_ n1_ n2_ n3_; (try clear hb); (try clear hb2); (try clear hk); (try clear hi); (try clear ho0))); go_upto_region 8 with (first | ((with_reducible refine gate_dst (N := 4) rfl ?_); (try (refine gate_guard (by rfl) ?_; dsimp only)); refine box_event ?hg (N := 4) ?hd (cs := #[.int .i64 0, .string (⟨#[]⟩ : ByteArray), .bool false]) (t := 31) ?hr ?_; (case hd => rfl); (case hg => rfl); (case hr => first | (go_simp; done) | (go_simp; rfl)); intro gb154 hg w15 hbox hb; have n0_ := Aside0.mk (blk_below (g := gb152) (o := .cells #[.int .u32 a0_0, .int .u64 a0_1, .slice (some ad153) l0_2.length c0_2] 26 (0, 0)) (by (with_reducible repeat (first | refine blk_drewN ?_ _ | refine blk_drew ?_ | refine blk_alloc ?_ _)); exact BK152.out) hb); have n1_ := Aside0.mk (below_step (by repeat (first | (with_reducible first | exact HB.out | apply below_alloc | apply pw_below_drewN | apply below_drew1 | refine below_set ?_ GE152.out) | exact HB.out)) hb); have n2_ := Aside0.mk (hbox); have n3_ := Aside0.mk ((by rw [hg]; exact (below_size (by repeat (first | (with_reducible first | exact HB.out | apply below_alloc | apply pw_below_drewN | apply below_drew1 | refine below_set ?_ GE152.out) | exact HB.out))) : w.heap.size ≤ gb154)); have n4_ := Aside0.mk ((by rw [hg]; exact (below_size (by repeat (first | (with_reducible first | exact HB.out | apply below_alloc | apply pw_below_drewN | apply below_drew1 | refine below_set ?_ GE152.out) | exact HB.out))) : w.heap.size ≤ gb154)); have n5_ := Aside0.mk ((by rw [hg]; exact Nat.ne_of_lt (blk_lt (g := gb152) (o := .cells #[.int .u32 a0_0, .int .u64 a0_1, .slice (some ad153) l0_2.length c0_2] 26 (0, 0)) (by (with_reducible repeat (first | refine blk_drewN ?_ _ | refine blk_drew ?_ | refine blk_alloc ?_ _)); exact BK152.out)) : gb152 ≠ gb154)); have n6_ := Aside0.mk ((by rw [hg]; exact Nat.ne_of_gt (blk_lt (g := gb152) (o := .cells #[.int .u32 a0_0, .int .u64 a0_1, .slice (some ad153) l0_2.length c0_2] 26 (0, 0)) (by (with_reducible repeat (first | refine blk_drewN ?_ _ | refine blk_drew ?_ | refine blk_alloc ?_ _)); exact BK152.out)) : gb154 ≠ gb152)); clear BK152; clear HB; have BK152 := n0_; have HB := n1_; have BK154 := n2_; have GW154 := n3_; have GE154 := n4_; have NB152_154 := n5_; have NB154_152 := n6_; clear n0_ n1_ n2_ n3_ n4_ n5_ n6_; clear hb hbox hg; have hnb16 := NB154_152.out; have hnc16 := NB152_154.out; have hcz17_0 : w15.cell? ⟨gb154, 0, none⟩ = some (.int .i64 0) := (blk_cell BK154.out 0).trans rfl; have hcz17_1 : w15.cell? ⟨gb154, 1, none⟩ = some (.string (⟨#[]⟩ : ByteArray)) := (blk_cell BK154.out 1).trans rfl; have hcz17_2 : w15.cell? ⟨gb154, 2, none⟩ = some (.bool false) := (blk_cell BK154.out 2).trans rfl; have hfz17_0 := blk_frozen BK154.out 0; have hfz17_1 := blk_frozen BK154.out 1; have hfz17_2 := blk_frozen BK154.out 2) | (go_at_call 31; (with_reducible refine (rubricatorref18_Parse.calls k2 ((rd_T31 l0_2 x3_2).f1) t155 t156 _ A12.out).mono ?_); rintro e w18 ⟨v157, rfl, ho0, hb⟩; have n0_ := Aside0.mk (Kd.R_lower ho0 (below_size (by repeat (first | (with_reducible first | exact HB.out | apply below_alloc | apply pw_below_drewN | apply below_drew1 | refine below_set ?_ GE152.out | refine below_set ?_ GE154.out) | exact HB.out)))); have n1_ := Aside0.mk (blk_below (g := gb152) (o := .cells #[.int .u32 a0_0, .int .u64 a0_1, .slice (some ad153) l0_2.length c0_2] 26 (0, 0)) (by (with_reducible repeat (first | refine blk_drewN ?_ _ | refine blk_drew ?_ | refine blk_alloc ?_ _)); refine blk_far ?_ NB152_154.out _; (with_reducible repeat (first | refine blk_drewN ?_ _ | refine blk_drew ?_ | refine blk_alloc ?_ _)); refine blk_far ?_ NB152_154.out _; (with_reducible repeat (first | refine blk_drewN ?_ _ | refine blk_drew ?_ | refine blk_alloc ?_ _)); refine blk_far ?_ NB152_154.out _; (with_reducible repeat (first | refine blk_drewN ?_ _ | refine blk_drew ?_ | refine blk_alloc ?_ _)); exact BK152.out) hb); have n2_ := Aside0.mk (blk_below (g := gb154) (o := .cells #[.int .i64 ((rd_T31 l0_2 x3_2).f0), .string ((rd_T31 l0_2 x3_2).f1), .bool ((rd_T31 l0_2 x3_2).f2)] 31 (0, 0)) (by (with_reducible repeat (first | refine blk_drewN ?_ _ | refine blk_drew ?_ | refine blk_alloc ?_ _)); refine blk_put (cs := #[.int .i64 ((rd_T31 l0_2 x3_2).f0), .string ((rd_T31 l0_2 x3_2).f1), .bool false]) ?_ 2 _ rfl; (with_reducible repeat (first | refine blk_drewN ?_ _ | refine blk_drew ?_ | refine blk_alloc ?_ _)); refine blk_put (cs := #[.int .i64 ((rd_T31 l0_2 x3_2).f0), .string (⟨#[]⟩ : ByteArray), .bool false]) ?_ 1 _ rfl; (with_reducible repeat (first | refine blk_drewN ?_ _ | refine blk_drew ?_ | refine blk_alloc ?_ _)); refine blk_put (cs := #[.int .i64 0, .string (⟨#[]⟩ : ByteArray), .bool false]) ?_ 0 _ rfl; (with_reducible repeat (first | refine blk_drewN ?_ _ | refine blk_drew ?_ | refine blk_alloc ?_ _)); exact BK154.out) hb); have n3_ := Aside0.mk (below_step (by repeat (first | (with_reducible first | exact HB.out | apply below_alloc | apply pw_below_drewN | apply below_drew1 | refine below_set ?_ GE152.out | refine below_set ?_ GE154.out) | exact HB.out)) hb); clear BK152; clear BK154; clear HB; have HO158 := n0_; have BK152 := n1_; have BK154 := n2_; have HB := n3_; clear n0_ n1_ n2_ n3_; (try clear hb); (try clear hb2); (try clear hk); (try clear hi); (try clear ho0))))
                (try simp only [Act.put, List.setIfInBounds_toArray, List.set_cons_zero, List.set_cons_succ])
                go_cut [67] (fun v67 wc => ∃ (kq : Nat) (x67_12 : Bool), v67 = .bool x67_12 ∧ Aside0 (rubricatorref21_Right.j2 kq x3_2 x67_12 a0_0 a0_1 l0_2 ((rd_T31 l0_2 x3_2).f0) ((rd_T31 l0_2 x3_2).f1) ((rd_T31 l0_2 x3_2).f2) = some r) ∧ Aside0 (kq ≤ k2) ∧ Aside0 (wc.heap[gb152]? = some (.cells #[.int .u32 a0_0, .int .u64 a0_1, (.slice (some ad153) l0_2.length c0_2)] 26 (0, 0))) ∧ Aside0 (wc.heap[gb154]? = some (.cells #[.int .i64 ((rd_T31 l0_2 x3_2).f0), .string ((rd_T31 l0_2 x3_2).f1), .bool ((rd_T31 l0_2 x3_2).f2)] 31 (0, 0))) ∧ Aside0 (Below w.heap.size w wc))
                case first =>
                  have H := HC13.out
                  clear HC13
                  by_cases c19 : ((rd_T31 l0_2 x3_2).f0) < 1
                  · rw [if_pos c19] at H
                    have c19b0 : decide (((rd_T31 l0_2 x3_2).f0) < 1) = true := decide_eq_true c19
                    clear c19
                    (first | rw [c19b0] | (simp only [i64_w, i32_w]; rw [c19b0]) | skip)
                    have H' := Aside0.mk H
                    clear H
                    have hnb20 := NB154_152.out
                    have hnc20 := NB152_154.out
                    have hcz21_0 : w18.cell? ⟨gb154, 0, none⟩ = some (.int .i64 ((rd_T31 l0_2 x3_2).f0)) := (blk_cell BK154.out 0).trans rfl
                    have hcz21_1 : w18.cell? ⟨gb154, 1, none⟩ = some (.string ((rd_T31 l0_2 x3_2).f1)) := (blk_cell BK154.out 1).trans rfl
                    have hcz21_2 : w18.cell? ⟨gb154, 2, none⟩ = some (.bool ((rd_T31 l0_2 x3_2).f2)) := (blk_cell BK154.out 2).trans rfl
                    have hfz21_0 := blk_frozen BK154.out 0
                    have hfz21_1 := blk_frozen BK154.out 1
                    have hfz21_2 := blk_frozen BK154.out 2
                    go_wp2
                    repeat (go_quiet (fail); try go_wp2)
                    go_meet
                    case rel => exact ⟨_, (true), (by first | rfl | (simp; done) | (simp [*]; done)), H', ⟨by have := HJ1.out; have := HK2.out; first | omega | exact Nat.le_refl _⟩, ⟨by (with_reducible repeat (first | refine blk_drewN ?_ _ | refine blk_drew ?_ | refine blk_alloc ?_ _)); exact BK152.out⟩, ⟨by (with_reducible repeat (first | refine blk_drewN ?_ _ | refine blk_drew ?_ | refine blk_alloc ?_ _)); exact BK154.out⟩, ⟨by repeat (first | (with_reducible first | exact HB.out | apply below_alloc | apply pw_below_drewN | apply below_drew1 | refine below_set ?_ GE152.out | refine below_set ?_ GE154.out) | exact HB.out)⟩⟩
                  · rw [if_neg c19] at H
                    have c19b0 : decide (((rd_T31 l0_2 x3_2).f0) < 1) = false := decide_eq_false c19
                    clear c19
                    (first | rw [c19b0] | (simp only [i64_w, i32_w]; rw [c19b0]) | skip)
                    by_cases c22 : ((rd_T31 l0_2 x3_2).f0) > 255
                    · rw [if_pos c22] at H
                      have c22b0 : decide (255 < ((rd_T31 l0_2 x3_2).f0)) = true := decide_eq_true c22
                      clear c22
                      have H' := Aside0.mk H
                      clear H
                      have hnb23 := NB154_152.out
                      have hnc23 := NB152_154.out
                      have hcz24_0 : w18.cell? ⟨gb154, 0, none⟩ = some (.int .i64 ((rd_T31 l0_2 x3_2).f0)) := (blk_cell BK154.out 0).trans rfl
                      have hcz24_1 : w18.cell? ⟨gb154, 1, none⟩ = some (.string ((rd_T31 l0_2 x3_2).f1)) := (blk_cell BK154.out 1).trans rfl
                      have hcz24_2 : w18.cell? ⟨gb154, 2, none⟩ = some (.bool ((rd_T31 l0_2 x3_2).f2)) := (blk_cell BK154.out 2).trans rfl
                      have hfz24_0 := blk_frozen BK154.out 0
                      have hfz24_1 := blk_frozen BK154.out 1
                      have hfz24_2 := blk_frozen BK154.out 2
                      go_wp2
                      repeat (go_quiet (fail); try go_wp2)
                      go_meet
                      case rel => exact ⟨_, (true), (by first | rfl | (simp; done) | (simp [*]; done)), H', ⟨by have := HJ1.out; have := HK2.out; first | omega | exact Nat.le_refl _⟩, ⟨by (with_reducible repeat (first | refine blk_drewN ?_ _ | refine blk_drew ?_ | refine blk_alloc ?_ _)); exact BK152.out⟩, ⟨by (with_reducible repeat (first | refine blk_drewN ?_ _ | refine blk_drew ?_ | refine blk_alloc ?_ _)); exact BK154.out⟩, ⟨by repeat (first | (with_reducible first | exact HB.out | apply below_alloc | apply pw_below_drewN | apply below_drew1 | refine below_set ?_ GE152.out | refine below_set ?_ GE154.out) | exact HB.out)⟩⟩
                    · rw [if_neg c22] at H
                      have c22b0 : decide (255 < ((rd_T31 l0_2 x3_2).f0)) = false := decide_eq_false c22
                      clear c22
                      by_cases c25 : t156 = 0
                      · rw [if_pos c25] at H
                        have c25b0 : (t156 == 0) = true := beq_iff_eq.mpr c25
                        have c25b1 : (t156 != 0) = false := bne_eq_false_iff_eq.mpr c25
                        clear c25
                        by_cases c26 : x3_2 > 0
                        · rw [if_pos c26] at H
                          have c26b0 : decide (0 < x3_2) = true := decide_eq_true c26
                          clear c26
                          obtain ⟨ji27, hji27⟩ : ∃ j_ : Int, (wrap64 (x3_2 - 1)) = j_ := ⟨_, rfl⟩
                          replace H : (if 0 ≤ (ji27) then (if (ji27) < (l0_2.length : Int) then (rubricatorref21_Right.j2 k2 x3_2 (decide (((rd_T31 l0_2 (ji27)).f0) ≥ ((rd_T31 l0_2 x3_2).f0))) a0_0 a0_1 l0_2 ((rd_T31 l0_2 x3_2).f0) ((rd_T31 l0_2 x3_2).f1) ((rd_T31 l0_2 x3_2).f2)) else (none)) else (none)) = some r := by first | (rw [hji27] at H; exact H) | (simp only [hji27] at H ⊢; exact H)
                          have hji27w : (IntKind.i64.wrap (x3_2 - 1)) = ji27 := (i64_w _).trans hji27
                          by_cases c28 : 0 ≤ (ji27)
                          · rw [if_pos c28] at H
                            have c28b0 : decide (0 ≤ (ji27)) = true := decide_eq_true c28
                            clear c28
                            by_cases c29 : (ji27) < (l0_2.length : Int)
                            · rw [if_pos c29] at H
                              have c29b0 : decide ((ji27) < (l0_2.length : Int)) = true := decide_eq_true c29
                              clear c29
                              have H' := Aside0.mk H
                              clear H
                              have hnb30 := NB154_152.out
                              have hnc30 := NB152_154.out
                              have hcz31_0 : w18.cell? ⟨gb154, 0, none⟩ = some (.int .i64 ((rd_T31 l0_2 x3_2).f0)) := (blk_cell BK154.out 0).trans rfl
                              have hcz31_1 : w18.cell? ⟨gb154, 1, none⟩ = some (.string ((rd_T31 l0_2 x3_2).f1)) := (blk_cell BK154.out 1).trans rfl
                              have hcz31_2 : w18.cell? ⟨gb154, 2, none⟩ = some (.bool ((rd_T31 l0_2 x3_2).f2)) := (blk_cell BK154.out 2).trans rfl
                              have hfz31_0 := blk_frozen BK154.out 0
                              have hfz31_1 := blk_frozen BK154.out 1
                              have hfz31_2 := blk_frozen BK154.out 2
                              have hcz32_0 : w18.cell? ⟨gb152, 0, none⟩ = some (.int .u32 a0_0) := (blk_cell BK152.out 0).trans rfl
                              have hcz32_1 : w18.cell? ⟨gb152, 1, none⟩ = some (.int .u64 a0_1) := (blk_cell BK152.out 1).trans rfl
                              have hcz32_2 : w18.cell? ⟨gb152, 2, none⟩ = some (.slice (some ad153) l0_2.length c0_2) := (blk_cell BK152.out 2).trans rfl
                              have hfz32_0 := blk_frozen BK152.out 0
                              have hfz32_1 := blk_frozen BK152.out 1
                              have hfz32_2 := blk_frozen BK152.out 2
                              have p159 : 0 ≤ ((ji27) : Int) := of_decide_eq_true (by first | (with_reducible assumption) | assumption)
                              have q159 : (ji27) < (l0_2.length : Int) := of_decide_eq_true (by first | (with_reducible assumption) | assumption)
                              obtain ⟨ad159, e159, hx159_0, hx159_1, hx159_2⟩ := at_T31 HR0_2.out (ji27) p159 q159
                              obtain rfl : ad153 = ad159 := (by injection e159)
                              replace hx159_0 := (HB.out.cell (World.block_lt_of_cell? w _ hx159_0)).trans hx159_0
                              replace hx159_1 := (HB.out.cell (World.block_lt_of_cell? w _ hx159_1)).trans hx159_1
                              replace hx159_2 := (HB.out.cell (World.block_lt_of_cell? w _ hx159_2)).trans hx159_2
                              replace p159 := eq_true p159
                              replace q159 := eq_true q159
                              go_wp2
                              repeat (go_quiet (fail); try go_wp2)
                              go_meet
                              case rel => exact ⟨_, (decide (((rd_T31 l0_2 (ji27)).f0) ≥ ((rd_T31 l0_2 x3_2).f0))), (by first | rfl | (simp; done) | (simp only [← hji27] <;> (first | rfl | simp)) | (simp [*]; done)), H', ⟨by have := HJ1.out; have := HK2.out; first | omega | exact Nat.le_refl _⟩, ⟨by (with_reducible repeat (first | refine blk_drewN ?_ _ | refine blk_drew ?_ | refine blk_alloc ?_ _)); exact BK152.out⟩, ⟨by (with_reducible repeat (first | refine blk_drewN ?_ _ | refine blk_drew ?_ | refine blk_alloc ?_ _)); exact BK154.out⟩, ⟨by repeat (first | (with_reducible first | exact HB.out | apply below_alloc | apply pw_below_drewN | apply below_drew1 | refine below_set ?_ GE152.out | refine below_set ?_ GE154.out) | exact HB.out)⟩⟩
                            · rw [if_neg c29] at H
                              exact absurd H (by simp)
                          · rw [if_neg c28] at H
                            exact absurd H (by simp)
                        · rw [if_neg c26] at H
                          have c26b0 : decide (0 < x3_2) = false := decide_eq_false c26
                          clear c26
                          have H' := Aside0.mk H
                          clear H
                          have hnb33 := NB154_152.out
                          have hnc33 := NB152_154.out
                          have hcz34_0 : w18.cell? ⟨gb154, 0, none⟩ = some (.int .i64 ((rd_T31 l0_2 x3_2).f0)) := (blk_cell BK154.out 0).trans rfl
                          have hcz34_1 : w18.cell? ⟨gb154, 1, none⟩ = some (.string ((rd_T31 l0_2 x3_2).f1)) := (blk_cell BK154.out 1).trans rfl
                          have hcz34_2 : w18.cell? ⟨gb154, 2, none⟩ = some (.bool ((rd_T31 l0_2 x3_2).f2)) := (blk_cell BK154.out 2).trans rfl
                          have hfz34_0 := blk_frozen BK154.out 0
                          have hfz34_1 := blk_frozen BK154.out 1
                          have hfz34_2 := blk_frozen BK154.out 2
                          go_wp2
                          repeat (go_quiet (fail); try go_wp2)
                          go_meet
                          case rel => exact ⟨_, (false), (by first | rfl | (simp; done) | (simp [*]; done)), H', ⟨by have := HJ1.out; have := HK2.out; first | omega | exact Nat.le_refl _⟩, ⟨by (with_reducible repeat (first | refine blk_drewN ?_ _ | refine blk_drew ?_ | refine blk_alloc ?_ _)); exact BK152.out⟩, ⟨by (with_reducible repeat (first | refine blk_drewN ?_ _ | refine blk_drew ?_ | refine blk_alloc ?_ _)); exact BK154.out⟩, ⟨by repeat (first | (with_reducible first | exact HB.out | apply below_alloc | apply pw_below_drewN | apply below_drew1 | refine below_set ?_ GE152.out | refine below_set ?_ GE154.out) | exact HB.out)⟩⟩
                      · rw [if_neg c25] at H
                        have c25b0 : (t156 == 0) = false := beq_eq_false_iff_ne.mpr c25
                        have c25b1 : (t156 != 0) = true := bne_iff_ne.mpr c25
                        have H' := Aside0.mk H
                        clear H
                        have hnb35 := NB154_152.out
                        have hnc35 := NB152_154.out
                        have hcz36_0 : w18.cell? ⟨gb154, 0, none⟩ = some (.int .i64 ((rd_T31 l0_2 x3_2).f0)) := (blk_cell BK154.out 0).trans rfl
                        have hcz36_1 : w18.cell? ⟨gb154, 1, none⟩ = some (.string ((rd_T31 l0_2 x3_2).f1)) := (blk_cell BK154.out 1).trans rfl
                        have hcz36_2 : w18.cell? ⟨gb154, 2, none⟩ = some (.bool ((rd_T31 l0_2 x3_2).f2)) := (blk_cell BK154.out 2).trans rfl
                        have hfz36_0 := blk_frozen BK154.out 0
                        have hfz36_1 := blk_frozen BK154.out 1
                        have hfz36_2 := blk_frozen BK154.out 2
                        go_wp2
                        repeat (go_quiet (fail); try go_wp2)
                        go_meet
                        case rel => exact ⟨_, (true), (by first | rfl | (simp; done) | (simp [*]; done)), H', ⟨by have := HJ1.out; have := HK2.out; first | omega | exact Nat.le_refl _⟩, ⟨by (with_reducible repeat (first | refine blk_drewN ?_ _ | refine blk_drew ?_ | refine blk_alloc ?_ _)); exact BK152.out⟩, ⟨by (with_reducible repeat (first | refine blk_drewN ?_ _ | refine blk_drew ?_ | refine blk_alloc ?_ _)); exact BK154.out⟩, ⟨by repeat (first | (with_reducible first | exact HB.out | apply below_alloc | apply pw_below_drewN | apply below_drew1 | refine below_set ?_ GE152.out | refine below_set ?_ GE154.out) | exact HB.out)⟩⟩
                case rest =>
                  clear HC13
                  try clear c1
                  try clear p1
                  try clear q1
                  try clear hx1
                  try clear c2
                  try clear p2
                  try clear c3
                  try clear c4
                  try clear c4b0
                  try clear c4b1
                  try clear c6
                  try clear c6b0
                  try clear c6b1
                  try clear p6
                  try clear c9
                  try clear c10
                  try clear c10b0
                  try clear c11
                  try clear c11b0
                  try clear p15
                  try clear q15
                  try clear hx15
                  try clear c16
                  try clear c19
                  try clear c19b0
                  try clear c20
                  try clear c22
                  try clear c22b0
                  try clear c23
                  try clear c25
                  try clear c25b0
                  try clear c25b1
                  try clear c26
                  try clear c26b0
                  try clear c28
                  try clear c28b0
                  try clear c29
                  try clear c29b0
                  try clear c30
                  try clear c33
                  try clear c35
                  try clear hcz14_0
                  try clear hcz14_1
                  try clear hcz14_2
                  try clear hcz17_0
                  try clear hcz17_1
                  try clear hcz17_2
                  try clear hcz21_0
                  try clear hcz21_1
                  try clear hcz21_2
                  try clear hcz24_0
                  try clear hcz24_1
                  try clear hcz24_2
                  try clear hcz31_0
                  try clear hcz31_1
                  try clear hcz31_2
                  try clear hcz32_0
                  try clear hcz32_1
                  try clear hcz32_2
                  try clear hcz34_0
                  try clear hcz34_1
                  try clear hcz34_2
                  try clear hcz36_0
                  try clear hcz36_1
                  try clear hcz36_2
                  try clear hcz5_0
                  try clear hcz5_1
                  try clear hcz5_2
                  try clear hcz7_0
                  try clear hcz7_1
                  try clear hcz7_2
                  try clear hcz8_0
                  try clear hcz8_1
                  try clear hcz8_2
                  try clear hfz14_0
                  try clear hfz14_1
                  try clear hfz14_2
                  try clear hfz17_0
                  try clear hfz17_1
                  try clear hfz17_2
                  try clear hfz21_0
                  try clear hfz21_1
                  try clear hfz21_2
                  try clear hfz24_0
                  try clear hfz24_1
                  try clear hfz24_2
                  try clear hfz31_0
                  try clear hfz31_1
                  try clear hfz31_2
                  try clear hfz32_0
                  try clear hfz32_1
                  try clear hfz32_2
                  try clear hfz34_0
                  try clear hfz34_1
                  try clear hfz34_2
                  try clear hfz36_0
                  try clear hfz36_1
                  try clear hfz36_2
                  try clear hfz5_0
                  try clear hfz5_1
                  try clear hfz5_2
                  try clear hfz7_0
                  try clear hfz7_1
                  try clear hfz7_2
                  try clear hfz8_0
                  try clear hfz8_1
                  try clear hfz8_2
                  try clear hx153_0
                  try clear hx153_1
                  try clear hx153_2
                  try clear hx159_0
                  try clear hx159_1
                  try clear hx159_2
                  try clear p153
                  try clear p159
                  try clear p2
                  try clear q153
                  try clear q159
                  obtain ⟨kq, x67_12, rfl, HA, HJ12, BK152, BK154, HB⟩ := hcut
                  cases kq with
                  | zero => exact absurd HA.out (by simp [rubricatorref21_Right.j2])
                  | succ kj12 =>
                    have H := HA.out
                    clear HA
                    simp only [rubricatorref21_Right.j2] at H
                    by_cases c37 : x67_12 = true
                    · subst c37
                      have H1 : (some false) = some r := by rw [if_pos rfl] at H; exact H
                      clear H
                      have H := H1
                      clear H1
                      obtain rfl := Option.some.inj H
                      go_wp2
                      repeat (go_quiet (fail); try go_wp2)
                      go_ret
                      exact ⟨by first | rfl | (simp [errW_none, errW_some] <;> rfl) | (simp [*, errW_none, errW_some] <;> rfl), by repeat (first | (with_reducible first | exact HB.out | apply below_alloc | apply pw_below_drewN | apply below_drew1 | refine below_set ?_ GE152.out | refine below_set ?_ GE154.out) | exact HB.out)⟩
                    · replace c37 := Bool.eq_false_iff.mpr c37
                      subst c37
                      have H1 : (rubricatorref21_Right.l1 kj12 x3_2 0 a0_0 a0_1 l0_2 ((rd_T31 l0_2 x3_2).f0) ((rd_T31 l0_2 x3_2).f1) ((rd_T31 l0_2 x3_2).f2)) = some r := by rw [if_neg (show ¬ (false = true) by decide)] at H; exact H
                      clear H
                      have H := H1
                      clear H1
                      have H' := Aside0.mk H
                      clear H
                      go_wp2
                      repeat (go_quiet (fail); try go_wp2)
                      go_loopg [7] kj12 (fun kq v7 w' => ∃ (x7_4 : Int), v7 = .int .i64 x7_4 ∧ Aside0 (rubricatorref21_Right.l1 kq x3_2 x7_4 a0_0 a0_1 l0_2 ((rd_T31 l0_2 x3_2).f0) ((rd_T31 l0_2 x3_2).f1) ((rd_T31 l0_2 x3_2).f2) = some r) ∧ Aside0 (kq ≤ kj12) ∧ Aside0 (w'.heap[gb152]? = some (.cells #[.int .u32 a0_0, .int .u64 a0_1, (.slice (some ad153) l0_2.length c0_2)] 26 (0, 0))) ∧ Aside0 (w'.heap[gb154]? = some (.cells #[.int .i64 ((rd_T31 l0_2 x3_2).f0), .string ((rd_T31 l0_2 x3_2).f1), .bool ((rd_T31 l0_2 x3_2).f2)] 31 (0, 0))) ∧ Aside0 (Below w.heap.size w w'))
                      case atStart => exact ⟨(0), (by first | rfl | (simp; done) | (simp [*]; done)), H', ⟨Nat.le_refl _⟩, ⟨by (with_reducible repeat (first | refine blk_drewN ?_ _ | refine blk_drew ?_ | refine blk_alloc ?_ _)); exact BK152.out⟩, ⟨by (with_reducible repeat (first | refine blk_drewN ?_ _ | refine blk_drew ?_ | refine blk_alloc ?_ _)); exact BK154.out⟩, ⟨by repeat (first | (with_reducible first | exact HB.out | apply below_alloc | apply pw_below_drewN | apply below_drew1 | refine below_set ?_ GE152.out | refine below_set ?_ GE154.out) | exact HB.out)⟩⟩
                      case round =>
                        clear H'
                        try clear c1
                        try clear p1
                        try clear q1
                        try clear hx1
                        try clear c2
                        try clear p2
                        try clear c3
                        try clear c4
                        try clear c4b0
                        try clear c4b1
                        try clear c6
                        try clear c6b0
                        try clear c6b1
                        try clear p6
                        try clear c9
                        try clear c10
                        try clear c10b0
                        try clear c11
                        try clear c11b0
                        try clear p15
                        try clear q15
                        try clear hx15
                        try clear c16
                        try clear c19
                        try clear c19b0
                        try clear c20
                        try clear c22
                        try clear c22b0
                        try clear c23
                        try clear c25
                        try clear c25b0
                        try clear c25b1
                        try clear c26
                        try clear c26b0
                        try clear c28
                        try clear c28b0
                        try clear c29
                        try clear c29b0
                        try clear c30
                        try clear c33
                        try clear c35
                        try clear c37
                        try clear hcz14_0
                        try clear hcz14_1
                        try clear hcz14_2
                        try clear hcz17_0
                        try clear hcz17_1
                        try clear hcz17_2
                        try clear hcz21_0
                        try clear hcz21_1
                        try clear hcz21_2
                        try clear hcz24_0
                        try clear hcz24_1
                        try clear hcz24_2
                        try clear hcz31_0
                        try clear hcz31_1
                        try clear hcz31_2
                        try clear hcz32_0
                        try clear hcz32_1
                        try clear hcz32_2
                        try clear hcz34_0
                        try clear hcz34_1
                        try clear hcz34_2
                        try clear hcz36_0
                        try clear hcz36_1
                        try clear hcz36_2
                        try clear hcz5_0
                        try clear hcz5_1
                        try clear hcz5_2
                        try clear hcz7_0
                        try clear hcz7_1
                        try clear hcz7_2
                        try clear hcz8_0
                        try clear hcz8_1
                        try clear hcz8_2
                        try clear hfz14_0
                        try clear hfz14_1
                        try clear hfz14_2
                        try clear hfz17_0
                        try clear hfz17_1
                        try clear hfz17_2
                        try clear hfz21_0
                        try clear hfz21_1
                        try clear hfz21_2
                        try clear hfz24_0
                        try clear hfz24_1
                        try clear hfz24_2
                        try clear hfz31_0
                        try clear hfz31_1
                        try clear hfz31_2
                        try clear hfz32_0
                        try clear hfz32_1
                        try clear hfz32_2
                        try clear hfz34_0
                        try clear hfz34_1
                        try clear hfz34_2
                        try clear hfz36_0
                        try clear hfz36_1
                        try clear hfz36_2
                        try clear hfz5_0
                        try clear hfz5_1
                        try clear hfz5_2
                        try clear hfz7_0
                        try clear hfz7_1
                        try clear hfz7_2
                        try clear hfz8_0
                        try clear hfz8_1
                        try clear hfz8_2
                        try clear hx153_0
                        try clear hx153_1
                        try clear hx153_2
                        try clear hx159_0
                        try clear hx159_1
                        try clear hx159_2
                        try clear p1
                        try clear p15
                        try clear p153
                        try clear p159
                        try clear p2
                        try clear p6
                        try clear q1
                        try clear q15
                        try clear q153
                        try clear q159
                        obtain ⟨x7_4, rfl, HA, HK4, BK152, BK154, HB⟩ := hrel
                        cases gk with
                        | zero => exact absurd HA.out (by simp [rubricatorref21_Right.l1])
                        | succ k4 =>
                          have H := HA.out
                          clear HA
                          simp only [rubricatorref21_Right.l1] at H
                          by_cases c38 : x7_4 < x3_2
                          · rw [if_pos c38] at H
                            have c38b0 : decide (x7_4 < x3_2) = true := decide_eq_true c38
                            clear c38
                            by_cases c39 : 0 ≤ x7_4
                            · rw [if_pos c39] at H
                              have c39b0 : decide (0 ≤ x7_4) = true := decide_eq_true c39
                              clear c39
                              by_cases c40 : x7_4 < (l0_2.length : Int)
                              · rw [if_pos c40] at H
                                have c40b0 : decide (x7_4 < (l0_2.length : Int)) = true := decide_eq_true c40
                                clear c40
                                by_cases c41 : ((rd_T31 l0_2 x7_4).f1).toList = ((rd_T31 l0_2 x3_2).f1).toList
                                · rw [if_pos c41] at H
                                  have c41b0 : (((rd_T31 l0_2 x7_4).f1).toList == ((rd_T31 l0_2 x3_2).f1).toList) = true := beq_iff_eq.mpr c41
                                  have c41b1 : (((rd_T31 l0_2 x7_4).f1).toList != ((rd_T31 l0_2 x3_2).f1).toList) = false := bne_eq_false_iff_eq.mpr c41
                                  clear c41
                                  obtain rfl := Option.some.inj H
                                  have hnb42 := NB152_154.out
                                  have hnc42 := NB154_152.out
                                  have hcz43_0 : wr.cell? ⟨gb152, 0, none⟩ = some (.int .u32 a0_0) := (blk_cell BK152.out 0).trans rfl
                                  have hcz43_1 : wr.cell? ⟨gb152, 1, none⟩ = some (.int .u64 a0_1) := (blk_cell BK152.out 1).trans rfl
                                  have hcz43_2 : wr.cell? ⟨gb152, 2, none⟩ = some (.slice (some ad153) l0_2.length c0_2) := (blk_cell BK152.out 2).trans rfl
                                  have hfz43_0 := blk_frozen BK152.out 0
                                  have hfz43_1 := blk_frozen BK152.out 1
                                  have hfz43_2 := blk_frozen BK152.out 2
                                  have p160 : 0 ≤ (x7_4 : Int) := of_decide_eq_true (by first | (with_reducible assumption) | assumption)
                                  have q160 : x7_4 < (l0_2.length : Int) := of_decide_eq_true (by first | (with_reducible assumption) | assumption)
                                  obtain ⟨ad160, e160, hx160_0, hx160_1, hx160_2⟩ := at_T31 HR0_2.out x7_4 p160 q160
                                  obtain rfl : ad153 = ad160 := (by injection e160)
                                  replace hx160_0 := (HB.out.cell (World.block_lt_of_cell? w _ hx160_0)).trans hx160_0
                                  replace hx160_1 := (HB.out.cell (World.block_lt_of_cell? w _ hx160_1)).trans hx160_1
                                  replace hx160_2 := (HB.out.cell (World.block_lt_of_cell? w _ hx160_2)).trans hx160_2
                                  replace p160 := eq_true p160
                                  replace q160 := eq_true q160
                                  have hcz44_0 : wr.cell? ⟨gb154, 0, none⟩ = some (.int .i64 ((rd_T31 l0_2 x3_2).f0)) := (blk_cell BK154.out 0).trans rfl
                                  have hcz44_1 : wr.cell? ⟨gb154, 1, none⟩ = some (.string ((rd_T31 l0_2 x3_2).f1)) := (blk_cell BK154.out 1).trans rfl
                                  have hcz44_2 : wr.cell? ⟨gb154, 2, none⟩ = some (.bool ((rd_T31 l0_2 x3_2).f2)) := (blk_cell BK154.out 2).trans rfl
                                  have hfz44_0 := blk_frozen BK154.out 0
                                  have hfz44_1 := blk_frozen BK154.out 1
                                  have hfz44_2 := blk_frozen BK154.out 2
                                  go_wp2
                                  repeat (go_quiet (fail); try go_wp2)
                                  go_ret
                                  exact ⟨by first | rfl | (simp [errW_none, errW_some] <;> rfl) | (simp [*, errW_none, errW_some] <;> rfl), by repeat (first | (with_reducible first | exact HB.out | apply below_alloc | apply pw_below_drewN | apply below_drew1 | refine below_set ?_ GE152.out | refine below_set ?_ GE154.out) | exact HB.out)⟩
                                · rw [if_neg c41] at H
                                  have c41b0 : (((rd_T31 l0_2 x7_4).f1).toList == ((rd_T31 l0_2 x3_2).f1).toList) = false := beq_eq_false_iff_ne.mpr c41
                                  have c41b1 : (((rd_T31 l0_2 x7_4).f1).toList != ((rd_T31 l0_2 x3_2).f1).toList) = true := bne_iff_ne.mpr c41
                                  have H' := Aside0.mk H
                                  clear H
                                  have hnb45 := NB152_154.out
                                  have hnc45 := NB154_152.out
                                  have hcz46_0 : wr.cell? ⟨gb152, 0, none⟩ = some (.int .u32 a0_0) := (blk_cell BK152.out 0).trans rfl
                                  have hcz46_1 : wr.cell? ⟨gb152, 1, none⟩ = some (.int .u64 a0_1) := (blk_cell BK152.out 1).trans rfl
                                  have hcz46_2 : wr.cell? ⟨gb152, 2, none⟩ = some (.slice (some ad153) l0_2.length c0_2) := (blk_cell BK152.out 2).trans rfl
                                  have hfz46_0 := blk_frozen BK152.out 0
                                  have hfz46_1 := blk_frozen BK152.out 1
                                  have hfz46_2 := blk_frozen BK152.out 2
                                  have p160 : 0 ≤ (x7_4 : Int) := of_decide_eq_true (by first | (with_reducible assumption) | assumption)
                                  have q160 : x7_4 < (l0_2.length : Int) := of_decide_eq_true (by first | (with_reducible assumption) | assumption)
                                  obtain ⟨ad160, e160, hx160_0, hx160_1, hx160_2⟩ := at_T31 HR0_2.out x7_4 p160 q160
                                  obtain rfl : ad153 = ad160 := (by injection e160)
                                  replace hx160_0 := (HB.out.cell (World.block_lt_of_cell? w _ hx160_0)).trans hx160_0
                                  replace hx160_1 := (HB.out.cell (World.block_lt_of_cell? w _ hx160_1)).trans hx160_1
                                  replace hx160_2 := (HB.out.cell (World.block_lt_of_cell? w _ hx160_2)).trans hx160_2
                                  replace p160 := eq_true p160
                                  replace q160 := eq_true q160
                                  have hcz47_0 : wr.cell? ⟨gb154, 0, none⟩ = some (.int .i64 ((rd_T31 l0_2 x3_2).f0)) := (blk_cell BK154.out 0).trans rfl
                                  have hcz47_1 : wr.cell? ⟨gb154, 1, none⟩ = some (.string ((rd_T31 l0_2 x3_2).f1)) := (blk_cell BK154.out 1).trans rfl
                                  have hcz47_2 : wr.cell? ⟨gb154, 2, none⟩ = some (.bool ((rd_T31 l0_2 x3_2).f2)) := (blk_cell BK154.out 2).trans rfl
                                  have hfz47_0 := blk_frozen BK154.out 0
                                  have hfz47_1 := blk_frozen BK154.out 1
                                  have hfz47_2 := blk_frozen BK154.out 2
                                  go_wp2
                                  repeat (go_quiet (fail); try go_wp2)
                                  go_roundg k4
                                  case measure => have := HJ1.out; have := HK2.out; have := HJ12.out; have := HK4.out; omega
                                  case rel => exact ⟨(wrap64 (x7_4 + 1)), (by first | rfl | (simp; done) | (simp [*]; done)), H', ⟨by have := HJ1.out; have := HK2.out; have := HJ12.out; have := HK4.out; omega⟩, ⟨by (with_reducible repeat (first | refine blk_drewN ?_ _ | refine blk_drew ?_ | refine blk_alloc ?_ _)); exact BK152.out⟩, ⟨by (with_reducible repeat (first | refine blk_drewN ?_ _ | refine blk_drew ?_ | refine blk_alloc ?_ _)); exact BK154.out⟩, ⟨by repeat (first | (with_reducible first | exact HB.out | apply below_alloc | apply pw_below_drewN | apply below_drew1 | refine below_set ?_ GE152.out | refine below_set ?_ GE154.out) | exact HB.out)⟩⟩
                              · rw [if_neg c40] at H
                                exact absurd H (by simp)
                            · rw [if_neg c39] at H
                              exact absurd H (by simp)
                          · rw [if_neg c38] at H
                            have c38b0 : decide (x7_4 < x3_2) = false := decide_eq_false c38
                            clear c38
                            have H' := Aside0.mk H
                            clear H
                            go_wp2
                            repeat (go_quiet (fail); try go_wp2)
                            go_roundg k4
                            case measure => have := HJ1.out; have := HK2.out; have := HJ12.out; have := HK4.out; omega
                            case rel => exact ⟨(wrap64 (x3_2 + 1)), (by first | rfl | (simp; done) | (simp [*]; done)), H', ⟨by have := HJ1.out; have := HK2.out; have := HJ12.out; have := HK4.out; omega⟩, ⟨by (with_reducible repeat (first | refine blk_drewN ?_ _ | refine blk_drew ?_ | refine blk_alloc ?_ _)); exact BK152.out⟩, ⟨by repeat (first | (with_reducible first | exact HB.out | apply below_alloc | apply pw_below_drewN | apply below_drew1 | refine below_set ?_ GE152.out | refine below_set ?_ GE154.out) | exact HB.out)⟩⟩
              · rw [if_neg c11] at H
                exact absurd H (by simp)
            · rw [if_neg c10] at H
              have c10b0 : decide (x3_2 < (l0_2.length : Int)) = false := decide_eq_false c10
              clear c10
              obtain rfl := Option.some.inj H
              have hcz48_0 : wr.cell? ⟨gb152, 0, none⟩ = some (.int .u32 a0_0) := (blk_cell BK152.out 0).trans rfl
              have hcz48_1 : wr.cell? ⟨gb152, 1, none⟩ = some (.int .u64 a0_1) := (blk_cell BK152.out 1).trans rfl
              have hcz48_2 : wr.cell? ⟨gb152, 2, none⟩ = some (.slice A0_2 l0_2.length c0_2) := (blk_cell BK152.out 2).trans rfl
              have hfz48_0 := blk_frozen BK152.out 0
              have hfz48_1 := blk_frozen BK152.out 1
              have hfz48_2 := blk_frozen BK152.out 2
              go_wp2
              repeat (go_quiet (fail); try go_wp2)
              go_ret
              exact ⟨by first | rfl | (simp [errW_none, errW_some] <;> rfl) | (simp [*, errW_none, errW_some] <;> rfl), by repeat (first | (with_reducible first | exact HB.out | apply below_alloc | apply pw_below_drewN | apply below_drew1 | refine below_set ?_ GE152.out) | exact HB.out)⟩

end Go.Proofs.YtkgffeclgapkbaaDoor.PCatalogPuts
