/- slices.Grow, slices.Concat at bytes. -/
import Derived.Test.YtkgffeclgapkbaaDoorA8
import Derived.Test.YtkgffeclgapkbaaDoorWZeros
namespace Go.Proofs.YtkgffeclgapkbaaDoor
open Go.RowKit Go.Proofs.YtkgffeclgapkbaaDoorW.PrintWords
set_option linter.unusedVariables false
set_option linter.unusedSimpArgs false
set_option maxRecDepth 100000
theorem own_cut0 {w : World} {base n : Nat} {A : Option Addr} {c : Nat} {xs : List Value} (h : w.ownsRow base 5 1 (.slice A n c) n xs) (hn : 0 < n) : w.ownsRow base 5 1 (.slice A 0 c) 0 [] := by
  rcases h.2 with ⟨h1, h0⟩ | ⟨g, cap, cur, h1, hb, hh, hnc, hcap, hsz, htk⟩
  · omega
  · injection h1 with h2 h3 h4
    subst h2
    subst h4
    exact ⟨rfl, .inr ⟨g, c, cur, rfl, hb, hh, Nat.zero_le _, hcap, hsz, by simp⟩⟩
theorem top0 (A : Option Addr) (l c : Nat) (W : World) : (Instr.slice 28 (.slice A l c) none (some (.int .i64 0)) none).run Tryd.prog W = .ok (.slice A 0 c) W := by
  obtain ⟨i0, hi0, _, hz1, _⟩ := info_parts info5
  have hel : Tryd.prog.elem 28 = 5 := by simp [Program.elem, Tryd.underlying28]
  have hu : Tryd.prog.underlying 28 = some (.slice (Tryd.prog.elem 28)) := by rw [hel]; exact Tryd.underlying28
  have ha : (A.map fun x => x.add 0) = A := by cases A <;> simp [Addr.add]
  rw [run_slice_h W 28 A l c hu .i64 0 (by omega) (by omega), hel]
  simp [sizeOf, typeInfo, hi0, hz1, sliced, Result.andThen, ha]
set_option maxHeartbeats 1000000 in
/-- slices.Grow(nil, n) at bytes -/
theorem Grow_nil (n : Nat) (w : World) (hn : n ≤ 100000000) :
    Calls Tryd.prog 62 #[.slice none 0 0, .int .i64 n] w fun e w' => ∃ v, e = .returned v ∧ Mine w w' v [] ∧ Fr No w w' := by
  by_cases h0 : n = 0
  · subst h0
    go_enter Tryd.func62, Tryd.ntmps62
    go_wp2
    go_ret
    exact ⟨_, rfl, own_nil _ _ _ _, Fr.refl _ _⟩
  · have hp : 0 < n := by omega
    have d1 : decide ((0 : Int) < (n : Int)) = true := decide_eq_true (by omega)
    have d2 : decide (0 < n) = true := decide_eq_true hp
    have d3 : decide ((n : Int) < 0) = false := decide_eq_false (by omega)
    have HB := hide (Below.refl w.heap.size w)
    have e1 := top0
    go_enter Tryd.func62, Tryd.ntmps62
    go_wp2_with (at_builtin; go_loud (refine Kd.R_append_zeros B8 (w0 := w) w.heap.size rfl (.tmp 20) (.tmp 21) 28 3 5 (.int .u8 0) 1 rfl Tryd.underlying28 Tryd.underlying3 info5 rfl (by decide) (by decide) (.slice none 0 0) [] 0 (kx := .i64) (n : Int) (fun _ => True) rfl rfl rfl (fun _ _ => trivial) (Kd.R_nil _ _ _ _ _) (by omega) HB.out (Nat.le_refl _) (by simp; omega) ?_); intro v1 w1 ho1 hb1 hg1 hat1; have ho2 := Kd.own_of_R ho1; simp only [List.nil_append, List.length_replicate, Int.toNat_natCast] at ho2; obtain ⟨A1, c1, rfl⟩ := own_row ho2; clear ho1)
    go_ret
    exact ⟨_, rfl, own_cut0 ho2 hp, Fr.of_below hb1 (Nat.le_refl _)⟩
/-- A slice of slices of bytes that is read. -/
def RdS (w : World) (A : Option Addr) (ps : List (List Int)) : Prop :=
  0 < ps.length → ∃ ad, A = some ad ∧ ∀ j, j < ps.length → ∃ Aj cj, w.cell? (ad.add j) = some (.slice Aj (ps.getD j []).length cj) ∧ Rd w Aj (ps.getD j [])
theorem RdS.keep {w w1 : World} {A : Option Addr} {ps : List (List Int)} (h : RdS w A ps) (hf : Fr No w w1) : RdS w1 A ps := fun h0 => by
  obtain ⟨ad, e, hc⟩ := h h0
  refine ⟨ad, e, fun j hj => ?_⟩
  obtain ⟨Aj, cj, h1, h2⟩ := hc j hj
  exact ⟨Aj, cj, hf.cell h1 (fun h => h), hf.rd0 h2⟩
def total (ps : List (List Int)) : Nat := ps.flatten.length
theorem flatten_take_succ (ps : List (List Int)) (k : Nat) (h : k < ps.length) : (ps.take (k + 1)).flatten = (ps.take k).flatten ++ ps.getD k [] := by
  rw [List.take_succ_eq_append_getElem h, List.flatten_append, List.getD_eq_getElem?_getD, List.getElem?_eq_getElem h]
  simp
theorem flatten_take_le (ps : List (List Int)) (k : Nat) : (ps.take k).flatten.length ≤ total ps := by
  have : ps.flatten = (ps.take k).flatten ++ (ps.drop k).flatten := by rw [← List.flatten_append, List.take_append_drop]
  unfold total
  rw [this, List.length_append]
  omega
set_option maxHeartbeats 1000000 in
/-- slices.Concat at bytes -/
theorem Concat_any (A : Option Addr) (c : Nat) (ps : List (List Int)) (w : World) (hr : RdS w A ps) (hn : ps.length ≤ 1000) (ht : total ps ≤ 10000000) :
    Calls Tryd.prog 39 #[.slice A ps.length c] w fun e w' => ∃ v, e = .returned v ∧ Mine w w' v ps.flatten ∧ Fr No w w' := by
  go_enter Tryd.func39, Tryd.ntmps39
  go_wp2_with fail
  go_loop [3, 11] (fun s i => ∃ k : Nat, k ≤ ps.length ∧ i = .int .i64 k ∧ s = .int .i64 (ps.take k).flatten.length) (fun _ i => ps.length - (intOf i).toNat)
  case atStart => exact ⟨0, Nat.zero_le _, rfl, rfl⟩
  case round =>
    obtain ⟨k, hk, rfl, rfl⟩ := hrel
    by_cases hlt : k < ps.length
    · obtain ⟨ad, rfl, hc⟩ := hr (by omega)
      obtain ⟨Aj, cj, h1, h2⟩ := hc k hlt
      have l1 := flatten_take_le ps k
      have l2 := flatten_take_le ps (k + 1)
      have l3 := congrArg List.length (flatten_take_succ ps k hlt)
      rw [List.length_append] at l3
      obtain ⟨m, hm⟩ : ∃ m, (ps.take k).flatten.length = m := ⟨_, rfl⟩
      obtain ⟨q, hq⟩ : ∃ q, (ps.getD k []).length = q := ⟨_, rfl⟩
      rw [hm] at l1 l3
      rw [hq] at l3 h1
      rw [l3] at l2
      have HL := hide (And.intro l3 (And.intro hm h2))
      have HR := hide (And.intro hr hc)
      rw [hm]
      clear l3 hm hq h2 hr hc
      have d1 : decide ((m : Int) + (q : Int) < 0) = false := decide_eq_false (by omega)
      go_wp2
      go_round
      case rel => exact ⟨k + 1, by omega, by go_num, by rw [HL.out.1]; go_num⟩
      case measure => simp [intOf]; omega
    · have hk2 : k = ps.length := by omega
      subst hk2
      have e0 : (ps.take ps.length).flatten.length = total ps := by rw [List.take_length]; rfl
      rw [e0]
      clear e0
      go_wp2_with (go_at_call 62; refine (Grow_nil (total ps) w (by omega)).mono ?_; rintro e w1 ⟨v, rfl, hm, hf⟩)
      have HM := hide (show Mine w w1 v [] from by have := own_weaken hm (Nat.le_refl _); exact this)
      have HF := hide hf
      have HR := hide hr
      clear hm hf hr
      go_loopw [6, 27] (fun v i wr => ∃ k : Nat, k ≤ ps.length ∧ i = .int .i64 k ∧ Aside0 (Mine w wr v (ps.take k).flatten) ∧ Aside0 (Fr No w wr)) (fun _ i _ => ps.length - (intOf i).toNat)
      case atStart => exact ⟨0, Nat.zero_le _, rfl, HM, HF⟩
      case round =>
        clear HM HF
        obtain ⟨k, hk, rfl, HM, HF⟩ := hrel
        obtain ⟨As, cs, rfl, hls, hrs⟩ := HM.out.rd
        have l1 := flatten_take_le ps k
        by_cases hlt : k < ps.length
        · obtain ⟨ad, rfl, hc⟩ := (RdS.keep HR.out HF.out) (by omega)
          obtain ⟨Aj, cj, h1, h2⟩ := hc k hlt
          have l2 := flatten_take_le ps (k + 1)
          have l3 := flatten_take_succ ps k hlt
          have l4 := congrArg List.length l3
          rw [List.length_append] at l4
          obtain ⟨ys, hys⟩ : ∃ ys, ps.getD k [] = ys := ⟨_, rfl⟩
          obtain ⟨xs, hxs⟩ : ∃ xs, (ps.take k).flatten = xs := ⟨_, rfl⟩
          have ho : wr.ownsRow w.heap.size 5 1 (.slice As (ps.take k).flatten.length cs) (ps.take k).flatten.length (nums .u8 (ps.take k).flatten) := HM.out
          rw [hys] at h1 h2 l3 l4
          rw [hxs] at ho l3 l4 l1
          rw [l4] at l2
          have HL := hide (And.intro l3 (And.intro hxs (And.intro hc hrs)))
          have HB := hide HF.out.no
          rw [hxs]
          clear l3 l4 hxs hys hc hrs HM
          go_wp2_with (at_builtin; go_loud (refine print_append_row (w0 := w) w.heap.size rfl (.tmp 31) (.tmp 32) 28 5 .u8 1 rfl Tryd.underlying28 info5 (by decide) (.slice As xs.length cs) xs ys Aj ys.length cj rfl rfl ho h2 HB.out HB.out.size (by omega) ?_); intro v1 w2 hown1 hb1 hgrow hat)
          go_roundw
          case rel => exact ⟨k + 1, by omega, by go_num, ⟨by rw [HL.out.1]; exact hown1⟩, ⟨Fr.of_below hb1 (Nat.le_refl _)⟩⟩
          case measure => simp [intOf]; omega
        · have hk2 : k = ps.length := by omega
          subst hk2
          have e0 := hide (show (ps.take ps.length).flatten = ps.flatten by rw [List.take_length])
          clear hrs
          go_wp2_with fail
          go_ret
          exact ⟨_, rfl, by have := HM.out; rw [e0.out] at this; simpa using this, HF.out⟩
end Go.Proofs.YtkgffeclgapkbaaDoor
