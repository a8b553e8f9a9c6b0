/- octet's Writer: Raw, Out, NewWriter; slices.Clone at bytes; catalog.num. -/
import Derived.Test.YtkgffeclgapkbaaDoorA1
namespace Go.Proofs.YtkgffeclgapkbaaDoor
open Go.RowKit Go.Proofs.YtkgffeclgapkbaaDoorW.PrintWords
set_option linter.unusedVariables false
set_option linter.unusedSimpArgs false
set_option maxRecDepth 100000
/-- A slice of bytes that is read. -/
abbrev Rd (w : World) (A : Option Addr) (xs : List Int) : Prop := ReadsInt w .u8 A xs.length xs
theorem Rd.nil (w : World) (A : Option Addr) : Rd w A [] := ⟨rfl, by simp, fun h => absurd h (by simp)⟩
theorem Fr.rd {S : Nat → Prop} {w w1 : World} {A : Option Addr} {xs : List Int} (h : Fr S w w1) (hr : Rd w A xs) (hn : ∀ ad, A = some ad → 0 < xs.length → ¬ S ad.block) : Rd w1 A xs :=
  ⟨hr.1, hr.2.1, fun h0 => by
    obtain ⟨ad, e, hc⟩ := hr.2.2 h0
    exact ⟨ad, e, fun j hj => h.cell (hc j hj) (by rw [add_block']; exact hn ad e h0)⟩⟩
theorem Fr.rd0 {w w1 : World} {A : Option Addr} {xs : List Int} (h : Fr No w w1) (hr : Rd w A xs) : Rd w1 A xs := h.rd hr (fun _ _ _ h => h)
/-- A slice that is read lies in a block that stands. -/
theorem Rd.lt {w : World} {ad : Addr} {xs : List Int} (hr : Rd w (some ad) xs) (h0 : 0 < xs.length) : ad.block < w.heap.size := by
  obtain ⟨ad', e, hc⟩ := hr.2.2 h0
  injection e with e
  subst e
  have := World.block_lt_of_cell? w _ (hc 0 h0)
  rwa [add_block'] at this
theorem Rd.ne {w : World} {ad : Addr} {xs : List Int} {g : Nat} {cs : Array Value} {t : TypeId} {fr : Nat × Nat} (hr : Rd w (some ad) xs) (h0 : 0 < xs.length) (hb : w.heap[g]? = some (.cells cs t fr)) (hcs : ∀ (i : Nat) x, cs[i]? ≠ some (.int .u8 x)) : ad.block ≠ g := by
  obtain ⟨ad', e, hc⟩ := hr.2.2 h0
  injection e with e
  subst e
  intro hg
  have h1 := hc 0 h0
  subst hg
  unfold World.cell? at h1
  rw [add_block', hb] at h1
  simp only at h1
  split at h1 <;> first | exact hcs _ _ h1 | cases h1
theorem own_rd {w : World} {base n : Nat} {v : Value} {xs : List Int} (h : w.ownsRow base 5 1 v n (nums .u8 xs)) : ∃ A c, v = .slice A xs.length c ∧ xs.length = n ∧ n ≤ c ∧ Rd w A xs := by
  obtain ⟨A, c, e, hl, hc, hr⟩ := own_B8 h
  refine ⟨A, c, e, hl, hc, rfl, hr.2.1, fun h0 => ?_⟩
  obtain ⟨ad, e, hx⟩ := hr.2.2 h0
  refine ⟨ad, e, fun j hj => ?_⟩
  obtain ⟨ad', e', hc'⟩ := B8_cell hr hj
  rw [e] at e'
  injection e' with e'
  subst e'
  exact hc'
theorem B8_rd {w : World} {A : Option Addr} {xs : List Int} (hr : B8.C w A xs.length xs) : Rd w A xs := by
  refine ⟨rfl, hr.2.1, fun h0 => ?_⟩
  obtain ⟨ad, e, hx⟩ := hr.2.2 h0
  refine ⟨ad, e, fun j hj => ?_⟩
  obtain ⟨ad', e', hc'⟩ := B8_cell hr hj
  rw [e] at e'
  injection e' with e'
  subst e'
  exact hc'
theorem rd_B8 {w : World} {A : Option Addr} {xs : List Int} (hr : Rd w A xs) : B8.C w A xs.length xs := B8_mk hr.2.1 hr.2.2
/-- A row of bytes made by a call: its value, what it reads. -/
def Mine (w0 w : World) (v : Value) (xs : List Int) : Prop := w.ownsRow w0.heap.size 5 1 v xs.length (nums .u8 xs)
theorem Mine.rd {w0 w : World} {v : Value} {xs : List Int} (h : Mine w0 w v xs) : ∃ A c, v = .slice A xs.length c ∧ xs.length ≤ c ∧ Rd w A xs := by
  obtain ⟨A, c, e, hl, hc, hr⟩ := own_rd h
  exact ⟨A, c, e, hc, hr⟩

set_option maxHeartbeats 1000000 in
/-- w.Raw(b) -/
theorem Raw_any (g : Nat) (w : World) (row : Option Nat) (xs : List Int) (hw : IsW w g row xs) (hl : xs.length ≤ 100000000)
    (A : Option Addr) (c : Nat) (ys : List Int) (hr : Rd w A ys) (hyl : ys.length ≤ 100000000) :
    Calls Tryd.prog 44 #[.pointer (some ⟨g, 0, none⟩), .slice A ys.length c] w fun e w' => e = .returned (.tuple #[]) ∧
      ∃ row', IsW w' g row' (xs ++ ys) ∧ Fr (GR g row) w w' ∧ Row2 w row row' := by
  obtain ⟨v, hb, hro, ho⟩ := hw
  obtain ⟨A0, c0, rfl⟩ := own_row ho
  have hc : w.cell? ⟨g, 0, none⟩ = some (.slice A0 xs.length c0) := blk_cell hb 0
  have hz : w.frozen? ⟨g, 0, none⟩ = false := blk_frozen hb 0
  have hne : some g ≠ (Value.slice A0 xs.length c0).ownBlock := own_ne ho hb (by decide)
  have HRO := hide hro
  clear hro
  go_enter Tryd.func44, Tryd.ntmps44
  go_wp2_with (at_builtin; refine print_append_row (w0 := w) 0 rfl (.tmp 10) (.tmp 11) 28 5 .u8 1 rfl Tryd.underlying28 info5 (by decide) (.slice A0 xs.length c0) xs ys A ys.length c rfl rfl ho hr (Below.refl _ _) (Nat.zero_le _) (by omega) ?_; intro v1 w1 hown1 hb1 hgrow hat; obtain ⟨hc1, hz1⟩ := keepGrow hc hz hgrow hne; obtain ⟨A1, c1, rfl⟩ := own_row hown1)
  go_end0
  refine ⟨rfl, ?_⟩
  exact IsW.put (v1 := .slice A1 (xs.length + ys.length) c1) (n := xs.length + ys.length) hb HRO.out ho (Fr.refl _ _) (.inl rfl) (Fr.refl _ _) hgrow (by simp) (by simpa using hown1) (by simpa using hat)
set_option maxHeartbeats 1000000 in
/-- NewWriter() -/
theorem NewWriter_any (w : World) : Calls Tryd.prog 23 #[] w fun e w' => ∃ g, e = .returned (.pointer (some ⟨g, 0, none⟩)) ∧ IsW w' g none [] ∧ Fr No w w' ∧ w.heap.size ≤ g := by
  go_enter Tryd.func23, Tryd.ntmps23
  go_wp2
  go_ret
  exact ⟨w.heap.size, rfl, ⟨_, heap_alloc_new w _, rfl, own_nil _ _ _ _⟩, (Fr.refl _ _).alloc _, Nat.le_refl _⟩
theorem own_empty (w : World) : (w.alloc (.cells #[] 5)).ownsRow w.heap.size 5 1 (.slice (some ⟨w.heap.size, 0, none⟩) 0 0) ([] : List Int).length (nums .u8 []) :=
  ⟨rfl, .inr ⟨w.heap.size, 0, #[], rfl, Nat.le_refl _, heap_alloc_new w _, Nat.le_refl _, by unfold maxLen; omega, rfl, rfl⟩⟩
set_option maxHeartbeats 1000000 in
/-- slices.Clone at bytes, of a slice that isn't nil -/
theorem Clone_some (w : World) (ad : Addr) (c : Nat) (ys : List Int) (hr : Rd w (some ad) ys) (hyl : ys.length ≤ 100000000) :
    Calls Tryd.prog 45 #[.slice (some ad) ys.length c] w fun e w' => ∃ v, e = .returned v ∧ Mine w w' v ys ∧ Fr No w w' := by
  have e0 := fun (W : World) (a : Option Addr) (n c : Nat) => Lib.run_eql_slice_nil (P := Tryd.prog) W 28 5 a n c 0 0 Tryd.underlying28
  go_enter Tryd.func45, Tryd.ntmps45
  go_wp2_with (at_builtin; go_loud (refine print_append_row (w0 := w) w.heap.size rfl (.tmp 5) (.tmp 6) 28 5 .u8 1 rfl Tryd.underlying28 info5 (by decide) (.slice (some ⟨w.heap.size, 0, none⟩) 0 0) [] ys (some ad) ys.length c rfl rfl (own_empty w) (Fr.rd0 ((Fr.refl No w).alloc _) hr) ((Below.refl _ _).alloc (Nat.le_refl _) _) (by simp) (by simp; omega) ?_); intro v1 w1 hown1 hb1 hgrow hat)
  go_ret
  exact ⟨_, rfl, by simpa [Mine] using hown1, Fr.of_below hb1 (Nat.le_refl _)⟩
set_option maxHeartbeats 1000000 in
theorem Clone_nil (w : World) :
    Calls Tryd.prog 45 #[.slice none 0 0] w fun e w' => e = .returned (.slice none 0 0) ∧ w = w' := by
  have e0 := fun (W : World) (a : Option Addr) (n c : Nat) => Lib.run_eql_slice_nil (P := Tryd.prog) W 28 5 a n c 0 0 Tryd.underlying28
  go_enter Tryd.func45, Tryd.ntmps45
  go_wp2
  go_ret
  exact ⟨rfl, rfl⟩
/-- slices.Clone at bytes, of any slice -/
theorem Clone_any (w : World) (A : Option Addr) (c : Nat) (ys : List Int) (hr : Rd w A ys) (hA : A = none → c = 0) (hyl : ys.length ≤ 100000000) :
    Calls Tryd.prog 45 #[.slice A ys.length c] w fun e w' => ∃ v, e = .returned v ∧ Mine w w' v ys ∧ Fr No w w' := by
  rcases A with _ | ad
  · obtain rfl := hA rfl
    have h0 : ys = [] := by
      rcases Nat.eq_zero_or_pos ys.length with h | h
      · exact List.eq_nil_of_length_eq_zero h
      · obtain ⟨_, h, _⟩ := hr.2.2 h
        cases h
    subst h0
    exact (Clone_nil w).mono fun e w' ⟨he, hw⟩ => ⟨_, he, by subst hw; exact own_nil _ _ _ _, by subst hw; exact Fr.refl _ _⟩
  · exact Clone_some w ad c ys hr hyl
set_option maxHeartbeats 1000000 in
/-- w.Out() -/
theorem Out_any (g : Nat) (w : World) (row : Option Nat) (xs : List Int) (hw : IsW w g row xs) (hl : xs.length ≤ 100000000) :
    Calls Tryd.prog 26 #[.pointer (some ⟨g, 0, none⟩)] w fun e w' => ∃ v, e = .returned v ∧ Mine w w' v xs ∧ Fr No w w' := by
  obtain ⟨v, hb, hro, ho⟩ := hw
  obtain ⟨A0, c0, rfl, _, hle, hrd⟩ := own_rd ho
  have hA : A0 = none → c0 = 0 := by
    rintro rfl
    rcases ho.2 with ⟨h, _⟩ | ⟨_, _, _, h, _⟩
    · injection h
    · cases h
  have hc : w.cell? ⟨g, 0, none⟩ = some (.slice A0 xs.length c0) := blk_cell hb 0
  clear hro
  go_enter Tryd.func26, Tryd.ntmps26
  go_wp2_with (go_at_call 45; refine (Clone_any w A0 c0 xs hrd hA hl).mono ?_; rintro e w' ⟨v, rfl, hm, hf⟩)
  go_ret
  exact ⟨_, rfl, hm, hf⟩
set_option maxHeartbeats 1000000 in
/-- num(x, n) -/
theorem num_any (x : Int) (n : Nat) (w : World) (hx0 : 0 ≤ x) (hx : x < 18446744073709551616) (h1 : 1 ≤ n) (h2 : n ≤ 8) :
    Calls Tryd.prog 40 #[.int .u64 x, .int .i64 n] w fun e w' => ∃ v, e = .returned v ∧ Mine w w' v (be x n n) ∧ Fr No w w' := by
  go_enter Tryd.func40, Tryd.ntmps40
  go_wp2_with fail
  refine (NewWriter_any w).mono ?_
  rintro e w1 ⟨g, rfl, hg, hf1, hgl⟩
  go_wp2_with fail
  refine (Num_any g x n w1 hx0 hx h1 h2 none [] hg (by simp)).mono ?_
  rintro e w2 ⟨rfl, row, hg2, hf2, hr2⟩
  go_wp2_with fail
  refine (Out_any g w2 row _ hg2 (by simp [be]; omega)).mono ?_
  rintro e w3 ⟨v, rfl, hm, hf3⟩
  go_wp2_with fail
  go_ret
  have hf : Fr No w w2 := hf1.trans hf2 (by
    intro i hi
    rcases hi with rfl | hi
    · exact .inr hgl
    · cases hi)
  exact ⟨_, rfl, own_weaken (by simpa [Mine] using hm) (hf.size), hf.trans hf3 (fun _ h => h.elim)⟩
end Go.Proofs.YtkgffeclgapkbaaDoor
