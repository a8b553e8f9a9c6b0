/- Words for the hand-made walks: what a call may have turned (Fr), a row of bytes of the call's own, slices of bytes that are read. -/
import Derived.Test.YtkgffeclgapkbaaDoorWWords
import Derived.Test.YtkgffeclgapkbaaDoorWLast
import Derived.Deep.RegionHeld3
import Derived.Lib.Hide
import Derived.WalkSpells
import Derived.WalkLawsBesides
import Derived.Deep.DeepFit
import Derived.Test.YtkgffeclgapkbaaDoorProg
import Derived.Deep.RegionLaw
import Derived.BigRegion
import Derived.Laws.BitsAllLaws
import Derived.Laws.BitsLemmas
import Derived.Deep.QuietTactic
import Derived.BigQuiet
namespace Go.Proofs.YtkgffeclgapkbaaDoor
open Go.RowKit Go.Proofs.YtkgffeclgapkbaaDoorW.PrintWords

/-- What a call may have turned: the blocks of S, and what is new. -/
structure Fr (S : Nat → Prop) (w w' : World) : Prop where
  os : w'.os = w.os
  tape : w'.tape = w.tape
  output : w'.output = w.output
  size : w.heap.size ≤ w'.heap.size
  block : ∀ k, k < w.heap.size → ¬ S k → w'.heap[k]? = w.heap[k]?

/-- nothing -/
def No : Nat → Prop := fun _ => False
/-- one block, and a row -/
def GR (g : Nat) (row : Option Nat) : Nat → Prop := fun k => k = g ∨ some k = row

section
variable {S T : Nat → Prop} {w w1 w2 : World}
theorem Fr.refl (S : Nat → Prop) (w : World) : Fr S w w := ⟨rfl, rfl, rfl, Nat.le_refl _, fun _ _ _ => rfl⟩
theorem Fr.trans (h : Fr S w w1) (k : Fr T w1 w2) (hT : ∀ i, T i → S i ∨ w.heap.size ≤ i) : Fr S w w2 :=
  ⟨k.os.trans h.os, k.tape.trans h.tape, k.output.trans h.output, Nat.le_trans h.size k.size, fun i hi hn =>
    (k.block i (Nat.lt_of_lt_of_le hi h.size) (fun ht => (hT i ht).elim hn (fun hl => absurd hi (by omega)))).trans (h.block i hi hn)⟩
theorem Fr.mono (h : Fr S w w1) (hS : ∀ i, S i → T i) : Fr T w w1 := ⟨h.os, h.tape, h.output, h.size, fun i hi hn => h.block i hi (fun hs => hn (hS i hs))⟩
theorem Fr.drew (h : Fr S w w1) : Fr S w w1.drew := ⟨h.os, h.tape, h.output, h.size, h.block⟩
theorem Fr.drewN (h : Fr S w w1) (n : Nat) : Fr S w (w1.drewN n) := ⟨h.os, h.tape, h.output, h.size, h.block⟩
theorem Fr.alloc (h : Fr S w w1) (o : Obj) : Fr S w (w1.alloc o) :=
  ⟨h.os, h.tape, h.output, Nat.le_trans h.size (by simp), fun i hi hn => (Below.heap_alloc w1 o i (Nat.lt_of_lt_of_le hi h.size)).trans (h.block i hi hn)⟩
theorem Fr.setCell (h : Fr S w w1) {p : Addr} (hp : S p.block ∨ w.heap.size ≤ p.block) (u : Value) : Fr S w (w1.setCell p u) :=
  ⟨h.os, h.tape, h.output, by simpa [World.setCell] using h.size, fun i hi hn => (Below.heap_setCell w1 p u i (by
    rintro rfl
    rcases hp with hp | hp
    · exact hn hp
    · omega)).trans (h.block i hi hn)⟩
theorem Fr.of_below {B : Nat} (h : Below B w w1) (hB : w.heap.size ≤ B) : Fr S w w1 := ⟨h.os, h.tape, h.output, h.size, fun i hi _ => h.block i (by omega)⟩
theorem Fr.below (h : Fr S w w1) (k : Below w1.heap.size w1 w2) : Fr S w w2 := h.trans (T := No) (Fr.of_below k (Nat.le_refl _)) (fun _ h => h.elim)
theorem Fr.grown (h : Fr S w w1) {row : Option Nat} (k : w1.grownBy w2 row) (hr : ∀ b, row = some b → S b ∨ w.heap.size ≤ b) : Fr S w w2 :=
  h.trans (T := fun i => some i = row) ⟨k.os, k.tape, k.output, k.size, k.block⟩ (fun i hi => hr i hi.symm)
theorem Fr.to_below {B : Nat} (h : Fr S w w1) (hS : ∀ i, i < B → ¬ S i) (hB : B ≤ w.heap.size) : Below B w w1 := ⟨h.os, h.tape, h.output, h.size, fun i hi => h.block i (by omega) (hS i hi)⟩
theorem Fr.no (h : Fr No w w1) : Below w.heap.size w w1 := h.to_below (fun _ _ h => h) (Nat.le_refl _)
theorem Fr.cell (h : Fr S w w1) {a : Addr} {v : Value} (hc : w.cell? a = some v) (hn : ¬ S a.block) : w1.cell? a = some v :=
  (World.cell?_of_block (w := w) (h.block a.block (World.block_lt_of_cell? w a hc) hn)).trans hc
theorem Fr.blk (h : Fr S w w1) {g : Nat} {o : Obj} (hb : w.heap[g]? = some o) (hn : ¬ S g) : w1.heap[g]? = some o := (h.block g (blk_lt hb) hn).trans hb
/-- what is read stays read -/
theorem Fr.C {α : Type} {d : Kd α} (hd : ∀ {W W' : World} {x : α} {cs : List Value}, d.K W x cs → d.K W' x cs) {A : Option Addr} {n : Nat} {xs : List α} (h : Fr S w w1) (hc : d.C w A n xs)
    (hn : ∀ ad, A = some ad → 0 < n → ¬ S ad.block) : d.C w1 A n xs :=
  ⟨hc.1, hc.2.1, fun h0 => by
    obtain ⟨ad, e, hx⟩ := hc.2.2 h0
    refine ⟨ad, e, fun j p hj => ?_⟩
    obtain ⟨c, h1, h2, h3⟩ := hx j p hj
    refine ⟨c, h1, hd h2, fun i u hu => h.cell (h3 i u hu) ?_⟩
    have : (ad.add (j * d.sz + i)).block = ad.block := by unfold Addr.add; split <;> rfl
    rw [this]
    exact hn ad e h0⟩
end
theorem add_block' (ad : Addr) (j : Nat) : (ad.add j).block = ad.block := by unfold Addr.add; split <;> rfl
/-- A fact that the walk's simp doesn't look into. -/
theorem hide {p : Prop} (h : p) : Aside0 p := ⟨h⟩

/-- The kind of bytes. -/
abbrev B8 : Kd Int := Kd.int .u8
theorem B8_K {w w' : World} {x : Int} {cs : List Value} (h : B8.K w x cs) : B8.K w' x cs := h
/-- A slice of bytes that is read: its cells. -/
theorem B8_cell {w : World} {A : Option Addr} {n : Nat} {xs : List Int} (h : B8.C w A n xs) {j : Nat} (hj : j < n) : ∃ ad, A = some ad ∧ w.cell? (ad.add j) = some (.int .u8 (xs.getD j 0)) := by
  obtain ⟨ad, e, hx⟩ := h.2.2 (by omega)
  have hl : j < xs.length := by rw [h.1]; exact hj
  obtain ⟨c, h1, h2, h3⟩ := hx j _ (List.getElem?_eq_getElem hl)
  have h2' : c = [Value.int .u8 xs[j]] := h2
  subst h2'
  have h4 := h3 0 _ rfl
  refine ⟨ad, e, ?_⟩
  have hz : B8.sz = 1 := rfl
  rw [hz, Nat.mul_one, Nat.add_zero] at h4
  rw [h4, List.getD_eq_getElem?_getD, List.getElem?_eq_getElem hl]
  rfl
theorem B8_mk {w : World} {A : Option Addr} {xs : List Int} (hm : xs.length ≤ 9223372036854775807) (h : 0 < xs.length → ∃ ad, A = some ad ∧ ∀ j, j < xs.length → w.cell? (ad.add j) = some (.int .u8 (xs.getD j 0))) : B8.C w A xs.length xs := by
  refine ⟨rfl, hm, fun h0 => ?_⟩
  obtain ⟨ad, e, hc⟩ := h h0
  refine ⟨ad, e, fun j p hj => ⟨[.int .u8 p], rfl, rfl, fun i u hu => ?_⟩⟩
  have hz : B8.sz = 1 := rfl
  have hl := (List.getElem?_eq_some_iff.1 hj).1
  match i, hu with
  | 0, hu =>
    simp at hu
    subst hu
    rw [hz, Nat.mul_one, Nat.add_zero, hc j hl, List.getD_eq_getElem?_getD, hj]
    rfl
/-- A row of bytes of the call's own reads. -/
theorem own_B8 {w : World} {base n : Nat} {v : Value} {xs : List Int} (h : w.ownsRow base 5 1 v n (nums .u8 xs)) : ∃ A c, v = .slice A xs.length c ∧ xs.length = n ∧ n ≤ c ∧ B8.C w A xs.length xs := by
  have hl : xs.length = n := by have := h.1; simpa [nums] using this
  subst hl
  rcases h.2 with ⟨rfl, h0⟩ | ⟨g, cap, cur, rfl, hb, hh, hnc, hcap, hsz, htk⟩
  · have : xs = [] := List.eq_nil_of_length_eq_zero h0
    subst this
    exact ⟨none, 0, rfl, rfl, Nat.le_refl _, B8_mk (by simp) (fun h => absurd h (by simp))⟩
  · refine ⟨some ⟨g, 0, none⟩, cap, rfl, rfl, hnc, B8_mk (by unfold maxLen at hcap; omega) (fun _ => ⟨_, rfl, fun j hj => ?_⟩)⟩
    rw [add_plain, cell_of_row w g j cur 5 (0, 0) hh]
    have e : cur.toList[j]? = (nums .u8 xs)[j]? := by
      rw [← htk, List.getElem?_take, if_pos (by omega)]
    have e2 : cur[j]? = cur.toList[j]? := by simp
    rw [e2, e]
    simp [nums, List.getElem?_eq_getElem hj, List.getD_eq_getElem?_getD]
theorem own_row {w : World} {base n : Nat} {e : TypeId} {v : Value} {xs : List Value} (h : w.ownsRow base e 1 v n xs) : ∃ A c, v = .slice A n c := by
  rcases h.2 with ⟨rfl, h0⟩ | ⟨g, cap, cur, rfl, _⟩
  · exact ⟨none, 0, by rw [h0]⟩
  · exact ⟨_, cap, rfl⟩
end Go.Proofs.YtkgffeclgapkbaaDoor
namespace Go.Proofs.YtkgffeclgapkbaaDoor
open Go.RowKit Go.Proofs.YtkgffeclgapkbaaDoorW.PrintWords
set_option linter.unusedVariables false
set_option linter.unusedSimpArgs false
set_option maxRecDepth 100000
theorem may_ok (n : Int) (w : World) (h1 : 1 ≤ n) (h2 : n ≤ 8) : Calls Tryd.prog 42 #[.int .i64 n] w fun e w' => e = .returned (.bool true) ∧ w = w' := by
  go_enter Tryd.func42, Tryd.ntmps42
  go_wp2
  go_ret
  exact ⟨by simp, rfl⟩
/-- A writer at block g that has put xs; its row is 'row'. -/
def IsW (w : World) (g : Nat) (row : Option Nat) (xs : List Int) : Prop :=
  ∃ v, w.heap[g]? = some (.cells #[v] 81 (0, 0)) ∧ v.ownBlock = row ∧ w.ownsRow 0 5 1 v xs.length (nums .u8 xs)
def Row2 (w : World) (r r' : Option Nat) : Prop := r' = r ∨ ∃ b, r' = some b ∧ w.heap.size ≤ b
def byteAt (x : Int) (n k : Nat) : Int := x / 2 ^ (8 * (n - 1 - k)) % 256
def be (x : Int) (n k : Nat) : List Int := (List.range k).map (byteAt x n)
theorem be_succ (x : Int) (n k : Nat) : be x n (k + 1) = be x n k ++ [byteAt x n k] := by simp [be, List.range_succ]
theorem info5 : (Tryd.prog.info? 5).map (fun i => (i.zero, i.size, i.bytes)) = some (some (.int .u8 0), 1, 1) := by kernel_rfl
theorem keepAlloc {w : World} {a : Addr} {u : Value} (h : w.cell? a = some u) (hz : w.frozen? a = false) (o : Obj) : (w.alloc o).drew.cell? a = some u ∧ (w.alloc o).drew.frozen? a = false := by
  have hl := World.block_lt_of_cell? w a h
  exact ⟨(World.cell?_alloc_lt w o a hl).trans h, (World.frozen?_alloc_old w o a (Nat.ne_of_lt hl)).trans hz⟩
theorem keepGrow {w w1 : World} {a : Addr} {u : Value} {row : Option Nat} (h : w.cell? a = some u) (hz : w.frozen? a = false) (hg : w.grownBy w1 row) (hn : some a.block ≠ row) : w1.cell? a = some u ∧ w1.frozen? a = false := by
  have hl := World.block_lt_of_cell? _ a h
  have hb := hg.block a.block hl hn
  exact ⟨(World.cell?_of_block hb).trans h, (World.frozen?_of_block hb).trans hz⟩
theorem keepGrown {w w1 : World} {o : Obj} {a : Addr} {u : Value} {row : Option Nat} (h : w.cell? a = some u) (hz : w.frozen? a = false) (hg : (w.alloc o).drew.grownBy w1 row) (hn : some a.block ≠ row) : w1.cell? a = some u ∧ w1.frozen? a = false := by
  obtain ⟨h1, h2⟩ := keepAlloc h hz o
  exact keepGrow h1 h2 hg hn
/-- What an append onto the writer's row and the store behind it leave. -/
theorem IsW.put {w wr w0 w1 : World} {g n : Nat} {row row' : Option Nat} {ys zs : List Int} {v v1 : Value}
    (hb : wr.heap[g]? = some (.cells #[v] 81 (0, 0))) (hr : v.ownBlock = row') (ho : wr.ownsRow 0 5 1 v ys.length (nums .u8 ys))
    (hf : Fr (GR g row) w wr) (hr2 : Row2 w row row')
    (h0 : Fr No wr w0) (hgrow : w0.grownBy w1 v.ownBlock) (hn : n = zs.length)
    (hown : w1.ownsRow 0 5 1 v1 n (nums .u8 zs)) (hat : v1.ownBlock = v.ownBlock ∨ ∃ b, v1.ownBlock = some b ∧ wr.heap.size ≤ b) :
    ∃ r, IsW (w1.setCell ⟨g, 0, none⟩ v1) g r zs ∧ Fr (GR g row) w (w1.setCell ⟨g, 0, none⟩ v1) ∧ Row2 w row r := by
  subst hn
  have hgl : g < wr.heap.size := blk_lt hb
  have hne : some g ≠ v.ownBlock := own_ne ho hb (by decide)
  have hb0 : w0.heap[g]? = some (.cells #[v] 81 (0, 0)) := h0.blk hb (fun h => h)
  have hb1 : w1.heap[g]? = some (.cells #[v] 81 (0, 0)) := blk_grown hb0 hgrow hne
  have hgg : some g ≠ v1.ownBlock := by
    rcases hat with h | ⟨b, h, hl⟩
    · rw [h]
      exact hne
    · rw [h]
      intro e
      injection e with e
      omega
  refine ⟨v1.ownBlock, ⟨_, by simpa using blk_set hb1 0 _, rfl, own_setCell hown hgg _⟩, ?_, ?_⟩
  · have hf0 : Fr (GR g row) w w0 := hf.trans h0 (fun _ h => h.elim)
    have hf1 : Fr (GR g row) w w1 := hf0.grown hgrow (by
      intro b hb'
      rw [hr] at hb'
      rcases hr2 with h | ⟨b2, h, hl⟩
      · exact .inl (.inr (by rw [← hb', h]))
      · rw [h] at hb'
        injection hb' with hb'
        subst hb'
        exact .inr hl)
    exact hf1.setCell (.inl (.inl rfl)) _
  · rcases hat with h | ⟨b, h, hl⟩
    · rw [hr] at h
      rw [h]
      exact hr2
    · exact .inr ⟨b, h, Nat.le_trans hf.size hl⟩
theorem Fr.alloc_drew (w : World) (o : Obj) : Fr No w (w.alloc o).drew := ((Fr.refl No w).alloc o).drew
set_option maxHeartbeats 1000000 in
/-- w.Num(x, n) -/
theorem Num_any (g : Nat) (x : Int) (n : Nat) (w : World) (hx0 : 0 ≤ x) (hx : x < 18446744073709551616) (h1 : 1 ≤ n) (h2 : n ≤ 8) (row : Option Nat) (xs : List Int) (hw : IsW w g row xs) (hl : xs.length ≤ 100000000) :
    Calls Tryd.prog 24 #[.pointer (some ⟨g, 0, none⟩), .int .u64 x, .int .i64 n] w fun e w' => e = .returned (.tuple #[]) ∧
      ∃ row', IsW w' g row' (xs ++ be x n n) ∧ Fr (GR g row) w w' ∧ Row2 w row row' := by
  have HW := hide hw
  clear hw
  go_enter Tryd.func24, Tryd.ntmps24
  go_wp2_with (go_at_call 42; refine (may_ok _ _ (by omega) (by omega)).mono ?_; rintro e w' ⟨rfl, rfl⟩)
  go_loopw [15] (fun i wr => ∃ k : Nat, k ≤ n ∧ i = .int .i64 k ∧ Aside0 (∃ row', IsW wr g row' (xs ++ be x n k) ∧ Fr (GR g row) w wr ∧ Row2 w row row')) (fun i _ => n - (intOf i).toNat)
  case atStart => exact ⟨0, Nat.zero_le _, rfl, ⟨row, by simpa [be] using HW.out, Fr.refl _ _, .inl rfl⟩⟩
  case round =>
    obtain ⟨k, hk, rfl, HR⟩ := hrel
    by_cases hlt : k < n
    · obtain ⟨row', ⟨v, hb, hr, ho⟩, hf, hr2⟩ := HR.out
      clear HR HW
      have hlen : (xs ++ be x n k).length ≤ 100000008 := by simp [be]; omega
      obtain ⟨ys, hys⟩ : ∃ ys, xs ++ be x n k = ys := ⟨_, rfl⟩
      rw [hys] at ho hlen
      have HYS := hide hys
      obtain ⟨A, c, rfl⟩ := own_row ho
      have hc : wr.cell? ⟨g, 0, none⟩ = some (.slice A ys.length c) := blk_cell hb 0
      have hz : wr.frozen? ⟨g, 0, none⟩ = false := blk_frozen hb 0
      obtain ⟨m, hm⟩ : ∃ m : Nat, m = 8 * (n - 1 - k) := ⟨_, rfl⟩
      have e1 : IntKind.i64.wrap ((n : Int) - 1) = (n : Int) - 1 := IntWalk.i64_in _ (by omega)
      have e2 : IntKind.i64.wrap ((n : Int) - 1 - (k : Int)) = (n : Int) - 1 - (k : Int) := IntWalk.i64_in _ (by omega)
      have e3 : IntKind.i64.wrap (8 * ((n : Int) - 1 - (k : Int))) = (m : Int) := by rw [IntWalk.i64_in _ (by omega)]; omega
      have m0 : (0 : Int) ≤ (m : Int) := by omega
      have m1 : (m : Int) ≤ 64 := by omega
      have HM := hide hm
      have HR := hide hr
      have HB := hide hb
      have HF := hide hf
      have hgl : g < wr.heap.size := blk_lt hb
      have hne : some g ≠ (Value.slice A ys.length c).ownBlock := own_ne ho hb (by decide)
      clear hm hys hr hf
      obtain ⟨i0, hi0, hz0, hz1, hz2⟩ := info_parts info5
      go_wp2_with fail
      go_region_law ((refine step_append_lies _ (by rfl) _ _ _ (by rfl) 0 5 i0 (.int .u8 0) 1 1 Tryd.underlying28 hi0 hz0 hz1 hz2 rfl (by omega) (.slice A ys.length c) ys.length (nums .u8 ys) (by rfl) ((ho.alloc _).drew) ⟨wr.heap.size, 0, none⟩ 1 1 [.int .u8 (x / 2 ^ m % 256)] (by rfl) (by rfl) (World.news_of_block (cs := #[.int .u8 (x / 2 ^ m % 256)]) (t := 5) (fr := (0, 0)) (heap_alloc_new wr _)) (by simp [Value.oneCell']) (by omega) (by unfold maxLen; omega) (by omega) (Nat.zero_le _) (wr.heap.size + 1) (by simp) ?_; intro gg cap w1 hown1 hgrow hat hlt; obtain ⟨hc1, hz1⟩ := keepGrown hc hz hgrow hne))
      all_goals
        have fin := IsW.put (n := ys.length + 1) (v1 := .slice (some ⟨gg, 0, none⟩) (ys.length + 1) cap) (zs := ys ++ [x / 2 ^ m % 256]) HB.out HR.out ho HF.out hr2 (Fr.alloc_drew _ _) hgrow (by simp) (by simpa [nums] using hown1) (hat.imp (fun h => h.symm) (fun h => ⟨gg, rfl, by omega⟩))
        have HFIN := hide fin
        clear fin hgrow hat
        go_wp2
        go_roundw
        case rel =>
          refine ⟨k + 1, by omega, by go_num, ⟨?_⟩⟩
          have hm := HM.out
          subst hm
          have e := HFIN.out
          have e2 : xs ++ be x n (k + 1) = ys ++ [x / 2 ^ (8 * (n - 1 - k)) % 256] := by rw [be_succ, ← List.append_assoc, HYS.out]; rfl
          rw [e2]
          exact e
        case measure => simp [intOf]; omega
    · have hk' : k = n := by omega
      subst hk'
      go_wp2
      go_end0
      exact ⟨rfl, HR.out⟩
end Go.Proofs.YtkgffeclgapkbaaDoor
namespace Go.Proofs.YtkgffeclgapkbaaDoor
open Go.RowKit Go.Proofs.YtkgffeclgapkbaaDoorW.PrintWords
set_option linter.unusedVariables false
set_option linter.unusedSimpArgs false
set_option maxRecDepth 100000
/-- A slice of bytes that is read. -/
abbrev Rd (w : World) (A : Option Addr) (xs : List Int) : Prop := ReadsInt w .u8 A xs.length xs
theorem Rd.nil (w : World) (A : Option Addr) : Rd w A [] := ⟨rfl, by simp, fun h => absurd h (by simp)⟩
theorem Fr.rd {S : Nat → Prop} {w w1 : World} {A : Option Addr} {xs : List Int} (h : Fr S w w1) (hr : Rd w A xs) (hn : ∀ ad, A = some ad → 0 < xs.length → ¬ S ad.block) : Rd w1 A xs :=
  ⟨hr.1, hr.2.1, fun h0 => by
    obtain ⟨ad, e, hc⟩ := hr.2.2 h0
    exact ⟨ad, e, fun j hj => h.cell (hc j hj) (by rw [add_block']; exact hn ad e h0)⟩⟩
theorem Fr.rd0 {w w1 : World} {A : Option Addr} {xs : List Int} (h : Fr No w w1) (hr : Rd w A xs) : Rd w1 A xs := h.rd hr (fun _ _ _ h => h)
/-- A slice that is read lies in a block that stands. -/
theorem Rd.lt {w : World} {ad : Addr} {xs : List Int} (hr : Rd w (some ad) xs) (h0 : 0 < xs.length) : ad.block < w.heap.size := by
  obtain ⟨ad', e, hc⟩ := hr.2.2 h0
  injection e with e
  subst e
  have := World.block_lt_of_cell? w _ (hc 0 h0)
  rwa [add_block'] at this
theorem Rd.ne {w : World} {ad : Addr} {xs : List Int} {g : Nat} {cs : Array Value} {t : TypeId} {fr : Nat × Nat} (hr : Rd w (some ad) xs) (h0 : 0 < xs.length) (hb : w.heap[g]? = some (.cells cs t fr)) (hcs : ∀ (i : Nat) x, cs[i]? ≠ some (.int .u8 x)) : ad.block ≠ g := by
  obtain ⟨ad', e, hc⟩ := hr.2.2 h0
  injection e with e
  subst e
  intro hg
  have h1 := hc 0 h0
  subst hg
  unfold World.cell? at h1
  rw [add_block', hb] at h1
  simp only at h1
  split at h1 <;> first | exact hcs _ _ h1 | cases h1
theorem own_rd {w : World} {base n : Nat} {v : Value} {xs : List Int} (h : w.ownsRow base 5 1 v n (nums .u8 xs)) : ∃ A c, v = .slice A xs.length c ∧ xs.length = n ∧ n ≤ c ∧ Rd w A xs := by
  obtain ⟨A, c, e, hl, hc, hr⟩ := own_B8 h
  refine ⟨A, c, e, hl, hc, rfl, hr.2.1, fun h0 => ?_⟩
  obtain ⟨ad, e, hx⟩ := hr.2.2 h0
  refine ⟨ad, e, fun j hj => ?_⟩
  obtain ⟨ad', e', hc'⟩ := B8_cell hr hj
  rw [e] at e'
  injection e' with e'
  subst e'
  exact hc'
theorem B8_rd {w : World} {A : Option Addr} {xs : List Int} (hr : B8.C w A xs.length xs) : Rd w A xs := by
  refine ⟨rfl, hr.2.1, fun h0 => ?_⟩
  obtain ⟨ad, e, hx⟩ := hr.2.2 h0
  refine ⟨ad, e, fun j hj => ?_⟩
  obtain ⟨ad', e', hc'⟩ := B8_cell hr hj
  rw [e] at e'
  injection e' with e'
  subst e'
  exact hc'
theorem rd_B8 {w : World} {A : Option Addr} {xs : List Int} (hr : Rd w A xs) : B8.C w A xs.length xs := B8_mk hr.2.1 hr.2.2
/-- A row of bytes made by a call: its value, what it reads. -/
def Mine (w0 w : World) (v : Value) (xs : List Int) : Prop := w.ownsRow w0.heap.size 5 1 v xs.length (nums .u8 xs)
theorem Mine.rd {w0 w : World} {v : Value} {xs : List Int} (h : Mine w0 w v xs) : ∃ A c, v = .slice A xs.length c ∧ xs.length ≤ c ∧ Rd w A xs := by
  obtain ⟨A, c, e, hl, hc, hr⟩ := own_rd h
  exact ⟨A, c, e, hc, hr⟩

set_option maxHeartbeats 1000000 in
/-- w.Raw(b) -/
theorem Raw_any (g : Nat) (w : World) (row : Option Nat) (xs : List Int) (hw : IsW w g row xs) (hl : xs.length ≤ 100000000)
    (A : Option Addr) (c : Nat) (ys : List Int) (hr : Rd w A ys) (hyl : ys.length ≤ 100000000) :
    Calls Tryd.prog 44 #[.pointer (some ⟨g, 0, none⟩), .slice A ys.length c] w fun e w' => e = .returned (.tuple #[]) ∧
      ∃ row', IsW w' g row' (xs ++ ys) ∧ Fr (GR g row) w w' ∧ Row2 w row row' := by
  obtain ⟨v, hb, hro, ho⟩ := hw
  obtain ⟨A0, c0, rfl⟩ := own_row ho
  have hc : w.cell? ⟨g, 0, none⟩ = some (.slice A0 xs.length c0) := blk_cell hb 0
  have hz : w.frozen? ⟨g, 0, none⟩ = false := blk_frozen hb 0
  have hne : some g ≠ (Value.slice A0 xs.length c0).ownBlock := own_ne ho hb (by decide)
  have HRO := hide hro
  clear hro
  go_enter Tryd.func44, Tryd.ntmps44
  go_wp2_with (at_builtin; refine print_append_row (w0 := w) 0 rfl (.tmp 10) (.tmp 11) 28 5 .u8 1 rfl Tryd.underlying28 info5 (by decide) (.slice A0 xs.length c0) xs ys A ys.length c rfl rfl ho hr (Below.refl _ _) (Nat.zero_le _) (by omega) ?_; intro v1 w1 hown1 hb1 hgrow hat; obtain ⟨hc1, hz1⟩ := keepGrow hc hz hgrow hne; obtain ⟨A1, c1, rfl⟩ := own_row hown1)
  go_end0
  refine ⟨rfl, ?_⟩
  exact IsW.put (v1 := .slice A1 (xs.length + ys.length) c1) (n := xs.length + ys.length) hb HRO.out ho (Fr.refl _ _) (.inl rfl) (Fr.refl _ _) hgrow (by simp) (by simpa using hown1) (by simpa using hat)
set_option maxHeartbeats 1000000 in
/-- NewWriter() -/
theorem NewWriter_any (w : World) : Calls Tryd.prog 23 #[] w fun e w' => ∃ g, e = .returned (.pointer (some ⟨g, 0, none⟩)) ∧ IsW w' g none [] ∧ Fr No w w' ∧ w.heap.size ≤ g := by
  go_enter Tryd.func23, Tryd.ntmps23
  go_wp2
  go_ret
  exact ⟨w.heap.size, rfl, ⟨_, heap_alloc_new w _, rfl, own_nil _ _ _ _⟩, (Fr.refl _ _).alloc _, Nat.le_refl _⟩
theorem own_empty (w : World) : (w.alloc (.cells #[] 5)).ownsRow w.heap.size 5 1 (.slice (some ⟨w.heap.size, 0, none⟩) 0 0) ([] : List Int).length (nums .u8 []) :=
  ⟨rfl, .inr ⟨w.heap.size, 0, #[], rfl, Nat.le_refl _, heap_alloc_new w _, Nat.le_refl _, by unfold maxLen; omega, rfl, rfl⟩⟩
set_option maxHeartbeats 1000000 in
/-- slices.Clone at bytes, of a slice that isn't nil -/
theorem Clone_some (w : World) (ad : Addr) (c : Nat) (ys : List Int) (hr : Rd w (some ad) ys) (hyl : ys.length ≤ 100000000) :
    Calls Tryd.prog 45 #[.slice (some ad) ys.length c] w fun e w' => ∃ v, e = .returned v ∧ Mine w w' v ys ∧ Fr No w w' := by
  have e0 := fun (W : World) (a : Option Addr) (n c : Nat) => Lib.run_eql_slice_nil (P := Tryd.prog) W 28 5 a n c 0 0 Tryd.underlying28
  go_enter Tryd.func45, Tryd.ntmps45
  go_wp2_with (at_builtin; go_loud (refine print_append_row (w0 := w) w.heap.size rfl (.tmp 5) (.tmp 6) 28 5 .u8 1 rfl Tryd.underlying28 info5 (by decide) (.slice (some ⟨w.heap.size, 0, none⟩) 0 0) [] ys (some ad) ys.length c rfl rfl (own_empty w) (Fr.rd0 ((Fr.refl No w).alloc _) hr) ((Below.refl _ _).alloc (Nat.le_refl _) _) (by simp) (by simp; omega) ?_); intro v1 w1 hown1 hb1 hgrow hat)
  go_ret
  exact ⟨_, rfl, by simpa [Mine] using hown1, Fr.of_below hb1 (Nat.le_refl _)⟩
set_option maxHeartbeats 1000000 in
theorem Clone_nil (w : World) :
    Calls Tryd.prog 45 #[.slice none 0 0] w fun e w' => e = .returned (.slice none 0 0) ∧ w = w' := by
  have e0 := fun (W : World) (a : Option Addr) (n c : Nat) => Lib.run_eql_slice_nil (P := Tryd.prog) W 28 5 a n c 0 0 Tryd.underlying28
  go_enter Tryd.func45, Tryd.ntmps45
  go_wp2
  go_ret
  exact ⟨rfl, rfl⟩
/-- slices.Clone at bytes, of any slice -/
theorem Clone_any (w : World) (A : Option Addr) (c : Nat) (ys : List Int) (hr : Rd w A ys) (hA : A = none → c = 0) (hyl : ys.length ≤ 100000000) :
    Calls Tryd.prog 45 #[.slice A ys.length c] w fun e w' => ∃ v, e = .returned v ∧ Mine w w' v ys ∧ Fr No w w' := by
  rcases A with _ | ad
  · obtain rfl := hA rfl
    have h0 : ys = [] := by
      rcases Nat.eq_zero_or_pos ys.length with h | h
      · exact List.eq_nil_of_length_eq_zero h
      · obtain ⟨_, h, _⟩ := hr.2.2 h
        cases h
    subst h0
    exact (Clone_nil w).mono fun e w' ⟨he, hw⟩ => ⟨_, he, by subst hw; exact own_nil _ _ _ _, by subst hw; exact Fr.refl _ _⟩
  · exact Clone_some w ad c ys hr hyl
set_option maxHeartbeats 1000000 in
/-- w.Out() -/
theorem Out_any (g : Nat) (w : World) (row : Option Nat) (xs : List Int) (hw : IsW w g row xs) (hl : xs.length ≤ 100000000) :
    Calls Tryd.prog 26 #[.pointer (some ⟨g, 0, none⟩)] w fun e w' => ∃ v, e = .returned v ∧ Mine w w' v xs ∧ Fr No w w' := by
  obtain ⟨v, hb, hro, ho⟩ := hw
  obtain ⟨A0, c0, rfl, _, hle, hrd⟩ := own_rd ho
  have hA : A0 = none → c0 = 0 := by
    rintro rfl
    rcases ho.2 with ⟨h, _⟩ | ⟨_, _, _, h, _⟩
    · injection h
    · cases h
  have hc : w.cell? ⟨g, 0, none⟩ = some (.slice A0 xs.length c0) := blk_cell hb 0
  clear hro
  go_enter Tryd.func26, Tryd.ntmps26
  go_wp2_with (go_at_call 45; refine (Clone_any w A0 c0 xs hrd hA hl).mono ?_; rintro e w' ⟨v, rfl, hm, hf⟩)
  go_ret
  exact ⟨_, rfl, hm, hf⟩
set_option maxHeartbeats 1000000 in
/-- num(x, n) -/
theorem num_any (x : Int) (n : Nat) (w : World) (hx0 : 0 ≤ x) (hx : x < 18446744073709551616) (h1 : 1 ≤ n) (h2 : n ≤ 8) :
    Calls Tryd.prog 40 #[.int .u64 x, .int .i64 n] w fun e w' => ∃ v, e = .returned v ∧ Mine w w' v (be x n n) ∧ Fr No w w' := by
  go_enter Tryd.func40, Tryd.ntmps40
  go_wp2_with fail
  refine (NewWriter_any w).mono ?_
  rintro e w1 ⟨g, rfl, hg, hf1, hgl⟩
  go_wp2_with fail
  refine (Num_any g x n w1 hx0 hx h1 h2 none [] hg (by simp)).mono ?_
  rintro e w2 ⟨rfl, row, hg2, hf2, hr2⟩
  go_wp2_with fail
  refine (Out_any g w2 row _ hg2 (by simp [be]; omega)).mono ?_
  rintro e w3 ⟨v, rfl, hm, hf3⟩
  go_wp2_with fail
  go_ret
  have hf : Fr No w w2 := hf1.trans hf2 (by
    intro i hi
    rcases hi with rfl | hi
    · exact .inr hgl
    · cases hi)
  exact ⟨_, rfl, own_weaken (by simpa [Mine] using hm) (hf.size), hf.trans hf3 (fun _ h => h.elim)⟩
end Go.Proofs.YtkgffeclgapkbaaDoor
namespace Go.Proofs.YtkgffeclgapkbaaDoor
open Go.RowKit Go.Proofs.YtkgffeclgapkbaaDoorW.PrintWords
set_option linter.unusedVariables false
set_option linter.unusedSimpArgs false
set_option maxRecDepth 100000
/-- the bytes lie in a row of bytes -/
def T5 (w : World) (A : Option Addr) (xs : List Int) : Prop := ∀ ad, A = some ad → 0 < xs.length → ∃ cs, w.heap[ad.block]? = some (.cells cs 5 (0, 0))
theorem T5.keep {S : Nat → Prop} {w w1 : World} {A : Option Addr} {xs : List Int} (h : T5 w A xs) (hf : Fr S w w1) (hS : ∀ k cs, w.heap[k]? = some (.cells cs 5 (0, 0)) → ¬ S k) : T5 w1 A xs := fun ad ha h0 => by
  obtain ⟨cs, hb⟩ := h ad ha h0
  exact ⟨cs, hf.blk hb (hS _ _ hb)⟩
theorem T5.keep0 {w w1 : World} {A : Option Addr} {xs : List Int} (h : T5 w A xs) (hf : Fr No w w1) : T5 w1 A xs := h.keep hf (fun _ _ _ h => h)
/-- A reader at block g: what is left, the first error. -/
def IsR (w : World) (g : Nat) (xs : List Int) (e : Int) : Prop :=
  ∃ A c, w.heap[g]? = some (.cells #[.slice A xs.length c, .int .i64 e] 96 (0, 0)) ∧ xs.length ≤ c ∧ (A = none → c = 0) ∧ Rd w A xs ∧ T5 w A xs
/-- one block -/
def At (g : Nat) : Nat → Prop := fun k => k = g
theorem Fr.one (w : World) (g i : Nat) (u : Value) : Fr (At g) w (w.setCell ⟨g, i, none⟩ u) := Fr.setCell (p := ⟨g, i, none⟩) (Fr.refl (At g) w) (.inl (show At g g from rfl)) u
theorem cut28 (A : Option Addr) (n c m : Nat) (hm : m ≤ n) (hA : A = none → c = 0) : ∃ A' : Option Addr, (∀ W : World, (Instr.slice 28 (.slice A n c) (some (.int .i64 (m : Int))) none none).run Tryd.prog W = .ok (.slice A' (n - m) (c - m)) W) ∧
      (∀ (w : World) (xs : List Int), n = xs.length → n ≤ c → Rd w A xs → Rd w A' (xs.drop m)) ∧ (∀ (w : World) (xs : List Int), n = xs.length → T5 w A xs → T5 w A' (xs.drop m)) ∧ (A' = none → c - m = 0) := by
  obtain ⟨i0, hi0, _, hz1, _⟩ := info_parts info5
  refine ⟨if c = m then A else A.map (·.add m), fun W => ?_, fun w xs hn hc h => ?_, fun w xs hn h ad ha h0 => ?_, fun h => ?_⟩
  · have hel : Tryd.prog.elem 28 = 5 := by simp [Program.elem, Tryd.underlying28]
    have hu : Tryd.prog.underlying 28 = some (.slice (Tryd.prog.elem 28)) := by rw [hel]; exact Tryd.underlying28
    rw [run_slice_l W 28 A n c hu .i64 (m : Int) (Int.natCast_nonneg _) (by omega), hel]
    simp [sizeOf, typeInfo, hi0, hz1, sliced, Result.andThen]
  · subst hn
    have := h.drop_ m hm hc
    unfold Rd
    rw [List.length_drop]
    exact this
  · rw [List.length_drop] at h0
    split at ha
    · exact h ad ha (by omega)
    · cases A with
      | none => cases ha
      | some a =>
        injection ha with ha
        obtain ⟨cs, hb⟩ := h a rfl (by omega)
        exact ⟨cs, by rw [← ha, add_block']; exact hb⟩
  · split at h
    · have := hA h
      omega
    · cases A with
      | none => have := hA rfl; omega
      | some a => cases h
theorem Err_any (g : Nat) (w : World) (xs : List Int) (e : Int) (h : IsR w g xs e) :
    Calls Tryd.prog 60 #[.pointer (some ⟨g, 0, none⟩)] w fun r w' => r = .returned (.int .i64 e) ∧ w = w' := by
  obtain ⟨A, c, hb, _, _, _, _⟩ := h
  have h1 : w.cell? ⟨g, 1, none⟩ = some (.int .i64 e) := blk_cell hb 1
  go_enter Tryd.func60, Tryd.ntmps60
  go_wp2
  go_ret
  exact ⟨rfl, rfl⟩
theorem Left_any (g : Nat) (w : World) (xs : List Int) (e : Int) (h : IsR w g xs e) :
    Calls Tryd.prog 36 #[.pointer (some ⟨g, 0, none⟩)] w fun r w' => r = .returned (.int .i64 xs.length) ∧ w = w' := by
  obtain ⟨A, c, hb, _, _, _, _⟩ := h
  have h1 : w.cell? ⟨g, 0, none⟩ = some (.slice A xs.length c) := blk_cell hb 0
  go_enter Tryd.func36, Tryd.ntmps36
  go_wp2
  go_ret
  exact ⟨rfl, rfl⟩
/-- what a reader's End tells -/
def endErr (xs : List Int) (e : Int) : Int := if e ≠ 0 then e else if 0 < xs.length then 12 else 0
theorem End_any (g : Nat) (w : World) (xs : List Int) (e : Int) (h : IsR w g xs e) :
    Calls Tryd.prog 37 #[.pointer (some ⟨g, 0, none⟩)] w fun r w' => r = .returned (.int .i64 (endErr xs e)) ∧ w = w' := by
  have H := hide h
  clear h
  by_cases he : e = 0
  · subst he
    have hd : ((0 : Int) != 0) = false := rfl
    by_cases hx : 0 < xs.length
    · have hx' : decide ((0 : Int) < (xs.length : Int)) = true := by simp; omega
      have hx2 : decide (0 < xs.length) = true := by simp; omega
      go_enter Tryd.func37, Tryd.ntmps37
      go_wp2_with (first | (go_at_call 60; refine (Err_any _ _ _ _ H.out).mono ?_; rintro e w' ⟨rfl, rfl⟩) | (go_at_call 36; refine (Left_any _ _ _ _ H.out).mono ?_; rintro e w' ⟨rfl, rfl⟩))
      go_ret
      exact ⟨by simp [endErr, hx], rfl⟩
    · have hx0 : xs.length = 0 := by omega
      have hx' : decide ((0 : Int) < (xs.length : Int)) = false := decide_eq_false (by omega)
      have hx2 : decide (0 < xs.length) = false := decide_eq_false hx
      clear hx0
      go_enter Tryd.func37, Tryd.ntmps37
      go_wp2_with (first | (go_at_call 60; refine (Err_any _ _ _ _ H.out).mono ?_; rintro e w' ⟨rfl, rfl⟩) | (go_at_call 36; refine (Left_any _ _ _ _ H.out).mono ?_; rintro e w' ⟨rfl, rfl⟩))
      go_ret
      exact ⟨by simp [endErr, hx], rfl⟩
  · have hd : (e != 0) = true := by simpa using he
    go_enter Tryd.func37, Tryd.ntmps37
    go_wp2_with (first | (go_at_call 60; refine (Err_any _ _ _ _ H.out).mono ?_; rintro e w' ⟨rfl, rfl⟩))
    go_ret
    exact ⟨by simp [endErr, he], rfl⟩
theorem IsR.set1 {w : World} {g : Nat} {xs : List Int} {e e' : Int} (h : IsR w g xs e) : IsR (w.setCell ⟨g, 1, none⟩ (.int .i64 e')) g xs e' := by
  obtain ⟨A, c, hb, hl, hA, hr, ht⟩ := h
  refine ⟨A, c, by simpa using blk_set hb 1 _, hl, hA, ?_, ht.keep (Fr.one w g 1 _) (fun k cs hk e => blk_ne hk hb (by decide) e)⟩
  refine Fr.rd (Fr.one w g 1 _) hr ?_
  rintro ad rfl h0
  exact Rd.ne hr h0 hb (by
    intro i x
    match i with
    | 0 => simp
    | 1 => simp
    | k + 2 => simp)
/-- what fail leaves -/
def failE (e e' : Int) : Int := if e = 0 then e' else e
theorem fail_any (g : Nat) (w : World) (xs : List Int) (e e' : Int) (h : IsR w g xs e) :
    Calls Tryd.prog 57 #[.pointer (some ⟨g, 0, none⟩), .int .i64 e'] w fun r w' => r = .returned (.tuple #[]) ∧ IsR w' g xs (failE e e') ∧ Fr (At g) w w' := by
  have H := hide h
  obtain ⟨A, c, hb, hl, hA, hr, _⟩ := h
  have h1 : w.cell? ⟨g, 1, none⟩ = some (.int .i64 e) := blk_cell hb 1
  have h2 : w.frozen? ⟨g, 1, none⟩ = false := blk_frozen hb 1
  clear hr hA
  by_cases he : e = 0
  · subst he
    go_enter Tryd.func57, Tryd.ntmps57
    go_wp2
    go_end0
    exact ⟨rfl, by simpa [failE] using H.out.set1, Fr.one w g 1 _⟩
  · have hd : (e == 0) = false := by simpa using he
    go_enter Tryd.func57, Tryd.ntmps57
    go_wp2
    go_end0
    exact ⟨rfl, by simpa [failE, he] using H.out, Fr.refl _ _⟩
theorem NewReader_any (w : World) (A : Option Addr) (c : Nat) (ys : List Int) (hr : Rd w A ys) (hA : A = none → c = 0) (hyl : ys.length ≤ 100000000) :
    Calls Tryd.prog 33 #[.slice A ys.length c] w fun e w' => ∃ g, e = .returned (.pointer (some ⟨g, 0, none⟩)) ∧ IsR w' g ys 0 ∧ Fr No w w' ∧ w.heap.size ≤ g := by
  have HR := hide hr
  clear hr
  go_enter Tryd.func33, Tryd.ntmps33
  go_wp2_with fail
  refine (Clone_any w A c ys HR.out hA hyl).mono ?_
  rintro e w1 ⟨v, rfl, hm, hf⟩
  obtain ⟨A1, c1, rfl, hle, hrd⟩ := hm.rd
  have hA1 : A1 = none → c1 = 0 := by
    rintro rfl
    rcases hm.2 with ⟨h, _⟩ | ⟨_, _, _, h, _⟩
    · injection h
    · cases h
  have ht5 : T5 w1 A1 ys := by
    rintro ad rfl h0
    exact own_typed hm ad.block rfl
  have HT := hide ht5
  clear hm ht5
  go_wp2
  go_ret
  exact ⟨_, rfl, ⟨A1, c1, heap_alloc_new w1 _, hle, hA1, ((Fr.refl No w1).alloc _).rd0 hrd, HT.out.keep0 ((Fr.refl No w1).alloc _)⟩, hf.alloc _, hf.size⟩
end Go.Proofs.YtkgffeclgapkbaaDoor
namespace Go.Proofs.YtkgffeclgapkbaaDoor
open Go.RowKit Go.Proofs.YtkgffeclgapkbaaDoorW.PrintWords
set_option linter.unusedVariables false
set_option linter.unusedSimpArgs false
set_option maxRecDepth 100000
theorem top28 (A : Option Addr) (l c n : Nat) (hn : n ≤ c) (W : World) : (Instr.slice 28 (.slice A l c) none (some (.int .i64 (n : Int))) (some (.int .i64 (n : Int)))).run Tryd.prog W = .ok (.slice A n n) W := by
  obtain ⟨i0, hi0, _, hz1, _⟩ := info_parts info5
  have hel : Tryd.prog.elem 28 = 5 := by simp [Program.elem, Tryd.underlying28]
  have hu : Tryd.prog.underlying 28 = some (.slice (Tryd.prog.elem 28)) := by rw [hel]; exact Tryd.underlying28
  have ha : (A.map fun x => x.add 0) = A := by cases A <;> simp [Addr.add]
  rw [run_slice_hm W 28 A l c hu .i64 .i64 n n (Int.natCast_nonneg _) (by omega) (by omega), hel]
  simp [sizeOf, typeInfo, hi0, hz1, sliced, Result.andThen, ha]
theorem IsR.setCut {w : World} {g m : Nat} {xs : List Int} {e : Int} {A A' : Option Addr} {c : Nat}
    (hb : w.heap[g]? = some (.cells #[.slice A xs.length c, .int .i64 e] 96 (0, 0))) (hl : xs.length ≤ c) (hm : m ≤ xs.length)
    (hr' : Rd w A' (xs.drop m)) (ht' : T5 w A' (xs.drop m)) (hA' : A' = none → c - m = 0) : IsR (w.setCell ⟨g, 0, none⟩ (.slice A' (xs.length - m) (c - m))) g (xs.drop m) e := by
  have hlen : (xs.drop m).length = xs.length - m := List.length_drop
  refine ⟨A', c - m, by rw [hlen]; simpa using blk_set hb 0 _, by rw [hlen]; omega, hA', ?_, ht'.keep (Fr.one w g 0 _) (fun k cs hk e => blk_ne hk hb (by decide) e)⟩
  refine Fr.rd (Fr.one w g 0 _) hr' ?_
  rintro ad rfl h0
  exact Rd.ne hr' h0 hb (by
    intro i x
    match i with
    | 0 => simp
    | 1 => simp
    | k + 2 => simp)
set_option maxHeartbeats 1000000 in
theorem take_ok (g : Nat) (w : World) (xs : List Int) (n : Nat) (h : IsR w g xs 0) (hn : n ≤ xs.length) (hs : xs.length ≤ 100000000) :
    Calls Tryd.prog 58 #[.pointer (some ⟨g, 0, none⟩), .int .i64 n] w fun r w' => ∃ A, r = .returned (.slice A n n) ∧ Rd w' A (xs.take n) ∧ (A = none → n = 0) ∧ IsR w' g (xs.drop n) 0 ∧ Fr (At g) w w' := by
  obtain ⟨A, c, hb, hl, hA, hr, hT⟩ := h
  have h0 : w.cell? ⟨g, 0, none⟩ = some (.slice A xs.length c) := blk_cell hb 0
  have h1 : w.cell? ⟨g, 1, none⟩ = some (.int .i64 0) := blk_cell hb 1
  have h2 : w.frozen? ⟨g, 0, none⟩ = false := blk_frozen hb 0
  have d1 : decide ((xs.length : Int) < (n : Int)) = false := decide_eq_false (by omega)
  have d2 : decide (xs.length < n) = false := decide_eq_false (by omega)
  have e1 := top28 A xs.length c n (by omega)
  obtain ⟨A', e2, hd, hdT, hA'⟩ := cut28 A xs.length c n hn hA
  have hrd' := hd w xs rfl hl hr
  have ht : Rd w A (xs.take n) := by
    have := hr.take_ n hn
    unfold Rd
    rw [List.length_take, Nat.min_eq_left hn]
    exact this
  have H := hide (And.intro hrd' (And.intro ht (And.intro hA (And.intro hA' (And.intro hb (hdT w xs rfl hT))))))
  clear hr hT hdT hd hrd' ht hA hA'
  go_enter Tryd.func58, Tryd.ntmps58
  go_wp2
  go_ret
  obtain ⟨hrd', ht, hA, hA', hb, hT'⟩ := H.out
  refine ⟨A, rfl, Fr.rd (Fr.one w g 0 _) ht ?_, fun h => by have := hA h; omega, IsR.setCut hb hl hn hrd' hT' hA', Fr.one w g 0 _⟩
  rintro ad rfl h0
  exact Rd.ne ht h0 hb (by
    intro i x
    match i with
    | 0 => simp
    | 1 => simp
    | k + 2 => simp)
def takeE (l n : Nat) (e : Int) : Int := if l < n then failE e 10 else e
set_option maxHeartbeats 1000000 in
theorem take_no (g : Nat) (w : World) (xs : List Int) (e : Int) (n : Nat) (h : IsR w g xs e) (hn : e ≠ 0 ∨ xs.length < n) (hs : xs.length ≤ 100000000) :
    Calls Tryd.prog 58 #[.pointer (some ⟨g, 0, none⟩), .int .i64 n] w fun r w' => r = .returned (.slice none 0 0) ∧ IsR w' g xs (takeE xs.length n e) ∧ Fr (At g) w w' := by
  have H := hide h
  obtain ⟨A, c, hb, hl, hA, hr, _⟩ := h
  have h0 : w.cell? ⟨g, 0, none⟩ = some (.slice A xs.length c) := blk_cell hb 0
  have h1 : w.cell? ⟨g, 1, none⟩ = some (.int .i64 e) := blk_cell hb 1
  clear hr hA
  by_cases hlt : xs.length < n
  · have d1 : decide ((xs.length : Int) < (n : Int)) = true := decide_eq_true (by omega)
    have d2 : decide (xs.length < n) = true := decide_eq_true (by omega)
    have hne : failE e 10 ≠ 0 := by unfold failE; split <;> omega
    have hd : (failE e 10 != 0) = true := by simpa using hne
    clear hn h1 hb hne
    go_enter Tryd.func58, Tryd.ntmps58
    go_wp2_with fail
    refine (fail_any g w xs e 10 H.out).mono ?_
    rintro r w1 ⟨rfl, hr1, hf⟩
    have H1 := hide hr1
    obtain ⟨A1, c1, hb1, _, _, _, _⟩ := hr1
    have h3 : w1.cell? ⟨g, 1, none⟩ = some (.int .i64 (failE e 10)) := blk_cell hb1 1
    go_wp2
    go_ret
    exact ⟨rfl, by simpa [takeE, hlt] using H1.out, hf⟩
  · have d1 : decide ((xs.length : Int) < (n : Int)) = false := decide_eq_false (by omega)
    have d2 : decide (xs.length < n) = false := decide_eq_false (by omega)
    have he : e ≠ 0 := by omega
    have hd : (e != 0) = true := by simpa using he
    clear hn he
    go_enter Tryd.func58, Tryd.ntmps58
    go_wp2
    go_ret
    exact ⟨rfl, by simpa [takeE, hlt] using H.out, Fr.refl _ _⟩
end Go.Proofs.YtkgffeclgapkbaaDoor
namespace Go.Proofs.YtkgffeclgapkbaaDoor
open Go.RowKit Go.Proofs.YtkgffeclgapkbaaDoorW.PrintWords
set_option linter.unusedVariables false
set_option linter.unusedSimpArgs false
set_option maxRecDepth 100000
/-- all are bytes -/
def Bs (xs : List Int) : Prop := ∀ b, b ∈ xs → 0 ≤ b ∧ b ≤ 255
/-- a number, of base B, the highest first -/
def valOf (B : Int) (xs : List Int) : Int := xs.foldl (fun x c => x * B + c) 0
theorem valOf_snoc (B : Int) (xs : List Int) (c : Int) : valOf B (xs ++ [c]) = valOf B xs * B + c := by simp [valOf, List.foldl_append]
theorem take_snoc' {xs : List Int} {k : Nat} (h : k < xs.length) : xs.take (k + 1) = xs.take k ++ [xs.getD k 0] := by
  rw [List.take_succ_eq_append_getElem h, List.getD_eq_getElem?_getD, List.getElem?_eq_getElem h]; rfl
theorem valOf_bound {xs : List Int} (h : Bs xs) : ∀ k, k ≤ xs.length → 0 ≤ valOf 256 (xs.take k) ∧ valOf 256 (xs.take k) < 256 ^ k
  | 0, _ => by simp [valOf]
  | k + 1, hk => by
    obtain ⟨h1, h2⟩ := valOf_bound h k (by omega)
    rw [take_snoc' (by omega), valOf_snoc]
    have hb := h (xs.getD k 0) (by rw [List.getD_eq_getElem?_getD, List.getElem?_eq_getElem (by omega)]; exact List.getElem_mem _)
    rw [Int.pow_succ]
    omega
theorem or_add (x c : Int) (k : Nat) (h0 : 0 ≤ x) (h1 : x * 2 ^ k + c < 18446744073709551616) (c0 : 0 ≤ c) (c1 : c < 2 ^ k) : bits .or .u64 (x * 2 ^ k) c = x * 2 ^ k + c := by
  obtain ⟨a, rfl⟩ := Int.eq_ofNat_of_zero_le h0
  obtain ⟨b, rfl⟩ := Int.eq_ofNat_of_zero_le c0
  have hb : b < 2 ^ k := by exact_mod_cast c1
  have e : (a : Int) * 2 ^ k = ((a * 2 ^ k : Nat) : Int) := by push_cast; rfl
  rw [e] at h1 ⊢
  have hlt : a * 2 ^ k + b < 18446744073709551616 := by omega
  rw [← Nat.shiftLeft_eq] at hlt ⊢
  show IntKind.u64.wrap ((BitVec.ofInt 64 _ ||| BitVec.ofInt 64 _).toNat : Int) = _
  rw [BitVec.toNat_or, BitVec.ofInt_natCast, BitVec.ofInt_natCast, BitVec.toNat_ofNat, BitVec.toNat_ofNat, Nat.mod_eq_of_lt (by omega), Nat.mod_eq_of_lt (by omega), ← Nat.shiftLeft_add_eq_or_of_lt hb]
  rw [IntWalk.u64_in _ (by omega)]
  push_cast
  rfl
theorem or_add8 (x c : Int) (h0 : 0 ≤ x) (h1 : x * 256 + c < 18446744073709551616) (c0 : 0 ≤ c) (c1 : c ≤ 255) : bits .or .u64 (x * 256) (IntKind.u64.wrap c) = x * 256 + c := by
  rw [IntWalk.u64_in _ (by omega)]
  exact or_add x c 8 h0 h1 c0 (by omega)
theorem getD_bs {xs : List Int} (h : Bs xs) (k : Nat) : 0 ≤ xs.getD k 0 ∧ xs.getD k 0 ≤ 255 := by
  rw [List.getD_eq_getElem?_getD]
  rcases Nat.lt_or_ge k xs.length with hk | hk
  · rw [List.getElem?_eq_getElem hk]
    exact h _ (List.getElem_mem _)
  · rw [List.getElem?_eq_none hk]
    exact ⟨by decide, by decide⟩
theorem pow256 (k : Nat) (h : k ≤ 7) : (256 : Int) ^ k ≤ 72057594037927936 := by
  have : k = 0 ∨ k = 1 ∨ k = 2 ∨ k = 3 ∨ k = 4 ∨ k = 5 ∨ k = 6 ∨ k = 7 := by omega
  rcases this with h | h | h | h | h | h | h | h <;> subst h <;> decide
set_option maxHeartbeats 1000000 in
theorem RNum_ok (g : Nat) (w : World) (xs : List Int) (n : Nat) (h : IsR w g xs 0) (hn : n ≤ xs.length) (hs : xs.length ≤ 100000000) (h1 : 1 ≤ n) (h8 : n ≤ 8) (hb : Bs xs) :
    Calls Tryd.prog 34 #[.pointer (some ⟨g, 0, none⟩), .int .i64 n] w fun r w' => r = .returned (.int .u64 (valOf 256 (xs.take n))) ∧ IsR w' g (xs.drop n) 0 ∧ Fr (At g) w w' := by
  have H := hide h
  clear h
  obtain ⟨ys, hys⟩ : ∃ ys, xs.take n = ys := ⟨_, rfl⟩
  have hyl : ys.length = n := by rw [← hys, List.length_take]; omega
  have hbs : Bs ys := by rw [← hys]; exact fun b hb' => hb b (List.mem_of_mem_take hb')
  have hle : ys.length ≤ n := by omega
  have hge : n ≤ ys.length := by omega
  rw [hys]
  have HYS := hide hys
  clear hys hyl
  go_enter Tryd.func34, Tryd.ntmps34
  go_wp2_with fail
  refine (may_ok _ _ (by omega) (by omega)).mono ?_
  rintro e w' ⟨rfl, rfl⟩
  go_wp2_with fail
  refine (take_ok g w xs n H.out hn hs).mono ?_
  rintro r w1 ⟨A, rfl, hr, hA, hR, hf⟩
  have HR := hide (And.intro hR hf)
  clear H hR hf
  rw [HYS.out] at hr
  go_wp2_with fail
  go_loop [5, 19] (fun x i => ∃ k : Nat, k ≤ n ∧ i = .int .i64 k ∧ x = .int .u64 (valOf 256 (ys.take k))) (fun _ i => n - (intOf i).toNat)
  case atStart => exact ⟨0, Nat.zero_le _, rfl, by simp [valOf]⟩
  case round =>
    obtain ⟨k, hk, rfl, rfl⟩ := hrel
    obtain ⟨v0, v1⟩ := valOf_bound hbs k (by omega)
    obtain ⟨c0, c1⟩ := getD_bs hbs k
    by_cases hlt : k < n
    · obtain ⟨ad, rfl, hc⟩ := hr.2.2 (by omega)
      have hck := hc k (by omega)
      have hp := pow256 k (by omega)
      have e1 : IntKind.u64.wrap (valOf 256 (ys.take k) * 2 ^ 8) = valOf 256 (ys.take k) * 2 ^ 8 := IntWalk.u64_in _ (by omega)
      have e2 := hide (or_add8 (valOf 256 (ys.take k)) (ys.getD k 0) v0 (by omega) c0 (by omega))
      have HC := hide hc
      clear hc
      go_wp2
      go_round
      case rel => exact ⟨k + 1, by omega, by go_num, by rw [take_snoc' (by omega), valOf_snoc, ← List.getD_eq_getElem?_getD]; exact congrArg _ e2.out⟩
      case measure => simp [intOf]; omega
    · have hkn : k = n := by omega
      subst hkn
      have ht : ys.take k = ys := List.take_of_length_le (by omega)
      have HT := hide ht
      clear ht
      go_wp2
      go_ret
      exact ⟨by rw [HT.out]; rfl, HR.out⟩
set_option maxHeartbeats 1000000 in
theorem RNum_no (g : Nat) (w : World) (xs : List Int) (e : Int) (n : Nat) (h : IsR w g xs e) (hn : e ≠ 0 ∨ xs.length < n) (hs : xs.length ≤ 100000000) (h1 : 1 ≤ n) (h8 : n ≤ 8) :
    Calls Tryd.prog 34 #[.pointer (some ⟨g, 0, none⟩), .int .i64 n] w fun r w' => r = .returned (.int .u64 0) ∧ IsR w' g xs (takeE xs.length n e) ∧ Fr (At g) w w' := by
  have H := hide h
  have HN := hide hn
  clear h hn
  go_enter Tryd.func34, Tryd.ntmps34
  go_wp2_with fail
  refine (may_ok _ _ (by omega) (by omega)).mono ?_
  rintro r w' ⟨rfl, rfl⟩
  go_wp2_with fail
  refine (take_no g w xs e n H.out HN.out hs).mono ?_
  rintro r w1 ⟨rfl, hR, hf⟩
  have HR := hide (And.intro hR hf)
  clear H hR hf
  go_wp2_with fail
  go_loop [5, 19] (fun x i => i = .int .i64 0 ∧ x = .int .u64 0) (fun _ i => 0)
  case atStart => exact ⟨rfl, rfl⟩
  case round =>
    obtain ⟨rfl, rfl⟩ := hrel
    go_wp2
    go_ret
    exact ⟨rfl, HR.out⟩
set_option maxHeartbeats 1000000 in
theorem RRaw_ok (g : Nat) (w : World) (xs : List Int) (n : Nat) (h : IsR w g xs 0) (hn : n ≤ xs.length) (hs : xs.length ≤ 100000000) :
    Calls Tryd.prog 61 #[.pointer (some ⟨g, 0, none⟩), .int .i64 n] w fun r w' => ∃ v, r = .returned v ∧ Mine w w' v (xs.take n) ∧ IsR w' g (xs.drop n) 0 ∧ Fr (At g) w w' := by
  have H := hide h
  clear h
  have d1 : decide ((n : Int) < 0) = false := decide_eq_false (by omega)
  have hl : (xs.take n).length = n := by rw [List.length_take]; omega
  have HL := hide hl
  clear hl
  go_enter Tryd.func61, Tryd.ntmps61
  go_wp2_with fail
  refine (take_ok g w xs n H.out hn hs).mono ?_
  rintro r w1 ⟨A, rfl, hr, hA, hR, hf⟩
  go_wp2_with fail
  have hc := Clone_any w1 A n (xs.take n) hr hA (by rw [HL.out]; omega)
  rw [HL.out] at hc
  refine hc.mono ?_
  rintro r w2 ⟨v, rfl, hm, hf2⟩
  go_wp2_with fail
  go_ret
  refine ⟨_, rfl, own_weaken hm hf.size, ?_, hf.trans hf2 (fun _ h => h.elim)⟩
  obtain ⟨A', c, hb, hl, hA', hrd, hT⟩ := hR
  exact ⟨A', c, hf2.blk hb (fun h => h), hl, hA', hf2.rd0 hrd, hT.keep0 hf2⟩
theorem IsR.keep {w w1 : World} {g : Nat} {xs : List Int} {e : Int} (h : IsR w g xs e) (hf : Fr No w w1) : IsR w1 g xs e := by
  obtain ⟨A', c, hb, hl, hA', hrd, hT⟩ := h
  exact ⟨A', c, hf.blk hb (fun h => h), hl, hA', hf.rd0 hrd, hT.keep0 hf⟩
set_option maxHeartbeats 1000000 in
theorem RRaw_no (g : Nat) (w : World) (xs : List Int) (e : Int) (n : Nat) (h : IsR w g xs e) (hn : e ≠ 0 ∨ xs.length < n) (hs : xs.length ≤ 100000000) :
    Calls Tryd.prog 61 #[.pointer (some ⟨g, 0, none⟩), .int .i64 n] w fun r w' => ∃ v, r = .returned v ∧ Mine w w' v [] ∧ IsR w' g xs (takeE xs.length n e) ∧ Fr (At g) w w' := by
  have H := hide h
  have HN := hide hn
  clear h hn
  have d1 : decide ((n : Int) < 0) = false := decide_eq_false (by omega)
  go_enter Tryd.func61, Tryd.ntmps61
  go_wp2_with fail
  refine (take_no g w xs e n H.out HN.out hs).mono ?_
  rintro r w1 ⟨rfl, hR, hf⟩
  go_wp2_with fail
  refine (Clone_nil w1).mono ?_
  rintro r w2 ⟨rfl, rfl⟩
  go_wp2_with fail
  go_ret
  exact ⟨_, rfl, own_nil _ _ _ _, hR, hf⟩
end Go.Proofs.YtkgffeclgapkbaaDoor
namespace Go.Proofs.YtkgffeclgapkbaaDoor
open Go.RowKit Go.Proofs.YtkgffeclgapkbaaDoorW.PrintWords
set_option linter.unusedVariables false
set_option linter.unusedSimpArgs false
set_option maxRecDepth 100000
theorem lt128 (c : Int) (w : World) : Calls Tryd.prog 70 #[.int .u8 c] w fun r w' => r = .returned (.bool (decide (c < 128))) ∧ w = w' := by
  go_enter Tryd.func70, Tryd.ntmps70
  go_wp2
  go_ret
  exact ⟨rfl, rfl⟩
/-- how many bytes of 128 and more are ahead -/
def highs (xs : List Int) : Nat := (xs.takeWhile fun c => decide (128 ≤ c)).length
def idx (xs : List Int) : Int := if highs xs < xs.length then highs xs else -1
theorem highs_le (xs : List Int) : highs xs ≤ xs.length := (List.takeWhile_sublist _).length_le
theorem highs_lt {xs : List Int} {k : Nat} (h : k < highs xs) : 128 ≤ xs.getD k 0 := by
  induction xs generalizing k with
  | nil => simp [highs] at h
  | cons a l ih =>
    unfold highs at h
    rw [List.takeWhile_cons] at h
    split at h
    · rename_i ha
      cases k with
      | zero => simpa using ha
      | succ k => simp at h ⊢; exact by simpa using ih h
    · simp at h
theorem highs_at {xs : List Int} (h : highs xs < xs.length) : xs.getD (highs xs) 0 < 128 := by
  induction xs with
  | nil => simp at h
  | cons a l ih =>
    unfold highs at h ⊢
    rw [List.takeWhile_cons] at h ⊢
    split at h
    · rename_i ha
      simp [ha] at h ⊢
      exact by simpa [highs] using ih (by simpa [highs] using h)
    · rename_i ha
      have ha' : ¬ 128 ≤ a := by simpa using ha
      simp [ha']
      omega
set_option maxHeartbeats 1000000 in
theorem IndexFunc_any (w : World) (A : Option Addr) (c : Nat) (ys : List Int) (hr : Rd w A ys) (hyl : ys.length ≤ 100000000) :
    Calls Tryd.prog 69 #[.slice A ys.length c, .func (.func 70) #[] #[]] w fun r w' => r = .returned (.int .i64 (idx ys)) ∧ w = w' := by
  go_enter Tryd.func69, Tryd.ntmps69
  go_wp2_with fail
  go_loop [5, 8] (fun x i => ∃ k : Nat, k ≤ highs ys ∧ k ≤ ys.length ∧ i = .int .i64 k) (fun _ i => ys.length - (intOf i).toNat)
  case atStart => exact ⟨0, Nat.zero_le _, Nat.zero_le _, rfl⟩
  case round =>
    obtain ⟨k, hk, hkl, rfl⟩ := hrel
    by_cases hlt : k < ys.length
    · obtain ⟨ad, rfl, hc⟩ := hr.2.2 (by omega)
      have hck := hc k (by omega)
      have HC := hide hc
      clear hc
      have eg : ys.getD k 0 = ys[k] := by rw [List.getD_eq_getElem?_getD, List.getElem?_eq_getElem hlt]; rfl
      by_cases hh : k < highs ys
      · have h1 : ¬ ys[k] < 128 := by have := highs_lt hh; omega
        clear eg
        go_wp2_with (go_at_call 70; refine (lt128 _ _).mono ?_; rintro r w' ⟨rfl, rfl⟩)
        go_round
        case rel => exact ⟨k + 1, by omega, by omega, by go_num⟩
        case measure => simp [intOf]; omega
      · have hk2 : k = highs ys := by omega
        have h1 : ys[k] < 128 := by have := highs_at (xs := ys) (by omega); rw [← hk2] at this; omega
        have hi : idx ys = (k : Int) := by unfold idx; rw [if_pos (by omega), hk2]
        have HI := hide hi
        clear hi hk2 hk hh eg
        go_wp2_with (go_at_call 70; refine (lt128 _ _).mono ?_; rintro r w' ⟨rfl, rfl⟩)
        go_ret
        exact ⟨by rw [HI.out]; rfl, rfl⟩
    · have hi : idx ys = -1 := by unfold idx; rw [if_neg (by omega)]
      have HI := hide hi
      clear hi
      go_wp2
      go_ret
      exact ⟨by rw [HI.out]; rfl, rfl⟩
/-- the world is the old one, orders having been drawn -/
def Dr (w w' : World) : Prop := ∃ n, w' = w.drewN n
theorem Dr.refl (w : World) : Dr w w := ⟨0, rfl⟩
theorem Dr.fr {w w' : World} (h : Dr w w') : Fr No w w' := by obtain ⟨n, rfl⟩ := h; exact (Fr.refl _ _).drewN n
theorem Dr.step {w w' : World} (h : Dr w w') (n : Nat) : Dr w (w'.drewN n) := by
  obtain ⟨m, rfl⟩ := h
  exact ⟨m + n, World.drewN_drewN ..⟩
set_option maxHeartbeats 1000000 in
/-- slices.Equal at bytes -/
theorem Equal_any (w : World) (A A' : Option Addr) (c c' : Nat) (xs ys : List Int) (hx : Rd w A xs) (hy : Rd w A' ys) (hxl : xs.length ≤ 100000000) (hyl : ys.length ≤ 100000000) :
    Calls Tryd.prog 71 #[.slice A xs.length c, .slice A' ys.length c'] w fun r w' => r = .returned (.bool (decide (xs = ys))) ∧ Dr w w' := by
  by_cases hl : xs.length = ys.length
  · have hne : ((xs.length : Int) != (ys.length : Int)) = false := by rw [hl]; simp
    have hl1 : xs.length ≤ ys.length := by omega
    have hl2 : ys.length ≤ xs.length := by omega
    clear hl
    go_enter Tryd.func71, Tryd.ntmps71
    go_wp2
    go_loopw [13] (fun i wr => ∃ k : Nat, k ≤ xs.length ∧ i = .int .i64 k ∧ Aside0 (xs.take k = ys.take k) ∧ Aside0 (Dr w wr)) (fun i _ => xs.length - (intOf i).toNat)
    case atStart => exact ⟨0, Nat.zero_le _, rfl, ⟨rfl⟩, ⟨Dr.refl _⟩⟩
    case round =>
      obtain ⟨k, hk, rfl, HE, HD⟩ := hrel
      by_cases hlt : k < xs.length
      · obtain ⟨ad, rfl, hc⟩ := (HD.out.fr.rd0 hx).2.2 (by omega)
        obtain ⟨ad', rfl, hc'⟩ := (HD.out.fr.rd0 hy).2.2 (by omega)
        have hck := hc k (by omega)
        have hck' := hc' k (by omega)
        have i0 : (0 : Int) ≤ (k : Int) := by omega
        have i1 : (k : Int) < (xs.length : Int) := by omega
        have i2 : (k : Int) < (ys.length : Int) := by omega
        have HX := hide (And.intro hx hy)
        clear hc hc' hx hy
        have hly : k < ys.length := by omega
        by_cases he : xs[k] = ys[k]
        · have hb : (xs[k] != ys[k]) = false := by simp [he]
          have hsn : xs.take (k + 1) = ys.take (k + 1) := by rw [List.take_succ_eq_append_getElem hlt, List.take_succ_eq_append_getElem hly, HE.out, he]
          have HSN := hide hsn
          clear hsn he HE
          go_wp2_with fail
          go_quiet (fail)
          go_wp2_with fail
          go_roundw
          case rel => exact ⟨k + 1, by omega, by go_num, HSN, ⟨HD.out.step _⟩⟩
          case measure => simp [intOf]; omega
        · have hb : (xs[k] != ys[k]) = true := by simpa using he
          have hd : decide (xs = ys) = false := by
            refine decide_eq_false (fun e => he ?_)
            subst e
            rfl
          have HDC := hide hd
          clear hd he HE
          go_wp2_with fail
          go_quiet (fail)
          go_wp2_with fail
          go_ret
          exact ⟨by rw [HDC.out]; rfl, HD.out.step _⟩
      · have hd : decide (xs = ys) = true := by
          refine decide_eq_true ?_
          have := HE.out
          rwa [List.take_of_length_le (by omega), List.take_of_length_le (by omega)] at this
        have HDC := hide hd
        clear hd HE
        go_wp2
        go_ret
        exact ⟨by rw [HDC.out]; rfl, HD.out⟩
  · have hne : ((xs.length : Int) != (ys.length : Int)) = true := by simp; omega
    have hd : decide (xs = ys) = false := decide_eq_false (fun e => hl (by rw [e]))
    have HDC := hide hd
    clear hd hl
    go_enter Tryd.func71, Tryd.ntmps71
    go_wp2
    go_ret
    exact ⟨by rw [HDC.out]; rfl, Dr.refl _⟩
end Go.Proofs.YtkgffeclgapkbaaDoor
