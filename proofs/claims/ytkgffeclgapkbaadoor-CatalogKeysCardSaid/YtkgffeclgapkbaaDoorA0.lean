/- Words for the hand-made walks: what a call may have turned (Fr), a row of bytes of the call's own, slices of bytes that are read. -/
import Derived.Test.YtkgffeclgapkbaaDoorWWords
import Derived.Test.YtkgffeclgapkbaaDoorWLast
import Derived.Deep.RegionHeld3
import Derived.Lib.Hide
import Derived.WalkSpells
import Derived.WalkLawsBesides
import Derived.Deep.DeepFit
namespace Go.Proofs.YtkgffeclgapkbaaDoor
open Go.RowKit Go.Proofs.YtkgffeclgapkbaaDoorW.PrintWords

/-- What a call may have turned: the blocks of S, and what is new. -/
structure Fr (S : Nat → Prop) (w w' : World) : Prop where
  os : w'.os = w.os
  tape : w'.tape = w.tape
  output : w'.output = w.output
  size : w.heap.size ≤ w'.heap.size
  block : ∀ k, k < w.heap.size → ¬ S k → w'.heap[k]? = w.heap[k]?

/-- nothing -/
def No : Nat → Prop := fun _ => False
/-- one block, and a row -/
def GR (g : Nat) (row : Option Nat) : Nat → Prop := fun k => k = g ∨ some k = row

section
variable {S T : Nat → Prop} {w w1 w2 : World}
theorem Fr.refl (S : Nat → Prop) (w : World) : Fr S w w := ⟨rfl, rfl, rfl, Nat.le_refl _, fun _ _ _ => rfl⟩
theorem Fr.trans (h : Fr S w w1) (k : Fr T w1 w2) (hT : ∀ i, T i → S i ∨ w.heap.size ≤ i) : Fr S w w2 :=
  ⟨k.os.trans h.os, k.tape.trans h.tape, k.output.trans h.output, Nat.le_trans h.size k.size, fun i hi hn =>
    (k.block i (Nat.lt_of_lt_of_le hi h.size) (fun ht => (hT i ht).elim hn (fun hl => absurd hi (by omega)))).trans (h.block i hi hn)⟩
theorem Fr.mono (h : Fr S w w1) (hS : ∀ i, S i → T i) : Fr T w w1 := ⟨h.os, h.tape, h.output, h.size, fun i hi hn => h.block i hi (fun hs => hn (hS i hs))⟩
theorem Fr.drew (h : Fr S w w1) : Fr S w w1.drew := ⟨h.os, h.tape, h.output, h.size, h.block⟩
theorem Fr.drewN (h : Fr S w w1) (n : Nat) : Fr S w (w1.drewN n) := ⟨h.os, h.tape, h.output, h.size, h.block⟩
theorem Fr.alloc (h : Fr S w w1) (o : Obj) : Fr S w (w1.alloc o) :=
  ⟨h.os, h.tape, h.output, Nat.le_trans h.size (by simp), fun i hi hn => (Below.heap_alloc w1 o i (Nat.lt_of_lt_of_le hi h.size)).trans (h.block i hi hn)⟩
theorem Fr.setCell (h : Fr S w w1) {p : Addr} (hp : S p.block ∨ w.heap.size ≤ p.block) (u : Value) : Fr S w (w1.setCell p u) :=
  ⟨h.os, h.tape, h.output, by simpa [World.setCell] using h.size, fun i hi hn => (Below.heap_setCell w1 p u i (by
    rintro rfl
    rcases hp with hp | hp
    · exact hn hp
    · omega)).trans (h.block i hi hn)⟩
theorem Fr.of_below {B : Nat} (h : Below B w w1) (hB : w.heap.size ≤ B) : Fr S w w1 := ⟨h.os, h.tape, h.output, h.size, fun i hi _ => h.block i (by omega)⟩
theorem Fr.below (h : Fr S w w1) (k : Below w1.heap.size w1 w2) : Fr S w w2 := h.trans (T := No) (Fr.of_below k (Nat.le_refl _)) (fun _ h => h.elim)
theorem Fr.grown (h : Fr S w w1) {row : Option Nat} (k : w1.grownBy w2 row) (hr : ∀ b, row = some b → S b ∨ w.heap.size ≤ b) : Fr S w w2 :=
  h.trans (T := fun i => some i = row) ⟨k.os, k.tape, k.output, k.size, k.block⟩ (fun i hi => hr i hi.symm)
theorem Fr.to_below {B : Nat} (h : Fr S w w1) (hS : ∀ i, i < B → ¬ S i) (hB : B ≤ w.heap.size) : Below B w w1 := ⟨h.os, h.tape, h.output, h.size, fun i hi => h.block i (by omega) (hS i hi)⟩
theorem Fr.no (h : Fr No w w1) : Below w.heap.size w w1 := h.to_below (fun _ _ h => h) (Nat.le_refl _)
theorem Fr.cell (h : Fr S w w1) {a : Addr} {v : Value} (hc : w.cell? a = some v) (hn : ¬ S a.block) : w1.cell? a = some v :=
  (World.cell?_of_block (w := w) (h.block a.block (World.block_lt_of_cell? w a hc) hn)).trans hc
theorem Fr.blk (h : Fr S w w1) {g : Nat} {o : Obj} (hb : w.heap[g]? = some o) (hn : ¬ S g) : w1.heap[g]? = some o := (h.block g (blk_lt hb) hn).trans hb
/-- what is read stays read -/
theorem Fr.C {α : Type} {d : Kd α} (hd : ∀ {W W' : World} {x : α} {cs : List Value}, d.K W x cs → d.K W' x cs) {A : Option Addr} {n : Nat} {xs : List α} (h : Fr S w w1) (hc : d.C w A n xs)
    (hn : ∀ ad, A = some ad → 0 < n → ¬ S ad.block) : d.C w1 A n xs :=
  ⟨hc.1, hc.2.1, fun h0 => by
    obtain ⟨ad, e, hx⟩ := hc.2.2 h0
    refine ⟨ad, e, fun j p hj => ?_⟩
    obtain ⟨c, h1, h2, h3⟩ := hx j p hj
    refine ⟨c, h1, hd h2, fun i u hu => h.cell (h3 i u hu) ?_⟩
    have : (ad.add (j * d.sz + i)).block = ad.block := by unfold Addr.add; split <;> rfl
    rw [this]
    exact hn ad e h0⟩
end
theorem add_block' (ad : Addr) (j : Nat) : (ad.add j).block = ad.block := by unfold Addr.add; split <;> rfl
/-- A fact that the walk's simp doesn't look into. -/
theorem hide {p : Prop} (h : p) : Aside0 p := ⟨h⟩

/-- The kind of bytes. -/
abbrev B8 : Kd Int := Kd.int .u8
theorem B8_K {w w' : World} {x : Int} {cs : List Value} (h : B8.K w x cs) : B8.K w' x cs := h
/-- A slice of bytes that is read: its cells. -/
theorem B8_cell {w : World} {A : Option Addr} {n : Nat} {xs : List Int} (h : B8.C w A n xs) {j : Nat} (hj : j < n) : ∃ ad, A = some ad ∧ w.cell? (ad.add j) = some (.int .u8 (xs.getD j 0)) := by
  obtain ⟨ad, e, hx⟩ := h.2.2 (by omega)
  have hl : j < xs.length := by rw [h.1]; exact hj
  obtain ⟨c, h1, h2, h3⟩ := hx j _ (List.getElem?_eq_getElem hl)
  have h2' : c = [Value.int .u8 xs[j]] := h2
  subst h2'
  have h4 := h3 0 _ rfl
  refine ⟨ad, e, ?_⟩
  have hz : B8.sz = 1 := rfl
  rw [hz, Nat.mul_one, Nat.add_zero] at h4
  rw [h4, List.getD_eq_getElem?_getD, List.getElem?_eq_getElem hl]
  rfl
theorem B8_mk {w : World} {A : Option Addr} {xs : List Int} (hm : xs.length ≤ 9223372036854775807) (h : 0 < xs.length → ∃ ad, A = some ad ∧ ∀ j, j < xs.length → w.cell? (ad.add j) = some (.int .u8 (xs.getD j 0))) : B8.C w A xs.length xs := by
  refine ⟨rfl, hm, fun h0 => ?_⟩
  obtain ⟨ad, e, hc⟩ := h h0
  refine ⟨ad, e, fun j p hj => ⟨[.int .u8 p], rfl, rfl, fun i u hu => ?_⟩⟩
  have hz : B8.sz = 1 := rfl
  have hl := (List.getElem?_eq_some_iff.1 hj).1
  match i, hu with
  | 0, hu =>
    simp at hu
    subst hu
    rw [hz, Nat.mul_one, Nat.add_zero, hc j hl, List.getD_eq_getElem?_getD, hj]
    rfl
/-- A row of bytes of the call's own reads. -/
theorem own_B8 {w : World} {base n : Nat} {v : Value} {xs : List Int} (h : w.ownsRow base 5 1 v n (nums .u8 xs)) : ∃ A c, v = .slice A xs.length c ∧ xs.length = n ∧ n ≤ c ∧ B8.C w A xs.length xs := by
  have hl : xs.length = n := by have := h.1; simpa [nums] using this
  subst hl
  rcases h.2 with ⟨rfl, h0⟩ | ⟨g, cap, cur, rfl, hb, hh, hnc, hcap, hsz, htk⟩
  · have : xs = [] := List.eq_nil_of_length_eq_zero h0
    subst this
    exact ⟨none, 0, rfl, rfl, Nat.le_refl _, B8_mk (by simp) (fun h => absurd h (by simp))⟩
  · refine ⟨some ⟨g, 0, none⟩, cap, rfl, rfl, hnc, B8_mk (by unfold maxLen at hcap; omega) (fun _ => ⟨_, rfl, fun j hj => ?_⟩)⟩
    rw [add_plain, cell_of_row w g j cur 5 (0, 0) hh]
    have e : cur.toList[j]? = (nums .u8 xs)[j]? := by
      rw [← htk, List.getElem?_take, if_pos (by omega)]
    have e2 : cur[j]? = cur.toList[j]? := by simp
    rw [e2, e]
    simp [nums, List.getElem?_eq_getElem hj, List.getD_eq_getElem?_getD]
theorem own_row {w : World} {base n : Nat} {e : TypeId} {v : Value} {xs : List Value} (h : w.ownsRow base e 1 v n xs) : ∃ A c, v = .slice A n c := by
  rcases h.2 with ⟨rfl, h0⟩ | ⟨g, cap, cur, rfl, _⟩
  · exact ⟨none, 0, by rw [h0]⟩
  · exact ⟨_, cap, rfl⟩
end Go.Proofs.YtkgffeclgapkbaaDoor
