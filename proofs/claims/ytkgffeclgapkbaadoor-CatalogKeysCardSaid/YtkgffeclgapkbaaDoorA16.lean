/- catalog.Get: the round of its loop. -/
import Derived.Test.YtkgffeclgapkbaaDoorA15
namespace Go.Proofs.YtkgffeclgapkbaaDoor
open Go.RowKit Go.Proofs.YtkgffeclgapkbaaDoorW.PrintWords
set_option linter.unusedVariables false
set_option linter.unusedSimpArgs false
set_option maxRecDepth 100000
def ixCells (x : Ix) : List Value := [.int .i64 x.id, .string x.path, .bool x.un]
def ixsCells (xs : List Ix) : List Value := (xs.map ixCells).flatten
theorem ixsCells_snoc (xs : List Ix) (x : Ix) : ixsCells (xs ++ [x]) = ixsCells xs ++ ixCells x := by simp [ixsCells]
theorem ixsCells_len (xs : List Ix) : (ixsCells xs).length = xs.length * 3 := by
  induction xs with
  | nil => rfl
  | cons a l ih => simp only [ixsCells, List.map_cons, List.flatten_cons, List.length_append, List.length_cons] at ih ⊢; rw [ih]; simp [ixCells]; omega
theorem info57 : (Tryd.prog.info? 57).map (fun i => (i.zero, i.size, i.bytes)) = some (some (.agg #[.int .i64 0, .string ByteArray.empty, .bool false]), 3, 32) := by kernel_rfl
/-- What Get holds in the midst of its loop. -/
structure GSt (w0 w : World) (g gc b2 : Nat) (id next : Int) (s : Option (List Int)) (xs : List Ix) : Prop where
  rs : RSt w g s
  co : ∃ v, w.heap[gc]? = some (.cells #[.int .u32 id, .int .u64 next, v] 34 (0, 0)) ∧ w.ownsRow w0.heap.size 57 3 v xs.length (ixsCells xs)
  z2 : w.heap[b2]? = some (.cells #[.int .u32 0, .int .u64 0, .slice none 0 0] 34 (0, 0))
  bl : Below w0.heap.size w0 w
  ge : w0.heap.size ≤ g ∧ w0.heap.size ≤ gc ∧ w0.heap.size ≤ b2 ∧ gc ≠ b2
theorem RSt.typed {w : World} {g : Nat} {s : Option (List Int)} (h : RSt w g s) : ∃ cs, w.heap[g]? = some (.cells cs 96 (0, 0)) := by
  obtain ⟨xs, e, ⟨A, c, hb, _⟩, _⟩ := h
  exact ⟨_, hb⟩
theorem own_fr {S : Nat → Prop} {w w1 : World} {base : Nat} {e : TypeId} {size n : Nat} {v : Value} {xs : List Value} (h : w.ownsRow base e size v n xs) (hf : Fr S w w1) (hn : ∀ k, v.ownBlock = some k → ¬ S k) : w1.ownsRow base e size v n xs :=
  own_move h (fun k hk => hf.block k (own_lt h k hk) (hn k hk))
theorem below_fr {B : Nat} {S : Nat → Prop} {w0 w w1 : World} (h : Below B w0 w) (hf : Fr S w w1) (hB : B ≤ w.heap.size) (hS : ∀ k, S k → B ≤ k) : Below B w0 w1 :=
  h.trans ⟨hf.os, hf.tape, hf.output, hf.size, fun k hk => hf.block k (by omega) (fun hs => by have := hS k hs; omega)⟩
/-- The state is kept by what turns neither the reader, nor the two variables, nor the row. -/
theorem GSt.fr {w0 w w1 : World} {g gc b2 : Nat} {id next : Int} {s s1 : Option (List Int)} {xs : List Ix} (h : GSt w0 w g gc b2 id next s xs) (hf : Fr (At g) w w1) (hr : RSt w1 g s1) (hB : w0.heap.size ≤ w.heap.size) : GSt w0 w1 g gc b2 id next s1 xs := by
  obtain ⟨cs, hg⟩ := h.rs.typed
  obtain ⟨v, hc, ho⟩ := h.co
  refine ⟨hr, ⟨v, hf.blk hc ?_, own_fr ho hf ?_⟩, hf.blk h.z2 ?_, below_fr h.bl hf hB (fun k hk => by have : k = g := hk; have := h.ge.1; omega), h.ge⟩
  · intro e
    have e : gc = g := e
    exact blk_ne hc hg (by decide) e
  · intro k hk e
    have e : k = g := e
    obtain ⟨cells, ht⟩ := own_typed ho k hk
    exact blk_ne ht hg (by decide) e
  · intro e
    have e : b2 = g := e
    exact blk_ne h.z2 hg (by decide) e
theorem GSt.no {w0 w w1 : World} {g gc b2 : Nat} {id next : Int} {s : Option (List Int)} {xs : List Ix} (h : GSt w0 w g gc b2 id next s xs) (hf : Fr No w w1) (hB : w0.heap.size ≤ w.heap.size) : GSt w0 w1 g gc b2 id next s xs :=
  h.fr (Fr.of_no hf) (h.rs.keep hf) hB
/-- .. nor by a store into another block. -/
theorem GSt.set_ {w0 w : World} {g gc b2 : Nat} {id next : Int} {s : Option (List Int)} {xs : List Ix} (h : GSt w0 w g gc b2 id next s xs) {bx : Nat} {cs : Array Value} (hbx : w.heap[bx]? = some (.cells cs 57 (0, 0))) (hrow : ∀ v, w.heap[gc]? = some (.cells #[.int .u32 id, .int .u64 next, v] 34 (0, 0)) → v.ownBlock ≠ some bx) (hge : w0.heap.size ≤ bx) (i : Nat) (u : Value) (hcs : ∀ (i : Nat) x, cs[i]? ≠ some (.int .u8 x)) :
    GSt w0 (w.setCell ⟨bx, i, none⟩ u) g gc b2 id next s xs := by
  obtain ⟨cg, hg⟩ := h.rs.typed
  obtain ⟨v, hc, ho⟩ := h.co
  have hf : Fr (At bx) w (w.setCell ⟨bx, i, none⟩ u) := Fr.one w bx i u
  refine ⟨?_, ⟨v, hf.blk hc (fun e => blk_ne hc hbx (by decide) e), own_fr ho hf ?_⟩, hf.blk h.z2 (fun e => blk_ne h.z2 hbx (by decide) e), h.bl.setCell (p := ⟨bx, i, none⟩) hge u, h.ge⟩
  · obtain ⟨ys, e, ⟨A, c, hb, hl, hA, hrd, hT⟩, h2⟩ := h.rs
    refine ⟨ys, e, ⟨A, c, hf.blk hb (fun e => blk_ne hb hbx (by decide) e), hl, hA, hf.rd hrd ?_, hT.keep hf (fun k cs hk e => blk_ne hk hbx (by decide) e)⟩, h2⟩
    rintro ad rfl h0 e
    exact Rd.ne hrd h0 hbx hcs e
  · intro k hk e
    have e : k = bx := e
    exact hrow v hc (by rw [hk, e])
end Go.Proofs.YtkgffeclgapkbaaDoor
