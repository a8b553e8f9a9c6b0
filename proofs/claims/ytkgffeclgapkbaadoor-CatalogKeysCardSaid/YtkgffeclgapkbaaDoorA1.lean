/- octet's Writer: Num, Raw and what they need. -/
import Derived.Test.YtkgffeclgapkbaaDoorProg
import Derived.Test.YtkgffeclgapkbaaDoorA0
import Derived.Deep.RegionLaw
import Derived.BigRegion
namespace Go.Proofs.YtkgffeclgapkbaaDoor
open Go.RowKit Go.Proofs.YtkgffeclgapkbaaDoorW.PrintWords
set_option linter.unusedVariables false
set_option linter.unusedSimpArgs false
set_option maxRecDepth 100000
theorem may_ok (n : Int) (w : World) (h1 : 1 ≤ n) (h2 : n ≤ 8) : Calls Tryd.prog 42 #[.int .i64 n] w fun e w' => e = .returned (.bool true) ∧ w = w' := by
  go_enter Tryd.func42, Tryd.ntmps42
  go_wp2
  go_ret
  exact ⟨by simp, rfl⟩
/-- A writer at block g that has put xs; its row is 'row'. -/
def IsW (w : World) (g : Nat) (row : Option Nat) (xs : List Int) : Prop :=
  ∃ v, w.heap[g]? = some (.cells #[v] 81 (0, 0)) ∧ v.ownBlock = row ∧ w.ownsRow 0 5 1 v xs.length (nums .u8 xs)
def Row2 (w : World) (r r' : Option Nat) : Prop := r' = r ∨ ∃ b, r' = some b ∧ w.heap.size ≤ b
def byteAt (x : Int) (n k : Nat) : Int := x / 2 ^ (8 * (n - 1 - k)) % 256
def be (x : Int) (n k : Nat) : List Int := (List.range k).map (byteAt x n)
theorem be_succ (x : Int) (n k : Nat) : be x n (k + 1) = be x n k ++ [byteAt x n k] := by simp [be, List.range_succ]
theorem info5 : (Tryd.prog.info? 5).map (fun i => (i.zero, i.size, i.bytes)) = some (some (.int .u8 0), 1, 1) := by kernel_rfl
theorem keepAlloc {w : World} {a : Addr} {u : Value} (h : w.cell? a = some u) (hz : w.frozen? a = false) (o : Obj) : (w.alloc o).drew.cell? a = some u ∧ (w.alloc o).drew.frozen? a = false := by
  have hl := World.block_lt_of_cell? w a h
  exact ⟨(World.cell?_alloc_lt w o a hl).trans h, (World.frozen?_alloc_old w o a (Nat.ne_of_lt hl)).trans hz⟩
theorem keepGrow {w w1 : World} {a : Addr} {u : Value} {row : Option Nat} (h : w.cell? a = some u) (hz : w.frozen? a = false) (hg : w.grownBy w1 row) (hn : some a.block ≠ row) : w1.cell? a = some u ∧ w1.frozen? a = false := by
  have hl := World.block_lt_of_cell? _ a h
  have hb := hg.block a.block hl hn
  exact ⟨(World.cell?_of_block hb).trans h, (World.frozen?_of_block hb).trans hz⟩
theorem keepGrown {w w1 : World} {o : Obj} {a : Addr} {u : Value} {row : Option Nat} (h : w.cell? a = some u) (hz : w.frozen? a = false) (hg : (w.alloc o).drew.grownBy w1 row) (hn : some a.block ≠ row) : w1.cell? a = some u ∧ w1.frozen? a = false := by
  obtain ⟨h1, h2⟩ := keepAlloc h hz o
  exact keepGrow h1 h2 hg hn
/-- What an append onto the writer's row and the store behind it leave. -/
theorem IsW.put {w wr w0 w1 : World} {g n : Nat} {row row' : Option Nat} {ys zs : List Int} {v v1 : Value}
    (hb : wr.heap[g]? = some (.cells #[v] 81 (0, 0))) (hr : v.ownBlock = row') (ho : wr.ownsRow 0 5 1 v ys.length (nums .u8 ys))
    (hf : Fr (GR g row) w wr) (hr2 : Row2 w row row')
    (h0 : Fr No wr w0) (hgrow : w0.grownBy w1 v.ownBlock) (hn : n = zs.length)
    (hown : w1.ownsRow 0 5 1 v1 n (nums .u8 zs)) (hat : v1.ownBlock = v.ownBlock ∨ ∃ b, v1.ownBlock = some b ∧ wr.heap.size ≤ b) :
    ∃ r, IsW (w1.setCell ⟨g, 0, none⟩ v1) g r zs ∧ Fr (GR g row) w (w1.setCell ⟨g, 0, none⟩ v1) ∧ Row2 w row r := by
  subst hn
  have hgl : g < wr.heap.size := blk_lt hb
  have hne : some g ≠ v.ownBlock := own_ne ho hb (by decide)
  have hb0 : w0.heap[g]? = some (.cells #[v] 81 (0, 0)) := h0.blk hb (fun h => h)
  have hb1 : w1.heap[g]? = some (.cells #[v] 81 (0, 0)) := blk_grown hb0 hgrow hne
  have hgg : some g ≠ v1.ownBlock := by
    rcases hat with h | ⟨b, h, hl⟩
    · rw [h]
      exact hne
    · rw [h]
      intro e
      injection e with e
      omega
  refine ⟨v1.ownBlock, ⟨_, by simpa using blk_set hb1 0 _, rfl, own_setCell hown hgg _⟩, ?_, ?_⟩
  · have hf0 : Fr (GR g row) w w0 := hf.trans h0 (fun _ h => h.elim)
    have hf1 : Fr (GR g row) w w1 := hf0.grown hgrow (by
      intro b hb'
      rw [hr] at hb'
      rcases hr2 with h | ⟨b2, h, hl⟩
      · exact .inl (.inr (by rw [← hb', h]))
      · rw [h] at hb'
        injection hb' with hb'
        subst hb'
        exact .inr hl)
    exact hf1.setCell (.inl (.inl rfl)) _
  · rcases hat with h | ⟨b, h, hl⟩
    · rw [hr] at h
      rw [h]
      exact hr2
    · exact .inr ⟨b, h, Nat.le_trans hf.size hl⟩
theorem Fr.alloc_drew (w : World) (o : Obj) : Fr No w (w.alloc o).drew := ((Fr.refl No w).alloc o).drew
set_option maxHeartbeats 1000000 in
/-- w.Num(x, n) -/
theorem Num_any (g : Nat) (x : Int) (n : Nat) (w : World) (hx0 : 0 ≤ x) (hx : x < 18446744073709551616) (h1 : 1 ≤ n) (h2 : n ≤ 8) (row : Option Nat) (xs : List Int) (hw : IsW w g row xs) (hl : xs.length ≤ 100000000) :
    Calls Tryd.prog 24 #[.pointer (some ⟨g, 0, none⟩), .int .u64 x, .int .i64 n] w fun e w' => e = .returned (.tuple #[]) ∧
      ∃ row', IsW w' g row' (xs ++ be x n n) ∧ Fr (GR g row) w w' ∧ Row2 w row row' := by
  have HW := hide hw
  clear hw
  go_enter Tryd.func24, Tryd.ntmps24
  go_wp2_with (go_at_call 42; refine (may_ok _ _ (by omega) (by omega)).mono ?_; rintro e w' ⟨rfl, rfl⟩)
  go_loopw [15] (fun i wr => ∃ k : Nat, k ≤ n ∧ i = .int .i64 k ∧ Aside0 (∃ row', IsW wr g row' (xs ++ be x n k) ∧ Fr (GR g row) w wr ∧ Row2 w row row')) (fun i _ => n - (intOf i).toNat)
  case atStart => exact ⟨0, Nat.zero_le _, rfl, ⟨row, by simpa [be] using HW.out, Fr.refl _ _, .inl rfl⟩⟩
  case round =>
    obtain ⟨k, hk, rfl, HR⟩ := hrel
    by_cases hlt : k < n
    · obtain ⟨row', ⟨v, hb, hr, ho⟩, hf, hr2⟩ := HR.out
      clear HR HW
      have hlen : (xs ++ be x n k).length ≤ 100000008 := by simp [be]; omega
      obtain ⟨ys, hys⟩ : ∃ ys, xs ++ be x n k = ys := ⟨_, rfl⟩
      rw [hys] at ho hlen
      have HYS := hide hys
      obtain ⟨A, c, rfl⟩ := own_row ho
      have hc : wr.cell? ⟨g, 0, none⟩ = some (.slice A ys.length c) := blk_cell hb 0
      have hz : wr.frozen? ⟨g, 0, none⟩ = false := blk_frozen hb 0
      obtain ⟨m, hm⟩ : ∃ m : Nat, m = 8 * (n - 1 - k) := ⟨_, rfl⟩
      have e1 : IntKind.i64.wrap ((n : Int) - 1) = (n : Int) - 1 := IntWalk.i64_in _ (by omega)
      have e2 : IntKind.i64.wrap ((n : Int) - 1 - (k : Int)) = (n : Int) - 1 - (k : Int) := IntWalk.i64_in _ (by omega)
      have e3 : IntKind.i64.wrap (8 * ((n : Int) - 1 - (k : Int))) = (m : Int) := by rw [IntWalk.i64_in _ (by omega)]; omega
      have m0 : (0 : Int) ≤ (m : Int) := by omega
      have m1 : (m : Int) ≤ 64 := by omega
      have HM := hide hm
      have HR := hide hr
      have HB := hide hb
      have HF := hide hf
      have hgl : g < wr.heap.size := blk_lt hb
      have hne : some g ≠ (Value.slice A ys.length c).ownBlock := own_ne ho hb (by decide)
      clear hm hys hr hf
      obtain ⟨i0, hi0, hz0, hz1, hz2⟩ := info_parts info5
      go_wp2_with fail
      go_region_law ((refine step_append_lies _ (by rfl) _ _ _ (by rfl) 0 5 i0 (.int .u8 0) 1 1 Tryd.underlying28 hi0 hz0 hz1 hz2 rfl (by omega) (.slice A ys.length c) ys.length (nums .u8 ys) (by rfl) ((ho.alloc _).drew) ⟨wr.heap.size, 0, none⟩ 1 1 [.int .u8 (x / 2 ^ m % 256)] (by rfl) (by rfl) (World.news_of_block (cs := #[.int .u8 (x / 2 ^ m % 256)]) (t := 5) (fr := (0, 0)) (heap_alloc_new wr _)) (by simp [Value.oneCell']) (by omega) (by unfold maxLen; omega) (by omega) (Nat.zero_le _) (wr.heap.size + 1) (by simp) ?_; intro gg cap w1 hown1 hgrow hat hlt; obtain ⟨hc1, hz1⟩ := keepGrown hc hz hgrow hne))
      all_goals
        have fin := IsW.put (n := ys.length + 1) (v1 := .slice (some ⟨gg, 0, none⟩) (ys.length + 1) cap) (zs := ys ++ [x / 2 ^ m % 256]) HB.out HR.out ho HF.out hr2 (Fr.alloc_drew _ _) hgrow (by simp) (by simpa [nums] using hown1) (hat.imp (fun h => h.symm) (fun h => ⟨gg, rfl, by omega⟩))
        have HFIN := hide fin
        clear fin hgrow hat
        go_wp2
        go_roundw
        case rel =>
          refine ⟨k + 1, by omega, by go_num, ⟨?_⟩⟩
          have hm := HM.out
          subst hm
          have e := HFIN.out
          have e2 : xs ++ be x n (k + 1) = ys ++ [x / 2 ^ (8 * (n - 1 - k)) % 256] := by rw [be_succ, ← List.append_assoc, HYS.out]; rfl
          rw [e2]
          exact e
        case measure => simp [intOf]; omega
    · have hk' : k = n := by omega
      subst hk'
      go_wp2
      go_end0
      exact ⟨rfl, HR.out⟩
end Go.Proofs.YtkgffeclgapkbaaDoor
