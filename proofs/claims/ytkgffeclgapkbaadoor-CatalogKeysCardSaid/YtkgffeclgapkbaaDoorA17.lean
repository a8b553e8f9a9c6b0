/- catalog.Get. -/
import Derived.Test.YtkgffeclgapkbaaDoorA16x
namespace Go.Proofs.YtkgffeclgapkbaaDoor
open Go.RowKit Go.Proofs.YtkgffeclgapkbaaDoorW.PrintWords
set_option linter.unusedVariables false
set_option linter.unusedSimpArgs false
set_option maxRecDepth 100000
def s1 (bs : List Int) : Option (List Int) := (pNum 4 (some bs)).2
def s2 (bs : List Int) : Option (List Int) := (pNum 8 (s1 bs)).2
def s3 (bs : List Int) : Option (List Int) := (pNum 1 (s2 bs)).2
def gId (bs : List Int) : Int := (pNum 4 (some bs)).1
def gNext (bs : List Int) : Int := (pNum 8 (s1 bs)).1
def gCnt (bs : List Int) : Int := (pNum 1 (s2 bs)).1
def gXs (bs : List Int) : List Ix := (pIxs (s3 bs) (gCnt bs).toNat).1
def gEnd (bs : List Int) : Option (List Int) := (pIxs (s3 bs) (gCnt bs).toNat).2
theorem info34 : (Tryd.prog.info? 34).map (·.size) = some 3 := by kernel_rfl
theorem fr_set3 {w w1 : World} {b : Nat} (h : Fr No w w1) (hb : w.heap.size ≤ b) (a1 a2 a3 : Value) : Fr No w (((w1.setCell ⟨b, 0, none⟩ a1).setCell ⟨b, 1, none⟩ a2).setCell ⟨b, 2, none⟩ a3) :=
  ((h.setCell (p := ⟨b, 0, none⟩) (.inr hb) a1).setCell (p := ⟨b, 1, none⟩) (.inr hb) a2).setCell (p := ⟨b, 2, none⟩) (.inr hb) a3
theorem fr_set3' (w1 : World) (b : Nat) (a1 a2 a3 : Value) : Fr (At b) w1 (((w1.setCell ⟨b, 0, none⟩ a1).setCell ⟨b, 1, none⟩ a2).setCell ⟨b, 2, none⟩ a3) :=
  (((Fr.refl (At b) w1).setCell (p := ⟨b, 0, none⟩) (.inl (show At b b from rfl)) a1).setCell (p := ⟨b, 1, none⟩) (.inl (show At b b from rfl)) a2).setCell (p := ⟨b, 2, none⟩) (.inl (show At b b from rfl)) a3
theorem blk_set3 {w : World} {b : Nat} {x1 x2 x3 : Value} (h : w.heap[b]? = some (.cells #[x1, x2, x3] 34 (0, 0))) (a1 a2 a3 : Value) : (((w.setCell ⟨b, 0, none⟩ a1).setCell ⟨b, 1, none⟩ a2).setCell ⟨b, 2, none⟩ a3).heap[b]? = some (.cells #[a1, a2, a3] 34 (0, 0)) := by
  simpa using blk_set (blk_set (blk_set h 0 a1) 1 a2) 2 a3
/-- A block laid since is not the row's. -/
theorem GSt.far {w0 w w1 : World} {g gc b2 : Nat} {id next : Int} {s : Option (List Int)} {xs : List Ix} (h : GSt w0 w g gc b2 id next s xs) (hf : Fr (At g) w w1) {b : Nat} (hb : w.heap.size ≤ b) : ∀ v, w1.heap[gc]? = some (.cells #[.int .u32 id, .int .u64 next, v] 34 (0, 0)) → v.ownBlock ≠ some b := by
  intro v hv hvb
  obtain ⟨cg, hg⟩ := h.rs.typed
  obtain ⟨v', hc, ho⟩ := h.co
  have h2 := hf.blk hc (fun e => blk_ne hc hg (by decide) e)
  rw [hv] at h2
  injection h2 with h2
  injection h2 with h2
  have : v = v' := by simpa using h2
  subst this
  have := own_lt ho b hvb
  omega
theorem no_u8 (a : Int) (b : ByteArray) (u : Bool) : ∀ (i : Nat) x, (#[Value.int .i64 a, .string b, .bool u] : Array Value)[i]? ≠ some (.int .u8 x) := by
  intro i x
  match i with
  | 0 => simp
  | 1 => simp
  | 2 => simp
  | i + 3 => simp
theorem own_rowN {w : World} {base n e size : Nat} {v : Value} {xs : List Value} (h : w.ownsRow base e size v n xs) : ∃ A c, v = .slice A n c := by
  rcases h.2 with ⟨h1, h2⟩ | ⟨g', cap, cur, h1, _⟩
  · exact ⟨none, 0, by rw [h1, h2]⟩
  · exact ⟨_, _, h1⟩
/-- .. nor a row's growth and the store of it. -/
theorem GSt.app {w0 w w1 : World} {g gc b2 : Nat} {id next : Int} {s : Option (List Int)} {xs : List Ix} (h : GSt w0 w g gc b2 id next s xs) {vr v1 : Value} {x : Ix} (hgrow : w.grownBy w1 vr.ownBlock) (hne : some gc ≠ vr.ownBlock) (hor : w.ownsRow w0.heap.size 57 3 vr xs.length (ixsCells xs)) (hcr : w.heap[gc]? = some (.cells #[.int .u32 id, .int .u64 next, vr] 34 (0, 0)))
    (hown : w1.ownsRow w0.heap.size 57 3 v1 (xs.length + 1) (ixsCells xs ++ ixCells x)) (hb : Below w0.heap.size w0 w1) : GSt w0 (w1.setCell ⟨gc, 2, none⟩ v1) g gc b2 id next s (xs ++ [x]) := by
  obtain ⟨cg, hg⟩ := h.rs.typed
  have hn2 : some gc ≠ v1.ownBlock := own_ne hown (blk_grown hcr hgrow hne) (by decide)
  refine ⟨?_, ⟨v1, by simpa using blk_set (blk_grown hcr hgrow hne) 2 v1, ?_⟩, blk_far (blk_grown h.z2 hgrow (own_ne hor h.z2 (by decide))) (fun e => h.ge.2.2.2 e.symm) _, hb.setCell (p := ⟨gc, 2, none⟩) h.ge.2.1 _, h.ge⟩
  · obtain ⟨ys, e, ⟨A, c, hb', hl, hA, hrd, hT⟩, h2⟩ := h.rs
    have hf : Fr (fun k => some k = vr.ownBlock) w w1 := (Fr.refl _ w).grown hgrow (fun b hb => .inl hb.symm)
    have hrd1 : Rd w1 A ys := hf.rd hrd (by
      rintro ad rfl h0 e
      obtain ⟨cells, ht⟩ := own_typed hor ad.block e.symm
      obtain ⟨cs5, ht5⟩ := hT ad rfl h0
      exact blk_ne ht ht5 (by decide) rfl)
    have hT1 : T5 w1 A ys := hT.keep hf (fun k cs hk e => by
      obtain ⟨cells, ht⟩ := own_typed hor k e.symm
      exact blk_ne ht hk (by decide) rfl)
    have hcr1 := blk_grown hcr hgrow hne
    refine ⟨ys, e, ⟨A, c, blk_far (blk_grown hb' hgrow (own_ne hor hb' (by decide))) (fun e => blk_ne hcr hb' (by decide) e.symm) _, hl, hA, (Fr.one w1 gc 2 v1).rd hrd1 ?_, hT1.keep (Fr.one w1 gc 2 v1) (fun k cs hk e => blk_ne hk hcr1 (by decide) e)⟩, h2⟩
    rintro ad rfl h0 e
    obtain ⟨cs5, ht5⟩ := hT1 ad rfl h0
    exact blk_ne ht5 hcr1 (by decide) e
  · rw [ixsCells_snoc]
    simpa using own_setCell hown (p := ⟨gc, 2, none⟩) hn2 v1
theorem pIxs_len (s : Option (List Int)) : ∀ k, (pIxs s k).1.length = k
  | 0 => rfl
  | k + 1 => by show ((pIxs s k).1 ++ [_]).length = _; rw [List.length_append, pIxs_len s k]; rfl
def putG (bs : List Int) : List Int := putL (gId bs) (gNext bs) (gXs bs)
def collOk (bs : List Int) : Bool := decide (gEnd bs = some []) && rightB (gId bs) (gNext bs) (gXs bs) && ((strOfNums (putG bs)).toList == (strOfNums bs).toList)
def GetPost (bs : List Int) (r : Ending) (w' : World) : Prop :=
  if collOk bs = true then ∃ A c, r = .returned (.tuple #[.agg #[.int .u32 (gId bs), .int .u64 (gNext bs), .slice A (gXs bs).length c], .int .i64 0]) ∧ (gXs bs).length ≤ c ∧ RdI w' A (gXs bs)
  else r = .returned (.tuple #[.agg #[.int .u32 0, .int .u64 0, .slice none 0 0], .int .i64 11])
theorem end_ok {ys : List Int} {e : Int} (h : abs ys e = some []) : endErr ys e = 0 := by
  unfold abs at h
  split at h
  · rename_i he
    injection h with h
    subst h he
    rfl
  · cases h
theorem end_no {ys : List Int} {e : Int} (h : abs ys e ≠ some []) : endErr ys e ≠ 0 := by
  unfold abs at h
  unfold endErr
  split at h
  · rename_i he
    subst he
    cases ys with
    | nil => exact absurd rfl h
    | cons a l => simp
  · rename_i he
    simp [he]
set_option maxHeartbeats 4000000 in
theorem Get_any (A : Option Addr) (c : Nat) (bs : List Int) (w : World) (hgl : Gl w) (hr : Rd w A bs) (hA : A = none → c = 0) (hb : Bs bs) (hl : bs.length ≤ 1000000) :
    Calls Tryd.prog 13 #[.slice A bs.length c] w fun r w' => GetPost bs r w' ∧ Fr No w w' := by
  have hra : Rd (w.alloc (.cells #[.int .u32 0, .int .u64 0, .slice none 0 0] 34)) A bs := Fr.rd0 ((Fr.refl No w).alloc _) hr
  have hNR := NewReader_any (w.alloc (.cells #[.int .u32 0, .int .u64 0, .slice none 0 0] 34)) A c bs hra hA (by omega)
  have HN := hide hNR
  have HH := hide (And.intro hgl (And.intro hr (And.intro hA (And.intro hb hl))))
  clear hNR hra hgl hr hA hb hl
  go_enter Tryd.func13, Tryd.ntmps13
  go_wp2_with fail
  refine HN.out.mono ?_
  rintro r w2 ⟨g, rfl, hR, hf, hge⟩
  have hS : RSt w2 g (some bs) := ⟨bs, 0, hR, HH.out.2.2.2.1, HH.out.2.2.2.2, rfl⟩
  have hz2 : w2.heap[w.heap.size]? = some (.cells #[.int .u32 0, .int .u64 0, .slice none 0 0] 34 (0, 0)) := hf.blk (heap_alloc_new w _) (fun h => h)
  have hgne : w.heap.size < g := by
    have : (w.alloc (.cells #[.int .u32 0, .int .u64 0, .slice none 0 0] 34)).heap.size = w.heap.size + 1 := by simp
    omega
  have H2 := hide (And.intro hS (And.intro hz2 (And.intro (((Fr.refl No w).alloc _).then0 hf) hgne)))
  clear hR hf hge hS hz2 hgne
  go_wp2_with fail
  refine (RNum_st 4 H2.out.1 (by decide) (by decide)).mono ?_
  rintro r w3 ⟨rfl, hS3, hf3⟩
  have hgid := pNum_range (s := some bs) (n := 4) H2.out.1.bs (by decide)
  obtain ⟨id, hid⟩ : ∃ x, (pNum 4 (some bs)).1 = x := ⟨_, rfl⟩
  have hid' : gId bs = id := hid
  have h16 : (256 : Int) ^ 4 = 4294967296 := by decide
  rw [hid, h16] at hgid
  rw [hid]
  have e0 : IntKind.u32.wrap id = id := IntWalk.u32_in _ (by omega)
  have hz3 := hf3.blk H2.out.2.1 (fun e => by have e : w.heap.size = g := e; have := H2.out.2.2.2; omega)
  have hF3 : Fr No w w3 := H2.out.2.2.1.trans hf3 (fun k hk => .inr (by have hk : k = g := hk; have := H2.out.2.2.2; omega))
  have H3 := hide (And.intro hS3 (And.intro hz3 (And.intro hF3 (And.intro hgid hid'))))
  have hgs := hS3.lt
  have hgg := H2.out.2.2.2
  clear hS3 hf3 hgid hid hid' hz3 hF3
  go_wp2_with fail
  refine (RNum_st (w := w3.alloc (.cells #[.int .u32 id, .int .u64 0, .slice none 0 0] 34)) (s := s1 bs) 8 ?_ (by decide) (by decide)).mono ?_
  · exact H3.out.1.keep ((Fr.refl _ _).alloc _)
  rintro r w4 ⟨rfl, hS4, hf4⟩
  have hgnx := pNum_range (s := s1 bs) (n := 8) H3.out.1.bs (by decide)
  obtain ⟨next, hnx⟩ : ∃ x, (pNum 8 (s1 bs)).1 = x := ⟨_, rfl⟩
  have hnx' : gNext bs = next := hnx
  have h64 : (256 : Int) ^ 8 = 18446744073709551616 := by decide
  rw [hnx, h64] at hgnx
  rw [hnx]
  have hzc : w4.heap[w3.heap.size]? = some (.cells #[.int .u32 id, .int .u64 0, .slice none 0 0] 34 (0, 0)) := hf4.blk (heap_alloc_new w3 _) (fun e => by have e : w3.heap.size = g := e; omega)
  have hcw := blk_cell hzc 1
  have hcf := blk_frozen hzc 1
  have hz4 : w4.heap[w.heap.size]? = some (.cells #[.int .u32 0, .int .u64 0, .slice none 0 0] 34 (0, 0)) := hf4.blk (((Fr.refl No w3).alloc _).blk H3.out.2.1 (fun h => h)) (fun e => by have e : w.heap.size = g := e; omega)
  have hF4 : Fr No w w4 := (H3.out.2.2.1.alloc _).trans hf4 (fun k hk => .inr (by have hk : k = g := hk; omega))
  have hF5 : Fr No w (w4.setCell ⟨w3.heap.size, 1, none⟩ (.int .u64 next)) := hF4.setCell (p := ⟨w3.heap.size, 1, none⟩) (.inr (by show w.heap.size ≤ w3.heap.size; exact H3.out.2.2.1.size)) _
  have hSr : RSt (w4.setCell ⟨w3.heap.size, 1, none⟩ (.int .u64 next)) g (s2 bs) := by
    obtain ⟨ys, e, ⟨A', c', hb', hl', hA', hrd', hT'⟩, h2'⟩ := hS4
    refine ⟨ys, e, ⟨A', c', (Fr.one w4 _ 1 _).blk hb' (fun e => by have e : g = w3.heap.size := e; omega), hl', hA', (Fr.one w4 _ 1 _).rd hrd' ?_, hT'.keep (Fr.one w4 _ 1 _) (fun k cs hk e => blk_ne hk hzc (by decide) e)⟩, h2'⟩
    rintro ad rfl h0 e
    exact Rd.ne hrd' h0 hzc (by
      intro i x
      match i with
      | 0 => simp
      | 1 => simp
      | 2 => simp
      | i + 3 => simp) e
  have H4 := hide (And.intro hSr (And.intro (show (w4.setCell ⟨w3.heap.size, 1, none⟩ (.int .u64 next)).heap[w.heap.size]? = some (.cells #[.int .u32 0, .int .u64 0, .slice none 0 0] 34 (0, 0)) from (Fr.one w4 _ 1 _).blk hz4 (fun e => by have e : w.heap.size = w3.heap.size := e; have := blk_lt H3.out.2.1; omega)) (And.intro (show (w4.setCell ⟨w3.heap.size, 1, none⟩ (.int .u64 next)).heap[w3.heap.size]? = some (.cells #[.int .u32 id, .int .u64 next, .slice none 0 0] 34 (0, 0)) by simpa using blk_set hzc 1 (.int .u64 next)) (And.intro hF5 (And.intro hgnx hnx')))))
  clear hS4 hf4 hgnx hnx hnx' hzc hz4 hF4 hF5 hSr
  go_wp2_with fail
  refine (RNum_st 1 H4.out.1 (by decide) (by decide)).mono ?_
  rintro r w5 ⟨rfl, hS5, hf5⟩
  have hgc := pNum_range (s := s2 bs) (n := 1) H4.out.1.bs (by decide)
  obtain ⟨cn, hcn⟩ : ∃ x, gCnt bs = x := ⟨_, rfl⟩
  have h1 : (256 : Int) ^ 1 = 256 := by decide
  rw [show (pNum 1 (s2 bs)).1 = gCnt bs from rfl, hcn, h1] at hgc
  rw [show (pNum 1 (s2 bs)).1 = gCnt bs from rfl, hcn]
  obtain ⟨n, rfl⟩ : ∃ n : Nat, cn = n := ⟨cn.toNat, by omega⟩
  have hnn : n < 256 := by omega
  have hG : GSt w w5 g w3.heap.size w.heap.size id next (s3 bs) [] := by
    have hz5 := hf5.blk H4.out.2.1 (fun e => by have e : w.heap.size = g := e; omega)
    have hc5 := hf5.blk H4.out.2.2.1 (fun e => by have e : w3.heap.size = g := e; omega)
    have hF := H4.out.2.2.2.1.trans hf5 (fun k hk => .inr (by have hk : k = g := hk; omega))
    exact ⟨hS5, ⟨_, hc5, own_nil _ _ _ _⟩, hz5, ⟨hF.os, hF.tape, hF.output, hF.size, fun k hk => hF.block k hk (fun h => h)⟩, by omega, H3.out.2.2.1.size, Nat.le_refl _, by have := blk_lt H3.out.2.1; omega⟩
  have HG := hide (And.intro hG (And.intro hcn H4.out.2.2.2.1.size))
  clear hG hgc hcn hS5 hf5 hcw hcf
  go_wp2_with fail
  go_loopw [20] (fun i wr => ∃ k : Nat, k ≤ n ∧ i = .int .u64 k ∧ Aside0 (GSt w wr g w3.heap.size w.heap.size id next (pIxs (s3 bs) k).2 (pIxs (s3 bs) k).1 ∧ w.heap.size ≤ wr.heap.size)) (fun i _ => n - (intOf i).toNat)
  case atStart => exact ⟨0, Nat.zero_le _, rfl, ⟨HG.out.1, HG.out.1.bl.size⟩⟩
  case round =>
    obtain ⟨k, hk, rfl, HS⟩ := hrel
    by_cases hlt : k < n
    · have hd : decide ((k : Int) < (n : Int)) = true := by simp; omega
      have hd' : decide (k < n) = true := by simp; omega
      go_wp2_with fail
      obtain ⟨xs, hxs⟩ : ∃ xs, (pIxs (s3 bs) k).1 = xs := ⟨_, rfl⟩
      obtain ⟨s, hs⟩ : ∃ s, (pIxs (s3 bs) k).2 = s := ⟨_, rfl⟩
      have hsu : pIxs (s3 bs) (k + 1) = (xs ++ [(pIx s).1], (pIx s).2) := by rw [← hxs, ← hs]; rfl
      have hxl : xs.length = k := by rw [← hxs]; exact pIxs_len _ _
      have HS := HS.out
      rw [hxs, hs] at HS
      have HU := hide (And.intro hsu hxl)
      have HK := hide HS
      clear hxs hs hsu hxl HS
      refine (RNum_st 1 HK.out.1.rs (by decide) (by decide)).mono ?_
      rintro r w6 ⟨rfl, hS6, hf6⟩
      have hr1 := pNum_range (s := s) (n := 1) HK.out.1.rs.bs (by decide)
      have h1 : (256 : Int) ^ 1 = 256 := by decide
      obtain ⟨v, hv⟩ : ∃ x, (pNum 1 s).1 = x := ⟨_, rfl⟩
      rw [hv, h1] at hr1
      rw [hv]
      have ev : IntKind.i64.wrap v = v := IntWalk.i64_in _ (by omega)
      have hG6 := HK.out.1.fr hf6 hS6 HK.out.2
      have H6 := hide (And.intro hG6 (And.intro hv (show w.heap.size ≤ w6.heap.size from Nat.le_trans HK.out.2 hf6.size)))
      clear hS6 hf6 hv hG6
      go_wp2_with fail
      refine (RNum_st (w := w6.alloc (.cells #[.int .i64 v, .string ByteArray.empty, .bool false] 57)) (s := (pNum 1 s).2) 1 ?_ (by decide) (by decide)).mono ?_
      · exact H6.out.1.rs.keep ((Fr.refl _ _).alloc _)
      rintro r w7 ⟨rfl, hS7, hf7⟩
      have hG7 := (H6.out.1.no ((Fr.refl _ _).alloc _) H6.out.2.2).fr hf7 hS7 (Nat.le_trans H6.out.2.2 ((Fr.refl No w6).alloc (.cells #[.int .i64 v, .string ByteArray.empty, .bool false] 57)).size)
      have hgl := H6.out.1.rs.lt
      have hx7 : w7.heap[w6.heap.size]? = some (.cells #[.int .i64 v, .string ByteArray.empty, .bool false] 57 (0, 0)) := hf7.blk (heap_alloc_new w6 _) (fun e => by have e : w6.heap.size = g := e; omega)
      have hF7 : Fr (At g) w6 w7 := ((Fr.refl (At g) w6).alloc _).trans hf7 (fun k hk => .inl hk)
      obtain ⟨v2, hv2⟩ : ∃ x, (pNum 1 (pNum 1 s).2).1 = x := ⟨_, rfl⟩
      obtain ⟨s', hs'⟩ : ∃ x, (pNum 1 (pNum 1 s).2).2 = x := ⟨_, rfl⟩
      obtain ⟨un, hun⟩ : ∃ x, (v2 == 1) = x := ⟨_, rfl⟩
      have hun2 : decide (v2 = 1) = un := by rw [← hun]; rfl
      rw [hv2]
      rw [hs'] at hG7
      have hxc := blk_frozen hx7 2
      have hxd := blk_cell hx7 2
      have hF8 : Fr (At g) w6 (w7.setCell ⟨w6.heap.size, 2, none⟩ (.bool un)) := hF7.setCell (p := ⟨w6.heap.size, 2, none⟩) (.inr (Nat.le_refl _)) _
      have hG8 := hG7.set_ hx7 (H6.out.1.far hF7 (Nat.le_refl _)) H6.out.2.2 2 (.bool un) (no_u8 _ _ _)
      have hx8 : (w7.setCell ⟨w6.heap.size, 2, none⟩ (.bool un)).heap[w6.heap.size]? = some (.cells #[.int .i64 v, .string ByteArray.empty, .bool un] 57 (0, 0)) := by simpa using blk_set hx7 2 (.bool un)
      have hw8 : w.heap.size ≤ (w7.setCell ⟨w6.heap.size, 2, none⟩ (.bool un)).heap.size := Nat.le_trans H6.out.2.2 hF8.size
      have H8 := hide (And.intro hG8 (And.intro hF8 (And.intro hx8 (And.intro hv2 (And.intro hs' (And.intro hun hw8))))))
      clear hG7 hS7 hf7 hx7 hF7 hv2 hs' hF8 hG8 hx8 hw8
      go_wp2_with fail
      have hrs := H8.out.1.rs
      obtain ⟨ys, e, hR, hB, hL, habs⟩ := hrs
      have HR := hide (And.intro hR (And.intro hB habs))
      clear hR hB habs hxc hxd hun hun2
      refine (Left_any g _ ys e HR.out.1).mono ?_
      rintro r w8 ⟨rfl, rfl⟩
      go_wp2_with fail
      refine (RBytes_st HR.out.1 HR.out.2.1 hL).mono ?_
      rintro r w9 ⟨vv, rfl, hm, hS9, hf9⟩
      rw [HR.out.2.2] at hm hS9
      obtain ⟨got, hgot⟩ : ∃ x, (pBytes s').1 = x := ⟨_, rfl⟩
      rw [hgot] at hm
      obtain ⟨Av, cv, rfl, _, _, hrdv⟩ := own_rd hm
      have hcv := string_of_reads (P := Tryd.prog) (c := cv) (src := 28) (dst := 9) Tryd.underlying28 Tryd.underlying5 Tryd.underlying9 hrdv
      have hG9 := H8.out.1.fr hf9 hS9 H8.out.2.2.2.2.2.2
      have hF9 := H8.out.2.1.trans hf9 (fun k hk => .inl hk)
      have hx9 := hf9.blk H8.out.2.2.1 (fun e => by have e : w6.heap.size = g := e; omega)
      have hxf := blk_frozen hx9 1
      have hxd9 : w9.cell? ⟨w6.heap.size, 1, none⟩ = some (.string ByteArray.empty) := blk_cell hx9 1
      obtain ⟨st, hst⟩ : ∃ x, strOfNums got = x := ⟨_, rfl⟩
      rw [hst] at hcv
      have hw9 : w.heap.size ≤ w9.heap.size := Nat.le_trans H8.out.2.2.2.2.2.2 hf9.size
      have hF10 : Fr (At g) w6 (w9.setCell ⟨w6.heap.size, 1, none⟩ (.string st)) := hF9.setCell (p := ⟨w6.heap.size, 1, none⟩) (.inr (Nat.le_refl _)) _
      have hG10 := hG9.set_ hx9 (H6.out.1.far hF9 (Nat.le_refl _)) H6.out.2.2 1 (.string st) (no_u8 _ _ _)
      have hx10 : (w9.setCell ⟨w6.heap.size, 1, none⟩ (.string st)).heap[w6.heap.size]? = some (.cells #[.int .i64 v, .string st, .bool un] 57 (0, 0)) := by simpa using blk_set hx9 1 (.string st)
      have hw10 : w.heap.size ≤ (w9.setCell ⟨w6.heap.size, 1, none⟩ (.string st)).heap.size := Nat.le_trans H6.out.2.2 hF10.size
      obtain ⟨w10, h10⟩ : ∃ x, w9.setCell ⟨w6.heap.size, 1, none⟩ (.string st) = x := ⟨_, rfl⟩
      rw [h10] at hF10 hG10 hx10 hw10
      obtain ⟨vr, hcr, hor⟩ := hG10.co
      obtain ⟨Ar, cr, rfl⟩ : ∃ A c, vr = .slice A xs.length c := by
        rcases hor.2 with ⟨h1, h2⟩ | ⟨g', cap, cur, h1, _⟩
        · exact ⟨none, 0, by rw [h1, h2]⟩
        · exact ⟨_, _, h1⟩
      have hl2 : w10.cell? ⟨w3.heap.size, 2, none⟩ = some (.slice Ar xs.length cr) := blk_cell hcr 2
      have hlz : w10.frozen? ⟨w3.heap.size, 2, none⟩ = false := blk_frozen hcr 2
      have hx0 : w10.cell? ⟨w6.heap.size, 0, none⟩ = some (.int .i64 v) := blk_cell hx10 0
      have hx1 : w10.cell? ⟨w6.heap.size, 1, none⟩ = some (.string st) := blk_cell hx10 1
      have hx2 : w10.cell? ⟨w6.heap.size, 2, none⟩ = some (.bool un) := blk_cell hx10 2
      have hbl10 := hG10.bl
      have hpx : (pIx s).1 = ⟨v, st, un⟩ := by
        unfold pIx
        rw [H8.out.2.2.2.1, H8.out.2.2.2.2.1, hgot, hst, H8.out.2.2.2.2.2.1, H6.out.2.1]
      have hps : (pIx s).2 = (pBytes s').2 := by
        unfold pIx
        rw [H8.out.2.2.2.2.1]
      have H10 := hide (And.intro hF10 (And.intro hG10 (And.intro hx10 (And.intro hw10 (And.intro hcr (And.intro hor (And.intro hpx hps)))))))
      have hxlk : xs.length ≤ 255 := by have := HU.out.2; omega
      have HB10 := hide hbl10
      clear hF10 hG10 hx10 hpx hps hbl10 hx9 hF9 hG9 hm hrdv hgot hst hS9 hf9 hw9
      have HOR := hide hor
      have hne : some w3.heap.size ≠ (Value.slice Ar xs.length cr).ownBlock := own_ne hor hcr (by decide)
      clear hor hcr
      go_upto_region 9 with fail
      try rw [h10]
      clear h10
      go_wp2_with (at_builtin; go_loud (refine print_append_cells (w0 := w) w.heap.size rfl (.tmp 37) (.tmp 39) 32 57 (.agg #[.int .i64 0, .string ByteArray.empty, .bool false]) 3 32 rfl Tryd.underlying32 info57 rfl (by decide) (by decide) (.slice Ar xs.length cr) xs.length (ixsCells xs) [.int .i64 v, .string st, .bool un] rfl rfl rfl (by intro u hu; simp at hu; rcases hu with rfl | rfl | rfl <;> rfl) HOR.out HB10.out H10.out.2.2.2.1 (by omega) ?_); intro v1 w1 hown1 hb1 hgrow hat; obtain ⟨hc1, hz1⟩ := keepGrow hl2 hlz hgrow hne; obtain ⟨A1, c1, rfl⟩ := own_rowN hown1)
      have hne2 : some w3.heap.size ≠ (Value.slice A1 (xs.length + 1) c1).ownBlock := by
        have hcr1 := blk_grown H10.out.2.2.2.2.1 hgrow hne
        exact own_ne hown1 hcr1 (by decide)
      have hgrow' := hgrow
      have hGf := H10.out.2.1.app (x := ⟨v, st, un⟩) hgrow' hne HOR.out H10.out.2.2.2.2.1 hown1 hb1
      have HGF := hide (And.intro hGf (And.intro H10.out.2.2.2.2.2.2.1 H10.out.2.2.2.2.2.2.2))
      go_wp2_with fail
      go_roundw
      case rel =>
        refine ⟨k + 1, by omega, by go_num, ⟨?_⟩⟩
        rw [HU.out.1]
        have h := HGF.out
        rw [h.2.1, h.2.2]
        exact ⟨h.1, by simpa using hb1.size⟩
      case measure => simp [intOf]; omega
    · have hkn : k = n := by omega
      subst hkn
      have hd : decide ((k : Int) < (k : Int)) = false := by simp
      have hd' : decide (k < k) = false := by simp
      have hcn := HG.out.2.1
      have hx1 : (pIxs (s3 bs) k).1 = gXs bs := by unfold gXs; rw [hcn]; rfl
      have hx2 : (pIxs (s3 bs) k).2 = gEnd bs := by unfold gEnd; rw [hcn]; rfl
      have hxl : (gXs bs).length ≤ 255 := by rw [← hx1, pIxs_len]; omega
      have hsh : Short 1000000 (some bs) := fun xs hx => by injection hx with hx; rw [← hx]; exact HH.out.2.2.2.2
      have hpz : ∀ x, x ∈ gXs bs → x.path.size ≤ 1000000 := (pIxs_short (((hsh.num 4).num 8).num 1) (gCnt bs).toNat).2
      rw [hx1, hx2] at HS
      obtain ⟨xs, hxs⟩ : ∃ xs, gXs bs = xs := ⟨_, rfl⟩
      have hcok : collOk bs = (decide (gEnd bs = some []) && rightB id next xs && ((strOfNums (putL id next xs)).toList == (strOfNums bs).toList)) := by
        unfold collOk putG
        rw [H3.out.2.2.2.2, H4.out.2.2.2.2.2, hxs]
      have hpost : ∀ r w', GetPost bs r w' = (if collOk bs = true then ∃ A c, r = .returned (.tuple #[.agg #[.int .u32 id, .int .u64 next, .slice A xs.length c], .int .i64 0]) ∧ xs.length ≤ c ∧ RdI w' A xs else r = .returned (.tuple #[.agg #[.int .u32 0, .int .u64 0, .slice none 0 0], .int .i64 11])) := by
        intro r w'
        unfold GetPost
        rw [H3.out.2.2.2.2, H4.out.2.2.2.2.2, hxs]
      rw [hxs] at HS hxl hpz
      have HE := hide (And.intro hcok (And.intro hpost (And.intro hpz HS.out.1)))
      have hz := HS.out.1.z2
      have hzf := blk_frozen hz
      obtain ⟨ys, e, hR, hB, hL, habs⟩ := HS.out.1.rs
      have HR := hide (And.intro hR habs)
      have hbl := HS.out.1.bl
      have hFr : Fr No w wr := ⟨hbl.os, hbl.tape, hbl.output, hbl.size, fun k hk _ => hbl.block k hk⟩
      have HFr := hide hFr
      clear hFr hbl hR hB habs hz hzf hcok hpost hpz hx1 hx2 hxs hsh hcn HS
      go_wp2_with fail
      refine (End_any g wr ys e HR.out.1).mono ?_
      rintro r w9 ⟨rfl, rfl⟩
      obtain ⟨ee, hee⟩ : ∃ x, endErr ys e = x := ⟨_, rfl⟩
      rw [hee]
      have HEE := hide hee
      clear hee
      have hz0 : wr.cell? ⟨w.heap.size, 0, none⟩ = some (.int .u32 0) := blk_cell HE.out.2.2.2.z2 0
      have hz1 : wr.cell? ⟨w.heap.size, 1, none⟩ = some (.int .u64 0) := blk_cell HE.out.2.2.2.z2 1
      have hz2 : wr.cell? ⟨w.heap.size, 2, none⟩ = some (.slice none 0 0) := blk_cell HE.out.2.2.2.z2 2
      have hf0 := blk_frozen HE.out.2.2.2.z2 0
      have hf1 := blk_frozen HE.out.2.2.2.z2 1
      have hf2 := blk_frozen HE.out.2.2.2.z2 2
      have hHz := HE.out.2.2.2.z2
      by_cases h0 : gEnd bs = some []
      · have he0 : ee = 0 := by
          have := HEE.out
          rw [end_ok (ys := ys) (e := e) (by rw [HR.out.2]; exact h0)] at this
          exact this.symm
        subst he0
        have H0 := hide h0
        obtain ⟨vr, hcr, hor⟩ := HE.out.2.2.2.co
        obtain ⟨Ar, cr, rfl, hle, hri⟩ := own_RdI hor
        have hc0 : wr.cell? ⟨w3.heap.size, 0, none⟩ = some (.int .u32 id) := blk_cell hcr 0
        have hc1 : wr.cell? ⟨w3.heap.size, 1, none⟩ = some (.int .u64 next) := blk_cell hcr 1
        have hc2 : wr.cell? ⟨w3.heap.size, 2, none⟩ = some (.slice Ar xs.length cr) := blk_cell hcr 2
        have HC := hide (And.intro hcr (And.intro hri hle))
        have hnb : ∀ ad, Ar = some ad → ¬ At w.heap.size ad.block := by
          rintro ad rfl e
          have e : ad.block = w.heap.size := e
          exact own_ne hor HE.out.2.2.2.z2 (by decide) (by rw [← e]; rfl)
        have HNB := hide hnb
        clear hnb
        have hP := Put_any id next Ar cr xs wr (HH.out.1.keep0 HFr.out) hri hle (H3.out.2.2.2.1) (H4.out.2.2.2.2.1) (by omega) HE.out.2.2.1
        have HP := hide hP
        have hrA := HFr.out.rd0 HH.out.2.1
        have HRA := hide hrA
        clear hP hcr hor hri h0 hrA hHz
        go_wp2_with fail
        refine HP.out.mono ?_
        rintro r w9 ⟨hpp, hf9⟩
        unfold PutPost at hpp
        have hz9 := hf9.blk HE.out.2.2.2.z2 (fun h => h)
        have hc9 := hf9.blk HC.out.1 (fun h => h)
        have hF9 := HFr.out.then0 hf9
        have hy0 : w9.cell? ⟨w.heap.size, 0, none⟩ = some (.int .u32 0) := blk_cell hz9 0
        have hy1 : w9.cell? ⟨w.heap.size, 1, none⟩ = some (.int .u64 0) := blk_cell hz9 1
        have hy2 : w9.cell? ⟨w.heap.size, 2, none⟩ = some (.slice none 0 0) := blk_cell hz9 2
        have hg0 := blk_frozen hz9 0
        have hg1 := blk_frozen hz9 1
        have hg2 := blk_frozen hz9 2
        by_cases hrb : rightB id next xs = true
        · rw [if_pos hrb] at hpp
          obtain ⟨v, rfl, hm⟩ := hpp
          obtain ⟨Av, cv, rfl, hlv, hrv⟩ := hm.rd
          have hE := EqualBytes_any Av cv (putL id next xs) A c bs w9 hrv (hf9.rd0 HRA.out)
          obtain ⟨L, hL⟩ : ∃ L, putL id next xs = L := ⟨_, rfl⟩
          obtain ⟨q, hq⟩ : ∃ q, ((strOfNums (putL id next xs)).toList == (strOfNums bs).toList) = q := ⟨_, rfl⟩
          rw [hq] at hE
          rw [hL] at hE ⊢
          have HQ := hide (And.intro hq (And.intro hrb (And.intro (HC.out.2.1.keep0 hf9) HC.out.2.2)))
          have HE2 := hide hE
          have HZ := hide (And.intro hz9 (And.intro hF9 hc9))
          clear hz9 hc9 hF9 hrb hc0 hc1 hc2 hz0 hz1 hz2 hf0 hf1 hf2 hq hE hL hm hrv hy0 hy1 hy2 hg0 hg1 hg2 hf9
          go_wp2_with fail
          refine HE2.out.mono ?_
          rintro r w10 ⟨rfl, hf10⟩
          have hz10 := hf10.blk HZ.out.1 (fun h => h)
          have hc10 := hf10.blk HZ.out.2.2 (fun h => h)
          have hF10 := HZ.out.2.1.then0 hf10
          have hy0 : w10.cell? ⟨w.heap.size, 0, none⟩ = some (.int .u32 0) := blk_cell hz10 0
          have hy1 : w10.cell? ⟨w.heap.size, 1, none⟩ = some (.int .u64 0) := blk_cell hz10 1
          have hy2 : w10.cell? ⟨w.heap.size, 2, none⟩ = some (.slice none 0 0) := blk_cell hz10 2
          have hg0 := blk_frozen hz10 0
          have hg1 := blk_frozen hz10 1
          have hg2 := blk_frozen hz10 2
          have hd0 : w10.cell? ⟨w3.heap.size, 0, none⟩ = some (.int .u32 id) := blk_cell hc10 0
          have hd1 : w10.cell? ⟨w3.heap.size, 1, none⟩ = some (.int .u64 next) := blk_cell hc10 1
          have hd2 : w10.cell? ⟨w3.heap.size, 2, none⟩ = some (.slice Ar xs.length cr) := blk_cell hc10 2
          have HY := hide (And.intro hz10 (And.intro hF10 (HQ.out.2.2.1.keep0 hf10)))
          clear hz10 hc10 hF10 hf10
          cases q
          · go_wp2_with fail
            refine bodyPost_ret (results_ct rfl _ _ w.heap.size 34 #[.int .u32 0, .int .u64 0, .slice none 0 0] (0, 0) _ rfl (blk_set3 HY.out.1 _ _ _) Tryd.underlying34 rfl info34) rfl ⟨?_, fr_set3 HY.out.2.1 (Nat.le_refl _) _ _ _⟩
            rw [HE.out.2.1, if_neg (by rw [HE.out.1, HQ.out.1]; simp)]
            rfl
          · go_wp2_with fail
            refine bodyPost_ret (results_ct rfl _ _ w.heap.size 34 #[.int .u32 id, .int .u64 next, .slice Ar xs.length cr] (0, 0) _ rfl (blk_set3 HY.out.1 _ _ _) Tryd.underlying34 rfl info34) rfl ⟨?_, fr_set3 HY.out.2.1 (Nat.le_refl _) _ _ _⟩
            rw [HE.out.2.1, if_pos (by rw [HE.out.1, HQ.out.1, HQ.out.2.1, H0.out]; simp)]
            exact ⟨Ar, cr, rfl, HQ.out.2.2.2, HY.out.2.2.keep (fr_set3' w10 w.heap.size _ _ _) HNB.out⟩
        · rw [if_neg hrb] at hpp
          subst hpp
          have HZ := hide (And.intro hz9 (And.intro hF9 hrb))
          clear hz9 hc9 hF9 hrb hc0 hc1 hc2 hz0 hz1 hz2 hf0 hf1 hf2
          go_wp2_with fail
          refine bodyPost_ret (results_ct rfl _ _ w.heap.size 34 #[.int .u32 0, .int .u64 0, .slice none 0 0] (0, 0) _ rfl (blk_set3 HZ.out.1 _ _ _) Tryd.underlying34 rfl info34) rfl ⟨?_, fr_set3 HZ.out.2.1 (Nat.le_refl _) _ _ _⟩
          rw [HE.out.2.1, if_neg (by rw [HE.out.1]; simp [HZ.out.2.2])]
          rfl
      · have hne : (ee != 0) = true := by
          have := HEE.out
          have h2 := end_no (ys := ys) (e := e) (by rw [HR.out.2]; exact h0)
          rw [this] at h2
          simpa using h2
        have H0 := hide h0
        clear h0
        go_wp2_with fail
        refine bodyPost_ret (results_ct rfl _ _ w.heap.size 34 #[.int .u32 0, .int .u64 0, .slice none 0 0] (0, 0) _ rfl (blk_set3 hHz _ _ _) Tryd.underlying34 rfl info34) rfl ⟨?_, fr_set3 HFr.out (Nat.le_refl _) _ _ _⟩
        rw [HE.out.2.1, if_neg (by rw [HE.out.1]; simp [H0.out])]
        rfl
end Go.Proofs.YtkgffeclgapkbaaDoor
