/- The reference's steps and paths: what its printed functions tell. -/
import Derived.Test.YtkgffeclgapkbaaDoorM4
import Derived.Test.YtkgffeclgapkbaaDoorPCatalogPutsx5
import Derived.Test.YtkgffeclgapkbaaDoorPCatalogPutsx7
import Derived.Test.YtkgffeclgapkbaaDoorPCatalogPutsx8
import Derived.Test.YtkgffeclgapkbaaDoorPofx1
namespace Go.Proofs.YtkgffeclgapkbaaDoor
open Go.RowKit Go.Proofs.YtkgffeclgapkbaaDoorW.PrintWords PCatalogPuts
set_option linter.unusedVariables false
set_option linter.unusedSimpArgs false
set_option maxRecDepth 100000
def sgn (b : Int) : Bool := (decide (97 ≤ b) && decide (b ≤ 122)) || (decide (65 ≤ b) && decide (b ≤ 90)) || (decide (48 ≤ b) && decide (b ≤ 57)) || decide (b = 95) || decide (b = 45)
set_option maxHeartbeats 2000000 in
theorem step_round (k : Nat) (x : ByteArray) (i : Int) (h0 : 0 ≤ i) (h1 : i < x.size) : rubricatorref18_step.l0 (k + 1) x i = if sgn (bt x i) = true then rubricatorref18_step.l0 k x (wrap64 (i + 1)) else some false := by
  rw [rubricatorref18_step.l0, if_pos h1, if_pos h0]
  generalize bt x i = b
  generalize rubricatorref18_step.l0 k x (wrap64 (i + 1)) = r
  unfold sgn
  repeat' split
  all_goals (first | rfl | (exfalso; simp at *; omega))
theorem len_size (x : ByteArray) : x.data.toList.length = x.size := by rw [Array.length_toList]; rfl
theorem sgn_sign (b : UInt8) : sgn (b.toNat : Int) = isSign b := by
  have : ∀ b : Fin 256, sgn ((UInt8.ofNat b.val).toNat : Int) = isSign (UInt8.ofNat b.val) := by decide +kernel
  have h := this ⟨b.toNat, b.toNat_lt⟩
  simpa using h
theorem bt_get (x : ByteArray) (i : Nat) (h : i < x.size) : bt x i = ((x.data.toList[i]'(by rw [len_size]; exact h)).toNat : Int) := by
  unfold bt
  rw [dif_pos (show ((i : Int).toNat) < x.size from h)]
  rfl
theorem step_l0 (x : ByteArray) (hx : x.size ≤ 1000000) : ∀ (n i k : Nat), x.size - i = n → i ≤ x.size → n < k → rubricatorref18_step.l0 k x i = some ((x.data.toList.drop i).all isSign && decide (1 ≤ x.size) && decide (x.size ≤ 24))
  | 0, i, k + 1, hn, hi, hk => by
    have hi' : i = x.size := by omega
    have hlen : x.data.toList.length = x.size := len_size x
    rw [rubricatorref18_step.l0, if_neg (by omega), List.drop_eq_nil_of_le (by omega)]
    by_cases h : x.size = 0
    · have : x.toList = [] := by rw [Lib.toList_data]; exact List.eq_nil_of_length_eq_zero (by omega)
      rw [if_pos this]
      simp [h]
    · have : x.toList ≠ [] := by
        intro e
        rw [Lib.toList_data] at e
        rw [e] at hlen
        simp at hlen
        omega
      rw [if_neg this]
      have : decide ((x.size : Int) ≤ 24) = decide (x.size ≤ 24) := by
        by_cases h2 : x.size ≤ 24
        · rw [decide_eq_true h2, decide_eq_true (by omega)]
        · rw [decide_eq_false h2, decide_eq_false (by omega)]
      rw [this]
      have : decide (1 ≤ x.size) = true := decide_eq_true (by omega)
      simp [this]
  | n + 1, i, k + 1, hn, hi, hk => by
    have hlen : x.data.toList.length = x.size := len_size x
    have hil : i < x.data.toList.length := by omega
    rw [step_round k x i (by omega) (by omega), bt_get x i (by omega), sgn_sign]
    have hw : wrap64 ((i : Int) + 1) = ((i + 1 : Nat) : Int) := by
      rw [IntWalk.wrap64_in _ (by omega)]
      rfl
    rw [hw, step_l0 x hx n (i + 1) k (by omega) (by omega) (by omega), List.drop_eq_getElem_cons hil, List.all_cons]
    cases isSign x.data.toList[i] <;> simp
  | _, _, 0, _, _, hk => by omega
theorem step_f (x : ByteArray) (hx : x.size ≤ 1000000) (k : Nat) (hk : x.size < k) : rubricatorref18_step.f k x = some (stepOk x) := by
  have := step_l0 x hx x.size 0 k (by omega) (by omega) hk
  unfold rubricatorref18_step.f stepOk
  rw [show (0 : Int) = ((0 : Nat) : Int) from rfl, this]
  simp only [List.drop_zero]
  cases x.data.toList.all isSign <;> cases decide (1 ≤ x.size) <;> cases decide (x.size ≤ 24) <;> rfl
end Go.Proofs.YtkgffeclgapkbaaDoor
namespace Go.Proofs.YtkgffeclgapkbaaDoor
open Go.RowKit Go.Proofs.YtkgffeclgapkbaaDoorW.PrintWords PCatalogPuts
set_option linter.unusedVariables false
set_option linter.unusedSimpArgs false
set_option maxRecDepth 100000
def stepL (p : List UInt8) : Bool := decide (1 ≤ p.length) && decide (p.length ≤ 24) && p.all isSign
theorem stepOk_L (x : ByteArray) : stepOk x = stepL x.data.toList := by unfold stepOk stepL; rw [len_size]
def goP : Nat → List (List UInt8) → Bool
  | _, [] => true
  | m, p :: ps => stepL p && decide (m ≠ 8) && goP (m + 1) ps
def headed (c : List UInt8) : List (List UInt8) → List (List UInt8)
  | p :: ps => (c ++ p) :: ps
  | [] => [c]
theorem extract_list (x : ByteArray) (a b : Nat) : (x.extract a b).data.toList = (x.data.toList.drop a).take (b - a) := by
  rw [ByteArray.data_extract, Array.toList_extract]
theorem w1 (i : Nat) (h : i ≤ 1000000) : wrap64 ((i : Int) + 1) = ((i + 1 : Nat) : Int) := by
  rw [IntWalk.wrap64_in _ (by omega)]
  rfl
/-- a piece is closed -/
theorem parse_j1 (x : ByteArray) (hx : x.size ≤ 1000000) (k : Nat) (out : List ByteArray) (fr i : Nat) (hf : fr ≤ i) (hi : i ≤ x.size) (hk : x.size < k) (hm : out.length ≤ 8) (c : List UInt8) (hc : (x.data.toList.drop fr).take (i - fr) = c) :
    rubricatorref18_Parse.j1 (k + 1) x out fr i false = if stepL c = true then (if out.length = 8 then some ([], 33) else rubricatorref18_Parse.l0 k x (out ++ [x.extract fr i]) ((i + 1 : Nat) : Int) ((i + 1 : Nat) : Int)) else some ([], 33) := by
  rw [rubricatorref18_Parse.j1, if_neg (by decide), if_pos (by omega), if_pos (by omega), if_pos (by omega)]
  have hsz : (x.extract fr i).size ≤ x.size := by
    rw [← len_size, extract_list, List.length_take, List.length_drop, len_size]
    omega
  have hst : rubricatorref18_step.f k (x.extract ((fr : Int)).toNat ((i : Int)).toNat) = some (stepL c) := by
    show rubricatorref18_step.f k (x.extract fr i) = _
    rw [step_f _ (by omega) k (by omega), stepOk_L, extract_list, hc]
  rw [hst, w1 i (by omega)]
  show (if stepL c = true then _ else _) = _
  have e8 : ((out.length : Int) = 8) = (out.length = 8) := by apply propext; omega
  rw [if_pos (show out.length < 8796093022208 by omega)]
  simp only [e8]
  rfl
theorem parse_l0 (x : ByteArray) (hx : x.size ≤ 1000000) : ∀ (n i k : Nat) (out : List ByteArray) (fr : Nat) (c : List UInt8), x.size - i = n → fr ≤ i → i ≤ x.size → 2 * n + x.size + 5 ≤ k → out.length ≤ 8 → (x.data.toList.drop fr).take (i - fr) = c →
    ∃ r1 r2, rubricatorref18_Parse.l0 k x out fr i = some (r1, r2) ∧ (r2 = 0 ↔ goP out.length (headed c (pieces (x.data.toList.drop i))) = true)
  | 0, i, k + 3, out, fr, c, hn, hf, hi, hk, hm, hc => by
    have hi' : i = x.size := by omega
    rw [rubricatorref18_Parse.l0, if_pos (by omega), if_neg (by omega), parse_j1 x hx (k + 1) out fr i hf hi (by omega) hm c hc]
    have hp : headed c (pieces (x.data.toList.drop i)) = [c] := by
      rw [List.drop_eq_nil_of_le (by rw [len_size]; omega)]
      simp [pieces, headed]
    rw [hp]
    have hg : goP out.length [c] = (stepL c && decide (out.length ≠ 8)) := by simp [goP]
    rw [hg]
    by_cases h1 : stepL c = true
    · rw [if_pos h1]
      by_cases h2 : out.length = 8
      · rw [if_pos h2]
        exact ⟨_, _, rfl, by simp [h2]⟩
      · rw [if_neg h2, rubricatorref18_Parse.l0, if_neg (by omega)]
        exact ⟨_, _, rfl, by simp [h1, h2]⟩
    · rw [if_neg h1]
      exact ⟨_, _, rfl, by simp [h1]⟩
  | n + 1, i, k + 3, out, fr, c, hn, hf, hi, hk, hm, hc => by
    have hil : i < x.data.toList.length := by rw [len_size]; omega
    have hd := List.drop_eq_getElem_cons hil
    rw [rubricatorref18_Parse.l0, if_pos (by omega), if_pos (by omega), if_pos (by omega), bt_get x i (by omega)]
    obtain ⟨b, hb⟩ : ∃ b, x.data.toList[i] = b := ⟨_, rfl⟩
    rw [hb] at hd ⊢
    by_cases h46 : b = 46
    · subst h46
      have e : (((46 : UInt8).toNat : Int) != 46) = false := by decide
      rw [e, parse_j1 x hx (k + 1) out fr i hf hi (by omega) hm c hc]
      have hp : headed c (pieces (x.data.toList.drop i)) = c :: pieces (x.data.toList.drop (i + 1)) := by
        rw [hd, pieces_cons, if_pos rfl]
        simp [headed]
      rw [hp]
      have hg : goP out.length (c :: pieces (x.data.toList.drop (i + 1))) = (stepL c && decide (out.length ≠ 8) && goP (out.length + 1) (pieces (x.data.toList.drop (i + 1)))) := rfl
      rw [hg]
      by_cases h1 : stepL c = true
      · rw [if_pos h1]
        by_cases h2 : out.length = 8
        · rw [if_pos h2]
          exact ⟨_, _, rfl, by simp [h2]⟩
        · rw [if_neg h2]
          obtain ⟨r1, r2, hr, hiff⟩ := parse_l0 x hx n (i + 1) (k + 1) (out ++ [x.extract fr i]) (i + 1) [] (by omega) (Nat.le_refl _) (by omega) (by omega) (by simp; omega) (by simp)
          have hh : headed [] (pieces (x.data.toList.drop (i + 1))) = pieces (x.data.toList.drop (i + 1)) := by
            cases hq : pieces (x.data.toList.drop (i + 1)) with
            | nil => exact absurd hq (pieces_ne _)
            | cons p ps => simp [headed]
          rw [hh, List.length_append, List.length_singleton] at hiff
          exact ⟨r1, r2, hr, by rw [hiff]; simp [h1, h2]⟩
      · rw [if_neg h1]
        exact ⟨_, _, rfl, by simp [h1]⟩
    · have e : ((b.toNat : Int) != 46) = true := by
        simp
        intro h
        apply h46
        apply UInt8.toNat_inj.1
        have : (46 : UInt8).toNat = 46 := rfl
        omega
      rw [e, rubricatorref18_Parse.j1, if_pos rfl, w1 i (by omega)]
      have hc' : (x.data.toList.drop fr).take (i + 1 - fr) = c ++ [b] := by
        have e1 : i + 1 - fr = (i - fr) + 1 := by omega
        rw [e1, List.take_succ_eq_append_getElem (by rw [List.length_drop]; omega), hc]
        congr 1
        rw [List.getElem_drop]
        have : fr + (i - fr) = i := by omega
        simp only [this, hb]
      obtain ⟨r1, r2, hr, hiff⟩ := parse_l0 x hx n (i + 1) (k + 1) out fr (c ++ [b]) (by omega) (by omega) (by omega) (by omega) hm hc'
      have hh : headed c (pieces (x.data.toList.drop i)) = headed (c ++ [b]) (pieces (x.data.toList.drop (i + 1))) := by
        rw [hd, pieces_cons, if_neg h46]
        cases hq : pieces (x.data.toList.drop (i + 1)) with
        | nil => exact absurd hq (pieces_ne _)
        | cons p ps => simp [headed]
      exact ⟨r1, r2, hr, by rw [hh]; exact hiff⟩
  | _, _, 0, _, _, _, _, _, _, hk, _, _ => by omega
  | _, _, 1, _, _, _, _, _, _, hk, _, _ => by omega
  | _, _, 2, _, _, _, _, _, _, hk, _, _ => by omega
theorem goP_all : ∀ (ps : List (List UInt8)) (m : Nat), m ≤ 8 → goP m ps = (ps.all stepL && decide (m + ps.length ≤ 8))
  | [], m, h => by simp [goP]; exact h
  | p :: ps, m, h => by
    rw [goP]
    by_cases h8 : m = 8
    · subst h8
      simp
    · rw [goP_all ps (m + 1) (by omega), List.all_cons, List.length_cons]
      have e : m + 1 + ps.length = m + (ps.length + 1) := by omega
      rw [e]
      have : decide (m ≠ 8) = true := by simpa using h8
      rw [this]
      cases stepL p <;> simp
theorem pathOk_L (s : ByteArray) : pathOk s = goP 0 (pieces s.data.toList) := by
  rw [goP_all _ 0 (by omega)]
  unfold pathOk
  have hm : (parts s).map (fun p => p.data.toList) = pieces s.data.toList := splitB_pieces s
  rw [← hm, List.length_map, List.all_map, Nat.zero_add]
  have : (parts s).all stepOk = (parts s).all (stepL ∘ fun p => p.data.toList) := by
    exact congrArg (fun f => List.all (parts s) f) (funext stepOk_L)
  rw [this, Bool.and_comm]
theorem parse_f (x : ByteArray) (hx : x.size ≤ 1000000) (k : Nat) (hk : 3 * x.size + 5 ≤ k) : ∃ r1 r2, rubricatorref18_Parse.f k x = some (r1, r2) ∧ (r2 = 0 ↔ pathOk x = true) := by
  obtain ⟨r1, r2, hr, hiff⟩ := parse_l0 x hx x.size 0 k [] 0 [] (by omega) (Nat.le_refl _) (by omega) (by omega) (by simp) (by simp)
  refine ⟨r1, r2, hr, ?_⟩
  rw [hiff, pathOk_L, List.drop_zero]
  have hh : headed [] (pieces x.data.toList) = pieces x.data.toList := by
    cases hq : pieces x.data.toList with
    | nil => exact absurd hq (pieces_ne _)
    | cons p ps => simp [headed]
  rw [hh]
  rfl
end Go.Proofs.YtkgffeclgapkbaaDoor
namespace Go.Proofs.YtkgffeclgapkbaaDoor
open Go.RowKit Go.Proofs.YtkgffeclgapkbaaDoorW.PrintWords PCatalogPuts
set_option linter.unusedVariables false
set_option linter.unusedSimpArgs false
set_option maxRecDepth 100000
def to31 (x : Ix) : S31 := ⟨x.id, x.path, x.un⟩
theorem C31_of {w : World} {A : Option Addr} {xs : List Ix} (h : RdI w A xs) (hl : xs.length ≤ maxLen) : Kd.C k31 w A (xs.map to31).length (xs.map to31) := by
  refine ⟨rfl, by rw [List.length_map]; exact hl, fun h0 => ?_⟩
  rw [List.length_map] at h0
  obtain ⟨ad, e, _⟩ := h 0 h0
  refine ⟨ad, e, fun j p hj => ⟨_, rfl, k31_mk _ _, fun i u hu => ?_⟩⟩
  obtain ⟨hj1, hj2⟩ := List.getElem?_eq_some_iff.1 hj
  rw [List.length_map] at hj1
  obtain ⟨ad', e', q0, q1, q2⟩ := h j hj1
  rw [e] at e'
  injection e' with e'
  subst e'
  have hp : p = to31 (xs.getD j ix0) := by
    rw [← hj2, List.getElem_map, List.getD_eq_getElem?_getD, List.getElem?_eq_getElem hj1]
    rfl
  subst hp
  have hz : k31.sz = 3 := rfl
  rw [hz]
  have hsp := World.cell?_spot q0
  have hadd : ∀ i, ad.add (j * 3 + i) = ⟨(ad.add (j * 3)).block, (ad.add (j * 3)).off + i, none⟩ := by
    intro i
    rw [← Go.Deep.add_add]
    generalize ad.add (j * 3) = b at hsp
    obtain ⟨bk, of, sp⟩ := b
    have hsp : sp = none := hsp
    subst hsp
    exact WideShapes.add_plain _ _ _
  match i, hu with
  | 0, hu =>
    simp at hu
    subst hu
    exact q0
  | 1, hu =>
    simp at hu
    subst hu
    rw [hadd]
    exact q1
  | 2, hu =>
    simp at hu
    subst hu
    rw [hadd]
    exact q2
  | i + 3, hu => simp at hu
theorem rd31 (xs : List Ix) (j : Nat) : rd_T31 (xs.map to31) (j : Int) = to31 (xs.getD j ix0) := by
  unfold rd_T31
  rw [show (j : Int).toNat = j from rfl, List.getD_eq_getElem?_getD, List.getD_eq_getElem?_getD, List.getElem?_map]
  cases xs[j]? <;> rfl
def FU : Nat := 3000100
def prevId (xs : List Ix) (i : Nat) : Int := if i = 0 then 0 else (xs.getD (i - 1) ix0).id
/-- the inner loop, where the outer's rest is known -/
theorem right_l1 (a b : Int) (xs : List Ix) (hl : xs.length ≤ 1000) (i : Nat) (hi : i < xs.length) (N : Nat) (Q : Prop)
    (ih : ∀ k, N ≤ k → ∃ r, rubricatorref21_Right.l0 k ((i + 1 : Nat) : Int) a b (xs.map to31) = some r ∧ (r = true ↔ Q)) :
    ∀ (d q k : Nat), i - q = d → q ≤ i → N + d + 1 ≤ k → ∃ r, rubricatorref21_Right.l1 k (i : Int) (q : Int) a b (xs.map to31) (xs.getD i ix0).id (xs.getD i ix0).path (xs.getD i ix0).un = some r ∧
      (r = true ↔ (∀ p, q ≤ p → p < i → (xs.getD p ix0).path.toList ≠ (xs.getD i ix0).path.toList) ∧ Q)
  | 0, q, k + 1, hd, hq, hk => by
    have e : q = i := by omega
    subst e
    rw [rubricatorref21_Right.l1, if_neg (by omega), w1 q (by omega)]
    obtain ⟨r, hr, hiff⟩ := ih k (by omega)
    exact ⟨r, hr, by rw [hiff]; exact ⟨fun h => ⟨fun p h1 h2 => by omega, h⟩, fun h => h.2⟩⟩
  | d + 1, q, k + 1, hd, hq, hk => by
    rw [rubricatorref21_Right.l1, if_pos (by omega), if_pos (by omega), if_pos (by rw [List.length_map]; omega), rd31]
    by_cases hp : (xs.getD q ix0).path.toList = (xs.getD i ix0).path.toList
    · rw [if_pos (show (to31 (xs.getD q ix0)).f1.toList = _ from hp)]
      exact ⟨false, rfl, by simp; intro h; exact absurd hp (h q (Nat.le_refl _) (by omega))⟩
    · rw [if_neg (show ¬ (to31 (xs.getD q ix0)).f1.toList = _ from hp), w1 q (by omega)]
      obtain ⟨r, hr, hiff⟩ := right_l1 a b xs hl i hi N Q ih d (q + 1) k (by omega) (by omega) (by omega)
      refine ⟨r, hr, ?_⟩
      rw [hiff]
      constructor
      · rintro ⟨h1, h2⟩
        refine ⟨fun p hp1 hp2 => ?_, h2⟩
        by_cases e : p = q
        · subst e; exact hp
        · exact h1 p (by omega) hp2
      · rintro ⟨h1, h2⟩
        exact ⟨fun p hp1 hp2 => h1 p (by omega) hp2, h2⟩
  | _, _, 0, _, _, hk => by omega
theorem okAt_iff (xs : List Ix) (i : Nat) (hi : i < xs.length) (hprev : i = 0 ∨ 1 ≤ (xs.getD (i - 1) ix0).id) :
    okAt xs i = true ↔ (1 ≤ (xs.getD i ix0).id ∧ (xs.getD i ix0).id ≤ 255 ∧ pathOk (xs.getD i ix0).path = true ∧ (i = 0 ∨ (xs.getD (i - 1) ix0).id < (xs.getD i ix0).id)) ∧ (∀ p, 0 ≤ p → p < i → (xs.getD p ix0).path.toList ≠ (xs.getD i ix0).path.toList) := by
  have hany : ((xs.take i).any (samePath (xs.getD i ix0))) = true ↔ ∃ p, p < i ∧ (xs.getD p ix0).path.toList = (xs.getD i ix0).path.toList := by
    rw [List.any_eq_true]
    constructor
    · rintro ⟨y, hy, hs⟩
      obtain ⟨p, hp, rfl⟩ := List.mem_iff_getElem.1 hy
      have hp' : p < i ∧ p < xs.length := by rw [List.length_take] at hp; omega
      refine ⟨p, hp'.1, ?_⟩
      rw [List.getElem_take] at hs
      rw [List.getD_eq_getElem?_getD, List.getElem?_eq_getElem hp'.2]
      simpa [samePath] using hs
    · rintro ⟨p, hp, he⟩
      have hpl : p < xs.length := by omega
      refine ⟨xs[p], List.mem_iff_getElem.2 ⟨p, by rw [List.length_take]; omega, by rw [List.getElem_take]⟩, ?_⟩
      rw [List.getD_eq_getElem?_getD, List.getElem?_eq_getElem hpl] at he
      simpa [samePath] using he
  unfold okAt
  simp only [Bool.and_eq_true, decide_eq_true_eq, Bool.not_eq_true']
  have hno : ((xs.take i).any (samePath (xs.getD i ix0))) = false ↔ ∀ p, 0 ≤ p → p < i → (xs.getD p ix0).path.toList ≠ (xs.getD i ix0).path.toList := by
    rw [← Bool.not_eq_true, hany]
    constructor
    · intro h p _ hp he
      exact h ⟨p, hp, he⟩
    · rintro h ⟨p, hp, he⟩
      exact h p (Nat.zero_le _) hp he
  rw [hno]
  by_cases h0 : i = 0
  · subst h0
    rw [if_pos rfl]
    constructor
    · rintro ⟨⟨⟨h2, h3⟩, h4⟩, h5⟩
      exact ⟨⟨by omega, h3, h4, .inl rfl⟩, h5⟩
    · rintro ⟨⟨h2, h3, h4, _⟩, h5⟩
      exact ⟨⟨⟨by omega, h3⟩, h4⟩, h5⟩
  · rw [if_neg h0]
    have h1 : 1 ≤ (xs.getD (i - 1) ix0).id := by rcases hprev with h | h; exact absurd h h0; exact h
    constructor
    · rintro ⟨⟨⟨h2, h3⟩, h4⟩, h5⟩
      exact ⟨⟨by omega, h3, h4, .inr h2⟩, h5⟩
    · rintro ⟨⟨h2, h3, h4, h6⟩, h5⟩
      rcases h6 with h6 | h6
      · exact absurd h6 h0
      · exact ⟨⟨⟨h6, h3⟩, h4⟩, h5⟩
theorem right_j2 (a b : Int) (xs : List Ix) (k : Nat) (i : Int) (x : Ix) (bad : Bool) : rubricatorref21_Right.j2 (k + 1) i bad a b (xs.map to31) x.id x.path x.un = if bad = true then some false else rubricatorref21_Right.l1 k i 0 a b (xs.map to31) x.id x.path x.un := by
  rw [rubricatorref21_Right.j2]
set_option maxHeartbeats 2000000 in
theorem right_l0 (F : Nat) (hF : 3000010 ≤ F) (a b : Int) (xs : List Ix) (hl : xs.length ≤ 1000) (hp : ∀ x, x ∈ xs → x.path.size ≤ 1000000) : ∀ (n i k : Nat), xs.length - i = n → i ≤ xs.length → F + n * 2000 ≤ k → (i = 0 ∨ 1 ≤ (xs.getD (i - 1) ix0).id) →
    ∃ r, rubricatorref21_Right.l0 k (i : Int) a b (xs.map to31) = some r ∧ (r = true ↔ ∀ j, i ≤ j → j < xs.length → okAt xs j = true) := by
  intro n
  induction n with
  | zero =>
    intro i k hn hi hk _
    obtain ⟨k, rfl⟩ : ∃ k', k = k' + 1 := ⟨k - 1, by omega⟩
    rw [rubricatorref21_Right.l0, if_neg (by rw [List.length_map]; omega)]
    exact ⟨true, rfl, by simp; intro j h1 h2; omega⟩
  | succ n ihn =>
    intro i k hn hi hk hprev
    obtain ⟨k, rfl⟩ : ∃ k', k = k' + 2 := ⟨k - 2, by omega⟩
    have hil : i < xs.length := by omega
    have hpi : (xs.getD i ix0).path.size ≤ 1000000 := hp _ (getD_mem' _ hil)
    obtain ⟨r1, r2, hpf, hpo⟩ := parse_f (xs.getD i ix0).path hpi (k + 1) (by omega)
    have hok := okAt_iff xs i hil hprev
    have hall : ∀ {P : Nat → Prop}, (∀ j, i ≤ j → j < xs.length → P j) ↔ (P i ∧ ∀ j, i + 1 ≤ j → j < xs.length → P j) := by
      intro P
      constructor
      · intro h
        exact ⟨h i (Nat.le_refl _) hil, fun j h1 h2 => h j (by omega) h2⟩
      · rintro ⟨h1, h2⟩ j hj1 hj2
        by_cases e : j = i
        · rw [e]; exact h1
        · exact h2 j (by omega) hj2
    rw [hall (P := fun j => okAt xs j = true), hok]
    rw [rubricatorref21_Right.l0, if_pos (by rw [List.length_map]; omega), if_pos (by omega), rd31]
    show ∃ r, (Option.bind (rubricatorref18_Parse.f (k + 1) (xs.getD i ix0).path) fun bt155 => _) = some r ∧ _
    rw [hpf]
    obtain ⟨x, hx⟩ : ∃ x, xs.getD i ix0 = x := ⟨_, rfl⟩
    have hbad : ∀ bad : Bool, (bad = true ↔ ¬ (1 ≤ x.id ∧ x.id ≤ 255 ∧ pathOk x.path = true ∧ (i = 0 ∨ (xs.getD (i - 1) ix0).id < x.id))) → ∃ r, rubricatorref21_Right.j2 (k + 1) (i : Int) bad a b (xs.map to31) x.id x.path x.un = some r ∧ (r = true ↔ ((1 ≤ x.id ∧ x.id ≤ 255 ∧ pathOk x.path = true ∧ (i = 0 ∨ (xs.getD (i - 1) ix0).id < x.id)) ∧ (∀ p, 0 ≤ p → p < i → (xs.getD p ix0).path.toList ≠ x.path.toList)) ∧ ∀ j, i + 1 ≤ j → j < xs.length → okAt xs j = true) := by
      intro bad hb
      rw [right_j2]
      cases bad with
      | true => exact ⟨false, rfl, by simp; intro h1 h2 h3 h4; exact absurd ⟨h1, h2, h3, h4⟩ (hb.1 rfl)⟩
      | false =>
        have hgood : 1 ≤ x.id ∧ x.id ≤ 255 ∧ pathOk x.path = true ∧ (i = 0 ∨ (xs.getD (i - 1) ix0).id < x.id) := by
          apply Classical.byContradiction
          intro h
          exact absurd (hb.2 h) (by decide)
        rw [if_neg (by decide)]
        have := right_l1 a b xs hl i hil (F + n * 2000) (∀ j, i + 1 ≤ j → j < xs.length → okAt xs j = true)
          (fun k' hk' => ihn (i + 1) k' (by omega) (by omega) hk' (.inr (by rw [Nat.add_sub_cancel, hx]; exact hgood.1))) i 0 k (by omega) (Nat.zero_le _) (by omega)
        rw [hx] at this
        obtain ⟨r, hr, hiff⟩ := this
        exact ⟨r, hr, by rw [hiff]; exact ⟨fun h => ⟨⟨hgood, h.1⟩, h.2⟩, fun h => ⟨h.1.2, h.2⟩⟩⟩
    rw [hx] at hpo ⊢
    simp only [Option.bind_some, to31]
    by_cases c1 : x.id < 1
    · simp only [c1, ↓reduceIte]
      exact hbad true ⟨fun _ h => by omega, fun _ => rfl⟩
    · simp only [c1, ↓reduceIte]
      by_cases c2 : x.id > 255
      · simp only [c2, ↓reduceIte]
        exact hbad true ⟨fun _ h => by omega, fun _ => rfl⟩
      · simp only [c2, ↓reduceIte]
        by_cases c3 : r2 = 0
        · simp only [c3, ↓reduceIte]
          by_cases c4 : i = 0
          · have c5 : ¬ ((i : Int) > 0) := by omega
            simp only [c5, ↓reduceIte]
            exact hbad false ⟨fun h => (by cases h), fun h => absurd ⟨by omega, by omega, hpo.1 c3, .inl c4⟩ h⟩
          · have c5 : ((i : Int) > 0) := by omega
            simp only [c5, ↓reduceIte]
            have hw : wrap64 ((i : Int) - 1) = ((i - 1 : Nat) : Int) := by
              rw [IntWalk.wrap64_in _ (by omega)]
              omega
            have c6 : (0 : Int) ≤ ((i - 1 : Nat) : Int) := by omega
            have c7 : ((i - 1 : Nat) : Int) < ((xs.map to31).length : Int) := by rw [List.length_map]; omega
            rw [hw]
            simp only [c6, c7, ↓reduceIte]
            rw [rd31]
            refine hbad _ ⟨fun h => ?_, fun h => ?_⟩
            · simp [to31] at h
              rintro ⟨_, _, _, h2⟩
              rcases h2 with h2 | h2
              · exact c4 h2
              · simp at h2
                omega
            · apply decide_eq_true
              apply Classical.byContradiction
              intro h2
              exact h ⟨by omega, by omega, hpo.1 c3, .inr (by simp only [to31] at h2; omega)⟩
        · simp only [c3, ↓reduceIte]
          exact hbad true ⟨fun _ h => c3 (hpo.2 h.2.2.1), fun _ => rfl⟩
theorem right_f (k : Nat) (hk : 5000100 ≤ k) (id next : Int) (xs : List Ix) (hid : 0 ≤ id) (hnx : 0 ≤ next) (hp : ∀ x, x ∈ xs → x.path.size ≤ 1000000) (hl : xs.length ≤ 1000) : rubricatorref21_Right.f (k + 1) id next (xs.map to31) = some (rightB id next xs) := by
  unfold rubricatorref21_Right.f rightB
  by_cases h1 : id = 0
  · rw [if_pos h1, rubricatorref21_Right.j0, if_pos rfl]
    have : decide (1 ≤ id) = false := decide_eq_false (by omega)
    rw [this]
    rfl
  · rw [if_neg h1]
    have e1 : decide (1 ≤ id) = true := decide_eq_true (by omega)
    by_cases h2 : next = 0
    · rw [if_pos h2, rubricatorref21_Right.j0, if_pos rfl]
      have : decide (1 ≤ next) = false := decide_eq_false (by omega)
      rw [this]
      simp
    · rw [if_neg h2]
      have e2 : decide (1 ≤ next) = true := decide_eq_true (by omega)
      rw [List.length_map, e1, e2]
      by_cases h3 : xs.length ≤ 8
      · have e3 : decide (xs.length ≤ 8) = true := decide_eq_true h3
        have e4 : decide ((xs.length : Int) > 8) = false := decide_eq_false (by omega)
        rw [e3, e4, rubricatorref21_Right.j0, if_neg (by decide)]
        obtain ⟨r, hr, hiff⟩ := right_l0 3000010 (Nat.le_refl _) id next xs hl hp xs.length 0 k (by omega) (Nat.zero_le _) (by omega) (.inl rfl)
        rw [show (0 : Int) = ((0 : Nat) : Int) from rfl, hr]
        congr 1
        simp only [Bool.true_and]
        cases hr2 : (List.range xs.length).all (okAt xs) with
        | true =>
          rw [hiff]
          intro j _ hj
          exact List.all_eq_true.1 hr2 j (List.mem_range.2 hj)
        | false =>
          apply Bool.eq_false_iff.2
          intro h
          have := hiff.1 h
          have : (List.range xs.length).all (okAt xs) = true := List.all_eq_true.2 (fun j hj => this j (Nat.zero_le _) (List.mem_range.1 hj))
          rw [this] at hr2
          cases hr2
      · have e3 : decide (xs.length ≤ 8) = false := decide_eq_false h3
        have e4 : decide ((xs.length : Int) > 8) = true := decide_eq_true (by omega)
        rw [e3, e4, rubricatorref21_Right.j0, if_pos rfl]
        simp
end Go.Proofs.YtkgffeclgapkbaaDoor
namespace Go.Proofs.YtkgffeclgapkbaaDoor
open Go.RowKit Go.Proofs.YtkgffeclgapkbaaDoorW.PrintWords PCatalogPuts
set_option linter.unusedVariables false
set_option linter.unusedSimpArgs false
set_option maxRecDepth 100000
def sgnN (b : Int) : Bool := (decide (97 ≤ b) && decide (b ≤ 122)) || (decide (48 ≤ b) && decide (b ≤ 57)) || decide (b = 95) || decide (b = 45)
set_option maxHeartbeats 2000000 in
theorem name_round (k : Nat) (x : ByteArray) (i : Int) (h0 : 0 ≤ i) (h1 : i < x.size) : rubricatorref21_Name.l0 (k + 1) x i = if sgnN (bt x i) = true then rubricatorref21_Name.l0 k x (wrap64 (i + 1)) else some false := by
  rw [rubricatorref21_Name.l0, if_pos h1, if_pos h0]
  generalize bt x i = b
  generalize rubricatorref21_Name.l0 k x (wrap64 (i + 1)) = r
  unfold sgnN
  repeat' split
  all_goals (first | rfl | (exfalso; simp at *; omega))
theorem sgnN_sign (b : UInt8) : sgnN (b.toNat : Int) = isNameSign b := by
  have : ∀ b : Fin 256, sgnN ((UInt8.ofNat b.val).toNat : Int) = isNameSign (UInt8.ofNat b.val) := by decide +kernel
  have h := this ⟨b.toNat, b.toNat_lt⟩
  simpa using h
theorem name_l0 (x : ByteArray) (hx : x.size ≤ 1000000) : ∀ (n i k : Nat), x.size - i = n → i ≤ x.size → n < k → rubricatorref21_Name.l0 k x i = some ((x.data.toList.drop i).all isNameSign && decide (1 ≤ x.size) && decide (x.size ≤ 24))
  | 0, i, k + 1, hn, hi, hk => by
    have hi' : i = x.size := by omega
    have hlen : x.data.toList.length = x.size := len_size x
    rw [rubricatorref21_Name.l0, if_neg (by omega), List.drop_eq_nil_of_le (by omega)]
    by_cases h : x.size = 0
    · have : x.toList = [] := by rw [Lib.toList_data]; exact List.eq_nil_of_length_eq_zero (by omega)
      rw [if_pos this]
      simp [h]
    · have : x.toList ≠ [] := by
        intro e
        rw [Lib.toList_data] at e
        rw [e] at hlen
        simp at hlen
        omega
      rw [if_neg this]
      have : decide ((x.size : Int) ≤ 24) = decide (x.size ≤ 24) := by
        by_cases h2 : x.size ≤ 24
        · rw [decide_eq_true h2, decide_eq_true (by omega)]
        · rw [decide_eq_false h2, decide_eq_false (by omega)]
      rw [this]
      have : decide (1 ≤ x.size) = true := decide_eq_true (by omega)
      simp [this]
  | n + 1, i, k + 1, hn, hi, hk => by
    have hlen : x.data.toList.length = x.size := len_size x
    have hil : i < x.data.toList.length := by omega
    rw [name_round k x i (by omega) (by omega), bt_get x i (by omega), sgnN_sign]
    have hw : wrap64 ((i : Int) + 1) = ((i + 1 : Nat) : Int) := by
      rw [IntWalk.wrap64_in _ (by omega)]
      rfl
    rw [hw, name_l0 x hx n (i + 1) k (by omega) (by omega) (by omega), List.drop_eq_getElem_cons hil, List.all_cons]
    cases isNameSign x.data.toList[i] <;> simp
  | _, _, 0, _, _, hk => by omega
theorem name_f (x : ByteArray) (hx : x.size ≤ 1000000) (k : Nat) (hk : x.size < k) : rubricatorref21_Name.f k x = some (nameOk x) := by
  have := name_l0 x hx x.size 0 k (by omega) (by omega) hk
  unfold rubricatorref21_Name.f nameOk
  rw [show (0 : Int) = ((0 : Nat) : Int) from rfl, this]
  simp only [List.drop_zero]
  cases x.data.toList.all isNameSign <;> cases decide (1 ≤ x.size) <;> cases decide (x.size ≤ 24) <;> rfl
theorem drawn_fr {w w' : World} (h : Drawn0 w w') : Fr No w w' := Fr.of_below h.below (Nat.le_refl _)
theorem RefName_any (x : ByteArray) (w : World) (hx : x.size ≤ 1000000) : Calls Tryd.prog 12 #[.string x] w fun e w' => e = .returned (.bool (nameOk x)) ∧ Fr No w w' :=
  (rubricatorref21_Name.calls (x.size + 1) x (nameOk x) w (name_f x hx _ (by omega))).mono fun e w' ⟨h1, h2⟩ => ⟨h1, drawn_fr h2⟩
theorem RefRight_any (id next : Int) (A : Option Addr) (c : Nat) (xs : List Ix) (w : World) (hr : RdI w A xs) (hc : xs.length ≤ c) (hid : 0 ≤ id) (hnx : 0 ≤ next) (hp : ∀ x, x ∈ xs → x.path.size ≤ 1000000) (hl : xs.length ≤ 1000) :
    Calls Tryd.prog 10 #[.agg #[.int .u32 id, .int .u64 next, .slice A xs.length c]] w fun e w' => e = .returned (.bool (rightB id next xs)) ∧ Fr No w w' := by
  have hC := C31_of hr (by unfold maxLen; omega)
  have h := rubricatorref21_Right.calls (5000100 + 1) id next A c (xs.map to31) (rightB id next xs) w hC (by rw [List.length_map]; exact hc) (right_f 5000100 (Nat.le_refl _) id next xs hid hnx hp hl)
  rw [List.length_map] at h
  exact h.mono fun e w' ⟨h1, h2⟩ => ⟨h1, Fr.of_below h2 (Nat.le_refl _)⟩
end Go.Proofs.YtkgffeclgapkbaaDoor
namespace Go.Proofs.YtkgffeclgapkbaaDoor
open Go.RowKit Go.Proofs.YtkgffeclgapkbaaDoorW.PrintWords PCatalogPuts
set_option linter.unusedVariables false
set_option linter.unusedSimpArgs false
set_option maxRecDepth 100000
def to57 (x : Ix) : S57 := ⟨x.id, x.path, x.un⟩
theorem rd57 (xs : List Ix) (j : Nat) : rd_T57 (xs.map to57) (j : Int) = to57 (xs.getD j ix0) := by
  unfold rd_T57
  rw [show (j : Int).toNat = j from rfl, List.getD_eq_getElem?_getD, List.getD_eq_getElem?_getD, List.getElem?_map]
  cases xs[j]? <;> rfl
theorem C57_of {w : World} {A : Option Addr} {xs : List Ix} (h : RdI w A xs) (hl : xs.length ≤ maxLen) : Kd.C k57 w A (xs.map to57).length (xs.map to57) := by
  refine ⟨rfl, by rw [List.length_map]; exact hl, fun h0 => ?_⟩
  rw [List.length_map] at h0
  obtain ⟨ad, e, _⟩ := h 0 h0
  refine ⟨ad, e, fun j p hj => ⟨_, rfl, k57_mk _ _, fun i u hu => ?_⟩⟩
  obtain ⟨hj1, hj2⟩ := List.getElem?_eq_some_iff.1 hj
  rw [List.length_map] at hj1
  obtain ⟨ad', e', q0, q1, q2⟩ := h j hj1
  rw [e] at e'
  injection e' with e'
  subst e'
  have hp : p = to57 (xs.getD j ix0) := by
    rw [← hj2, List.getElem_map, List.getD_eq_getElem?_getD, List.getElem?_eq_getElem hj1]
    rfl
  subst hp
  have hz : k57.sz = 3 := rfl
  rw [hz]
  have hsp := World.cell?_spot q0
  have hadd : ∀ i, ad.add (j * 3 + i) = ⟨(ad.add (j * 3)).block, (ad.add (j * 3)).off + i, none⟩ := by
    intro i
    rw [← Go.Deep.add_add]
    generalize ad.add (j * 3) = b at hsp
    obtain ⟨bk, of, sp⟩ := b
    have hsp : sp = none := hsp
    subst hsp
    exact WideShapes.add_plain _ _ _
  match i, hu with
  | 0, hu =>
    simp at hu
    subst hu
    exact q0
  | 1, hu =>
    simp at hu
    subst hu
    rw [hadd]
    exact q1
  | 2, hu =>
    simp at hu
    subst hu
    rw [hadd]
    exact q2
  | i + 3, hu => simp at hu
theorem same_l0 (a b a' b' : Int) (xs : List Ix) (hl : xs.length ≤ 100000) : ∀ (n i k : Nat), xs.length - i = n → i ≤ xs.length → n < k → rubricatorlaw21_same.l0 k (i : Int) a b (xs.map to57) a' b' (xs.map to31) = some true := by
  intro n
  induction n with
  | zero =>
    intro i k hn hi hk
    obtain ⟨k, rfl⟩ : ∃ k', k = k' + 1 := ⟨k - 1, by omega⟩
    rw [rubricatorlaw21_same.l0, if_neg (by rw [List.length_map]; omega)]
  | succ n ih =>
    intro i k hn hi hk
    obtain ⟨k, rfl⟩ : ∃ k', k = k' + 1 := ⟨k - 1, by omega⟩
    rw [rubricatorlaw21_same.l0, if_pos (by rw [List.length_map]; omega), if_pos (by omega), if_pos (by rw [List.length_map]; omega), rd57, rd31]
    simp only [to57, to31, ↓reduceIte, bne_self_eq_false, Bool.false_eq_true]
    rw [w1 i (by omega)]
    exact ih (i + 1) k (by omega) (by omega) (by omega)
theorem Same_any (id next : Int) (A A' : Option Addr) (c c' : Nat) (xs : List Ix) (w : World) (hr : RdI w A xs) (hr' : RdI w A' xs) (hc : xs.length ≤ c) (hc' : xs.length ≤ c') (hl : xs.length ≤ 100000) :
    Calls Tryd.prog 14 #[.agg #[.int .u32 id, .int .u64 next, .slice A xs.length c], .agg #[.int .u32 id, .int .u64 next, .slice A' xs.length c']] w fun e w' => e = .returned (.bool true) ∧ Fr No w w' := by
  have h1 := C57_of hr (by unfold maxLen; omega)
  have h2 := C31_of hr' (by unfold maxLen; omega)
  have hf : rubricatorlaw21_same.f (xs.length + 1 + 1) id next (xs.map to57) id next (xs.map to31) = some true := by
    unfold rubricatorlaw21_same.f
    rw [if_pos rfl, if_pos rfl, rubricatorlaw21_same.j0, if_neg (by rw [List.length_map, List.length_map]; simp)]
    exact same_l0 id next id next xs hl xs.length 0 (xs.length + 1) (by omega) (Nat.zero_le _) (by omega)
  have h := rubricatorlaw21_same.calls _ id next A c (xs.map to57) id next A' c' (xs.map to31) true w h1 (by rw [List.length_map]; exact hc) h2 (by rw [List.length_map]; exact hc') hf
  rw [List.length_map, List.length_map] at h
  exact h.mono fun e w' ⟨h1, h2⟩ => ⟨h1, Fr.of_below h2 (Nat.le_refl _)⟩
end Go.Proofs.YtkgffeclgapkbaaDoor
namespace Go.Proofs.YtkgffeclgapkbaaDoor
open Go.RowKit Go.Proofs.YtkgffeclgapkbaaDoorW.PrintWords Pof
set_option linter.unusedVariables false
set_option linter.unusedSimpArgs false
set_option maxRecDepth 100000
def o31 (x : Ix) : Pof.S31 := ⟨x.id, x.path, x.un⟩
def o57 (x : Ix) : Pof.S57 := ⟨x.id, x.path, x.un⟩
theorem ord31 (xs : List Ix) (j : Nat) : Pof.rd_T31 (xs.map o31) (j : Int) = o31 (xs.getD j ix0) := by
  unfold Pof.rd_T31
  rw [show (j : Int).toNat = j from rfl, List.getD_eq_getElem?_getD, List.getD_eq_getElem?_getD, List.getElem?_map]
  cases xs[j]? <;> rfl
theorem ord57 (xs : List Ix) (j : Nat) : Pof.rd_T57 (xs.map o57) (j : Int) = o57 (xs.getD j ix0) := by
  unfold Pof.rd_T57
  rw [show (j : Int).toNat = j from rfl, List.getD_eq_getElem?_getD, List.getD_eq_getElem?_getD, List.getElem?_map]
  cases xs[j]? <;> rfl
theorem oC31_of {w : World} {A : Option Addr} {xs : List Ix} (h : RdI w A xs) (hl : xs.length ≤ maxLen) : Kd.C Pof.k31 w A (xs.map o31).length (xs.map o31) := by
  refine ⟨rfl, by rw [List.length_map]; exact hl, fun h0 => ?_⟩
  rw [List.length_map] at h0
  obtain ⟨ad, e, _⟩ := h 0 h0
  refine ⟨ad, e, fun j p hj => ⟨_, rfl, Pof.k31_mk _ _, fun i u hu => ?_⟩⟩
  obtain ⟨hj1, hj2⟩ := List.getElem?_eq_some_iff.1 hj
  rw [List.length_map] at hj1
  obtain ⟨ad', e', q0, q1, q2⟩ := h j hj1
  rw [e] at e'
  injection e' with e'
  subst e'
  have hp : p = o31 (xs.getD j ix0) := by
    rw [← hj2, List.getElem_map, List.getD_eq_getElem?_getD, List.getElem?_eq_getElem hj1]
    rfl
  subst hp
  have hz : Pof.k31.sz = 3 := rfl
  rw [hz]
  have hsp := World.cell?_spot q0
  have hadd : ∀ i, ad.add (j * 3 + i) = ⟨(ad.add (j * 3)).block, (ad.add (j * 3)).off + i, none⟩ := by
    intro i
    rw [← Go.Deep.add_add]
    generalize ad.add (j * 3) = b at hsp
    obtain ⟨bk, of, sp⟩ := b
    have hsp : sp = none := hsp
    subst hsp
    exact WideShapes.add_plain _ _ _
  match i, hu with
  | 0, hu =>
    simp at hu
    subst hu
    exact q0
  | 1, hu =>
    simp at hu
    subst hu
    rw [hadd]
    exact q1
  | 2, hu =>
    simp at hu
    subst hu
    rw [hadd]
    exact q2
  | i + 3, hu => simp at hu
theorem RdI_of57 {w : World} {A : Option Addr} {xs : List Ix} (h : Kd.C Pof.k57 w A (xs.map o57).length (xs.map o57)) : RdI w A xs := by
  intro j hj
  obtain ⟨ad, e, q0, q1, q2⟩ := Pof.at_T57 h (j : Int) (by omega) (by rw [List.length_map]; omega)
  rw [ord57] at q0 q1 q2
  exact ⟨ad, e, q0, q1, q2⟩
theorem of_l0 (a b : Int) (xs : List Ix) (hl : xs.length ≤ 100000) : ∀ (n i k : Nat), xs.length - i = n → i ≤ xs.length → n < k → Pof.rubricatorlaw21_of.l0 k (i : Int) a b (xs.map o31) a b ((xs.take i).map o57) = some (a, b, xs.map o57) := by
  intro n
  induction n with
  | zero =>
    intro i k hn hi hk
    obtain ⟨k, rfl⟩ : ∃ k', k = k' + 1 := ⟨k - 1, by omega⟩
    rw [Pof.rubricatorlaw21_of.l0, if_neg (by rw [List.length_map]; omega), List.take_of_length_le (by omega)]
  | succ n ih =>
    intro i k hn hi hk
    obtain ⟨k, rfl⟩ : ∃ k', k = k' + 1 := ⟨k - 1, by omega⟩
    rw [Pof.rubricatorlaw21_of.l0, if_pos (by rw [List.length_map]; omega), if_pos (by omega), if_pos (by rw [List.length_map, List.length_take]; omega), ord31, w1 i (by omega)]
    have hs : (xs.take i).map o57 ++ [(⟨(o31 (xs.getD i ix0)).f0, (o31 (xs.getD i ix0)).f1, (o31 (xs.getD i ix0)).f2⟩ : Pof.S57)] = (xs.take (i + 1)).map o57 := by
      rw [List.take_succ_eq_append_getElem (by omega), List.map_append, List.getD_eq_getElem?_getD, List.getElem?_eq_getElem (by omega)]
      rfl
    rw [hs]
    exact ih (i + 1) k (by omega) (by omega) (by omega)
theorem Of_any (id next : Int) (A : Option Addr) (c : Nat) (xs : List Ix) (w : World) (hr : RdI w A xs) (hc : xs.length ≤ c) (hl : xs.length ≤ 100000) :
    Calls Tryd.prog 6 #[.agg #[.int .u32 id, .int .u64 next, .slice A xs.length c]] w fun e w' => ∃ A' c', e = .returned (.agg #[.int .u32 id, .int .u64 next, .slice A' xs.length c']) ∧ xs.length ≤ c' ∧ RdI w' A' xs ∧ Fr No w w' := by
  have h1 := oC31_of hr (by unfold maxLen; omega)
  have hf : Pof.rubricatorlaw21_of.f (xs.length + 1) id next (xs.map o31) = some (id, next, xs.map o57) := of_l0 id next xs hl xs.length 0 (xs.length + 1) (by omega) (Nat.zero_le _) (by omega)
  have h := Pof.rubricatorlaw21_of.calls _ id next A c (xs.map o31) id next (xs.map o57) w h1 (by rw [List.length_map]; exact hc) hf
  rw [List.length_map] at h
  refine h.mono fun e w' ⟨v, he, hR, hb⟩ => ?_
  obtain ⟨A', c', rfl, hle, hC⟩ := Kd.R_reads hR
  rw [List.length_map] at he hle
  exact ⟨A', c', he, hle, RdI_of57 hC, Fr.of_below hb (Nat.le_refl _)⟩
end Go.Proofs.YtkgffeclgapkbaaDoor
