/- strings.Split at a dot, strings.Trim: what they answer; path.Parse; catalog.Name. -/
import Derived.Test.YtkgffeclgapkbaaDoorA11
import Derived.Test.YtkgffeclgapkbaaDoorShelf
namespace Go.Proofs.YtkgffeclgapkbaaDoor
open Go.RowKit Go.Proofs.YtkgffeclgapkbaaDoorW.PrintWords
set_option linter.unusedVariables false
set_option linter.unusedSimpArgs false
set_option maxRecDepth 100000
/-- A text cut at each dot. -/
def pieces : List UInt8 → List (List UInt8)
  | [] => [[]]
  | b :: l => if b = 46 then [] :: pieces l else (match pieces l with | p :: ps => (b :: p) :: ps | [] => [[b]])
theorem pieces_cons (b : UInt8) (l : List UInt8) : pieces (b :: l) = if b = 46 then [] :: pieces l else (match pieces l with | p :: ps => (b :: p) :: ps | [] => [[b]]) := rfl
theorem pieces_ne (l : List UInt8) : pieces l ≠ [] := by
  cases l with
  | nil => simp [pieces]
  | cons b l =>
    unfold pieces
    split
    · simp
    · split <;> simp
theorem pieces_miss (l : List UInt8) (h : Lib.index l [46] = -1) : pieces l = [l] := by
  induction l with
  | nil => rfl
  | cons b l ih =>
    unfold Lib.index at h
    split at h
    · cases h
    · rename_i hb
      have hb' : b ≠ 46 := by
        intro e
        subst e
        exact hb rfl
      split at h
      · rename_i h1
        have := ih (by simpa using h1)
        unfold pieces
        rw [if_neg hb', this]
      · rename_i h1
        have h2 := Lib.index_ge l [46]
        omega
theorem pieces_hit (l : List UInt8) (i : Nat) (h : Lib.index l [46] = i) : pieces l = l.take i :: pieces (l.drop (i + 1)) := by
  induction l generalizing i with
  | nil => simp [Lib.index] at h
  | cons b l ih =>
    unfold Lib.index at h
    split at h
    · rename_i hb
      have hb' : b = 46 := by
        by_cases e : b = 46
        · exact e
        · have : ([46] : List UInt8).isPrefixOf (b :: l) = false := by
            simp only [List.isPrefixOf, Bool.and_true]
            exact beq_eq_false_iff_ne.2 (fun h => e h.symm)
          rw [this] at hb
          cases hb
      have hi : i = 0 := by omega
      subst hi hb'
      simp [pieces]
    · rename_i hb
      have hb' : b ≠ 46 := by
        intro e
        subst e
        exact hb rfl
      split at h
      · omega
      · rename_i h1
        have h2 := Lib.index_ge l [46]
        obtain ⟨j, rfl⟩ : ∃ j, i = j + 1 := ⟨i - 1, by simp at h1; omega⟩
        have := ih j (by omega)
        rw [pieces_cons, if_neg hb', this]
        rfl
theorem splitK_pieces (n : Nat) : ∀ l : List UInt8, l.length ≤ n → Lib.splitK [46] 0 (Lib.count l [46]) l = pieces l := by
  induction n with
  | zero =>
    intro l hl
    have : l = [] := List.eq_nil_of_length_eq_zero (by omega)
    subst this
    decide
  | succ n ih =>
    intro l hl
    by_cases h : Lib.index l [46] = -1
    · rw [Lib.count_miss h, pieces_miss l h]
      rfl
    · have h2 := Lib.index_ge l [46]
      obtain ⟨i, hi⟩ : ∃ i : Nat, Lib.index l [46] = i := ⟨(Lib.index l [46]).toNat, by omega⟩
      have hc := Lib.count_hit (sub := [46]) (by simp) hi
      rw [hc, pieces_hit l i hi, Nat.add_comm, Lib.splitK, if_neg (by rw [hi]; simp), hi]
      have hd := Lib.drop_shorter (s := l) (sub := [46]) (by simp) (by rw [hi]; simp)
      rw [hi] at hd
      simp only [Int.toNat_natCast, List.length_cons, List.length_nil, Nat.zero_add, Nat.add_zero] at hd ⊢
      rw [ih (l.drop (i + 1)) (by omega)]
theorem splitB_pieces (s : ByteArray) : (Lib.splitB ⟨#[46]⟩ 0 (Lib.countB s ⟨#[46]⟩) s).map (·.data.toList) = pieces s.data.toList := by
  rw [Lib.splitB_data]
  exact splitK_pieces _ _ (Nat.le_refl _)
theorem splitB_len (s : ByteArray) : (Lib.splitB ⟨#[46]⟩ 0 (Lib.countB s ⟨#[46]⟩) s).length = Lib.countB s ⟨#[46]⟩ + 1 := Lib.splitB_all _ (by decide) 0 _ s rfl
theorem pieces_len (s : ByteArray) : (pieces s.data.toList).length = Lib.countB s ⟨#[46]⟩ + 1 := by rw [← splitB_pieces, List.length_map, splitB_len]
/-- the variable that the library's search reads -/
def Gl (w : World) : Prop := ∃ m, w.cell? ⟨2, 0, none⟩ = some (.int .i64 m)
theorem Gl.keep {S : Nat → Prop} {w w1 : World} (h : Gl w) (hf : Fr S w w1) (hn : ¬ S 2) : Gl w1 := by
  obtain ⟨m, hm⟩ := h
  exact ⟨m, hf.cell hm hn⟩
theorem Gl.keep0 {w w1 : World} (h : Gl w) (hf : Fr No w w1) : Gl w1 := h.keep hf (fun h => h)
/-- A text's pieces, as texts. -/
def parts (s : ByteArray) : List ByteArray := Lib.splitB ⟨#[46]⟩ 0 (Lib.countB s ⟨#[46]⟩) s
theorem parts_len (s : ByteArray) : (parts s).length = Lib.countB s ⟨#[46]⟩ + 1 := splitB_len s
/-- A slice of strings that is read. -/
def RdT (w : World) (A : Option Addr) (xs : List ByteArray) : Prop := ∀ j, j < xs.length → ∃ ad, A = some ad ∧ w.cell? (ad.add j) = some (.string (xs.getD j ByteArray.empty))
theorem RdT.keep0 {w w1 : World} {A : Option Addr} {xs : List ByteArray} (h : RdT w A xs) (hf : Fr No w w1) : RdT w1 A xs := fun j hj => by
  obtain ⟨ad, e, hc⟩ := h j hj
  exact ⟨ad, e, hf.cell hc (fun h => h)⟩
theorem Split_any (s : ByteArray) (w : World) (hg : Gl w) (hs : s.size ≤ 1000000) :
    Calls Tryd.prog 47 #[.string s, .string ⟨#[46]⟩] w fun e w' => ∃ n g, e = .returned (.slice (some ⟨g, 0, none⟩) n n) ∧ n = (parts s).length ∧ RdT w' (some ⟨g, 0, none⟩) (parts s) ∧ Fr No w w' ∧ w.heap.size ≤ g := by
  obtain ⟨m, hm⟩ := hg
  refine (Any.strings_Split Tryd.lays146 (by kernel_rfl) s ⟨#[46]⟩ m w (by omega) hm (by decide)).mono fun e w' ⟨he, hw⟩ => ⟨_, _, he, (parts_len s).symm, ?_, ?_, Nat.le_refl _⟩
  · subst hw
    refine fun j hj => ⟨_, rfl, ?_⟩
    rw [add_plain]
    refine (cell_of_row _ _ _ _ _ _ (heap_alloc_new w _)).trans ?_
    have hj' : j < (Lib.splitB ⟨#[46]⟩ 0 (Lib.countB s ⟨#[46]⟩) s).length := hj
    simp [List.getD_eq_getElem?_getD, parts, List.getElem?_eq_getElem hj']
  · subst hw
    exact (Fr.refl _ _).alloc _
theorem trimS_nil (l cs : List UInt8) : Lib.trimS l cs = [] ↔ ∀ b, b ∈ l → b ∈ cs := by
  have h1 : ∀ l : List UInt8, l.dropWhile (cs.contains ·) = [] ↔ ∀ b, b ∈ l → b ∈ cs := by
    intro l
    induction l with
    | nil => simp
    | cons a l ih =>
      rw [List.dropWhile_cons]
      split
      · rename_i ha
        rw [ih]
        simp only [List.mem_cons, forall_eq_or_imp]
        exact ⟨fun h => ⟨by simpa using ha, h⟩, fun h => h.2⟩
      · rename_i ha
        simp only [reduceCtorEq, false_iff]
        intro h
        exact ha (by simpa using h a List.mem_cons_self)
  unfold Lib.trimS Lib.trimLeftS Lib.trimRightS
  rw [h1]
  constructor
  · intro h b hb
    rcases Decidable.em (b ∈ cs) with hc | hc
    · exact hc
    · refine h b ?_
      rw [List.mem_reverse]
      have hr : b ∈ l.reverse := List.mem_reverse.2 hb
      have := List.takeWhile_append_dropWhile (p := (cs.contains ·)) (l := l.reverse)
      rw [← this, List.mem_append] at hr
      rcases hr with hr | hr
      · exact absurd (by simpa using List.all_eq_true.1 (List.all_takeWhile (p := (cs.contains ·)) (l := l.reverse)) b hr) hc
      · exact hr
  · intro h b hb
    rw [List.mem_reverse] at hb
    exact h b (List.mem_reverse.1 ((List.dropWhile_sublist _).mem hb))
theorem Trim_any (s cs : ByteArray) (w : World) (hs : s.size ≤ 1000000) (hc : cs.size < 4294967281) (ha : ∀ (j : Nat) b, cs.data.toList[j]? = some b → b.toNat < 128) :
    Calls Tryd.prog 32 #[.string s, .string cs] w fun e w' => ∃ r : ByteArray, e = .returned (.string r) ∧ (r.data.toList = [] ↔ ∀ b, b ∈ s.data.toList → b ∈ cs.data.toList) ∧ Fr No w w' :=
  (Any.strings_Trim_laid Tryd.lays160 (by kernel_rfl) s cs w (by omega) hc ha).mono fun e w' ⟨he, hb⟩ => ⟨_, he, by show (Lib.trimS s.data.toList cs.data.toList).toArray.toList = [] ↔ _; rw [List.toList_toArray]; exact trimS_nil _ _, Fr.of_below hb (Nat.le_refl _)⟩
/-- the signs of a step -/
def isSign (b : UInt8) : Bool := (65 ≤ b && b ≤ 90) || (97 ≤ b && b ≤ 122) || (48 ≤ b && b ≤ 57) || b == 95 || b == 45
def stepOk (x : ByteArray) : Bool := decide (1 ≤ x.size) && decide (x.size ≤ 24) && x.data.toList.all isSign
def pathOk (s : ByteArray) : Bool := decide ((parts s).length ≤ 8) && (parts s).all stepOk
def signsS : ByteArray := ⟨#[65, 66, 67, 68, 69, 70, 71, 72, 73, 74, 75, 76, 77, 78, 79, 80, 81, 82, 83, 84, 85, 86, 87, 88, 89, 90, 97, 98, 99, 100, 101, 102, 103, 104, 105, 106, 107, 108, 109, 110, 111, 112, 113, 114, 115, 116, 117, 118, 119, 120, 121, 122, 48, 49, 50, 51, 52, 53, 54, 55, 56, 57, 95, 45]⟩
theorem mem_signs (b : UInt8) : b ∈ signsS.data.toList ↔ isSign b = true := by
  have : ∀ b : Fin 256, (UInt8.ofNat b.val) ∈ signsS.data.toList ↔ isSign (UInt8.ofNat b.val) = true := by decide +kernel
  have h := this ⟨b.toNat, b.toNat_lt⟩
  simpa using h
theorem Trim_signs (s : ByteArray) (w : World) (hs : s.size ≤ 1000000) :
    Calls Tryd.prog 32 #[.string s, .string ⟨#[65, 66, 67, 68, 69, 70, 71, 72, 73, 74, 75, 76, 77, 78, 79, 80, 81, 82, 83, 84, 85, 86, 87, 88, 89, 90, 97, 98, 99, 100, 101, 102, 103, 104, 105, 106, 107, 108, 109, 110, 111, 112, 113, 114, 115, 116, 117, 118, 119, 120, 121, 122, 48, 49, 50, 51, 52, 53, 54, 55, 56, 57, 95, 45]⟩] w fun e w' => ∃ r : ByteArray, e = .returned (.string r) ∧ (r.data.toList = [] ↔ s.data.toList.all isSign = true) ∧ Fr No w w' := by
  refine (Trim_any s signsS w hs (by decide) (fun j b hb => ?_)).mono fun e w' ⟨r, he, h, hf⟩ => ⟨r, he, ?_, hf⟩
  · have hm := (mem_signs b).1 (List.mem_of_getElem? hb)
    have : ∀ b : Fin 256, isSign (UInt8.ofNat b.val) = true → (UInt8.ofNat b.val).toNat < 128 := by decide +kernel
    have h := this ⟨b.toNat, b.toNat_lt⟩
    simp only [UInt8.ofNat_toNat] at h
    exact h hm
  · rw [h, List.all_eq_true]
    exact ⟨fun h b hb => (mem_signs b).1 (h b hb), fun h b hb => (mem_signs b).2 (h b hb)⟩
theorem pieces_size (l : List UInt8) : ∀ p, p ∈ pieces l → p.length ≤ l.length := by
  induction l with
  | nil => intro p hp; simp [pieces] at hp; subst hp; simp
  | cons b l ih =>
    intro p hp
    rw [pieces_cons] at hp
    split at hp
    · rcases List.mem_cons.1 hp with rfl | hp
      · simp
      · have := ih p hp; simp; omega
    · split at hp
      · rename_i q qs he
        rcases List.mem_cons.1 hp with rfl | hp
        · have := ih q (by rw [he]; exact List.mem_cons_self); simp; omega
        · have := ih p (by rw [he]; exact List.mem_cons_of_mem _ hp); simp; omega
      · simp at hp; subst hp; simp
theorem parts_pieces (s : ByteArray) : (parts s).map (·.data.toList) = pieces s.data.toList := splitB_pieces s
theorem parts_size (s : ByteArray) : ∀ x, x ∈ parts s → x.size ≤ s.size := by
  intro x hx
  have h1 : x.data.toList ∈ pieces s.data.toList := by rw [← parts_pieces]; exact List.mem_map_of_mem hx
  have := pieces_size _ _ h1
  rw [data_length, data_length] at this
  exact this
theorem getD_mem' {α : Type} {xs : List α} {j : Nat} (d : α) (h : j < xs.length) : xs.getD j d ∈ xs := by
  rw [List.getD_eq_getElem?_getD, List.getElem?_eq_getElem h]
  exact List.getElem_mem _
theorem take_all_succ {α : Type} {xs : List α} {p : α → Bool} {k : Nat} (d : α) (h : k < xs.length) : (xs.take (k + 1)).all p = ((xs.take k).all p && p (xs.getD k d)) := by
  rw [List.take_succ_eq_append_getElem h, List.all_append, List.getD_eq_getElem?_getD, List.getElem?_eq_getElem h]
  simp
def ParsePost (w : World) (s : ByteArray) (e : Ending) (w' : World) : Prop :=
  if pathOk s = true then ∃ A, e = .returned (.tuple #[.slice A (parts s).length (parts s).length, .int .i64 0]) ∧ RdT w' A (parts s) else e = .returned (.tuple #[.slice none 0 0, .int .i64 33])
set_option maxHeartbeats 2000000 in
theorem Parse_any (s : ByteArray) (w : World) (hg : Gl w) (hs : s.size ≤ 1000000) :
    Calls Tryd.prog 28 #[.string s] w fun e w' => ParsePost w s e w' ∧ Fr No w w' := by
  have HG := hide hg
  have hpl : (parts s).length ≤ 1000001 := by
    have := Lib.countB_le ⟨#[46]⟩ (by decide) s.size s (Nat.le_refl _)
    rw [parts_len]
    omega
  have hps := parts_size s
  have hsp := Split_any s w hg hs
  obtain ⟨ps, hpe⟩ : ∃ ps, parts s = ps := ⟨_, rfl⟩
  rw [hpe] at hpl hps hsp
  have HSP := hide hsp
  have HP := hide hpe
  have HSZ := hide hps
  clear hg hsp hpe hps
  by_cases h8 : 8 < ps.length
  · have d1 : decide ((8 : Int) < (ps.length : Int)) = true := decide_eq_true (by omega)
    go_enter Tryd.func28, Tryd.ntmps28
    go_wp2_with fail
    refine HSP.out.mono ?_
    rintro e w1 ⟨n, g, rfl, rfl, hr, hf, hg⟩
    clear hr
    go_wp2_with fail
    go_ret2
    refine ⟨?_, hf⟩
    unfold ParsePost
    rw [if_neg (by unfold pathOk; rw [HP.out]; simp; omega)]
    rfl
  · have d1 : decide ((8 : Int) < (ps.length : Int)) = false := decide_eq_false (by omega)
    go_enter Tryd.func28, Tryd.ntmps28
    go_wp2_with fail
    refine HSP.out.mono ?_
    rintro e w1 ⟨n, g, rfl, rfl, hr, hf, hg⟩
    have HR := hide hr
    clear hr
    go_wp2_with fail
    go_loopw [14] (fun i wr => ∃ k : Nat, k ≤ ps.length ∧ i = .int .i64 k ∧ Aside0 ((ps.take k).all stepOk = true) ∧ Aside0 (Fr No w1 wr)) (fun i _ => ps.length - (intOf i).toNat)
    case atStart => exact ⟨0, Nat.zero_le _, rfl, ⟨rfl⟩, ⟨Fr.refl _ _⟩⟩
    case round =>
      obtain ⟨k, hk, rfl, HA, HF⟩ := hrel
      by_cases hlt : k < ps.length
      · obtain ⟨ad, e1, hc⟩ := (HR.out.keep0 HF.out) k hlt
        injection e1 with e1
        subst e1
        have hx : (ps.getD k ByteArray.empty).size ≤ 1000000 := Nat.le_trans (HSZ.out _ (getD_mem' _ hlt)) hs
        have hsucc := take_all_succ (p := stepOk) ByteArray.empty hlt
        rw [add_plain] at hc
        obtain ⟨x, hxe⟩ : ∃ x, ps.getD k ByteArray.empty = x := ⟨_, rfl⟩
        rw [hxe] at hc hx hsucc
        have HS := hide (And.intro hsucc hxe)
        clear hsucc hxe
        have hbad : stepOk x = false → pathOk s = false := by
          intro hk
          unfold pathOk
          rw [HP.out]
          cases ha : ps.all stepOk
          · simp
          · have h1 := List.all_eq_true.1 ha _ (getD_mem' ByteArray.empty hlt)
            rw [HS.out.2, hk] at h1
            cases h1
        have HBAD := hide hbad
        clear hbad
        by_cases hz : x.size < 1
        · have d2 : decide ((x.size : Int) < 1) = true := decide_eq_true (by omega)
          have d3 : decide (x.size < 1) = true := decide_eq_true (by omega)
          have d6 : decide (x.size = 0) = true := decide_eq_true (by omega)
          go_wp2_with fail
          go_ret2
          refine ⟨?_, hf.then0 HF.out⟩
          unfold ParsePost
          rw [if_neg (by rw [HBAD.out (by unfold stepOk; rw [decide_eq_false (by omega)]; rfl)]; decide)]
          rfl
        · by_cases hz2 : 24 < x.size
          · have d2 : decide ((x.size : Int) < 1) = false := decide_eq_false (by omega)
            have d3 : decide (x.size < 1) = false := decide_eq_false (by omega)
            have d4 : decide ((24 : Int) < (x.size : Int)) = true := decide_eq_true (by omega)
            have d5 : decide (24 < x.size) = true := decide_eq_true (by omega)
            have d6 : decide (x.size = 0) = false := decide_eq_false (by omega)
            go_wp2_with fail
            go_ret2
            refine ⟨?_, hf.then0 HF.out⟩
            unfold ParsePost
            rw [if_neg (by rw [HBAD.out (by unfold stepOk; rw [decide_eq_false (by omega : ¬ x.size ≤ 24), Bool.and_false]; rfl)]; decide)]
            rfl
          · have d2 : decide ((x.size : Int) < 1) = false := decide_eq_false (by omega)
            have d3 : decide (x.size < 1) = false := decide_eq_false (by omega)
            have d4 : decide ((24 : Int) < (x.size : Int)) = false := decide_eq_false (by omega)
            have d5 : decide (24 < x.size) = false := decide_eq_false (by omega)
            have d6 : decide (x.size = 0) = false := decide_eq_false (by omega)
            go_wp2_with fail
            refine (Trim_signs x wr hx).mono ?_
            rintro e w2 ⟨r, rfl, hr, hf2⟩
            by_cases ha : x.data.toList.all isSign = true
            · have hb : r.toList.isEmpty = true := by rw [Lib.toList_data, hr.2 ha]; rfl
              have HRR := hide (And.intro hr ha)
              clear hr ha
              go_wp2_with fail
              go_roundw
              case rel =>
                refine ⟨k + 1, by omega, by go_num, ⟨?_⟩, ⟨HF.out.then0 hf2⟩⟩
                rw [HS.out.1, HA.out]
                unfold stepOk
                rw [HRR.out.2, decide_eq_true (by omega : 1 ≤ x.size), decide_eq_true (by omega : x.size ≤ 24)]
                rfl
              case measure => simp [intOf]; omega
            · have hb : r.toList.isEmpty = false := by
                rw [Lib.toList_data]
                cases hl : r.data.toList with
                | nil => exact absurd (hr.1 hl) ha
                | cons => rfl
              have HRR := hide (And.intro hr ha)
              clear hr ha
              go_wp2_with fail
              go_ret2
              refine ⟨?_, hf.then0 (HF.out.then0 hf2)⟩
              unfold ParsePost
              rw [if_neg (by rw [HBAD.out (by unfold stepOk; rw [Bool.eq_false_iff.2 HRR.out.2, Bool.and_false])]; decide)]
              rfl
      · have hkl : k = ps.length := by omega
        subst hkl
        go_wp2_with fail
        go_ret2
        refine ⟨?_, hf.then0 HF.out⟩
        unfold ParsePost
        rw [if_pos (by unfold pathOk; rw [HP.out]; have := HA.out; rw [List.take_length] at this; rw [this, decide_eq_true (by omega)]; rfl), HP.out]
        exact ⟨_, rfl, HR.out.keep0 HF.out⟩
/-- may a collection have a name? -/
def isNameSign (b : UInt8) : Bool := (97 ≤ b && b ≤ 122) || (48 ≤ b && b ≤ 57) || b == 95 || b == 45
def nameOk (s : ByteArray) : Bool := decide (1 ≤ s.size) && decide (s.size ≤ 24) && s.data.toList.all isNameSign
theorem mem_nameSigns (b : UInt8) : b ∈ (⟨#[97, 98, 99, 100, 101, 102, 103, 104, 105, 106, 107, 108, 109, 110, 111, 112, 113, 114, 115, 116, 117, 118, 119, 120, 121, 122, 48, 49, 50, 51, 52, 53, 54, 55, 56, 57, 95, 45]⟩ : ByteArray).data.toList ↔ isNameSign b = true := by
  have : ∀ b : Fin 256, (UInt8.ofNat b.val) ∈ (⟨#[97, 98, 99, 100, 101, 102, 103, 104, 105, 106, 107, 108, 109, 110, 111, 112, 113, 114, 115, 116, 117, 118, 119, 120, 121, 122, 48, 49, 50, 51, 52, 53, 54, 55, 56, 57, 95, 45]⟩ : ByteArray).data.toList ↔ isNameSign (UInt8.ofNat b.val) = true := by decide +kernel
  have h := this ⟨b.toNat, b.toNat_lt⟩
  simpa using h
theorem Trim_name (s : ByteArray) (w : World) (hs : s.size ≤ 1000000) :
    Calls Tryd.prog 32 #[.string s, .string ⟨#[97, 98, 99, 100, 101, 102, 103, 104, 105, 106, 107, 108, 109, 110, 111, 112, 113, 114, 115, 116, 117, 118, 119, 120, 121, 122, 48, 49, 50, 51, 52, 53, 54, 55, 56, 57, 95, 45]⟩] w fun e w' => ∃ r : ByteArray, e = .returned (.string r) ∧ (r.data.toList = [] ↔ s.data.toList.all isNameSign = true) ∧ Fr No w w' := by
  refine (Trim_any s _ w hs (by decide) (fun j b hb => ?_)).mono fun e w' ⟨r, he, h, hf⟩ => ⟨r, he, ?_, hf⟩
  · have hm := (mem_nameSigns b).1 (List.mem_of_getElem? hb)
    have : ∀ b : Fin 256, isNameSign (UInt8.ofNat b.val) = true → (UInt8.ofNat b.val).toNat < 128 := by decide +kernel
    have h := this ⟨b.toNat, b.toNat_lt⟩
    simp only [UInt8.ofNat_toNat] at h
    exact h hm
  · rw [h, List.all_eq_true]
    exact ⟨fun h b hb => (mem_nameSigns b).1 (h b hb), fun h b hb => (mem_nameSigns b).2 (h b hb)⟩
set_option maxHeartbeats 1000000 in
theorem Name_any (s : ByteArray) (w : World) (hs : s.size ≤ 1000000) :
    Calls Tryd.prog 11 #[.string s] w fun e w' => e = .returned (.bool (nameOk s)) ∧ Fr No w w' := by
  by_cases hz : s.size < 1
  · have d2 : decide ((1 : Int) ≤ (s.size : Int)) = false := decide_eq_false (by omega)
    have d3 : decide (1 ≤ s.size) = false := decide_eq_false (by omega)
    have d4 : decide (s.size = 0) = true := decide_eq_true (by omega)
    have d5 : decide (0 < s.size) = false := decide_eq_false (by omega)
    have hn := hide (show nameOk s = false by unfold nameOk; rw [d3]; rfl)
    go_enter Tryd.func11, Tryd.ntmps11
    go_wp2_with fail
    go_ret
    exact ⟨by rw [hn.out]; rfl, Fr.refl _ _⟩
  · have d2 : decide ((1 : Int) ≤ (s.size : Int)) = true := decide_eq_true (by omega)
    have d3 : decide (1 ≤ s.size) = true := decide_eq_true (by omega)
    have d4 : decide (s.size = 0) = false := decide_eq_false (by omega)
    have d5 : decide (0 < s.size) = true := decide_eq_true (by omega)
    by_cases hz2 : 24 < s.size
    · have d6 : decide ((s.size : Int) ≤ 24) = false := decide_eq_false (by omega)
      have d7 : decide (s.size ≤ 24) = false := decide_eq_false (by omega)
      have hn := hide (show nameOk s = false by unfold nameOk; rw [d7, Bool.and_false]; rfl)
      go_enter Tryd.func11, Tryd.ntmps11
      go_wp2_with fail
      go_ret
      exact ⟨by rw [hn.out]; rfl, Fr.refl _ _⟩
    · have d6 : decide ((s.size : Int) ≤ 24) = true := decide_eq_true (by omega)
      have d7 : decide (s.size ≤ 24) = true := decide_eq_true (by omega)
      have hn := hide (show nameOk s = s.data.toList.all isNameSign by unfold nameOk; rw [d3, d7]; rfl)
      go_enter Tryd.func11, Tryd.ntmps11
      go_wp2_with fail
      refine (Trim_name s w hs).mono ?_
      rintro e w2 ⟨r, rfl, hr, hf2⟩
      have hb : r.toList.isEmpty = s.data.toList.all isNameSign := by
        rw [Lib.toList_data]
        cases ha : s.data.toList.all isNameSign with
        | true => rw [hr.2 ha]; rfl
        | false =>
          cases hl : r.data.toList with
          | nil => rw [hr.1 hl] at ha; cases ha
          | cons => rfl
      have HB := hide hb
      clear hr hb
      go_wp2_with fail
      go_ret
      exact ⟨by rw [hn.out, ← HB.out]; rfl, hf2⟩
end Go.Proofs.YtkgffeclgapkbaaDoor
