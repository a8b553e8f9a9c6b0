/- strings.Split at a dot, strings.Trim: what they answer; path.Parse; catalog.Name. -/
import Derived.Test.YtkgffeclgapkbaaDoorM2
import Derived.Test.YtkgffeclgapkbaaDoorShelf
namespace Go.Proofs.YtkgffeclgapkbaaDoor
open Go.RowKit Go.Proofs.YtkgffeclgapkbaaDoorW.PrintWords
set_option linter.unusedVariables false
set_option linter.unusedSimpArgs false
set_option maxRecDepth 100000
/-- A text cut at each dot. -/
def pieces : List UInt8 → List (List UInt8)
  | [] => [[]]
  | b :: l => if b = 46 then [] :: pieces l else (match pieces l with | p :: ps => (b :: p) :: ps | [] => [[b]])
theorem pieces_cons (b : UInt8) (l : List UInt8) : pieces (b :: l) = if b = 46 then [] :: pieces l else (match pieces l with | p :: ps => (b :: p) :: ps | [] => [[b]]) := rfl
theorem pieces_ne (l : List UInt8) : pieces l ≠ [] := by
  cases l with
  | nil => simp [pieces]
  | cons b l =>
    unfold pieces
    split
    · simp
    · split <;> simp
theorem pieces_miss (l : List UInt8) (h : Lib.index l [46] = -1) : pieces l = [l] := by
  induction l with
  | nil => rfl
  | cons b l ih =>
    unfold Lib.index at h
    split at h
    · cases h
    · rename_i hb
      have hb' : b ≠ 46 := by
        intro e
        subst e
        exact hb rfl
      split at h
      · rename_i h1
        have := ih (by simpa using h1)
        unfold pieces
        rw [if_neg hb', this]
      · rename_i h1
        have h2 := Lib.index_ge l [46]
        omega
theorem pieces_hit (l : List UInt8) (i : Nat) (h : Lib.index l [46] = i) : pieces l = l.take i :: pieces (l.drop (i + 1)) := by
  induction l generalizing i with
  | nil => simp [Lib.index] at h
  | cons b l ih =>
    unfold Lib.index at h
    split at h
    · rename_i hb
      have hb' : b = 46 := by
        by_cases e : b = 46
        · exact e
        · have : ([46] : List UInt8).isPrefixOf (b :: l) = false := by
            simp only [List.isPrefixOf, Bool.and_true]
            exact beq_eq_false_iff_ne.2 (fun h => e h.symm)
          rw [this] at hb
          cases hb
      have hi : i = 0 := by omega
      subst hi hb'
      simp [pieces]
    · rename_i hb
      have hb' : b ≠ 46 := by
        intro e
        subst e
        exact hb rfl
      split at h
      · omega
      · rename_i h1
        have h2 := Lib.index_ge l [46]
        obtain ⟨j, rfl⟩ : ∃ j, i = j + 1 := ⟨i - 1, by simp at h1; omega⟩
        have := ih j (by omega)
        rw [pieces_cons, if_neg hb', this]
        rfl
theorem splitK_pieces (n : Nat) : ∀ l : List UInt8, l.length ≤ n → Lib.splitK [46] 0 (Lib.count l [46]) l = pieces l := by
  induction n with
  | zero =>
    intro l hl
    have : l = [] := List.eq_nil_of_length_eq_zero (by omega)
    subst this
    decide
  | succ n ih =>
    intro l hl
    by_cases h : Lib.index l [46] = -1
    · rw [Lib.count_miss h, pieces_miss l h]
      rfl
    · have h2 := Lib.index_ge l [46]
      obtain ⟨i, hi⟩ : ∃ i : Nat, Lib.index l [46] = i := ⟨(Lib.index l [46]).toNat, by omega⟩
      have hc := Lib.count_hit (sub := [46]) (by simp) hi
      rw [hc, pieces_hit l i hi, Nat.add_comm, Lib.splitK, if_neg (by rw [hi]; simp), hi]
      have hd := Lib.drop_shorter (s := l) (sub := [46]) (by simp) (by rw [hi]; simp)
      rw [hi] at hd
      simp only [Int.toNat_natCast, List.length_cons, List.length_nil, Nat.zero_add, Nat.add_zero] at hd ⊢
      rw [ih (l.drop (i + 1)) (by omega)]
theorem splitB_pieces (s : ByteArray) : (Lib.splitB ⟨#[46]⟩ 0 (Lib.countB s ⟨#[46]⟩) s).map (·.data.toList) = pieces s.data.toList := by
  rw [Lib.splitB_data]
  exact splitK_pieces _ _ (Nat.le_refl _)
theorem splitB_len (s : ByteArray) : (Lib.splitB ⟨#[46]⟩ 0 (Lib.countB s ⟨#[46]⟩) s).length = Lib.countB s ⟨#[46]⟩ + 1 := Lib.splitB_all _ (by decide) 0 _ s rfl
theorem pieces_len (s : ByteArray) : (pieces s.data.toList).length = Lib.countB s ⟨#[46]⟩ + 1 := by rw [← splitB_pieces, List.length_map, splitB_len]
/-- the variable that the library's search reads -/
def Gl (w : World) : Prop := ∃ m, w.cell? ⟨2, 0, none⟩ = some (.int .i64 m)
theorem Gl.keep {S : Nat → Prop} {w w1 : World} (h : Gl w) (hf : Fr S w w1) (hn : ¬ S 2) : Gl w1 := by
  obtain ⟨m, hm⟩ := h
  exact ⟨m, hf.cell hm hn⟩
theorem Gl.keep0 {w w1 : World} (h : Gl w) (hf : Fr No w w1) : Gl w1 := h.keep hf (fun h => h)
/-- A text's pieces, as texts. -/
def parts (s : ByteArray) : List ByteArray := Lib.splitB ⟨#[46]⟩ 0 (Lib.countB s ⟨#[46]⟩) s
theorem parts_len (s : ByteArray) : (parts s).length = Lib.countB s ⟨#[46]⟩ + 1 := splitB_len s
/-- A slice of strings that is read. -/
def RdT (w : World) (A : Option Addr) (xs : List ByteArray) : Prop := ∀ j, j < xs.length → ∃ ad, A = some ad ∧ w.cell? (ad.add j) = some (.string (xs.getD j ByteArray.empty))
theorem RdT.keep0 {w w1 : World} {A : Option Addr} {xs : List ByteArray} (h : RdT w A xs) (hf : Fr No w w1) : RdT w1 A xs := fun j hj => by
  obtain ⟨ad, e, hc⟩ := h j hj
  exact ⟨ad, e, hf.cell hc (fun h => h)⟩
theorem Split_any (s : ByteArray) (w : World) (hg : Gl w) (hs : s.size ≤ 1000000) :
    Calls Tryd.prog 47 #[.string s, .string ⟨#[46]⟩] w fun e w' => ∃ n g, e = .returned (.slice (some ⟨g, 0, none⟩) n n) ∧ n = (parts s).length ∧ RdT w' (some ⟨g, 0, none⟩) (parts s) ∧ Fr No w w' ∧ w.heap.size ≤ g := by
  obtain ⟨m, hm⟩ := hg
  refine (Any.strings_Split Tryd.lays146 (by kernel_rfl) s ⟨#[46]⟩ m w (by omega) hm (by decide)).mono fun e w' ⟨he, hw⟩ => ⟨_, _, he, (parts_len s).symm, ?_, ?_, Nat.le_refl _⟩
  · subst hw
    refine fun j hj => ⟨_, rfl, ?_⟩
    rw [add_plain]
    refine (cell_of_row _ _ _ _ _ _ (heap_alloc_new w _)).trans ?_
    have hj' : j < (Lib.splitB ⟨#[46]⟩ 0 (Lib.countB s ⟨#[46]⟩) s).length := hj
    simp [List.getD_eq_getElem?_getD, parts, List.getElem?_eq_getElem hj']
  · subst hw
    exact (Fr.refl _ _).alloc _
theorem trimS_nil (l cs : List UInt8) : Lib.trimS l cs = [] ↔ ∀ b, b ∈ l → b ∈ cs := by
  have h1 : ∀ l : List UInt8, l.dropWhile (cs.contains ·) = [] ↔ ∀ b, b ∈ l → b ∈ cs := by
    intro l
    induction l with
    | nil => simp
    | cons a l ih =>
      rw [List.dropWhile_cons]
      split
      · rename_i ha
        rw [ih]
        simp only [List.mem_cons, forall_eq_or_imp]
        exact ⟨fun h => ⟨by simpa using ha, h⟩, fun h => h.2⟩
      · rename_i ha
        simp only [reduceCtorEq, false_iff]
        intro h
        exact ha (by simpa using h a List.mem_cons_self)
  unfold Lib.trimS Lib.trimLeftS Lib.trimRightS
  rw [h1]
  constructor
  · intro h b hb
    rcases Decidable.em (b ∈ cs) with hc | hc
    · exact hc
    · refine h b ?_
      rw [List.mem_reverse]
      have hr : b ∈ l.reverse := List.mem_reverse.2 hb
      have := List.takeWhile_append_dropWhile (p := (cs.contains ·)) (l := l.reverse)
      rw [← this, List.mem_append] at hr
      rcases hr with hr | hr
      · exact absurd (by simpa using List.all_eq_true.1 (List.all_takeWhile (p := (cs.contains ·)) (l := l.reverse)) b hr) hc
      · exact hr
  · intro h b hb
    rw [List.mem_reverse] at hb
    exact h b (List.mem_reverse.1 ((List.dropWhile_sublist _).mem hb))
theorem Trim_any (s cs : ByteArray) (w : World) (hs : s.size ≤ 1000000) (hc : cs.size < 4294967281) (ha : ∀ (j : Nat) b, cs.data.toList[j]? = some b → b.toNat < 128) :
    Calls Tryd.prog 32 #[.string s, .string cs] w fun e w' => ∃ r : ByteArray, e = .returned (.string r) ∧ (r.data.toList = [] ↔ ∀ b, b ∈ s.data.toList → b ∈ cs.data.toList) ∧ Fr No w w' :=
  (Any.strings_Trim_laid Tryd.lays160 (by kernel_rfl) s cs w (by omega) hc ha).mono fun e w' ⟨he, hb⟩ => ⟨_, he, by show (Lib.trimS s.data.toList cs.data.toList).toArray.toList = [] ↔ _; rw [List.toList_toArray]; exact trimS_nil _ _, Fr.of_below hb (Nat.le_refl _)⟩
/-- the signs of a step -/
def isSign (b : UInt8) : Bool := (65 ≤ b && b ≤ 90) || (97 ≤ b && b ≤ 122) || (48 ≤ b && b ≤ 57) || b == 95 || b == 45
def stepOk (x : ByteArray) : Bool := decide (1 ≤ x.size) && decide (x.size ≤ 24) && x.data.toList.all isSign
def pathOk (s : ByteArray) : Bool := decide ((parts s).length ≤ 8) && (parts s).all stepOk
def signsS : ByteArray := ⟨#[65, 66, 67, 68, 69, 70, 71, 72, 73, 74, 75, 76, 77, 78, 79, 80, 81, 82, 83, 84, 85, 86, 87, 88, 89, 90, 97, 98, 99, 100, 101, 102, 103, 104, 105, 106, 107, 108, 109, 110, 111, 112, 113, 114, 115, 116, 117, 118, 119, 120, 121, 122, 48, 49, 50, 51, 52, 53, 54, 55, 56, 57, 95, 45]⟩
theorem mem_signs (b : UInt8) : b ∈ signsS.data.toList ↔ isSign b = true := by
  have : ∀ b : Fin 256, (UInt8.ofNat b.val) ∈ signsS.data.toList ↔ isSign (UInt8.ofNat b.val) = true := by decide +kernel
  have h := this ⟨b.toNat, b.toNat_lt⟩
  simpa using h
theorem Trim_signs (s : ByteArray) (w : World) (hs : s.size ≤ 1000000) :
    Calls Tryd.prog 32 #[.string s, .string ⟨#[65, 66, 67, 68, 69, 70, 71, 72, 73, 74, 75, 76, 77, 78, 79, 80, 81, 82, 83, 84, 85, 86, 87, 88, 89, 90, 97, 98, 99, 100, 101, 102, 103, 104, 105, 106, 107, 108, 109, 110, 111, 112, 113, 114, 115, 116, 117, 118, 119, 120, 121, 122, 48, 49, 50, 51, 52, 53, 54, 55, 56, 57, 95, 45]⟩] w fun e w' => ∃ r : ByteArray, e = .returned (.string r) ∧ (r.data.toList = [] ↔ s.data.toList.all isSign = true) ∧ Fr No w w' := by
  refine (Trim_any s signsS w hs (by decide) (fun j b hb => ?_)).mono fun e w' ⟨r, he, h, hf⟩ => ⟨r, he, ?_, hf⟩
  · have hm := (mem_signs b).1 (List.mem_of_getElem? hb)
    have : ∀ b : Fin 256, isSign (UInt8.ofNat b.val) = true → (UInt8.ofNat b.val).toNat < 128 := by decide +kernel
    have h := this ⟨b.toNat, b.toNat_lt⟩
    simp only [UInt8.ofNat_toNat] at h
    exact h hm
  · rw [h, List.all_eq_true]
    exact ⟨fun h b hb => (mem_signs b).1 (h b hb), fun h b hb => (mem_signs b).2 (h b hb)⟩
theorem pieces_size (l : List UInt8) : ∀ p, p ∈ pieces l → p.length ≤ l.length := by
  induction l with
  | nil => intro p hp; simp [pieces] at hp; subst hp; simp
  | cons b l ih =>
    intro p hp
    rw [pieces_cons] at hp
    split at hp
    · rcases List.mem_cons.1 hp with rfl | hp
      · simp
      · have := ih p hp; simp; omega
    · split at hp
      · rename_i q qs he
        rcases List.mem_cons.1 hp with rfl | hp
        · have := ih q (by rw [he]; exact List.mem_cons_self); simp; omega
        · have := ih p (by rw [he]; exact List.mem_cons_of_mem _ hp); simp; omega
      · simp at hp; subst hp; simp
theorem parts_pieces (s : ByteArray) : (parts s).map (·.data.toList) = pieces s.data.toList := splitB_pieces s
theorem parts_size (s : ByteArray) : ∀ x, x ∈ parts s → x.size ≤ s.size := by
  intro x hx
  have h1 : x.data.toList ∈ pieces s.data.toList := by rw [← parts_pieces]; exact List.mem_map_of_mem hx
  have := pieces_size _ _ h1
  rw [data_length, data_length] at this
  exact this
theorem getD_mem' {α : Type} {xs : List α} {j : Nat} (d : α) (h : j < xs.length) : xs.getD j d ∈ xs := by
  rw [List.getD_eq_getElem?_getD, List.getElem?_eq_getElem h]
  exact List.getElem_mem _
theorem take_all_succ {α : Type} {xs : List α} {p : α → Bool} {k : Nat} (d : α) (h : k < xs.length) : (xs.take (k + 1)).all p = ((xs.take k).all p && p (xs.getD k d)) := by
  rw [List.take_succ_eq_append_getElem h, List.all_append, List.getD_eq_getElem?_getD, List.getElem?_eq_getElem h]
  simp
def ParsePost (w : World) (s : ByteArray) (e : Ending) (w' : World) : Prop :=
  if pathOk s = true then ∃ A, e = .returned (.tuple #[.slice A (parts s).length (parts s).length, .int .i64 0]) ∧ RdT w' A (parts s) else e = .returned (.tuple #[.slice none 0 0, .int .i64 33])
set_option maxHeartbeats 2000000 in
theorem Parse_any (s : ByteArray) (w : World) (hg : Gl w) (hs : s.size ≤ 1000000) :
    Calls Tryd.prog 28 #[.string s] w fun e w' => ParsePost w s e w' ∧ Fr No w w' := by
  have HG := hide hg
  have hpl : (parts s).length ≤ 1000001 := by
    have := Lib.countB_le ⟨#[46]⟩ (by decide) s.size s (Nat.le_refl _)
    rw [parts_len]
    omega
  have hps := parts_size s
  have hsp := Split_any s w hg hs
  obtain ⟨ps, hpe⟩ : ∃ ps, parts s = ps := ⟨_, rfl⟩
  rw [hpe] at hpl hps hsp
  have HSP := hide hsp
  have HP := hide hpe
  have HSZ := hide hps
  clear hg hsp hpe hps
  by_cases h8 : 8 < ps.length
  · have d1 : decide ((8 : Int) < (ps.length : Int)) = true := decide_eq_true (by omega)
    go_enter Tryd.func28, Tryd.ntmps28
    go_wp2_with fail
    refine HSP.out.mono ?_
    rintro e w1 ⟨n, g, rfl, rfl, hr, hf, hg⟩
    clear hr
    go_wp2_with fail
    go_ret2
    refine ⟨?_, hf⟩
    unfold ParsePost
    rw [if_neg (by unfold pathOk; rw [HP.out]; simp; omega)]
    rfl
  · have d1 : decide ((8 : Int) < (ps.length : Int)) = false := decide_eq_false (by omega)
    go_enter Tryd.func28, Tryd.ntmps28
    go_wp2_with fail
    refine HSP.out.mono ?_
    rintro e w1 ⟨n, g, rfl, rfl, hr, hf, hg⟩
    have HR := hide hr
    clear hr
    go_wp2_with fail
    go_loopw [14] (fun i wr => ∃ k : Nat, k ≤ ps.length ∧ i = .int .i64 k ∧ Aside0 ((ps.take k).all stepOk = true) ∧ Aside0 (Fr No w1 wr)) (fun i _ => ps.length - (intOf i).toNat)
    case atStart => exact ⟨0, Nat.zero_le _, rfl, ⟨rfl⟩, ⟨Fr.refl _ _⟩⟩
    case round =>
      obtain ⟨k, hk, rfl, HA, HF⟩ := hrel
      by_cases hlt : k < ps.length
      · obtain ⟨ad, e1, hc⟩ := (HR.out.keep0 HF.out) k hlt
        injection e1 with e1
        subst e1
        have hx : (ps.getD k ByteArray.empty).size ≤ 1000000 := Nat.le_trans (HSZ.out _ (getD_mem' _ hlt)) hs
        have hsucc := take_all_succ (p := stepOk) ByteArray.empty hlt
        rw [add_plain] at hc
        obtain ⟨x, hxe⟩ : ∃ x, ps.getD k ByteArray.empty = x := ⟨_, rfl⟩
        rw [hxe] at hc hx hsucc
        have HS := hide (And.intro hsucc hxe)
        clear hsucc hxe
        have hbad : stepOk x = false → pathOk s = false := by
          intro hk
          unfold pathOk
          rw [HP.out]
          cases ha : ps.all stepOk
          · simp
          · have h1 := List.all_eq_true.1 ha _ (getD_mem' ByteArray.empty hlt)
            rw [HS.out.2, hk] at h1
            cases h1
        have HBAD := hide hbad
        clear hbad
        by_cases hz : x.size < 1
        · have d2 : decide ((x.size : Int) < 1) = true := decide_eq_true (by omega)
          have d3 : decide (x.size < 1) = true := decide_eq_true (by omega)
          have d6 : decide (x.size = 0) = true := decide_eq_true (by omega)
          go_wp2_with fail
          go_ret2
          refine ⟨?_, hf.then0 HF.out⟩
          unfold ParsePost
          rw [if_neg (by rw [HBAD.out (by unfold stepOk; rw [decide_eq_false (by omega)]; rfl)]; decide)]
          rfl
        · by_cases hz2 : 24 < x.size
          · have d2 : decide ((x.size : Int) < 1) = false := decide_eq_false (by omega)
            have d3 : decide (x.size < 1) = false := decide_eq_false (by omega)
            have d4 : decide ((24 : Int) < (x.size : Int)) = true := decide_eq_true (by omega)
            have d5 : decide (24 < x.size) = true := decide_eq_true (by omega)
            have d6 : decide (x.size = 0) = false := decide_eq_false (by omega)
            go_wp2_with fail
            go_ret2
            refine ⟨?_, hf.then0 HF.out⟩
            unfold ParsePost
            rw [if_neg (by rw [HBAD.out (by unfold stepOk; rw [decide_eq_false (by omega : ¬ x.size ≤ 24), Bool.and_false]; rfl)]; decide)]
            rfl
          · have d2 : decide ((x.size : Int) < 1) = false := decide_eq_false (by omega)
            have d3 : decide (x.size < 1) = false := decide_eq_false (by omega)
            have d4 : decide ((24 : Int) < (x.size : Int)) = false := decide_eq_false (by omega)
            have d5 : decide (24 < x.size) = false := decide_eq_false (by omega)
            have d6 : decide (x.size = 0) = false := decide_eq_false (by omega)
            go_wp2_with fail
            refine (Trim_signs x wr hx).mono ?_
            rintro e w2 ⟨r, rfl, hr, hf2⟩
            by_cases ha : x.data.toList.all isSign = true
            · have hb : r.toList.isEmpty = true := by rw [Lib.toList_data, hr.2 ha]; rfl
              have HRR := hide (And.intro hr ha)
              clear hr ha
              go_wp2_with fail
              go_roundw
              case rel =>
                refine ⟨k + 1, by omega, by go_num, ⟨?_⟩, ⟨HF.out.then0 hf2⟩⟩
                rw [HS.out.1, HA.out]
                unfold stepOk
                rw [HRR.out.2, decide_eq_true (by omega : 1 ≤ x.size), decide_eq_true (by omega : x.size ≤ 24)]
                rfl
              case measure => simp [intOf]; omega
            · have hb : r.toList.isEmpty = false := by
                rw [Lib.toList_data]
                cases hl : r.data.toList with
                | nil => exact absurd (hr.1 hl) ha
                | cons => rfl
              have HRR := hide (And.intro hr ha)
              clear hr ha
              go_wp2_with fail
              go_ret2
              refine ⟨?_, hf.then0 (HF.out.then0 hf2)⟩
              unfold ParsePost
              rw [if_neg (by rw [HBAD.out (by unfold stepOk; rw [Bool.eq_false_iff.2 HRR.out.2, Bool.and_false])]; decide)]
              rfl
      · have hkl : k = ps.length := by omega
        subst hkl
        go_wp2_with fail
        go_ret2
        refine ⟨?_, hf.then0 HF.out⟩
        unfold ParsePost
        rw [if_pos (by unfold pathOk; rw [HP.out]; have := HA.out; rw [List.take_length] at this; rw [this, decide_eq_true (by omega)]; rfl), HP.out]
        exact ⟨_, rfl, HR.out.keep0 HF.out⟩
/-- may a collection have a name? -/
def isNameSign (b : UInt8) : Bool := (97 ≤ b && b ≤ 122) || (48 ≤ b && b ≤ 57) || b == 95 || b == 45
def nameOk (s : ByteArray) : Bool := decide (1 ≤ s.size) && decide (s.size ≤ 24) && s.data.toList.all isNameSign
theorem mem_nameSigns (b : UInt8) : b ∈ (⟨#[97, 98, 99, 100, 101, 102, 103, 104, 105, 106, 107, 108, 109, 110, 111, 112, 113, 114, 115, 116, 117, 118, 119, 120, 121, 122, 48, 49, 50, 51, 52, 53, 54, 55, 56, 57, 95, 45]⟩ : ByteArray).data.toList ↔ isNameSign b = true := by
  have : ∀ b : Fin 256, (UInt8.ofNat b.val) ∈ (⟨#[97, 98, 99, 100, 101, 102, 103, 104, 105, 106, 107, 108, 109, 110, 111, 112, 113, 114, 115, 116, 117, 118, 119, 120, 121, 122, 48, 49, 50, 51, 52, 53, 54, 55, 56, 57, 95, 45]⟩ : ByteArray).data.toList ↔ isNameSign (UInt8.ofNat b.val) = true := by decide +kernel
  have h := this ⟨b.toNat, b.toNat_lt⟩
  simpa using h
theorem Trim_name (s : ByteArray) (w : World) (hs : s.size ≤ 1000000) :
    Calls Tryd.prog 32 #[.string s, .string ⟨#[97, 98, 99, 100, 101, 102, 103, 104, 105, 106, 107, 108, 109, 110, 111, 112, 113, 114, 115, 116, 117, 118, 119, 120, 121, 122, 48, 49, 50, 51, 52, 53, 54, 55, 56, 57, 95, 45]⟩] w fun e w' => ∃ r : ByteArray, e = .returned (.string r) ∧ (r.data.toList = [] ↔ s.data.toList.all isNameSign = true) ∧ Fr No w w' := by
  refine (Trim_any s _ w hs (by decide) (fun j b hb => ?_)).mono fun e w' ⟨r, he, h, hf⟩ => ⟨r, he, ?_, hf⟩
  · have hm := (mem_nameSigns b).1 (List.mem_of_getElem? hb)
    have : ∀ b : Fin 256, isNameSign (UInt8.ofNat b.val) = true → (UInt8.ofNat b.val).toNat < 128 := by decide +kernel
    have h := this ⟨b.toNat, b.toNat_lt⟩
    simp only [UInt8.ofNat_toNat] at h
    exact h hm
  · rw [h, List.all_eq_true]
    exact ⟨fun h b hb => (mem_nameSigns b).1 (h b hb), fun h b hb => (mem_nameSigns b).2 (h b hb)⟩
set_option maxHeartbeats 1000000 in
theorem Name_any (s : ByteArray) (w : World) (hs : s.size ≤ 1000000) :
    Calls Tryd.prog 11 #[.string s] w fun e w' => e = .returned (.bool (nameOk s)) ∧ Fr No w w' := by
  by_cases hz : s.size < 1
  · have d2 : decide ((1 : Int) ≤ (s.size : Int)) = false := decide_eq_false (by omega)
    have d3 : decide (1 ≤ s.size) = false := decide_eq_false (by omega)
    have d4 : decide (s.size = 0) = true := decide_eq_true (by omega)
    have d5 : decide (0 < s.size) = false := decide_eq_false (by omega)
    have hn := hide (show nameOk s = false by unfold nameOk; rw [d3]; rfl)
    go_enter Tryd.func11, Tryd.ntmps11
    go_wp2_with fail
    go_ret
    exact ⟨by rw [hn.out]; rfl, Fr.refl _ _⟩
  · have d2 : decide ((1 : Int) ≤ (s.size : Int)) = true := decide_eq_true (by omega)
    have d3 : decide (1 ≤ s.size) = true := decide_eq_true (by omega)
    have d4 : decide (s.size = 0) = false := decide_eq_false (by omega)
    have d5 : decide (0 < s.size) = true := decide_eq_true (by omega)
    by_cases hz2 : 24 < s.size
    · have d6 : decide ((s.size : Int) ≤ 24) = false := decide_eq_false (by omega)
      have d7 : decide (s.size ≤ 24) = false := decide_eq_false (by omega)
      have hn := hide (show nameOk s = false by unfold nameOk; rw [d7, Bool.and_false]; rfl)
      go_enter Tryd.func11, Tryd.ntmps11
      go_wp2_with fail
      go_ret
      exact ⟨by rw [hn.out]; rfl, Fr.refl _ _⟩
    · have d6 : decide ((s.size : Int) ≤ 24) = true := decide_eq_true (by omega)
      have d7 : decide (s.size ≤ 24) = true := decide_eq_true (by omega)
      have hn := hide (show nameOk s = s.data.toList.all isNameSign by unfold nameOk; rw [d3, d7]; rfl)
      go_enter Tryd.func11, Tryd.ntmps11
      go_wp2_with fail
      refine (Trim_name s w hs).mono ?_
      rintro e w2 ⟨r, rfl, hr, hf2⟩
      have hb : r.toList.isEmpty = s.data.toList.all isNameSign := by
        rw [Lib.toList_data]
        cases ha : s.data.toList.all isNameSign with
        | true => rw [hr.2 ha]; rfl
        | false =>
          cases hl : r.data.toList with
          | nil => rw [hr.1 hl] at ha; cases ha
          | cons => rfl
      have HB := hide hb
      clear hr hb
      go_wp2_with fail
      go_ret
      exact ⟨by rw [hn.out, ← HB.out]; rfl, hf2⟩
end Go.Proofs.YtkgffeclgapkbaaDoor
namespace Go.Proofs.YtkgffeclgapkbaaDoor
open Go.RowKit Go.Proofs.YtkgffeclgapkbaaDoorW.PrintWords
set_option linter.unusedVariables false
set_option linter.unusedSimpArgs false
set_option maxRecDepth 100000
/-- An index. -/
structure Ix where
  id : Int
  path : ByteArray
  un : Bool
def ix0 : Ix := ⟨0, ByteArray.empty, false⟩
/-- A slice of indexes that is read. -/
def RdI (w : World) (A : Option Addr) (xs : List Ix) : Prop := ∀ j, j < xs.length → ∃ ad, A = some ad ∧ w.cell? (ad.add (j * 3)) = some (.int .i64 (xs.getD j ix0).id) ∧
  w.cell? ⟨(ad.add (j * 3)).block, (ad.add (j * 3)).off + 1, none⟩ = some (.string (xs.getD j ix0).path) ∧ w.cell? ⟨(ad.add (j * 3)).block, (ad.add (j * 3)).off + 2, none⟩ = some (.bool (xs.getD j ix0).un)
theorem RdI.keep {S : Nat → Prop} {w w1 : World} {A : Option Addr} {xs : List Ix} (h : RdI w A xs) (hf : Fr S w w1) (hn : ∀ ad, A = some ad → ¬ S ad.block) : RdI w1 A xs := fun j hj => by
  obtain ⟨ad, e, h0, h1, h2⟩ := h j hj
  have hb := hn ad e
  exact ⟨ad, e, hf.cell h0 (by rw [add_block']; exact hb), hf.cell h1 (by show ¬ S (ad.add (j * 3)).block; rw [add_block']; exact hb), hf.cell h2 (by show ¬ S (ad.add (j * 3)).block; rw [add_block']; exact hb)⟩
theorem RdI.keep0 {w w1 : World} {A : Option Addr} {xs : List Ix} (h : RdI w A xs) (hf : Fr No w w1) : RdI w1 A xs := h.keep hf (fun _ _ h => h)
theorem RdI.take {w : World} {A : Option Addr} {xs : List Ix} (h : RdI w A xs) (k : Nat) : RdI w A (xs.take k) := fun j hj => by
  have hj' : j < k ∧ j < xs.length := by simpa [List.length_take, Nat.lt_min] using hj
  have e : (xs.take k).getD j ix0 = xs.getD j ix0 := by
    rw [List.getD_eq_getElem?_getD, List.getD_eq_getElem?_getD, List.getElem?_take, if_pos hj'.1]
  rw [e]
  exact h j hj'.2
/-- A variable that holds an index. -/
def IxBox (w : World) (g : Nat) (x : Ix) : Prop := w.heap[g]? = some (.cells #[.int .i64 x.id, .string x.path, .bool x.un] 57 (0, 0))
theorem IxBox.keep0 {w w1 : World} {g : Nat} {x : Ix} (h : IxBox w g x) (hf : Fr No w w1) : IxBox w1 g x := hf.blk h (fun h => h)
/-- do two have one path? -/
def samePath (x y : Ix) : Bool := y.path.toList == x.path.toList
set_option maxHeartbeats 1000000 in
theorem same_calls (x y : Ix) (g : Nat) (w : World) (hx : IxBox w g x) :
    Calls Tryd.prog 30 #[.agg #[.int .i64 y.id, .string y.path, .bool y.un], .pointer (some ⟨g, 0, none⟩)] w fun r w' => r = .returned (.bool (samePath x y)) ∧ Fr No w w' := by
  have h1 : w.cell? ⟨g, 1, none⟩ = some (.string x.path) := blk_cell hx 1
  have hl := blk_lt hx
  go_enter Tryd.func30, Tryd.ntmps30
  go_wp2_with fail
  go_ret
  exact ⟨rfl, (Fr.refl _ _).alloc _⟩
theorem take_any_succ {α : Type} {xs : List α} {p : α → Bool} {k : Nat} (d : α) (h : k < xs.length) : (xs.take (k + 1)).any p = ((xs.take k).any p || p (xs.getD k d)) := by
  rw [List.take_succ_eq_append_getElem h, List.any_append, List.getD_eq_getElem?_getD, List.getElem?_eq_getElem h]
  simp
set_option maxHeartbeats 1000000 in
theorem IndexFuncI_any (w : World) (A : Option Addr) (c g : Nat) (x : Ix) (ys : List Ix) (hr : RdI w A ys) (hx : IxBox w g x) (hl : ys.length ≤ 1000000) :
    Calls Tryd.prog 48 #[.slice A ys.length c, .func (.func 30) #[] #[.pointer (some ⟨g, 0, none⟩)]] w fun r w' => (∃ i : Int, r = .returned (.int .i64 i) ∧ (decide (0 ≤ i) = ys.any (samePath x))) ∧ Fr No w w' := by
  have HR := hide hr
  have HX := hide hx
  clear hr hx
  go_enter Tryd.func48, Tryd.ntmps48
  go_wp2_with fail
  go_loopw [8] (fun i wr => ∃ k : Nat, k ≤ ys.length ∧ i = .int .i64 k ∧ Aside0 ((ys.take k).any (samePath x) = false) ∧ Aside0 (Fr No w wr)) (fun i _ => ys.length - (intOf i).toNat)
  case atStart => exact ⟨0, Nat.zero_le _, rfl, ⟨rfl⟩, ⟨Fr.refl _ _⟩⟩
  case round =>
    obtain ⟨k, hk, rfl, HA, HF⟩ := hrel
    by_cases hlt : k < ys.length
    · obtain ⟨ad, rfl, h0, h1, h2⟩ := (HR.out.keep0 HF.out) k hlt
      obtain ⟨y, hy⟩ : ∃ y, ys.getD k ix0 = y := ⟨_, rfl⟩
      rw [hy] at h0 h1 h2
      have HY := hide hy
      clear hy
      obtain ⟨b, hb⟩ : ∃ b, samePath x y = b := ⟨_, rfl⟩
      have hcall := same_calls x y g wr (HX.out.keep0 HF.out)
      rw [hb] at hcall
      have HC := hide hcall
      have HB := hide hb
      clear hcall hb
      cases b with
      | false =>
        go_wp2_with (go_at_call 30; refine HC.out.mono ?_; rintro r w2 ⟨rfl, hf2⟩)
        go_roundw
        case rel =>
          refine ⟨k + 1, by omega, by go_num, ⟨?_⟩, ⟨HF.out.then0 hf2⟩⟩
          rw [take_any_succ ix0 hlt, HA.out, HY.out, HB.out]
          rfl
        case measure => simp [intOf]; omega
      | true =>
        go_wp2_with (go_at_call 30; refine HC.out.mono ?_; rintro r w2 ⟨rfl, hf2⟩)
        go_ret
        refine ⟨⟨k, rfl, ?_⟩, HF.out.then0 hf2⟩
        rw [decide_eq_true (by omega)]
        exact (List.any_eq_true.2 ⟨y, by rw [← HY.out]; exact getD_mem' _ hlt, HB.out⟩).symm
    · have hkl : k = ys.length := by omega
      subst hkl
      go_wp2_with fail
      go_ret
      refine ⟨⟨-1, rfl, ?_⟩, HF.out⟩
      have := HA.out
      rw [List.take_length] at this
      rw [this]
      rfl
set_option maxHeartbeats 1000000 in
theorem ContainsFuncI_any (w : World) (A : Option Addr) (c g : Nat) (x : Ix) (ys : List Ix) (hr : RdI w A ys) (hx : IxBox w g x) (hl : ys.length ≤ 1000000) :
    Calls Tryd.prog 29 #[.slice A ys.length c, .func (.func 30) #[] #[.pointer (some ⟨g, 0, none⟩)]] w fun r w' => r = .returned (.bool (ys.any (samePath x))) ∧ Fr No w w' := by
  have hc := IndexFuncI_any w A c g x ys hr hx hl
  obtain ⟨b, hb⟩ : ∃ b, ys.any (samePath x) = b := ⟨_, rfl⟩
  rw [hb] at hc ⊢
  have HC := hide hc
  clear hc hb hr hx
  go_enter Tryd.func29, Tryd.ntmps29
  go_wp2_with fail
  refine HC.out.mono ?_
  rintro r w1 ⟨⟨i, rfl, hi⟩, hf⟩
  have HI := hide hi
  clear hi
  go_wp2_with fail
  go_ret
  exact ⟨by rw [← HI.out]; rfl, hf⟩
/-- may the index at k be? -/
def okAt (xs : List Ix) (k : Nat) : Bool :=
  decide ((if k = 0 then 0 else (xs.getD (k - 1) ix0).id) < (xs.getD k ix0).id) && decide ((xs.getD k ix0).id ≤ 255) && pathOk (xs.getD k ix0).path && !((xs.take k).any (samePath (xs.getD k ix0)))
def rightB (id next : Int) (xs : List Ix) : Bool := decide (1 ≤ id) && decide (1 ≤ next) && decide (xs.length ≤ 8) && (List.range xs.length).all (okAt xs)
theorem cut32 (A : Option Addr) (n c k : Nat) (hk : k ≤ n) (hn : n ≤ c) (W : World) : (Instr.slice 32 (.slice A n c) none (some (.int .i64 (k : Int))) none).run Tryd.prog W = .ok (.slice A k c) W := by
  obtain ⟨i0, hi0, hz⟩ : ∃ i0, Tryd.prog.info? 57 = some i0 ∧ i0.size = 3 := by
    have h : (Tryd.prog.info? 57).map (·.size) = some 3 := by kernel_rfl
    obtain ⟨i0, h1, h2⟩ := Option.map_eq_some_iff.1 h
    exact ⟨i0, h1, h2⟩
  have hel : Tryd.prog.elem 32 = 57 := by simp [Program.elem, Tryd.underlying32]
  have hu : Tryd.prog.underlying 32 = some (.slice (Tryd.prog.elem 32)) := by rw [hel]; exact Tryd.underlying32
  have ha : (A.map fun x => x.add 0) = A := by cases A <;> simp [Addr.add]
  rw [run_slice_h W 32 A n c hu .i64 k (by omega) (by omega), hel]
  simp [sizeOf, typeInfo, hi0, hz, sliced, Result.andThen, ha]
set_option maxHeartbeats 2000000 in
theorem Right_any (id next : Int) (A : Option Addr) (c : Nat) (xs : List Ix) (w : World) (hg : Gl w) (hr : RdI w A xs) (hc : xs.length ≤ c) (hl : xs.length ≤ 1000000) (hp : ∀ x, x ∈ xs → x.path.size ≤ 1000000) :
    Calls Tryd.prog 9 #[.agg #[.int .u32 id, .int .u64 next, .slice A xs.length c]] w fun r w' => r = .returned (.bool (rightB id next xs)) ∧ Fr No w w' := by
  have HG := hide (And.intro hg (And.intro hr hp))
  clear hg hr hp
  by_cases h1 : id < 1
  · have d1 : decide (id < 1) = true := decide_eq_true h1
    have hb := hide (show rightB id next xs = false by unfold rightB; rw [decide_eq_false (by omega)]; rfl)
    go_enter Tryd.func9, Tryd.ntmps9
    go_wp2_with fail
    go_ret
    exact ⟨by rw [hb.out]; rfl, (Fr.refl _ _).alloc _⟩
  · have d1 : decide (id < 1) = false := decide_eq_false h1
    by_cases h2 : next < 1
    · have d2 : decide (next < 1) = true := decide_eq_true h2
      have hb := hide (show rightB id next xs = false by unfold rightB; rw [decide_eq_false (by omega : ¬ 1 ≤ next), Bool.and_false]; rfl)
      go_enter Tryd.func9, Tryd.ntmps9
      go_wp2_with fail
      go_ret
      exact ⟨by rw [hb.out]; rfl, (Fr.refl _ _).alloc _⟩
    · have d2 : decide (next < 1) = false := decide_eq_false h2
      by_cases h3 : 8 < xs.length
      · have d3 : decide ((8 : Int) < (xs.length : Int)) = true := decide_eq_true (by omega)
        have hb := hide (show rightB id next xs = false by unfold rightB; rw [decide_eq_false (by omega : ¬ xs.length ≤ 8), Bool.and_false]; rfl)
        go_enter Tryd.func9, Tryd.ntmps9
        go_wp2_with fail
        go_ret
        exact ⟨by rw [hb.out]; rfl, (Fr.refl _ _).alloc _⟩
      · have d3 : decide ((8 : Int) < (xs.length : Int)) = false := decide_eq_false (by omega)
        have hb := hide (show rightB id next xs = (List.range xs.length).all (okAt xs) by unfold rightB; rw [decide_eq_true (by omega : 1 ≤ id), decide_eq_true (by omega : 1 ≤ next), decide_eq_true (by omega : xs.length ≤ 8)]; rfl)
        go_enter Tryd.func9, Tryd.ntmps9
        go_wp2_with fail
        have hf1 : Fr No w (w.alloc (.cells #[.int .u32 id, .int .u64 next, .slice A xs.length c] 34)) := (Fr.refl _ _).alloc _
        have hbx := heap_alloc_new w (.cells #[.int .u32 id, .int .u64 next, .slice A xs.length c] 34)
        obtain ⟨w1, hw1⟩ : ∃ w1, w1 = w.alloc (.cells #[.int .u32 id, .int .u64 next, .slice A xs.length c] 34) := ⟨_, rfl⟩
        rw [← hw1] at hf1 hbx ⊢
        have HW := hide (And.intro hf1 hbx)
        clear hf1 hbx hw1
        go_loopw [3, 26] (fun l i wr => ∃ k : Nat, k ≤ xs.length ∧ i = .int .i64 k ∧ l = .int .i64 (if k = 0 then 0 else (xs.getD (k - 1) ix0).id) ∧ Aside0 ((List.range k).all (okAt xs) = true) ∧ Aside0 (Fr No w1 wr)) (fun _ i _ => xs.length - (intOf i).toNat)
        case atStart => exact ⟨0, Nat.zero_le _, rfl, rfl, ⟨rfl⟩, ⟨Fr.refl _ _⟩⟩
        case round =>
          obtain ⟨k, hk, rfl, rfl, HA, HF⟩ := hrel
          have hbx : wr.heap[w.heap.size]? = some (.cells #[.int .u32 id, .int .u64 next, .slice A xs.length c] 34 (0, 0)) := HF.out.blk HW.out.2 (fun h => h)
          have hbc : wr.cell? ⟨w.heap.size, 2, none⟩ = some (.slice A xs.length c) := blk_cell hbx 2
          have HBX := hide hbx
          clear hbx
          by_cases hlt : k < xs.length
          · obtain ⟨ad, rfl, q0, q1, q2⟩ := (HG.out.2.1.keep0 (HW.out.1.then0 HF.out)) k hlt
            obtain ⟨last, hlast⟩ : ∃ last, (if k = 0 then 0 else (xs.getD (k - 1) ix0).id) = last := ⟨_, rfl⟩
            obtain ⟨x, hx⟩ : ∃ x, xs.getD k ix0 = x := ⟨_, rfl⟩
            have hok : okAt xs k = (decide (last < x.id) && decide (x.id ≤ 255) && pathOk x.path && !((xs.take k).any (samePath x))) := by unfold okAt; rw [hlast, hx]
            have hpz : x.path.size ≤ 1000000 := by rw [← hx]; exact HG.out.2.2 _ (getD_mem' _ hlt)
            have ecut := cut32 (some ad) xs.length c k (by omega) hc
            rw [hlast]
            rw [hx] at q0 q1 q2
            have HX := hide (And.intro hok (And.intro hx hlast))
            have HP := hide hpz
            clear hok hx hlast hpz
            have hb2 : wr.heap.size < (wr.alloc (.cells #[.int .i64 x.id, .string x.path, .bool x.un] 57)).heap.size := by simp
            go_wp2_with fail
            have hfa : Fr No wr (wr.alloc (.cells #[.int .i64 x.id, .string x.path, .bool x.un] 57)) := (Fr.refl _ _).alloc _
            have hxb : IxBox (wr.alloc (.cells #[.int .i64 x.id, .string x.path, .bool x.un] 57)) wr.heap.size x := heap_alloc_new wr _
            refine (Parse_any x.path _ (HG.out.1.keep0 ((HW.out.1.then0 HF.out).then0 hfa)) HP.out).mono ?_
            rintro e w2 ⟨hpp, hf2⟩
            obtain ⟨v, cd, rfl, hcd⟩ : ∃ v cd, e = .returned (.tuple #[v, .int .i64 cd]) ∧ (cd != 0) = !pathOk x.path := by
              unfold ParsePost at hpp
              cases hpo : pathOk x.path with
              | true =>
                rw [if_pos hpo] at hpp
                obtain ⟨Ap, he, _⟩ := hpp
                exact ⟨_, _, he, rfl⟩
              | false =>
                rw [if_neg (by rw [hpo]; decide)] at hpp
                exact ⟨_, _, hpp, rfl⟩
            clear hpp
            have hfs := HF.out.then0 (hfa.then0 hf2)
            have hxb2 := hxb.keep0 hf2
            have hbx2 : w2.heap[w.heap.size]? = some (.cells #[.int .u32 id, .int .u64 next, .slice (some ad) xs.length c] 34 (0, 0)) := (hfa.then0 hf2).blk HBX.out (fun h => h)
            have hbc2 : w2.cell? ⟨w.heap.size, 2, none⟩ = some (.slice (some ad) xs.length c) := blk_cell hbx2 2
            have hxc0 : w2.cell? ⟨wr.heap.size, 0, none⟩ = some (.int .i64 x.id) := blk_cell hxb2 0
            have htl : (xs.take k).length = k := by rw [List.length_take]; omega
            have hcf := ContainsFuncI_any w2 (some ad) c wr.heap.size x (xs.take k) (((HG.out.2.1.keep0 (HW.out.1.then0 hfs))).take k) hxb2 (by omega)
            rw [htl] at hcf
            obtain ⟨tw, htw⟩ : ∃ tw, (xs.take k).any (samePath x) = tw := ⟨_, rfl⟩
            rw [htw] at hcf
            obtain ⟨po, hpo⟩ : ∃ po, pathOk x.path = po := ⟨_, rfl⟩
            rw [hpo] at hcd
            have HK := hide (And.intro hfs (And.intro hxb2 (And.intro htw hpo)))
            have HCF := hide hcf
            clear hfs hxb2 hbx2 htl hcf htw hpo hfa hxb hf2
            go_wp2_with fail
            refine HCF.out.mono ?_
            rintro e w3 ⟨rfl, hf3⟩
            have hxb3 : IxBox w3 wr.heap.size x := HK.out.2.1.keep0 hf3
            have hxc3 : w3.cell? ⟨wr.heap.size, 0, none⟩ = some (.int .i64 x.id) := blk_cell hxb3 0
            have hfe := hide (HK.out.1.then0 hf3)
            clear hxb3 hxc0 hbc2
            have hfin : okAt xs k = (decide (last < x.id) && decide (x.id ≤ 255) && po && !tw) := by rw [HX.out.1, HK.out.2.2.1, HK.out.2.2.2]
            have hbad : (decide (last < x.id) && decide (x.id ≤ 255) && po && !tw) = false → (List.range xs.length).all (okAt xs) = false := by
              intro hk2
              cases ha : (List.range xs.length).all (okAt xs) with
              | false => rfl
              | true =>
                have := List.all_eq_true.1 ha k (List.mem_range.2 hlt)
                rw [hfin, hk2] at this
                cases this
            have HFIN := hide (And.intro hfin hbad)
            clear hfin hbad
            by_cases k1 : x.id ≤ last
            · have t1 : decide (x.id ≤ last) = true := decide_eq_true k1
              go_wp2_with fail
              go_ret
              exact ⟨by rw [hb.out, HFIN.out.2 (by rw [decide_eq_false (by omega)]; rfl)]; rfl, HW.out.1.then0 hfe.out⟩
            · have t1 : decide (x.id ≤ last) = false := decide_eq_false k1
              by_cases k2 : 255 < x.id
              · have t2 : decide (255 < x.id) = true := decide_eq_true k2
                go_wp2_with fail
                go_ret
                exact ⟨by rw [hb.out, HFIN.out.2 (by rw [decide_eq_false (by omega : ¬ x.id ≤ 255), Bool.and_false]; rfl)]; rfl, HW.out.1.then0 hfe.out⟩
              · have t2 : decide (255 < x.id) = false := decide_eq_false k2
                cases po with
                | false =>
                  go_wp2_with fail
                  go_ret
                  exact ⟨by rw [hb.out, HFIN.out.2 (by rw [Bool.and_false]; rfl)]; rfl, HW.out.1.then0 hfe.out⟩
                | true =>
                  cases tw with
                  | true =>
                    go_wp2_with fail
                    go_ret
                    exact ⟨by rw [hb.out, HFIN.out.2 (by rw [Bool.not_true, Bool.and_false])]; rfl, HW.out.1.then0 hfe.out⟩
                  | false =>
                    go_wp2_with fail
                    go_roundw
                    case rel =>
                      refine ⟨k + 1, by omega, by go_num, ?_, ⟨?_⟩, hfe⟩
                      · rw [if_neg (by omega), Nat.add_sub_cancel, HX.out.2.1]
                      · rw [List.range_succ, List.all_append, HA.out, Bool.true_and]
                        simp only [List.all_cons, List.all_nil, Bool.and_true]
                        rw [HFIN.out.1, decide_eq_true (by omega : last < x.id), decide_eq_true (by omega : x.id ≤ 255)]
                        rfl
                    case measure => simp [intOf]; omega
          · have hkl : k = xs.length := by omega
            subst hkl
            go_wp2_with fail
            all_goals (go_ret; exact ⟨by rw [hb.out, HA.out]; rfl, HW.out.1.then0 HF.out⟩)
end Go.Proofs.YtkgffeclgapkbaaDoor
namespace Go.Proofs.YtkgffeclgapkbaaDoor
open Go.RowKit Go.Proofs.YtkgffeclgapkbaaDoorW.PrintWords
set_option linter.unusedVariables false
set_option linter.unusedSimpArgs false
set_option maxRecDepth 100000
def ixL (x : Ix) : List Int := be (asU64 x.id) 1 1 ++ (be (if x.un then 1 else 0) 1 1 ++ (shortL x.path.size ++ bytesOf x.path))
def putL (id next : Int) (xs : List Ix) : List Int := be id 4 4 ++ (be next 8 8 ++ (be xs.length 1 1 ++ (xs.map ixL).flatten))
theorem IsW.lt {w : World} {g : Nat} {row : Option Nat} {xs : List Int} (h : IsW w g row xs) : ∀ i, GR g row i → i < w.heap.size := by
  obtain ⟨v, hb, hr, ho⟩ := h
  rintro i (rfl | hi)
  · exact blk_lt hb
  · exact own_lt ho i (by rw [hr, ← hi])
/-- A writer made since w0. -/
structure WSt (w0 w : World) (g : Nat) (xs : List Int) : Prop where
  st : ∃ row, IsW w g row xs ∧ (∀ i, GR g row i → w0.heap.size ≤ i)
  fr : Fr No w0 w
theorem WSt.keep {w0 w w1 : World} {g : Nat} {xs : List Int} (h : WSt w0 w g xs) (hf : Fr No w w1) : WSt w0 w1 g xs := by
  obtain ⟨⟨row, h1, h2⟩, h3⟩ := h
  exact ⟨⟨row, h1.keep hf, h2⟩, h3.then0 hf⟩
/-- what a call on the writer leaves -/
theorem WSt.step {w0 w w1 : World} {g : Nat} {xs ys : List Int} {row : Option Nat} (hg : ∀ i, GR g row i → w0.heap.size ≤ i) (hf0 : Fr No w0 w) (h : ∃ row', IsW w1 g row' ys ∧ Fr (GR g row) w w1 ∧ Row2 w row row') : WSt w0 w1 g ys := by
  obtain ⟨row', h1, h2, h3⟩ := h
  refine ⟨⟨row', h1, ?_⟩, hf0.trans h2 (fun i hi => .inr (hg i hi))⟩
  rintro i (hi | hi)
  · exact hg i (.inl hi)
  · rcases h3 with h3 | ⟨b, h3, h4⟩
    · exact hg i (.inr (by rw [hi, h3]))
    · rw [h3] at hi
      injection hi with hi
      have := hf0.size
      omega
/-- One more number. -/
theorem WNum_st {w0 w : World} {g : Nat} {xs : List Int} (x : Int) (n : Nat) (h : WSt w0 w g xs) (hx0 : 0 ≤ x) (hx : x < 18446744073709551616) (h1 : 1 ≤ n) (h2 : n ≤ 8) (hl : xs.length ≤ 100000000) :
    Calls Tryd.prog 24 #[.pointer (some ⟨g, 0, none⟩), .int .u64 x, .int .i64 n] w fun e w' => e = .returned (.tuple #[]) ∧ WSt w0 w' g (xs ++ be x n n) ∧ (∀ k o, k < w.heap.size → (∃ t cs fr, o = .cells cs t fr ∧ t ≠ 81 ∧ t ≠ 5) → w.heap[k]? = some o → w'.heap[k]? = some o) := by
  obtain ⟨⟨row, hw, hg⟩, hf⟩ := h
  refine (Num_any g x n w hx0 hx h1 h2 row xs hw hl).mono fun e w' ⟨he, hr⟩ => ⟨he, WSt.step (xs := xs) hg hf hr, ?_⟩
  obtain ⟨row', _, hk, _⟩ := hr
  obtain ⟨v, hb, hro, ho⟩ := hw
  rintro k o hk1 ⟨t, cs, fr, rfl, h81, h5⟩ hko
  refine hk.blk hko ?_
  rintro (rfl | hi)
  · rw [hb] at hko
    injection hko with hko
    injection hko with _ ht _
    exact h81 ht.symm
  · obtain ⟨cells, hc⟩ := own_typed ho k (by rw [hro, ← hi])
    rw [hc] at hko
    injection hko with hko
    injection hko with _ ht _
    exact h5 ht.symm
theorem WBytes_st {w0 wp w : World} {g : Nat} {xs : List Int} (h : WSt w0 wp g xs) (hfp : Fr No wp w) (hl : xs.length ≤ 10000000) (A : Option Addr) (c : Nat) (ys : List Int) (hr : Rd w A ys) (hyl : ys.length ≤ 10000000) (hA : ∀ ad, A = some ad → wp.heap.size ≤ ad.block) :
    Calls Tryd.prog 25 #[.pointer (some ⟨g, 0, none⟩), .slice A ys.length c] w fun e w' => e = .returned (.tuple #[]) ∧ WSt w0 w' g (xs ++ (shortL ys.length ++ ys)) ∧ (∀ k o, k < w.heap.size → (∃ t cs fr, o = .cells cs t fr ∧ t ≠ 81 ∧ t ≠ 5) → w.heap[k]? = some o → w'.heap[k]? = some o) := by
  obtain ⟨⟨row, hwp, hg⟩, hf⟩ := h
  have hw := hwp.keep hfp
  have hw' := hw
  obtain ⟨v, hb, hro, ho⟩ := hw'
  refine (WBytes_any g w row xs hw hl A c ys hr hyl ?_).mono fun e w' ⟨he, hr⟩ => ⟨he, WSt.step (xs := xs) hg (hf.then0 hfp) hr, ?_⟩
  · rintro ad hA1 h0 hgr
    have h1 := hwp.lt _ hgr
    have h2 := hA ad hA1
    omega
  · obtain ⟨row', _, hk, _⟩ := hr
    rintro k o hk1 ⟨t, cs, fr, rfl, h81, h5⟩ hko
    refine hk.blk hko ?_
    rintro (rfl | hi)
    · rw [hb] at hko
      injection hko with hko
      injection hko with _ ht _
      exact h81 ht.symm
    · obtain ⟨cells, hc⟩ := own_typed ho k (by rw [hro, ← hi])
      rw [hc] at hko
      injection hko with hko
      injection hko with _ ht _
      exact h5 ht.symm
/-- How a row of indexes is put, from k on. -/
theorem flat_take_succ {xs : List Ix} {k : Nat} (h : k < xs.length) : ((xs.take (k + 1)).map ixL).flatten = ((xs.take k).map ixL).flatten ++ ixL (xs.getD k ix0) := by
  rw [List.take_succ_eq_append_getElem h, List.map_append, List.flatten_append, List.getD_eq_getElem?_getD, List.getElem?_eq_getElem h]
  simp
theorem ixL_len (x : Ix) (h : x.path.size ≤ 1000000) : (ixL x).length ≤ 1000020 := by
  have := shortL_len x.path.size (by omega)
  simp [ixL, be_len, bytesOf_length]; omega
theorem flat_len {xs : List Ix} (h : ∀ x, x ∈ xs → x.path.size ≤ 1000000) : ((xs.map ixL).flatten).length ≤ xs.length * 1000020 := by
  induction xs with
  | nil => simp
  | cons a l ih =>
    have h1 := ixL_len a (h a List.mem_cons_self)
    have h2 := ih (fun x hx => h x (List.mem_cons_of_mem _ hx))
    simp only [List.map_cons, List.flatten_cons, List.length_append, List.length_cons]
    omega
def PutPost (w : World) (id next : Int) (xs : List Ix) (e : Ending) (w' : World) : Prop :=
  if rightB id next xs = true then ∃ v, e = .returned (.tuple #[v, .int .i64 0]) ∧ Mine w w' v (putL id next xs) else e = .returned (.tuple #[.slice none 0 0, .int .i64 1])
set_option maxHeartbeats 2000000 in
theorem Put_no (id next : Int) (A : Option Addr) (c : Nat) (xs : List Ix) (w : World) (hg : Gl w) (hr : RdI w A xs) (hc : xs.length ≤ c) (hl : xs.length ≤ 1000000) (hp : ∀ x, x ∈ xs → x.path.size ≤ 1000000) (hb : rightB id next xs = false) :
    Calls Tryd.prog 7 #[.agg #[.int .u32 id, .int .u64 next, .slice A xs.length c]] w fun r w' => r = .returned (.tuple #[.slice none 0 0, .int .i64 1]) ∧ Fr No w w' := by
  have hf1 : Fr No w (w.alloc (.cells #[.int .u32 id, .int .u64 next, .slice A xs.length c] 34)) := (Fr.refl _ _).alloc _
  have hR := Right_any id next A c xs _ (hg.keep0 hf1) (hr.keep0 hf1) hc hl hp
  rw [hb] at hR
  have HR := hide hR
  have HF := hide hf1
  clear hR hf1 hb hg hr hp
  go_enter Tryd.func7, Tryd.ntmps7
  go_wp2_with fail
  refine HR.out.mono ?_
  rintro r w2 ⟨rfl, hf2⟩
  go_wp2_with fail
  go_ret2
  exact ⟨rfl, HF.out.then0 hf2⟩
set_option maxHeartbeats 4000000 in
theorem Put_ok (id next : Int) (A : Option Addr) (c : Nat) (xs : List Ix) (w : World) (hg : Gl w) (hr : RdI w A xs) (hc : xs.length ≤ c) (hid : 0 ≤ id ∧ id < 4294967296) (hnx : 0 ≤ next ∧ next < 18446744073709551616) (hl : xs.length ≤ 8) (hp : ∀ x, x ∈ xs → x.path.size ≤ 1000000) (hb : rightB id next xs = true) :
    Calls Tryd.prog 7 #[.agg #[.int .u32 id, .int .u64 next, .slice A xs.length c]] w fun r w' => (∃ v, r = .returned (.tuple #[v, .int .i64 0]) ∧ Mine w w' v (putL id next xs)) ∧ Fr No w w' := by
  have hf1 : Fr No w (w.alloc (.cells #[.int .u32 id, .int .u64 next, .slice A xs.length c] 34)) := (Fr.refl _ _).alloc _
  have hR := Right_any id next A c xs _ (hg.keep0 hf1) (hr.keep0 hf1) hc (by omega) hp
  rw [hb] at hR
  have HR := hide hR
  have HF := hide (And.intro hf1 (And.intro hr hp))
  have e0 : IntKind.u64.wrap id = id := IntWalk.u64_in _ (by omega)
  have e1 : IntKind.u64.wrap (xs.length : Int) = (xs.length : Int) := IntWalk.u64_in _ (by omega)
  obtain ⟨w1, hw1⟩ : ∃ w1, w1 = w.alloc (.cells #[.int .u32 id, .int .u64 next, .slice A xs.length c] 34) := ⟨_, rfl⟩
  have hbx : w1.heap[w.heap.size]? = some (.cells #[.int .u32 id, .int .u64 next, .slice A xs.length c] 34 (0, 0)) := by rw [hw1]; exact heap_alloc_new w _
  clear hR hf1 hb hg hr hp
  go_enter Tryd.func7, Tryd.ntmps7
  go_wp2_with fail
  refine HR.out.mono ?_
  rw [← hw1] at HF ⊢
  rintro r w2 ⟨rfl, hf2⟩
  have hbx2 := hf2.blk hbx (fun h => h)
  have hc0 : w2.cell? ⟨w.heap.size, 0, none⟩ = some (.int .u32 id) := blk_cell hbx2 0
  have HF2 := hide (And.intro (HF.out.1.then0 hf2) hbx2)
  clear hf2 hbx hbx2 hw1 HR
  go_wp2_with fail
  refine (NewWriter_any w2).mono ?_
  rintro e w3 ⟨g, rfl, hg3, hf3, hgl⟩
  have hs3 : WSt w2 w3 g [] := ⟨⟨none, hg3, fun i hi => by
    rcases hi with rfl | hi
    · exact hgl
    · cases hi⟩, hf3⟩
  have hT : ∃ t cs fr, (Obj.cells #[Value.int .u32 id, .int .u64 next, .slice A xs.length c] 34 (0, 0)) = .cells cs t fr ∧ t ≠ 81 ∧ t ≠ 5 := ⟨34, _, _, rfl, by decide, by decide⟩
  have HT := hide hT
  have hbx3 := hf3.blk HF2.out.2 (fun h => h)
  have hc03 : w3.cell? ⟨w.heap.size, 0, none⟩ = some (.int .u32 id) := blk_cell hbx3 0
  have HS3 := hide (And.intro hs3 hbx3)
  clear hg3 hf3 hs3 hbx3 hc0 hT
  go_wp2_with fail
  refine (WNum_st id 4 HS3.out.1 hid.1 (by omega) (by decide) (by decide) (by simp)).mono ?_
  rintro e w4 ⟨rfl, hs4, hk4⟩
  have hbx4 := hk4 _ _ (blk_lt HS3.out.2) HT.out HS3.out.2
  have hc14 : w4.cell? ⟨w.heap.size, 1, none⟩ = some (.int .u64 next) := blk_cell hbx4 1
  have HS4 := hide (And.intro hs4 hbx4)
  clear hs4 hk4 hbx4 hc03
  go_wp2_with fail
  refine (WNum_st next 8 HS4.out.1 hnx.1 (by omega) (by decide) (by decide) (by simp [be_len])).mono ?_
  rintro e w5 ⟨rfl, hs5, hk5⟩
  have hbx5 := hk5 _ _ (blk_lt HS4.out.2) HT.out HS4.out.2
  have hc25 : w5.cell? ⟨w.heap.size, 2, none⟩ = some (.slice A xs.length c) := blk_cell hbx5 2
  have HS5 := hide (And.intro hs5 hbx5)
  clear hs5 hk5 hbx5 hc14
  go_wp2_with fail
  refine (WNum_st (xs.length : Int) 1 HS5.out.1 (by omega) (by omega) (by decide) (by decide) (by simp [be_len])).mono ?_
  rintro e w6 ⟨rfl, hs6, hk6⟩
  have hbx6 := hk6 _ _ (blk_lt HS5.out.2) HT.out HS5.out.2
  have hc26 : w6.cell? ⟨w.heap.size, 2, none⟩ = some (.slice A xs.length c) := blk_cell hbx6 2
  obtain ⟨pre, hpre⟩ : ∃ pre, [] ++ be id 4 4 ++ be next 8 8 ++ be xs.length 1 1 = pre := ⟨_, rfl⟩
  have hprel : pre.length = 13 := by rw [← hpre]; simp [be_len]
  rw [hpre] at hs6
  have hput : putL id next xs = pre ++ (xs.map ixL).flatten := by rw [← hpre]; simp [putL]
  have HS6 := hide (And.intro hs6 (And.intro hprel hput))
  clear hs6 hk6 hbx6 hc25 hpre hprel hput HS3 HS4 HS5
  go_wp2_with fail
  go_loopw [30] (fun i wr => ∃ k : Nat, k ≤ xs.length ∧ i = .int .i64 k ∧ Aside0 (WSt w2 wr g (pre ++ ((xs.take k).map ixL).flatten))) (fun i _ => xs.length - (intOf i).toNat)
  case atStart => exact ⟨0, Nat.zero_le _, rfl, ⟨by simpa using HS6.out.1⟩⟩
  case round =>
    obtain ⟨k, hk, rfl, HS⟩ := hrel
    by_cases hlt : k < xs.length
    · obtain ⟨ad, rfl, q0, q1, q2⟩ := (HF.out.2.1.keep0 (HF2.out.1.then0 HS.out.fr)) k hlt
      obtain ⟨x, hx⟩ : ∃ x, xs.getD k ix0 = x := ⟨_, rfl⟩
      rw [hx] at q0 q1 q2
      have hpz : x.path.size ≤ 1000000 := by rw [← hx]; exact HF.out.2.2 _ (getD_mem' _ hlt)
      have hll : (pre ++ ((xs.take k).map ixL).flatten).length ≤ 9000000 := by
        have := flat_len (xs := xs.take k) (fun y hy => HF.out.2.2 y (List.mem_of_mem_take hy))
        rw [List.length_take] at this
        rw [List.length_append, HS6.out.2.1]
        have : min k xs.length ≤ 8 := by omega
        omega
      have hsx : pre ++ ((xs.take (k + 1)).map ixL).flatten = (pre ++ ((xs.take k).map ixL).flatten) ++ be (asU64 x.id) 1 1 ++ be (if x.un then 1 else 0) 1 1 ++ (shortL x.path.size ++ bytesOf x.path) := by
        rw [flat_take_succ hlt, hx]
        simp [ixL]
      obtain ⟨L, hL⟩ : ∃ L, pre ++ ((xs.take k).map ixL).flatten = L := ⟨_, rfl⟩
      have hsl : WSt w2 wr g L := by rw [← hL]; exact HS.out
      rw [hL] at hll hsx
      have kb := fun W => print_bytes (P := Tryd.prog) 9 28 5 Tryd.underlying9 Tryd.underlying28 Tryd.underlying5 x.path W
      have HL := hide (And.intro hsl (And.intro hsx hpz))
      clear hsl hsx hx hL hpz HS
      have hua := asU64_range x.id
      have hT2 : ∃ t cs fr, (Obj.cells #[Value.int .i64 x.id, Value.string x.path, Value.bool x.un] 57 (0, 0)) = .cells cs t fr ∧ t ≠ 81 ∧ t ≠ 5 := ⟨57, _, _, rfl, by decide, by decide⟩
      have HT2 := hide hT2
      clear hT2
      have hfa : Fr No wr (wr.alloc (.cells #[.int .i64 x.id, .string x.path, .bool x.un] 57)) := (Fr.refl _ _).alloc _
      have hxa : IxBox (wr.alloc (.cells #[.int .i64 x.id, .string x.path, .bool x.un] 57)) wr.heap.size x := heap_alloc_new wr _
      have HFA := hide (And.intro hfa hxa)
      clear hfa hxa
      go_wp2_with fail
      refine (WNum_st (asU64 x.id) 1 (HL.out.1.keep HFA.out.1) hua.1 hua.2 (by decide) (by decide) (by omega)).mono ?_
      rintro e w7 ⟨rfl, hs7, hk7⟩
      have hx7 : IxBox w7 wr.heap.size x := hk7 _ _ (blk_lt HFA.out.2) HT2.out HFA.out.2
      have hu7 : w7.cell? ⟨wr.heap.size, 2, none⟩ = some (.bool x.un) := blk_cell hx7 2
      have HS7 := hide (And.intro hs7 hx7)
      have hl7 : (L ++ be (asU64 x.id) 1 1).length ≤ 9000001 := by simp [be_len]; omega
      clear hs7 hx7 hk7
      obtain ⟨u, hu⟩ : ∃ u, x.un = u := ⟨_, rfl⟩
      rw [hu] at hu7
      have HU := hide hu
      clear hu
      cases u
      all_goals
        go_wp2_with fail
        refine (WNum_st _ 1 HS7.out.1 (by decide) (by decide) (by decide) (by decide) (by omega)).mono ?_
        rintro e w8 ⟨rfl, hs8, hk8⟩
        have hx8 : IxBox w8 wr.heap.size x := hk8 _ _ (blk_lt HS7.out.2) HT2.out HS7.out.2
        have hp8 : w8.cell? ⟨wr.heap.size, 1, none⟩ = some (.string x.path) := blk_cell hx8 1
        have HS8 := hide hs8
        clear hs8 hx8 hk8 hu7
        go_wp2_with fail
        have hlen := bytesOf_length x.path
        have hrd : Rd (Lib.bytesWorld w8 5 x.path) (some ⟨w8.heap.size, 0, none⟩) (bytesOf x.path) := by
          have := bytes_reads w8 5 x.path (by have := HL.out.2.2; omega)
          unfold Rd
          rw [hlen]
          exact this
        have hwb := WBytes_st HS8.out (bytes_fr w8 x.path) (by simp [be_len]; omega) (some ⟨w8.heap.size, 0, none⟩) (grownCap w8 x.path.size 0 5) (bytesOf x.path) hrd (by rw [hlen]; have := HL.out.2.2; omega) (by rintro ad e; injection e with e; subst e; exact Nat.le_refl _)
        rw [hlen] at hwb
        refine hwb.mono ?_
        rintro e w9 ⟨rfl, hs9, hk9⟩
        have HS9 := hide hs9
        clear hs9 hk9 hwb hrd hlen
        go_wp2_with fail
        go_roundw
        case rel =>
          refine ⟨k + 1, by omega, by go_num, ⟨?_⟩⟩
          have h1 := HS9.out
          have h2 := HL.out.2.1
          rw [HU.out] at h2
          rw [h2]
          simpa using h1
        case measure => simp [intOf]; omega
    · have hkl : k = xs.length := by omega
      subst hkl
      obtain ⟨⟨row, hw, _⟩, hfz⟩ := HS.out
      have hfull : pre ++ ((xs.take xs.length).map ixL).flatten = putL id next xs := by rw [List.take_length, HS6.out.2.2]
      rw [hfull] at hw
      have hll : (putL id next xs).length ≤ 9000000 := by
        have := flat_len (xs := xs) HF.out.2.2
        rw [HS6.out.2.2, List.length_append, HS6.out.2.1]
        omega
      have HZ := hide (And.intro hw hfz)
      clear hw hfz hfull
      go_wp2_with fail
      refine (Out_any g wr row _ HZ.out.1 (by omega)).mono ?_
      rintro e w7 ⟨v, rfl, hm, hf7⟩
      go_wp2_with fail
      go_ret2
      have h0 := HF2.out.1.then0 HZ.out.2
      exact ⟨⟨_, rfl, Mine.lower hm h0.size⟩, h0.then0 hf7⟩
theorem Put_any (id next : Int) (A : Option Addr) (c : Nat) (xs : List Ix) (w : World) (hg : Gl w) (hr : RdI w A xs) (hc : xs.length ≤ c) (hid : 0 ≤ id ∧ id < 4294967296) (hnx : 0 ≤ next ∧ next < 18446744073709551616) (hl : xs.length ≤ 1000000) (hp : ∀ x, x ∈ xs → x.path.size ≤ 1000000) :
    Calls Tryd.prog 7 #[.agg #[.int .u32 id, .int .u64 next, .slice A xs.length c]] w fun r w' => PutPost w id next xs r w' ∧ Fr No w w' := by
  unfold PutPost
  cases hb : rightB id next xs with
  | false => exact (Put_no id next A c xs w hg hr hc hl hp hb).mono fun r w' h => by rw [if_neg (by decide)]; exact h
  | true =>
    have h8 : xs.length ≤ 8 := by
      unfold rightB at hb
      simp at hb
      omega
    exact (Put_ok id next A c xs w hg hr hc hid hnx h8 hp hb).mono fun r w' h => by rw [if_pos rfl]; exact h
end Go.Proofs.YtkgffeclgapkbaaDoor
namespace Go.Proofs.YtkgffeclgapkbaaDoor
open Go.RowKit Go.Proofs.YtkgffeclgapkbaaDoorW.PrintWords
set_option linter.unusedVariables false
set_option linter.unusedSimpArgs false
set_option maxRecDepth 100000
instance decOkBytes (xs : List Int) (e : Int) : Decidable (OkBytes xs e) := by unfold OkBytes OkVar; infer_instance
def pBytes : Option (List Int) → List Int × Option (List Int)
  | some xs => if OkBytes xs 0 then (bytesGot xs, some (bytesRest xs)) else ([], none)
  | none => ([], none)
def pNum (n : Nat) : Option (List Int) → Int × Option (List Int)
  | some xs => if n ≤ xs.length then (valOf 256 (xs.take n), some (xs.drop n)) else (0, none)
  | none => (0, none)
def abs (xs : List Int) (e : Int) : Option (List Int) := if e = 0 then some xs else none
/-- A reader whose state is s. -/
def RSt (w : World) (g : Nat) (s : Option (List Int)) : Prop := ∃ xs e, IsR w g xs e ∧ Bs xs ∧ xs.length ≤ 1000000 ∧ abs xs e = s
theorem RSt.keep {w w1 : World} {g : Nat} {s : Option (List Int)} (h : RSt w g s) (hf : Fr No w w1) : RSt w1 g s := by
  obtain ⟨xs, e, h1, h2⟩ := h
  exact ⟨xs, e, h1.keep hf, h2⟩
theorem RSt.lt {w : World} {g : Nat} {s : Option (List Int)} (h : RSt w g s) : g < w.heap.size := by
  obtain ⟨xs, e, ⟨A, c, hb, _⟩, _⟩ := h
  exact blk_lt hb
theorem Bs.drop {xs : List Int} (h : Bs xs) (n : Nat) : Bs (xs.drop n) := fun b hb => h b (List.mem_of_mem_drop hb)
theorem Bs.take {xs : List Int} (h : Bs xs) (n : Nat) : Bs (xs.take n) := fun b hb => h b (List.mem_of_mem_take hb)
theorem RNum_st {w : World} {g : Nat} {s : Option (List Int)} (n : Nat) (h : RSt w g s) (h1 : 1 ≤ n) (h8 : n ≤ 8) :
    Calls Tryd.prog 34 #[.pointer (some ⟨g, 0, none⟩), .int .i64 n] w fun r w' => r = .returned (.int .u64 (pNum n s).1) ∧ RSt w' g (pNum n s).2 ∧ Fr (At g) w w' := by
  obtain ⟨xs, e, hR, hb, hl, rfl⟩ := h
  by_cases he : e = 0
  · subst he
    have ha : abs xs 0 = some xs := rfl
    rw [ha]
    unfold pNum
    by_cases hn : n ≤ xs.length
    · simp only [if_pos hn]
      exact (RNum_ok g w xs n hR hn (by omega) h1 h8 hb).mono fun r w' ⟨h1, h2, h3⟩ => ⟨h1, ⟨_, 0, h2, hb.drop n, by rw [List.length_drop]; omega, rfl⟩, h3⟩
    · simp only [if_neg hn]
      refine (RNum_no g w xs 0 n hR (.inr (by omega)) (by omega) h1 h8).mono fun r w' ⟨h1, h2, h3⟩ => ⟨h1, ⟨xs, _, h2, hb, hl, ?_⟩, h3⟩
      unfold takeE
      rw [if_pos (by omega)]
      rfl
  · have ha : abs xs e = none := by unfold abs; rw [if_neg he]
    rw [ha]
    refine (RNum_no g w xs e n hR (.inl he) (by omega) h1 h8).mono fun r w' ⟨h1, h2, h3⟩ => ⟨h1, ⟨xs, _, h2, hb, hl, ?_⟩, h3⟩
    have : takeE xs.length n e ≠ 0 := by
      unfold takeE failE
      split <;> (first | exact he | (rw [if_neg he]; exact he))
    unfold abs
    rw [if_neg this]
    rfl
theorem OkBytes_len {xs : List Int} (h : OkBytes xs 0) : (bytesRest xs).length ≤ xs.length := by
  unfold bytesRest
  rw [List.length_drop, List.length_drop]
  omega
theorem RBytes_st {w : World} {g : Nat} {xs : List Int} {e : Int} (hR : IsR w g xs e) (hb : Bs xs) (hl : xs.length ≤ 1000000) :
    Calls Tryd.prog 35 #[.pointer (some ⟨g, 0, none⟩), .int .i64 xs.length] w fun r w' => ∃ v, r = .returned v ∧ Mine w w' v (pBytes (abs xs e)).1 ∧ RSt w' g (pBytes (abs xs e)).2 ∧ Fr (At g) w w' := by
  refine (RBytes_any g w xs e hR (by omega) hb).mono fun r w' ⟨v, h1, h2, h3⟩ => ⟨v, h1, ?_⟩
  rcases h2 with ⟨hok, hm, hr⟩ | ⟨hok, hm, ys, e', he', hyl, hyb, hr⟩
  · have he : e = 0 := hok.1.1
    subst he
    have ha : pBytes (abs xs 0) = (bytesGot xs, some (bytesRest xs)) := by show (if _ then _ else _) = _; rw [if_pos hok]
    rw [ha]
    exact ⟨hm, ⟨_, 0, hr, (hb.drop _).drop _, by have := OkBytes_len hok; omega, rfl⟩, h3⟩
  · have ha : pBytes (abs xs e) = ([], none) := by
      unfold abs
      split
      · rename_i he
        subst he
        show (if _ then _ else _) = _
        rw [if_neg hok]
      · rfl
    rw [ha]
    exact ⟨hm, ⟨ys, e', hr, hyb, by omega, by unfold abs; rw [if_neg he']⟩, h3⟩
theorem pNum_range {s : Option (List Int)} {n : Nat} (h : ∀ xs, s = some xs → Bs xs) (hn : n ≤ 8) : 0 ≤ (pNum n s).1 ∧ (pNum n s).1 < 256 ^ n := by
  unfold pNum
  have hp : (0 : Int) < 256 ^ n := Int.pow_pos (by decide)
  split
  · rename_i xs
    split
    · rename_i hl
      have := valOf_bound (h xs rfl) n hl
      exact this
    · exact ⟨Int.le_refl _, hp⟩
  · exact ⟨Int.le_refl _, hp⟩
theorem RSt.bs {w : World} {g : Nat} {s : Option (List Int)} (h : RSt w g s) : ∀ xs, s = some xs → Bs xs := by
  obtain ⟨ys, e, _, hb, _, rfl⟩ := h
  intro xs hx
  unfold abs at hx
  split at hx
  · injection hx with hx
    subst hx
    exact hb
  · cases hx
/-- one index -/
def pIx (s : Option (List Int)) : Ix × Option (List Int) :=
  (⟨(pNum 1 s).1, strOfNums (pBytes (pNum 1 (pNum 1 s).2).2).1, (pNum 1 (pNum 1 s).2).1 == 1⟩, (pBytes (pNum 1 (pNum 1 s).2).2).2)
def pIxs (s : Option (List Int)) : Nat → List Ix × Option (List Int)
  | 0 => ([], s)
  | k + 1 => ((pIxs s k).1 ++ [(pIx (pIxs s k).2).1], (pIx (pIxs s k).2).2)
end Go.Proofs.YtkgffeclgapkbaaDoor
namespace Go.Proofs.YtkgffeclgapkbaaDoor
open Go.RowKit Go.Proofs.YtkgffeclgapkbaaDoorW.PrintWords
set_option linter.unusedVariables false
set_option linter.unusedSimpArgs false
set_option maxRecDepth 100000
def ixCells (x : Ix) : List Value := [.int .i64 x.id, .string x.path, .bool x.un]
def ixsCells (xs : List Ix) : List Value := (xs.map ixCells).flatten
theorem ixsCells_snoc (xs : List Ix) (x : Ix) : ixsCells (xs ++ [x]) = ixsCells xs ++ ixCells x := by simp [ixsCells]
theorem ixsCells_len (xs : List Ix) : (ixsCells xs).length = xs.length * 3 := by
  induction xs with
  | nil => rfl
  | cons a l ih => simp only [ixsCells, List.map_cons, List.flatten_cons, List.length_append, List.length_cons] at ih ⊢; rw [ih]; simp [ixCells]; omega
theorem info57 : (Tryd.prog.info? 57).map (fun i => (i.zero, i.size, i.bytes)) = some (some (.agg #[.int .i64 0, .string ByteArray.empty, .bool false]), 3, 32) := by kernel_rfl
/-- What Get holds in the midst of its loop. -/
structure GSt (w0 w : World) (g gc b2 : Nat) (id next : Int) (s : Option (List Int)) (xs : List Ix) : Prop where
  rs : RSt w g s
  co : ∃ v, w.heap[gc]? = some (.cells #[.int .u32 id, .int .u64 next, v] 34 (0, 0)) ∧ w.ownsRow w0.heap.size 57 3 v xs.length (ixsCells xs)
  z2 : w.heap[b2]? = some (.cells #[.int .u32 0, .int .u64 0, .slice none 0 0] 34 (0, 0))
  bl : Below w0.heap.size w0 w
  ge : w0.heap.size ≤ g ∧ w0.heap.size ≤ gc ∧ w0.heap.size ≤ b2 ∧ gc ≠ b2
theorem RSt.typed {w : World} {g : Nat} {s : Option (List Int)} (h : RSt w g s) : ∃ cs, w.heap[g]? = some (.cells cs 96 (0, 0)) := by
  obtain ⟨xs, e, ⟨A, c, hb, _⟩, _⟩ := h
  exact ⟨_, hb⟩
theorem own_fr {S : Nat → Prop} {w w1 : World} {base : Nat} {e : TypeId} {size n : Nat} {v : Value} {xs : List Value} (h : w.ownsRow base e size v n xs) (hf : Fr S w w1) (hn : ∀ k, v.ownBlock = some k → ¬ S k) : w1.ownsRow base e size v n xs :=
  own_move h (fun k hk => hf.block k (own_lt h k hk) (hn k hk))
theorem below_fr {B : Nat} {S : Nat → Prop} {w0 w w1 : World} (h : Below B w0 w) (hf : Fr S w w1) (hB : B ≤ w.heap.size) (hS : ∀ k, S k → B ≤ k) : Below B w0 w1 :=
  h.trans ⟨hf.os, hf.tape, hf.output, hf.size, fun k hk => hf.block k (by omega) (fun hs => by have := hS k hs; omega)⟩
/-- The state is kept by what turns neither the reader, nor the two variables, nor the row. -/
theorem GSt.fr {w0 w w1 : World} {g gc b2 : Nat} {id next : Int} {s s1 : Option (List Int)} {xs : List Ix} (h : GSt w0 w g gc b2 id next s xs) (hf : Fr (At g) w w1) (hr : RSt w1 g s1) (hB : w0.heap.size ≤ w.heap.size) : GSt w0 w1 g gc b2 id next s1 xs := by
  obtain ⟨cs, hg⟩ := h.rs.typed
  obtain ⟨v, hc, ho⟩ := h.co
  refine ⟨hr, ⟨v, hf.blk hc ?_, own_fr ho hf ?_⟩, hf.blk h.z2 ?_, below_fr h.bl hf hB (fun k hk => by have : k = g := hk; have := h.ge.1; omega), h.ge⟩
  · intro e
    have e : gc = g := e
    exact blk_ne hc hg (by decide) e
  · intro k hk e
    have e : k = g := e
    obtain ⟨cells, ht⟩ := own_typed ho k hk
    exact blk_ne ht hg (by decide) e
  · intro e
    have e : b2 = g := e
    exact blk_ne h.z2 hg (by decide) e
theorem GSt.no {w0 w w1 : World} {g gc b2 : Nat} {id next : Int} {s : Option (List Int)} {xs : List Ix} (h : GSt w0 w g gc b2 id next s xs) (hf : Fr No w w1) (hB : w0.heap.size ≤ w.heap.size) : GSt w0 w1 g gc b2 id next s xs :=
  h.fr (Fr.of_no hf) (h.rs.keep hf) hB
/-- .. nor by a store into another block. -/
theorem GSt.set_ {w0 w : World} {g gc b2 : Nat} {id next : Int} {s : Option (List Int)} {xs : List Ix} (h : GSt w0 w g gc b2 id next s xs) {bx : Nat} {cs : Array Value} (hbx : w.heap[bx]? = some (.cells cs 57 (0, 0))) (hrow : ∀ v, w.heap[gc]? = some (.cells #[.int .u32 id, .int .u64 next, v] 34 (0, 0)) → v.ownBlock ≠ some bx) (hge : w0.heap.size ≤ bx) (i : Nat) (u : Value) (hcs : ∀ (i : Nat) x, cs[i]? ≠ some (.int .u8 x)) :
    GSt w0 (w.setCell ⟨bx, i, none⟩ u) g gc b2 id next s xs := by
  obtain ⟨cg, hg⟩ := h.rs.typed
  obtain ⟨v, hc, ho⟩ := h.co
  have hf : Fr (At bx) w (w.setCell ⟨bx, i, none⟩ u) := Fr.one w bx i u
  refine ⟨?_, ⟨v, hf.blk hc (fun e => blk_ne hc hbx (by decide) e), own_fr ho hf ?_⟩, hf.blk h.z2 (fun e => blk_ne h.z2 hbx (by decide) e), h.bl.setCell (p := ⟨bx, i, none⟩) hge u, h.ge⟩
  · obtain ⟨ys, e, ⟨A, c, hb, hl, hA, hrd, hT⟩, h2⟩ := h.rs
    refine ⟨ys, e, ⟨A, c, hf.blk hb (fun e => blk_ne hb hbx (by decide) e), hl, hA, hf.rd hrd ?_, hT.keep hf (fun k cs hk e => blk_ne hk hbx (by decide) e)⟩, h2⟩
    rintro ad rfl h0 e
    exact Rd.ne hrd h0 hbx hcs e
  · intro k hk e
    have e : k = bx := e
    exact hrow v hc (by rw [hk, e])
end Go.Proofs.YtkgffeclgapkbaaDoor
namespace Go.Proofs.YtkgffeclgapkbaaDoor
open Go.RowKit Go.Proofs.YtkgffeclgapkbaaDoorW.PrintWords
set_option linter.unusedVariables false
set_option linter.unusedSimpArgs false
set_option maxRecDepth 100000
set_option maxHeartbeats 1000000 in
theorem EqualBytes_any (A0 : Option Addr) (c0 : Nat) (l0 : List Int) (A1 : Option Addr) (c1 : Nat) (l1 : List Int) (w : World) (hr0 : Rd w A0 l0) (hr1 : Rd w A1 l1) :
    Calls Tryd.prog 38 #[.slice A0 l0.length c0, .slice A1 l1.length c1] w fun e w' => e = .returned (.bool ((strOfNums l0).toList == (strOfNums l1).toList)) ∧ Fr No w w' := by
  have hcv3 := string_of_reads (P := Tryd.prog) (A := A0) (c := c0) Tryd.underlying28 Tryd.underlying5 Tryd.underlying9 hr0
  have hcv4 := string_of_reads (P := Tryd.prog) (A := A1) (c := c1) Tryd.underlying28 Tryd.underlying5 Tryd.underlying9 hr1
  clear hr0 hr1
  go_enter Tryd.func38, Tryd.ntmps38
  go_wp2
  go_ret
  exact ⟨rfl, by first | exact Fr.refl _ _ | exact (Fr.refl _ _).drew | exact (Fr.refl _ _).drew.drew⟩
theorem ixsCells_get (xs : List Ix) (j : Nat) (h : j < xs.length) : (ixsCells xs)[j * 3]? = some (.int .i64 (xs.getD j ix0).id) ∧ (ixsCells xs)[j * 3 + 1]? = some (.string (xs.getD j ix0).path) ∧ (ixsCells xs)[j * 3 + 2]? = some (.bool (xs.getD j ix0).un) := by
  induction xs generalizing j with
  | nil => simp at h
  | cons a l ih =>
    have hc : ixsCells (a :: l) = ixCells a ++ ixsCells l := by simp [ixsCells]
    rw [hc]
    cases j with
    | zero => simp [ixCells]
    | succ j =>
      have := ih j (by simpa using h)
      have e : ∀ i, (ixCells a ++ ixsCells l)[(j + 1) * 3 + i]? = (ixsCells l)[j * 3 + i]? := by
        intro i
        rw [List.getElem?_append_right (by simp [ixCells]; omega)]
        congr 1
        simp [ixCells]; omega
      have e0 := e 0
      simp only [Nat.add_zero] at e0
      rw [e0, e 1, e 2]
      simpa using this
theorem own_RdI {w : World} {base : Nat} {v : Value} {xs : List Ix} (h : w.ownsRow base 57 3 v xs.length (ixsCells xs)) : ∃ A c, v = .slice A xs.length c ∧ xs.length ≤ c ∧ RdI w A xs := by
  rcases h.2 with ⟨h1, h2⟩ | ⟨g, cap, cur, h1, hb, hh, hn, hm, hs, ht⟩
  · exact ⟨none, 0, by rw [h1, h2], by omega, fun j hj => by omega⟩
  · refine ⟨_, _, h1, hn, fun j hj => ⟨⟨g, 0, none⟩, rfl, ?_⟩⟩
    have hx := ixsCells_get xs j hj
    have e : ∀ i, i < 3 → cur[j * 3 + i]? = (ixsCells xs)[j * 3 + i]? := by
      intro i hi
      rw [← ht, List.getElem?_take, if_pos (by omega)]
      simp
    have hadd : (⟨g, 0, none⟩ : Addr).add (j * 3) = ⟨g, j * 3, none⟩ := by unfold Addr.add; split <;> simp_all
    rw [hadd]
    have e0 := e 0 (by decide)
    simp only [Nat.add_zero] at e0
    refine ⟨?_, ?_, ?_⟩
    · rw [blk_cell hh, e0]; exact hx.1
    · show w.cell? ⟨g, j * 3 + 1, none⟩ = _
      rw [blk_cell hh, e 1 (by decide)]; exact hx.2.1
    · show w.cell? ⟨g, j * 3 + 2, none⟩ = _
      rw [blk_cell hh, e 2 (by decide)]; exact hx.2.2
/-- what is left is no longer than it was -/
def Short (n : Nat) (s : Option (List Int)) : Prop := ∀ xs, s = some xs → xs.length ≤ n
theorem Short.num {n : Nat} {s : Option (List Int)} (h : Short n s) (m : Nat) : Short n (pNum m s).2 := by
  unfold pNum
  split
  · rename_i xs
    split
    · intro ys hy
      injection hy with hy
      have := h xs rfl
      rw [← hy, List.length_drop]; omega
    · intro ys hy; cases hy
  · intro ys hy; cases hy
theorem Short.bytes {n : Nat} {s : Option (List Int)} (h : Short n s) : Short n (pBytes s).2 ∧ (pBytes s).1.length ≤ n := by
  unfold pBytes
  split
  · rename_i xs
    have hx := h xs rfl
    split
    · rename_i ho
      refine ⟨fun ys hy => ?_, ?_⟩
      · injection hy with hy
        have := OkBytes_len ho
        rw [← hy]; omega
      · unfold bytesGot
        simp only [List.length_take, List.length_drop]
        omega
    · exact ⟨fun ys hy => (by cases hy), Nat.zero_le _⟩
  · exact ⟨fun ys hy => (by cases hy), Nat.zero_le _⟩
theorem pIxs_short {n : Nat} {s : Option (List Int)} (h : Short n s) (k : Nat) : Short n (pIxs s k).2 ∧ ∀ x, x ∈ (pIxs s k).1 → x.path.size ≤ n := by
  induction k with
  | zero => exact ⟨h, fun x hx => by cases hx⟩
  | succ k ih =>
    have h2 := ((ih.1.num 1).num 1).bytes
    refine ⟨h2.1, fun x hx => ?_⟩
    have hx : x ∈ (pIxs s k).1 ++ [(pIx (pIxs s k).2).1] := hx
    rcases List.mem_append.1 hx with hx | hx
    · exact ih.2 x hx
    · rw [List.mem_singleton.1 hx]
      show (strOfNums _).size ≤ n
      rw [strOfNums_size]
      exact h2.2
end Go.Proofs.YtkgffeclgapkbaaDoor
namespace Go.Proofs.YtkgffeclgapkbaaDoor
open Go.RowKit Go.Proofs.YtkgffeclgapkbaaDoorW.PrintWords
set_option linter.unusedVariables false
set_option linter.unusedSimpArgs false
set_option maxRecDepth 100000
def s1 (bs : List Int) : Option (List Int) := (pNum 4 (some bs)).2
def s2 (bs : List Int) : Option (List Int) := (pNum 8 (s1 bs)).2
def s3 (bs : List Int) : Option (List Int) := (pNum 1 (s2 bs)).2
def gId (bs : List Int) : Int := (pNum 4 (some bs)).1
def gNext (bs : List Int) : Int := (pNum 8 (s1 bs)).1
def gCnt (bs : List Int) : Int := (pNum 1 (s2 bs)).1
def gXs (bs : List Int) : List Ix := (pIxs (s3 bs) (gCnt bs).toNat).1
def gEnd (bs : List Int) : Option (List Int) := (pIxs (s3 bs) (gCnt bs).toNat).2
theorem info34 : (Tryd.prog.info? 34).map (·.size) = some 3 := by kernel_rfl
theorem fr_set3 {w w1 : World} {b : Nat} (h : Fr No w w1) (hb : w.heap.size ≤ b) (a1 a2 a3 : Value) : Fr No w (((w1.setCell ⟨b, 0, none⟩ a1).setCell ⟨b, 1, none⟩ a2).setCell ⟨b, 2, none⟩ a3) :=
  ((h.setCell (p := ⟨b, 0, none⟩) (.inr hb) a1).setCell (p := ⟨b, 1, none⟩) (.inr hb) a2).setCell (p := ⟨b, 2, none⟩) (.inr hb) a3
theorem fr_set3' (w1 : World) (b : Nat) (a1 a2 a3 : Value) : Fr (At b) w1 (((w1.setCell ⟨b, 0, none⟩ a1).setCell ⟨b, 1, none⟩ a2).setCell ⟨b, 2, none⟩ a3) :=
  (((Fr.refl (At b) w1).setCell (p := ⟨b, 0, none⟩) (.inl (show At b b from rfl)) a1).setCell (p := ⟨b, 1, none⟩) (.inl (show At b b from rfl)) a2).setCell (p := ⟨b, 2, none⟩) (.inl (show At b b from rfl)) a3
theorem blk_set3 {w : World} {b : Nat} {x1 x2 x3 : Value} (h : w.heap[b]? = some (.cells #[x1, x2, x3] 34 (0, 0))) (a1 a2 a3 : Value) : (((w.setCell ⟨b, 0, none⟩ a1).setCell ⟨b, 1, none⟩ a2).setCell ⟨b, 2, none⟩ a3).heap[b]? = some (.cells #[a1, a2, a3] 34 (0, 0)) := by
  simpa using blk_set (blk_set (blk_set h 0 a1) 1 a2) 2 a3
/-- A block laid since is not the row's. -/
theorem GSt.far {w0 w w1 : World} {g gc b2 : Nat} {id next : Int} {s : Option (List Int)} {xs : List Ix} (h : GSt w0 w g gc b2 id next s xs) (hf : Fr (At g) w w1) {b : Nat} (hb : w.heap.size ≤ b) : ∀ v, w1.heap[gc]? = some (.cells #[.int .u32 id, .int .u64 next, v] 34 (0, 0)) → v.ownBlock ≠ some b := by
  intro v hv hvb
  obtain ⟨cg, hg⟩ := h.rs.typed
  obtain ⟨v', hc, ho⟩ := h.co
  have h2 := hf.blk hc (fun e => blk_ne hc hg (by decide) e)
  rw [hv] at h2
  injection h2 with h2
  injection h2 with h2
  have : v = v' := by simpa using h2
  subst this
  have := own_lt ho b hvb
  omega
theorem no_u8 (a : Int) (b : ByteArray) (u : Bool) : ∀ (i : Nat) x, (#[Value.int .i64 a, .string b, .bool u] : Array Value)[i]? ≠ some (.int .u8 x) := by
  intro i x
  match i with
  | 0 => simp
  | 1 => simp
  | 2 => simp
  | i + 3 => simp
theorem own_rowN {w : World} {base n e size : Nat} {v : Value} {xs : List Value} (h : w.ownsRow base e size v n xs) : ∃ A c, v = .slice A n c := by
  rcases h.2 with ⟨h1, h2⟩ | ⟨g', cap, cur, h1, _⟩
  · exact ⟨none, 0, by rw [h1, h2]⟩
  · exact ⟨_, _, h1⟩
/-- .. nor a row's growth and the store of it. -/
theorem GSt.app {w0 w w1 : World} {g gc b2 : Nat} {id next : Int} {s : Option (List Int)} {xs : List Ix} (h : GSt w0 w g gc b2 id next s xs) {vr v1 : Value} {x : Ix} (hgrow : w.grownBy w1 vr.ownBlock) (hne : some gc ≠ vr.ownBlock) (hor : w.ownsRow w0.heap.size 57 3 vr xs.length (ixsCells xs)) (hcr : w.heap[gc]? = some (.cells #[.int .u32 id, .int .u64 next, vr] 34 (0, 0)))
    (hown : w1.ownsRow w0.heap.size 57 3 v1 (xs.length + 1) (ixsCells xs ++ ixCells x)) (hb : Below w0.heap.size w0 w1) : GSt w0 (w1.setCell ⟨gc, 2, none⟩ v1) g gc b2 id next s (xs ++ [x]) := by
  obtain ⟨cg, hg⟩ := h.rs.typed
  have hn2 : some gc ≠ v1.ownBlock := own_ne hown (blk_grown hcr hgrow hne) (by decide)
  refine ⟨?_, ⟨v1, by simpa using blk_set (blk_grown hcr hgrow hne) 2 v1, ?_⟩, blk_far (blk_grown h.z2 hgrow (own_ne hor h.z2 (by decide))) (fun e => h.ge.2.2.2 e.symm) _, hb.setCell (p := ⟨gc, 2, none⟩) h.ge.2.1 _, h.ge⟩
  · obtain ⟨ys, e, ⟨A, c, hb', hl, hA, hrd, hT⟩, h2⟩ := h.rs
    have hf : Fr (fun k => some k = vr.ownBlock) w w1 := (Fr.refl _ w).grown hgrow (fun b hb => .inl hb.symm)
    have hrd1 : Rd w1 A ys := hf.rd hrd (by
      rintro ad rfl h0 e
      obtain ⟨cells, ht⟩ := own_typed hor ad.block e.symm
      obtain ⟨cs5, ht5⟩ := hT ad rfl h0
      exact blk_ne ht ht5 (by decide) rfl)
    have hT1 : T5 w1 A ys := hT.keep hf (fun k cs hk e => by
      obtain ⟨cells, ht⟩ := own_typed hor k e.symm
      exact blk_ne ht hk (by decide) rfl)
    have hcr1 := blk_grown hcr hgrow hne
    refine ⟨ys, e, ⟨A, c, blk_far (blk_grown hb' hgrow (own_ne hor hb' (by decide))) (fun e => blk_ne hcr hb' (by decide) e.symm) _, hl, hA, (Fr.one w1 gc 2 v1).rd hrd1 ?_, hT1.keep (Fr.one w1 gc 2 v1) (fun k cs hk e => blk_ne hk hcr1 (by decide) e)⟩, h2⟩
    rintro ad rfl h0 e
    obtain ⟨cs5, ht5⟩ := hT1 ad rfl h0
    exact blk_ne ht5 hcr1 (by decide) e
  · rw [ixsCells_snoc]
    simpa using own_setCell hown (p := ⟨gc, 2, none⟩) hn2 v1
theorem pIxs_len (s : Option (List Int)) : ∀ k, (pIxs s k).1.length = k
  | 0 => rfl
  | k + 1 => by show ((pIxs s k).1 ++ [_]).length = _; rw [List.length_append, pIxs_len s k]; rfl
def putG (bs : List Int) : List Int := putL (gId bs) (gNext bs) (gXs bs)
def collOk (bs : List Int) : Bool := decide (gEnd bs = some []) && rightB (gId bs) (gNext bs) (gXs bs) && ((strOfNums (putG bs)).toList == (strOfNums bs).toList)
def GetPost (bs : List Int) (r : Ending) (w' : World) : Prop :=
  if collOk bs = true then ∃ A c, r = .returned (.tuple #[.agg #[.int .u32 (gId bs), .int .u64 (gNext bs), .slice A (gXs bs).length c], .int .i64 0]) ∧ (gXs bs).length ≤ c ∧ RdI w' A (gXs bs)
  else r = .returned (.tuple #[.agg #[.int .u32 0, .int .u64 0, .slice none 0 0], .int .i64 11])
theorem end_ok {ys : List Int} {e : Int} (h : abs ys e = some []) : endErr ys e = 0 := by
  unfold abs at h
  split at h
  · rename_i he
    injection h with h
    subst h he
    rfl
  · cases h
theorem end_no {ys : List Int} {e : Int} (h : abs ys e ≠ some []) : endErr ys e ≠ 0 := by
  unfold abs at h
  unfold endErr
  split at h
  · rename_i he
    subst he
    cases ys with
    | nil => exact absurd rfl h
    | cons a l => simp
  · rename_i he
    simp [he]
set_option maxHeartbeats 4000000 in
theorem Get_any (A : Option Addr) (c : Nat) (bs : List Int) (w : World) (hgl : Gl w) (hr : Rd w A bs) (hA : A = none → c = 0) (hb : Bs bs) (hl : bs.length ≤ 1000000) :
    Calls Tryd.prog 13 #[.slice A bs.length c] w fun r w' => GetPost bs r w' ∧ Fr No w w' := by
  have hra : Rd (w.alloc (.cells #[.int .u32 0, .int .u64 0, .slice none 0 0] 34)) A bs := Fr.rd0 ((Fr.refl No w).alloc _) hr
  have hNR := NewReader_any (w.alloc (.cells #[.int .u32 0, .int .u64 0, .slice none 0 0] 34)) A c bs hra hA (by omega)
  have HN := hide hNR
  have HH := hide (And.intro hgl (And.intro hr (And.intro hA (And.intro hb hl))))
  clear hNR hra hgl hr hA hb hl
  go_enter Tryd.func13, Tryd.ntmps13
  go_wp2_with fail
  refine HN.out.mono ?_
  rintro r w2 ⟨g, rfl, hR, hf, hge⟩
  have hS : RSt w2 g (some bs) := ⟨bs, 0, hR, HH.out.2.2.2.1, HH.out.2.2.2.2, rfl⟩
  have hz2 : w2.heap[w.heap.size]? = some (.cells #[.int .u32 0, .int .u64 0, .slice none 0 0] 34 (0, 0)) := hf.blk (heap_alloc_new w _) (fun h => h)
  have hgne : w.heap.size < g := by
    have : (w.alloc (.cells #[.int .u32 0, .int .u64 0, .slice none 0 0] 34)).heap.size = w.heap.size + 1 := by simp
    omega
  have H2 := hide (And.intro hS (And.intro hz2 (And.intro (((Fr.refl No w).alloc _).then0 hf) hgne)))
  clear hR hf hge hS hz2 hgne
  go_wp2_with fail
  refine (RNum_st 4 H2.out.1 (by decide) (by decide)).mono ?_
  rintro r w3 ⟨rfl, hS3, hf3⟩
  have hgid := pNum_range (s := some bs) (n := 4) H2.out.1.bs (by decide)
  obtain ⟨id, hid⟩ : ∃ x, (pNum 4 (some bs)).1 = x := ⟨_, rfl⟩
  have hid' : gId bs = id := hid
  have h16 : (256 : Int) ^ 4 = 4294967296 := by decide
  rw [hid, h16] at hgid
  rw [hid]
  have e0 : IntKind.u32.wrap id = id := IntWalk.u32_in _ (by omega)
  have hz3 := hf3.blk H2.out.2.1 (fun e => by have e : w.heap.size = g := e; have := H2.out.2.2.2; omega)
  have hF3 : Fr No w w3 := H2.out.2.2.1.trans hf3 (fun k hk => .inr (by have hk : k = g := hk; have := H2.out.2.2.2; omega))
  have H3 := hide (And.intro hS3 (And.intro hz3 (And.intro hF3 (And.intro hgid hid'))))
  have hgs := hS3.lt
  have hgg := H2.out.2.2.2
  clear hS3 hf3 hgid hid hid' hz3 hF3
  go_wp2_with fail
  refine (RNum_st (w := w3.alloc (.cells #[.int .u32 id, .int .u64 0, .slice none 0 0] 34)) (s := s1 bs) 8 ?_ (by decide) (by decide)).mono ?_
  · exact H3.out.1.keep ((Fr.refl _ _).alloc _)
  rintro r w4 ⟨rfl, hS4, hf4⟩
  have hgnx := pNum_range (s := s1 bs) (n := 8) H3.out.1.bs (by decide)
  obtain ⟨next, hnx⟩ : ∃ x, (pNum 8 (s1 bs)).1 = x := ⟨_, rfl⟩
  have hnx' : gNext bs = next := hnx
  have h64 : (256 : Int) ^ 8 = 18446744073709551616 := by decide
  rw [hnx, h64] at hgnx
  rw [hnx]
  have hzc : w4.heap[w3.heap.size]? = some (.cells #[.int .u32 id, .int .u64 0, .slice none 0 0] 34 (0, 0)) := hf4.blk (heap_alloc_new w3 _) (fun e => by have e : w3.heap.size = g := e; omega)
  have hcw := blk_cell hzc 1
  have hcf := blk_frozen hzc 1
  have hz4 : w4.heap[w.heap.size]? = some (.cells #[.int .u32 0, .int .u64 0, .slice none 0 0] 34 (0, 0)) := hf4.blk (((Fr.refl No w3).alloc _).blk H3.out.2.1 (fun h => h)) (fun e => by have e : w.heap.size = g := e; omega)
  have hF4 : Fr No w w4 := (H3.out.2.2.1.alloc _).trans hf4 (fun k hk => .inr (by have hk : k = g := hk; omega))
  have hF5 : Fr No w (w4.setCell ⟨w3.heap.size, 1, none⟩ (.int .u64 next)) := hF4.setCell (p := ⟨w3.heap.size, 1, none⟩) (.inr (by show w.heap.size ≤ w3.heap.size; exact H3.out.2.2.1.size)) _
  have hSr : RSt (w4.setCell ⟨w3.heap.size, 1, none⟩ (.int .u64 next)) g (s2 bs) := by
    obtain ⟨ys, e, ⟨A', c', hb', hl', hA', hrd', hT'⟩, h2'⟩ := hS4
    refine ⟨ys, e, ⟨A', c', (Fr.one w4 _ 1 _).blk hb' (fun e => by have e : g = w3.heap.size := e; omega), hl', hA', (Fr.one w4 _ 1 _).rd hrd' ?_, hT'.keep (Fr.one w4 _ 1 _) (fun k cs hk e => blk_ne hk hzc (by decide) e)⟩, h2'⟩
    rintro ad rfl h0 e
    exact Rd.ne hrd' h0 hzc (by
      intro i x
      match i with
      | 0 => simp
      | 1 => simp
      | 2 => simp
      | i + 3 => simp) e
  have H4 := hide (And.intro hSr (And.intro (show (w4.setCell ⟨w3.heap.size, 1, none⟩ (.int .u64 next)).heap[w.heap.size]? = some (.cells #[.int .u32 0, .int .u64 0, .slice none 0 0] 34 (0, 0)) from (Fr.one w4 _ 1 _).blk hz4 (fun e => by have e : w.heap.size = w3.heap.size := e; have := blk_lt H3.out.2.1; omega)) (And.intro (show (w4.setCell ⟨w3.heap.size, 1, none⟩ (.int .u64 next)).heap[w3.heap.size]? = some (.cells #[.int .u32 id, .int .u64 next, .slice none 0 0] 34 (0, 0)) by simpa using blk_set hzc 1 (.int .u64 next)) (And.intro hF5 (And.intro hgnx hnx')))))
  clear hS4 hf4 hgnx hnx hnx' hzc hz4 hF4 hF5 hSr
  go_wp2_with fail
  refine (RNum_st 1 H4.out.1 (by decide) (by decide)).mono ?_
  rintro r w5 ⟨rfl, hS5, hf5⟩
  have hgc := pNum_range (s := s2 bs) (n := 1) H4.out.1.bs (by decide)
  obtain ⟨cn, hcn⟩ : ∃ x, gCnt bs = x := ⟨_, rfl⟩
  have h1 : (256 : Int) ^ 1 = 256 := by decide
  rw [show (pNum 1 (s2 bs)).1 = gCnt bs from rfl, hcn, h1] at hgc
  rw [show (pNum 1 (s2 bs)).1 = gCnt bs from rfl, hcn]
  obtain ⟨n, rfl⟩ : ∃ n : Nat, cn = n := ⟨cn.toNat, by omega⟩
  have hnn : n < 256 := by omega
  have hG : GSt w w5 g w3.heap.size w.heap.size id next (s3 bs) [] := by
    have hz5 := hf5.blk H4.out.2.1 (fun e => by have e : w.heap.size = g := e; omega)
    have hc5 := hf5.blk H4.out.2.2.1 (fun e => by have e : w3.heap.size = g := e; omega)
    have hF := H4.out.2.2.2.1.trans hf5 (fun k hk => .inr (by have hk : k = g := hk; omega))
    exact ⟨hS5, ⟨_, hc5, own_nil _ _ _ _⟩, hz5, ⟨hF.os, hF.tape, hF.output, hF.size, fun k hk => hF.block k hk (fun h => h)⟩, by omega, H3.out.2.2.1.size, Nat.le_refl _, by have := blk_lt H3.out.2.1; omega⟩
  have HG := hide (And.intro hG (And.intro hcn H4.out.2.2.2.1.size))
  clear hG hgc hcn hS5 hf5 hcw hcf
  go_wp2_with fail
  go_loopw [20] (fun i wr => ∃ k : Nat, k ≤ n ∧ i = .int .u64 k ∧ Aside0 (GSt w wr g w3.heap.size w.heap.size id next (pIxs (s3 bs) k).2 (pIxs (s3 bs) k).1 ∧ w.heap.size ≤ wr.heap.size)) (fun i _ => n - (intOf i).toNat)
  case atStart => exact ⟨0, Nat.zero_le _, rfl, ⟨HG.out.1, HG.out.1.bl.size⟩⟩
  case round =>
    obtain ⟨k, hk, rfl, HS⟩ := hrel
    by_cases hlt : k < n
    · have hd : decide ((k : Int) < (n : Int)) = true := by simp; omega
      have hd' : decide (k < n) = true := by simp; omega
      go_wp2_with fail
      obtain ⟨xs, hxs⟩ : ∃ xs, (pIxs (s3 bs) k).1 = xs := ⟨_, rfl⟩
      obtain ⟨s, hs⟩ : ∃ s, (pIxs (s3 bs) k).2 = s := ⟨_, rfl⟩
      have hsu : pIxs (s3 bs) (k + 1) = (xs ++ [(pIx s).1], (pIx s).2) := by rw [← hxs, ← hs]; rfl
      have hxl : xs.length = k := by rw [← hxs]; exact pIxs_len _ _
      have HS := HS.out
      rw [hxs, hs] at HS
      have HU := hide (And.intro hsu hxl)
      have HK := hide HS
      clear hxs hs hsu hxl HS
      refine (RNum_st 1 HK.out.1.rs (by decide) (by decide)).mono ?_
      rintro r w6 ⟨rfl, hS6, hf6⟩
      have hr1 := pNum_range (s := s) (n := 1) HK.out.1.rs.bs (by decide)
      have h1 : (256 : Int) ^ 1 = 256 := by decide
      obtain ⟨v, hv⟩ : ∃ x, (pNum 1 s).1 = x := ⟨_, rfl⟩
      rw [hv, h1] at hr1
      rw [hv]
      have ev : IntKind.i64.wrap v = v := IntWalk.i64_in _ (by omega)
      have hG6 := HK.out.1.fr hf6 hS6 HK.out.2
      have H6 := hide (And.intro hG6 (And.intro hv (show w.heap.size ≤ w6.heap.size from Nat.le_trans HK.out.2 hf6.size)))
      clear hS6 hf6 hv hG6
      go_wp2_with fail
      refine (RNum_st (w := w6.alloc (.cells #[.int .i64 v, .string ByteArray.empty, .bool false] 57)) (s := (pNum 1 s).2) 1 ?_ (by decide) (by decide)).mono ?_
      · exact H6.out.1.rs.keep ((Fr.refl _ _).alloc _)
      rintro r w7 ⟨rfl, hS7, hf7⟩
      have hG7 := (H6.out.1.no ((Fr.refl _ _).alloc _) H6.out.2.2).fr hf7 hS7 (Nat.le_trans H6.out.2.2 ((Fr.refl No w6).alloc (.cells #[.int .i64 v, .string ByteArray.empty, .bool false] 57)).size)
      have hgl := H6.out.1.rs.lt
      have hx7 : w7.heap[w6.heap.size]? = some (.cells #[.int .i64 v, .string ByteArray.empty, .bool false] 57 (0, 0)) := hf7.blk (heap_alloc_new w6 _) (fun e => by have e : w6.heap.size = g := e; omega)
      have hF7 : Fr (At g) w6 w7 := ((Fr.refl (At g) w6).alloc _).trans hf7 (fun k hk => .inl hk)
      obtain ⟨v2, hv2⟩ : ∃ x, (pNum 1 (pNum 1 s).2).1 = x := ⟨_, rfl⟩
      obtain ⟨s', hs'⟩ : ∃ x, (pNum 1 (pNum 1 s).2).2 = x := ⟨_, rfl⟩
      obtain ⟨un, hun⟩ : ∃ x, (v2 == 1) = x := ⟨_, rfl⟩
      have hun2 : decide (v2 = 1) = un := by rw [← hun]; rfl
      rw [hv2]
      rw [hs'] at hG7
      have hxc := blk_frozen hx7 2
      have hxd := blk_cell hx7 2
      have hF8 : Fr (At g) w6 (w7.setCell ⟨w6.heap.size, 2, none⟩ (.bool un)) := hF7.setCell (p := ⟨w6.heap.size, 2, none⟩) (.inr (Nat.le_refl _)) _
      have hG8 := hG7.set_ hx7 (H6.out.1.far hF7 (Nat.le_refl _)) H6.out.2.2 2 (.bool un) (no_u8 _ _ _)
      have hx8 : (w7.setCell ⟨w6.heap.size, 2, none⟩ (.bool un)).heap[w6.heap.size]? = some (.cells #[.int .i64 v, .string ByteArray.empty, .bool un] 57 (0, 0)) := by simpa using blk_set hx7 2 (.bool un)
      have hw8 : w.heap.size ≤ (w7.setCell ⟨w6.heap.size, 2, none⟩ (.bool un)).heap.size := Nat.le_trans H6.out.2.2 hF8.size
      have H8 := hide (And.intro hG8 (And.intro hF8 (And.intro hx8 (And.intro hv2 (And.intro hs' (And.intro hun hw8))))))
      clear hG7 hS7 hf7 hx7 hF7 hv2 hs' hF8 hG8 hx8 hw8
      go_wp2_with fail
      have hrs := H8.out.1.rs
      obtain ⟨ys, e, hR, hB, hL, habs⟩ := hrs
      have HR := hide (And.intro hR (And.intro hB habs))
      clear hR hB habs hxc hxd hun hun2
      refine (Left_any g _ ys e HR.out.1).mono ?_
      rintro r w8 ⟨rfl, rfl⟩
      go_wp2_with fail
      refine (RBytes_st HR.out.1 HR.out.2.1 hL).mono ?_
      rintro r w9 ⟨vv, rfl, hm, hS9, hf9⟩
      rw [HR.out.2.2] at hm hS9
      obtain ⟨got, hgot⟩ : ∃ x, (pBytes s').1 = x := ⟨_, rfl⟩
      rw [hgot] at hm
      obtain ⟨Av, cv, rfl, _, _, hrdv⟩ := own_rd hm
      have hcv := string_of_reads (P := Tryd.prog) (c := cv) (src := 28) (dst := 9) Tryd.underlying28 Tryd.underlying5 Tryd.underlying9 hrdv
      have hG9 := H8.out.1.fr hf9 hS9 H8.out.2.2.2.2.2.2
      have hF9 := H8.out.2.1.trans hf9 (fun k hk => .inl hk)
      have hx9 := hf9.blk H8.out.2.2.1 (fun e => by have e : w6.heap.size = g := e; omega)
      have hxf := blk_frozen hx9 1
      have hxd9 : w9.cell? ⟨w6.heap.size, 1, none⟩ = some (.string ByteArray.empty) := blk_cell hx9 1
      obtain ⟨st, hst⟩ : ∃ x, strOfNums got = x := ⟨_, rfl⟩
      rw [hst] at hcv
      have hw9 : w.heap.size ≤ w9.heap.size := Nat.le_trans H8.out.2.2.2.2.2.2 hf9.size
      have hF10 : Fr (At g) w6 (w9.setCell ⟨w6.heap.size, 1, none⟩ (.string st)) := hF9.setCell (p := ⟨w6.heap.size, 1, none⟩) (.inr (Nat.le_refl _)) _
      have hG10 := hG9.set_ hx9 (H6.out.1.far hF9 (Nat.le_refl _)) H6.out.2.2 1 (.string st) (no_u8 _ _ _)
      have hx10 : (w9.setCell ⟨w6.heap.size, 1, none⟩ (.string st)).heap[w6.heap.size]? = some (.cells #[.int .i64 v, .string st, .bool un] 57 (0, 0)) := by simpa using blk_set hx9 1 (.string st)
      have hw10 : w.heap.size ≤ (w9.setCell ⟨w6.heap.size, 1, none⟩ (.string st)).heap.size := Nat.le_trans H6.out.2.2 hF10.size
      obtain ⟨w10, h10⟩ : ∃ x, w9.setCell ⟨w6.heap.size, 1, none⟩ (.string st) = x := ⟨_, rfl⟩
      rw [h10] at hF10 hG10 hx10 hw10
      obtain ⟨vr, hcr, hor⟩ := hG10.co
      obtain ⟨Ar, cr, rfl⟩ : ∃ A c, vr = .slice A xs.length c := by
        rcases hor.2 with ⟨h1, h2⟩ | ⟨g', cap, cur, h1, _⟩
        · exact ⟨none, 0, by rw [h1, h2]⟩
        · exact ⟨_, _, h1⟩
      have hl2 : w10.cell? ⟨w3.heap.size, 2, none⟩ = some (.slice Ar xs.length cr) := blk_cell hcr 2
      have hlz : w10.frozen? ⟨w3.heap.size, 2, none⟩ = false := blk_frozen hcr 2
      have hx0 : w10.cell? ⟨w6.heap.size, 0, none⟩ = some (.int .i64 v) := blk_cell hx10 0
      have hx1 : w10.cell? ⟨w6.heap.size, 1, none⟩ = some (.string st) := blk_cell hx10 1
      have hx2 : w10.cell? ⟨w6.heap.size, 2, none⟩ = some (.bool un) := blk_cell hx10 2
      have hbl10 := hG10.bl
      have hpx : (pIx s).1 = ⟨v, st, un⟩ := by
        unfold pIx
        rw [H8.out.2.2.2.1, H8.out.2.2.2.2.1, hgot, hst, H8.out.2.2.2.2.2.1, H6.out.2.1]
      have hps : (pIx s).2 = (pBytes s').2 := by
        unfold pIx
        rw [H8.out.2.2.2.2.1]
      have H10 := hide (And.intro hF10 (And.intro hG10 (And.intro hx10 (And.intro hw10 (And.intro hcr (And.intro hor (And.intro hpx hps)))))))
      have hxlk : xs.length ≤ 255 := by have := HU.out.2; omega
      have HB10 := hide hbl10
      clear hF10 hG10 hx10 hpx hps hbl10 hx9 hF9 hG9 hm hrdv hgot hst hS9 hf9 hw9
      have HOR := hide hor
      have hne : some w3.heap.size ≠ (Value.slice Ar xs.length cr).ownBlock := own_ne hor hcr (by decide)
      clear hor hcr
      go_upto_region 9 with fail
      try rw [h10]
      clear h10
      go_wp2_with (at_builtin; go_loud (refine print_append_cells (w0 := w) w.heap.size rfl (.tmp 37) (.tmp 39) 32 57 (.agg #[.int .i64 0, .string ByteArray.empty, .bool false]) 3 32 rfl Tryd.underlying32 info57 rfl (by decide) (by decide) (.slice Ar xs.length cr) xs.length (ixsCells xs) [.int .i64 v, .string st, .bool un] rfl rfl rfl (by intro u hu; simp at hu; rcases hu with rfl | rfl | rfl <;> rfl) HOR.out HB10.out H10.out.2.2.2.1 (by omega) ?_); intro v1 w1 hown1 hb1 hgrow hat; obtain ⟨hc1, hz1⟩ := keepGrow hl2 hlz hgrow hne; obtain ⟨A1, c1, rfl⟩ := own_rowN hown1)
      have hne2 : some w3.heap.size ≠ (Value.slice A1 (xs.length + 1) c1).ownBlock := by
        have hcr1 := blk_grown H10.out.2.2.2.2.1 hgrow hne
        exact own_ne hown1 hcr1 (by decide)
      have hgrow' := hgrow
      have hGf := H10.out.2.1.app (x := ⟨v, st, un⟩) hgrow' hne HOR.out H10.out.2.2.2.2.1 hown1 hb1
      have HGF := hide (And.intro hGf (And.intro H10.out.2.2.2.2.2.2.1 H10.out.2.2.2.2.2.2.2))
      go_wp2_with fail
      go_roundw
      case rel =>
        refine ⟨k + 1, by omega, by go_num, ⟨?_⟩⟩
        rw [HU.out.1]
        have h := HGF.out
        rw [h.2.1, h.2.2]
        exact ⟨h.1, by simpa using hb1.size⟩
      case measure => simp [intOf]; omega
    · have hkn : k = n := by omega
      subst hkn
      have hd : decide ((k : Int) < (k : Int)) = false := by simp
      have hd' : decide (k < k) = false := by simp
      have hcn := HG.out.2.1
      have hx1 : (pIxs (s3 bs) k).1 = gXs bs := by unfold gXs; rw [hcn]; rfl
      have hx2 : (pIxs (s3 bs) k).2 = gEnd bs := by unfold gEnd; rw [hcn]; rfl
      have hxl : (gXs bs).length ≤ 255 := by rw [← hx1, pIxs_len]; omega
      have hsh : Short 1000000 (some bs) := fun xs hx => by injection hx with hx; rw [← hx]; exact HH.out.2.2.2.2
      have hpz : ∀ x, x ∈ gXs bs → x.path.size ≤ 1000000 := (pIxs_short (((hsh.num 4).num 8).num 1) (gCnt bs).toNat).2
      rw [hx1, hx2] at HS
      obtain ⟨xs, hxs⟩ : ∃ xs, gXs bs = xs := ⟨_, rfl⟩
      have hcok : collOk bs = (decide (gEnd bs = some []) && rightB id next xs && ((strOfNums (putL id next xs)).toList == (strOfNums bs).toList)) := by
        unfold collOk putG
        rw [H3.out.2.2.2.2, H4.out.2.2.2.2.2, hxs]
      have hpost : ∀ r w', GetPost bs r w' = (if collOk bs = true then ∃ A c, r = .returned (.tuple #[.agg #[.int .u32 id, .int .u64 next, .slice A xs.length c], .int .i64 0]) ∧ xs.length ≤ c ∧ RdI w' A xs else r = .returned (.tuple #[.agg #[.int .u32 0, .int .u64 0, .slice none 0 0], .int .i64 11])) := by
        intro r w'
        unfold GetPost
        rw [H3.out.2.2.2.2, H4.out.2.2.2.2.2, hxs]
      rw [hxs] at HS hxl hpz
      have HE := hide (And.intro hcok (And.intro hpost (And.intro hpz HS.out.1)))
      have hz := HS.out.1.z2
      have hzf := blk_frozen hz
      obtain ⟨ys, e, hR, hB, hL, habs⟩ := HS.out.1.rs
      have HR := hide (And.intro hR habs)
      have hbl := HS.out.1.bl
      have hFr : Fr No w wr := ⟨hbl.os, hbl.tape, hbl.output, hbl.size, fun k hk _ => hbl.block k hk⟩
      have HFr := hide hFr
      clear hFr hbl hR hB habs hz hzf hcok hpost hpz hx1 hx2 hxs hsh hcn HS
      go_wp2_with fail
      refine (End_any g wr ys e HR.out.1).mono ?_
      rintro r w9 ⟨rfl, rfl⟩
      obtain ⟨ee, hee⟩ : ∃ x, endErr ys e = x := ⟨_, rfl⟩
      rw [hee]
      have HEE := hide hee
      clear hee
      have hz0 : wr.cell? ⟨w.heap.size, 0, none⟩ = some (.int .u32 0) := blk_cell HE.out.2.2.2.z2 0
      have hz1 : wr.cell? ⟨w.heap.size, 1, none⟩ = some (.int .u64 0) := blk_cell HE.out.2.2.2.z2 1
      have hz2 : wr.cell? ⟨w.heap.size, 2, none⟩ = some (.slice none 0 0) := blk_cell HE.out.2.2.2.z2 2
      have hf0 := blk_frozen HE.out.2.2.2.z2 0
      have hf1 := blk_frozen HE.out.2.2.2.z2 1
      have hf2 := blk_frozen HE.out.2.2.2.z2 2
      have hHz := HE.out.2.2.2.z2
      by_cases h0 : gEnd bs = some []
      · have he0 : ee = 0 := by
          have := HEE.out
          rw [end_ok (ys := ys) (e := e) (by rw [HR.out.2]; exact h0)] at this
          exact this.symm
        subst he0
        have H0 := hide h0
        obtain ⟨vr, hcr, hor⟩ := HE.out.2.2.2.co
        obtain ⟨Ar, cr, rfl, hle, hri⟩ := own_RdI hor
        have hc0 : wr.cell? ⟨w3.heap.size, 0, none⟩ = some (.int .u32 id) := blk_cell hcr 0
        have hc1 : wr.cell? ⟨w3.heap.size, 1, none⟩ = some (.int .u64 next) := blk_cell hcr 1
        have hc2 : wr.cell? ⟨w3.heap.size, 2, none⟩ = some (.slice Ar xs.length cr) := blk_cell hcr 2
        have HC := hide (And.intro hcr (And.intro hri hle))
        have hnb : ∀ ad, Ar = some ad → ¬ At w.heap.size ad.block := by
          rintro ad rfl e
          have e : ad.block = w.heap.size := e
          exact own_ne hor HE.out.2.2.2.z2 (by decide) (by rw [← e]; rfl)
        have HNB := hide hnb
        clear hnb
        have hP := Put_any id next Ar cr xs wr (HH.out.1.keep0 HFr.out) hri hle (H3.out.2.2.2.1) (H4.out.2.2.2.2.1) (by omega) HE.out.2.2.1
        have HP := hide hP
        have hrA := HFr.out.rd0 HH.out.2.1
        have HRA := hide hrA
        clear hP hcr hor hri h0 hrA hHz
        go_wp2_with fail
        refine HP.out.mono ?_
        rintro r w9 ⟨hpp, hf9⟩
        unfold PutPost at hpp
        have hz9 := hf9.blk HE.out.2.2.2.z2 (fun h => h)
        have hc9 := hf9.blk HC.out.1 (fun h => h)
        have hF9 := HFr.out.then0 hf9
        have hy0 : w9.cell? ⟨w.heap.size, 0, none⟩ = some (.int .u32 0) := blk_cell hz9 0
        have hy1 : w9.cell? ⟨w.heap.size, 1, none⟩ = some (.int .u64 0) := blk_cell hz9 1
        have hy2 : w9.cell? ⟨w.heap.size, 2, none⟩ = some (.slice none 0 0) := blk_cell hz9 2
        have hg0 := blk_frozen hz9 0
        have hg1 := blk_frozen hz9 1
        have hg2 := blk_frozen hz9 2
        by_cases hrb : rightB id next xs = true
        · rw [if_pos hrb] at hpp
          obtain ⟨v, rfl, hm⟩ := hpp
          obtain ⟨Av, cv, rfl, hlv, hrv⟩ := hm.rd
          have hE := EqualBytes_any Av cv (putL id next xs) A c bs w9 hrv (hf9.rd0 HRA.out)
          obtain ⟨L, hL⟩ : ∃ L, putL id next xs = L := ⟨_, rfl⟩
          obtain ⟨q, hq⟩ : ∃ q, ((strOfNums (putL id next xs)).toList == (strOfNums bs).toList) = q := ⟨_, rfl⟩
          rw [hq] at hE
          rw [hL] at hE ⊢
          have HQ := hide (And.intro hq (And.intro hrb (And.intro (HC.out.2.1.keep0 hf9) HC.out.2.2)))
          have HE2 := hide hE
          have HZ := hide (And.intro hz9 (And.intro hF9 hc9))
          clear hz9 hc9 hF9 hrb hc0 hc1 hc2 hz0 hz1 hz2 hf0 hf1 hf2 hq hE hL hm hrv hy0 hy1 hy2 hg0 hg1 hg2 hf9
          go_wp2_with fail
          refine HE2.out.mono ?_
          rintro r w10 ⟨rfl, hf10⟩
          have hz10 := hf10.blk HZ.out.1 (fun h => h)
          have hc10 := hf10.blk HZ.out.2.2 (fun h => h)
          have hF10 := HZ.out.2.1.then0 hf10
          have hy0 : w10.cell? ⟨w.heap.size, 0, none⟩ = some (.int .u32 0) := blk_cell hz10 0
          have hy1 : w10.cell? ⟨w.heap.size, 1, none⟩ = some (.int .u64 0) := blk_cell hz10 1
          have hy2 : w10.cell? ⟨w.heap.size, 2, none⟩ = some (.slice none 0 0) := blk_cell hz10 2
          have hg0 := blk_frozen hz10 0
          have hg1 := blk_frozen hz10 1
          have hg2 := blk_frozen hz10 2
          have hd0 : w10.cell? ⟨w3.heap.size, 0, none⟩ = some (.int .u32 id) := blk_cell hc10 0
          have hd1 : w10.cell? ⟨w3.heap.size, 1, none⟩ = some (.int .u64 next) := blk_cell hc10 1
          have hd2 : w10.cell? ⟨w3.heap.size, 2, none⟩ = some (.slice Ar xs.length cr) := blk_cell hc10 2
          have HY := hide (And.intro hz10 (And.intro hF10 (HQ.out.2.2.1.keep0 hf10)))
          clear hz10 hc10 hF10 hf10
          cases q
          · go_wp2_with fail
            refine bodyPost_ret (results_ct rfl _ _ w.heap.size 34 #[.int .u32 0, .int .u64 0, .slice none 0 0] (0, 0) _ rfl (blk_set3 HY.out.1 _ _ _) Tryd.underlying34 rfl info34) rfl ⟨?_, fr_set3 HY.out.2.1 (Nat.le_refl _) _ _ _⟩
            rw [HE.out.2.1, if_neg (by rw [HE.out.1, HQ.out.1]; simp)]
            rfl
          · go_wp2_with fail
            refine bodyPost_ret (results_ct rfl _ _ w.heap.size 34 #[.int .u32 id, .int .u64 next, .slice Ar xs.length cr] (0, 0) _ rfl (blk_set3 HY.out.1 _ _ _) Tryd.underlying34 rfl info34) rfl ⟨?_, fr_set3 HY.out.2.1 (Nat.le_refl _) _ _ _⟩
            rw [HE.out.2.1, if_pos (by rw [HE.out.1, HQ.out.1, HQ.out.2.1, H0.out]; simp)]
            exact ⟨Ar, cr, rfl, HQ.out.2.2.2, HY.out.2.2.keep (fr_set3' w10 w.heap.size _ _ _) HNB.out⟩
        · rw [if_neg hrb] at hpp
          subst hpp
          have HZ := hide (And.intro hz9 (And.intro hF9 hrb))
          clear hz9 hc9 hF9 hrb hc0 hc1 hc2 hz0 hz1 hz2 hf0 hf1 hf2
          go_wp2_with fail
          refine bodyPost_ret (results_ct rfl _ _ w.heap.size 34 #[.int .u32 0, .int .u64 0, .slice none 0 0] (0, 0) _ rfl (blk_set3 HZ.out.1 _ _ _) Tryd.underlying34 rfl info34) rfl ⟨?_, fr_set3 HZ.out.2.1 (Nat.le_refl _) _ _ _⟩
          rw [HE.out.2.1, if_neg (by rw [HE.out.1]; simp [HZ.out.2.2])]
          rfl
      · have hne : (ee != 0) = true := by
          have := HEE.out
          have h2 := end_no (ys := ys) (e := e) (by rw [HR.out.2]; exact h0)
          rw [this] at h2
          simpa using h2
        have H0 := hide h0
        clear h0
        go_wp2_with fail
        refine bodyPost_ret (results_ct rfl _ _ w.heap.size 34 #[.int .u32 0, .int .u64 0, .slice none 0 0] (0, 0) _ rfl (blk_set3 hHz _ _ _) Tryd.underlying34 rfl info34) rfl ⟨?_, fr_set3 HFr.out (Nat.le_refl _) _ _ _⟩
        rw [HE.out.2.1, if_neg (by rw [HE.out.1]; simp [H0.out])]
        rfl
end Go.Proofs.YtkgffeclgapkbaaDoor
