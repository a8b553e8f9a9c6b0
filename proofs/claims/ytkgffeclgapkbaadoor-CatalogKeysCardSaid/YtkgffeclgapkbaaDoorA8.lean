/- octet's Reader: Var, Bytes. -/
import Derived.Test.YtkgffeclgapkbaaDoorA7
import Derived.Test.YtkgffeclgapkbaaDoorWMore
namespace Go.Proofs.YtkgffeclgapkbaaDoor
open Go.RowKit Go.Proofs.YtkgffeclgapkbaaDoorW.PrintWords Go.Proofs.YtkgffeclgapkbaaDoorW.PrintMore
attribute [local go_sem] min2_int min_two
set_option linter.unusedVariables false
set_option linter.unusedSimpArgs false
set_option maxRecDepth 100000
set_option maxHeartbeats 1000000 in
theorem RVar_err (g : Nat) (w : World) (xs : List Int) (e : Int) (h : IsR w g xs e) (he : e ≠ 0) :
    Calls Tryd.prog 59 #[.pointer (some ⟨g, 0, none⟩)] w fun r w' => r = .returned (.int .u64 0) ∧ w = w' := by
  have H := hide h
  have hd : (e != 0) = true := by simpa using he
  clear h he
  go_enter Tryd.func59, Tryd.ntmps59
  go_wp2_with (go_at_call 60; refine (Err_any _ _ _ _ H.out).mono ?_; rintro r w' ⟨rfl, rfl⟩)
  go_ret
  exact ⟨rfl, rfl⟩
theorem Fr.of_no {S : Nat → Prop} {w w1 : World} (h : Fr No w w1) : Fr S w w1 := h.mono (fun _ h => h.elim)
theorem quiet_left' {P : Program} {f : FuncId} {args : Array Value} {w : World} {n : Nat} {v : Value}
    (h : Calls P f args (w.drewN n) fun e w' => e = .returned v ∧ w.drewN n = w') : Calls P f args (w.drewN n) fun e w'' => e = .returned v ∧ ∃ m, w'' = w.drewN m :=
  h.mono fun _ _ ⟨he, hm⟩ => ⟨he, n, hm.symm⟩
/-- how many bytes a number that is read has; 0: there is none -/
def varN (xs : List Int) : Nat := (idx (xs.take 10) + 1).toNat
theorem cut28h (A : Option Addr) (n c m : Nat) (hm : m ≤ n) (hn : n ≤ c) (W : World) : (Instr.slice 28 (.slice A n c) none (some (.int .i64 (m : Int))) none).run Tryd.prog W = .ok (.slice A m c) W := by
  obtain ⟨i0, hi0, _, hz1, _⟩ := info_parts info5
  have hel : Tryd.prog.elem 28 = 5 := by simp [Program.elem, Tryd.underlying28]
  have hu : Tryd.prog.underlying 28 = some (.slice (Tryd.prog.elem 28)) := by rw [hel]; exact Tryd.underlying28
  have ha : (A.map fun x => x.add 0) = A := by cases A <;> simp [Addr.add]
  rw [run_slice_h W 28 A n c hu .i64 m (Int.natCast_nonneg _) (by omega), hel]
  simp [sizeOf, typeInfo, hi0, hz1, sliced, Result.andThen, ha]
theorem Rd.take {w : World} {A : Option Addr} {xs : List Int} (hr : Rd w A xs) (n : Nat) (hn : n ≤ xs.length) : Rd w A (xs.take n) := by
  have := hr.take_ n hn
  unfold Rd
  rw [List.length_take, Nat.min_eq_left hn]
  exact this
set_option maxHeartbeats 1000000 in
theorem RVar_none (g : Nat) (w : World) (xs : List Int) (h : IsR w g xs 0) (hs : xs.length ≤ 100000000) (hn : varN xs = 0) :
    Calls Tryd.prog 59 #[.pointer (some ⟨g, 0, none⟩)] w fun r w' => r = .returned (.int .u64 0) ∧ (∃ e, e ≠ 0 ∧ IsR w' g xs e) ∧ Fr (At g) w w' := by
  have H := hide h
  obtain ⟨A, c, hb, hl, hA, hr, _⟩ := h
  have h0 : w.cell? ⟨g, 0, none⟩ = some (.slice A xs.length c) := blk_cell hb 0
  obtain ⟨m, hm⟩ : ∃ m, m = min xs.length 10 := ⟨_, rfl⟩
  have hmx : m ≤ xs.length := by omega
  have htk : xs.take 10 = xs.take m := by
    rcases Nat.le_total xs.length 10 with h | h
    · rw [List.take_of_length_le h, List.take_of_length_le (by omega)]
    · rw [hm, Nat.min_eq_right h]
  have hml : (xs.take m).length = m := by rw [List.length_take]; omega
  have e1 := cut28h A xs.length c m hmx hl
  have hmi : min (xs.length : Int) 10 = (m : Int) := by omega
  have hid : idx (xs.take m) = -1 := by
    have : idx (xs.take 10) + 1 ≤ 0 := by unfold varN at hn; omega
    rw [← htk]
    unfold idx at this ⊢
    split
    · rename_i hh; rw [if_pos hh] at this; omega
    · rfl
  have hif : ∀ W, Dr w W → Calls Tryd.prog 69 #[.slice A m c, .func (.func 70) #[] #[]] W fun r w' => r = .returned (.int .i64 (-1)) ∧ W = w' := by
    intro W hd
    have := IndexFunc_any W A c (xs.take m) (hd.fr.rd0 (hr.take m hmx)) (by omega)
    rw [hml, hid] at this
    exact this
  have HIF := hide hif
  have HM := hide (And.intro hm (And.intro htk hml))
  clear hif hr hA hid hm htk hml
  have hif2 : (if (10 : Int) < (xs.length : Int) then (10 : Int) else (xs.length : Int)) = (m : Int) := by split <;> omega
  go_enter Tryd.func59, Tryd.ntmps59
  go_wp2_with (go_at_call 60; refine (Err_any _ _ _ _ H.out).mono ?_; rintro r w' ⟨rfl, rfl⟩)
  go_quiet ((go_at_call 69; exact quiet_left' (HIF.out _ ⟨_, rfl⟩)))
  go_wp2_with fail
  · refine (fail_any g _ xs 0 11 (H.out.keep (Dr.fr ⟨_, rfl⟩))).mono ?_
    rintro r w1 ⟨rfl, hR, hf⟩
    go_wp2_with fail
    refine (fail_any g _ xs _ 10 hR).mono ?_
    rintro r w2 ⟨rfl, hR2, hf2⟩
    go_wp2_with fail
    go_ret
    refine ⟨rfl, ⟨_, ?_, hR2⟩, ((Fr.of_no (Dr.fr ⟨_, rfl⟩)).trans (T := At g) hf (fun _ h => .inl h)).trans hf2 (fun _ h => .inl h)⟩
    simp [failE]
  · refine (fail_any g _ xs 0 10 (H.out.keep (Dr.fr ⟨_, rfl⟩))).mono ?_
    rintro r w1 ⟨rfl, hR, hf⟩
    go_wp2_with fail
    go_ret
    exact ⟨rfl, ⟨_, by simp [failE], hR⟩, (Fr.of_no (Dr.fr ⟨_, rfl⟩)).trans hf (fun _ h => .inl h)⟩
/-- the number of bytes read as a varint's -/
def varX (xs : List Int) : Int := xs.foldl (fun x c => bits .or .u64 (IntKind.u64.wrap (x * 128)) (IntKind.u64.wrap (c % 128))) 0
theorem varX_snoc (xs : List Int) (c : Int) : varX (xs ++ [c]) = bits .or .u64 (IntKind.u64.wrap (varX xs * 128)) (IntKind.u64.wrap (c % 128)) := by simp [varX, List.foldl_append]
theorem bits_or_range (a b : Int) : 0 ≤ bits .or .u64 a b ∧ bits .or .u64 a b < 18446744073709551616 := by
  show 0 ≤ IntKind.u64.wrap _ ∧ IntKind.u64.wrap _ < _
  simp [IntKind.wrap, IntKind.bits, IntKind.signed]; omega
theorem varX_range (xs : List Int) : 0 ≤ varX xs ∧ varX xs < 18446744073709551616 := by
  rcases List.eq_nil_or_concat xs with rfl | ⟨l, c, rfl⟩
  · exact ⟨by decide, by decide⟩
  · rw [List.concat_eq_append, varX_snoc]
    exact bits_or_range _ _
def VarPost (g : Nat) (xs ys : List Int) (n : Nat) (r : Ending) (w' : World) : Prop :=
  if shortL (varX ys).toNat = ys then r = .returned (.int .u64 (varX ys)) ∧ IsR w' g (xs.drop n) 0 else r = .returned (.int .u64 0) ∧ ∃ e, e ≠ 0 ∧ IsR w' g xs e
set_option maxHeartbeats 1000000 in
theorem RVar_ok (g : Nat) (w : World) (xs : List Int) (h : IsR w g xs 0) (hs : xs.length ≤ 100000000) (hbs : Bs xs) (hn : 0 < varN xs) :
    Calls Tryd.prog 59 #[.pointer (some ⟨g, 0, none⟩)] w fun r w' =>
      VarPost g xs (xs.take (varN xs)) (varN xs) r w' ∧ Fr (At g) w w' := by
  have H := hide h
  obtain ⟨A, c, hb, hl, hA, hr, _⟩ := h
  have h0 : w.cell? ⟨g, 0, none⟩ = some (.slice A xs.length c) := blk_cell hb 0
  obtain ⟨m, hm⟩ : ∃ m, m = min xs.length 10 := ⟨_, rfl⟩
  have hmx : m ≤ xs.length := by omega
  have htk : xs.take 10 = xs.take m := by
    rcases Nat.le_total xs.length 10 with h | h
    · rw [List.take_of_length_le h, List.take_of_length_le (by omega)]
    · rw [hm, Nat.min_eq_right h]
  have hml : (xs.take m).length = m := by rw [List.length_take]; omega
  have e1 := cut28h A xs.length c m hmx hl
  obtain ⟨n, hnn⟩ : ∃ n, varN xs = n + 1 := ⟨varN xs - 1, by omega⟩
  have hid : idx (xs.take m) = (n : Int) := by
    unfold varN at hnn
    rw [htk] at hnn
    omega
  have hnm : n + 1 ≤ m := by
    unfold idx at hid
    split at hid
    · rename_i hh
      rw [hml] at hh
      omega
    · omega
  have hm10 : m ≤ 10 := by omega
  have hif : ∀ W, Dr w W → Calls Tryd.prog 69 #[.slice A m c, .func (.func 70) #[] #[]] W fun r w' => r = .returned (.int .i64 (n : Int)) ∧ W = w' := by
    intro W hd
    have := IndexFunc_any W A c (xs.take m) (hd.fr.rd0 (hr.take m hmx)) (by omega)
    rw [hml, hid] at this
    exact this
  have HIF := hide hif
  rw [hnn]
  obtain ⟨ys, hys⟩ : ∃ ys, xs.take (n + 1) = ys := ⟨_, rfl⟩
  have hyl : ys.length = n + 1 := by rw [← hys, List.length_take]; omega
  have hyb : Bs ys := by rw [← hys]; exact fun b hb' => hbs b (List.mem_of_mem_take hb')
  have hry : Rd w A ys := by rw [← hys]; exact hr.take _ (by omega)
  rw [hys]
  have hif2 : (if (10 : Int) < (xs.length : Int) then (10 : Int) else (xs.length : Int)) = (m : Int) := by split <;> omega
  have e2 := cut28h A xs.length c (n + 1) (by omega) hl
  rw [show ((n + 1 : Nat) : Int) = (n : Int) + 1 by omega] at e2
  have hz0 : (((n : Int) + 1) == 0) = false := by simp; omega
  have HY := hide (And.intro hys (And.intro hyl hr))
  have hyl1 : ys.length ≤ n + 1 := by omega
  have hyl2 : n + 1 ≤ ys.length := by omega
  clear hif hA hid hm htk hml hys hyl hr hnn hn
  go_enter Tryd.func59, Tryd.ntmps59
  go_wp2_with (go_at_call 60; refine (Err_any _ _ _ _ H.out).mono ?_; rintro r w' ⟨rfl, rfl⟩)
  go_quiet ((go_at_call 69; exact quiet_left' (HIF.out _ ⟨_, rfl⟩)))
  go_wp2_with fail
  have hryq := (Dr.fr ⟨nq, rfl⟩ : Fr No w (w.drewN nq)).rd0 hry
  go_loop [4, 42] (fun x i => ∃ k : Nat, k ≤ n + 1 ∧ i = .int .i64 k ∧ x = .int .u64 (varX (ys.take k))) (fun _ i => n + 1 - (intOf i).toNat)
  case atStart => exact ⟨0, Nat.zero_le _, rfl, by simp [varX]⟩
  case round =>
    obtain ⟨k, hk, rfl, rfl⟩ := hrel
    obtain ⟨v0, v1⟩ := varX_range (ys.take k)
    obtain ⟨c0, c1⟩ := getD_bs hyb k
    by_cases hlt : k < n + 1
    · obtain ⟨ad, rfl, hc⟩ := hryq.2.2 (by omega)
      have hck := hc k (by omega)
      have HC := hide hc
      have HRY := hide (And.intro hry hryq)
      clear hc hry hryq
      go_wp2
      go_round
      case rel =>
        refine ⟨k + 1, by omega, by go_num, ?_⟩
        rw [take_snoc' (by omega), varX_snoc, ← List.getD_eq_getElem?_getD, Int.tmod_eq_emod_of_nonneg c0]
      case measure => simp [intOf]; omega
    · have hkn : k = n + 1 := by omega
      subst hkn
      have hfull : ys.take (n + 1) = ys := List.take_of_length_le (by omega)
      obtain ⟨X, hX⟩ : ∃ X : Nat, varX ys = (X : Int) := ⟨(varX ys).toNat, by have := varX_range ys; omega⟩
      have hXl : X < 18446744073709551616 := by have := varX_range ys; omega
      rw [hfull, hX]
      have hc2 : (w.drewN nq).cell? ⟨g, 0, none⟩ = some (.slice A xs.length c) := h0
      have HYL := hide (show ys.length = n + 1 by omega)
      have HF := hide (And.intro hfull hX)
      clear hfull hX
      have hEq : ∀ (W : World) (As : Option Addr) (cs : Nat) (zs : List Int), Rd W As zs → Rd W A ys → zs.length ≤ 100000000 → Calls Tryd.prog 71 #[.slice As zs.length cs, .slice A (n + 1) c] W fun r w' => r = .returned (.bool (decide (zs = ys))) ∧ Dr W w' := by
        intro W As cs zs h1 h2 h3
        have := Equal_any W As A cs c zs ys h1 h2 h3 (by omega)
        rw [HYL.out] at this
        exact this
      have HEQ := hide hEq
      clear hEq
      by_cases hq : shortL X = ys
      · have hd : decide (shortL X = ys) = true := decide_eq_true hq
        have HQ := hide hq
        clear hq
        go_wp2_with fail
        go_region_held3 (fun w' => w'.cell? ⟨g, 0, none⟩ = some (.slice A xs.length c)) (first | exact hc2 | exact hcc2 | exact hcc)
          (first | (go_at_call 63; refine (short_any X _ hXl).mono ?_; rintro e w1 ⟨v, rfl, hm1, hb1⟩; obtain ⟨As, cs, rfl, hlc1, hrd1⟩ := hm1.rd; have hfs := Fr.of_below (S := No) hb1 (Nat.le_refl _); have hcc := hfs.cell hc2 (fun h => h); have hry1 := hfs.rd0 hryq) | (go_at_call 71; refine (HEQ.out _ As cs _ hrd1 hry1 (by have := shortL_len X hXl; omega)).mono ?_; rintro e w2 ⟨rfl, hd2⟩; have hcc2 := hd2.fr.cell hcc (fun h => h)))
        have hfr : Fr No w w2 := ((Dr.fr ⟨nq + 1, rfl⟩ : Fr No w (w.drewN (nq + 1))).trans hfs (fun _ h => .inl h)).trans hd2.fr (fun _ h => .inl h)
        have hR2 := hide (And.intro hfr (H.out.keep hfr))
        clear hfr hm1
        go_wp2_with fail
        refine (take_ok g w2 xs (n + 1) hR2.out.2 (by omega) hs).mono ?_
        rintro r w3 ⟨A3, rfl, _, _, hR3, hf3⟩
        go_wp2_with fail
        go_ret
        refine ⟨?_, (Fr.of_no hR2.out.1).trans hf3 (fun _ h => .inl h)⟩
        unfold VarPost
        rw [HF.out.2, if_pos (by simpa using HQ.out)]
        exact ⟨rfl, hR3⟩
      · have hd : decide (shortL X = ys) = false := decide_eq_false hq
        have HQ := hide hq
        clear hq
        go_wp2_with fail
        go_region_held3 (fun w' => w'.cell? ⟨g, 0, none⟩ = some (.slice A xs.length c)) (first | exact hc2 | exact hcc2 | exact hcc)
          (first | (go_at_call 63; refine (short_any X _ hXl).mono ?_; rintro e w1 ⟨v, rfl, hm1, hb1⟩; obtain ⟨As, cs, rfl, hlc1, hrd1⟩ := hm1.rd; have hfs := Fr.of_below (S := No) hb1 (Nat.le_refl _); have hcc := hfs.cell hc2 (fun h => h); have hry1 := hfs.rd0 hryq) | (go_at_call 71; refine (HEQ.out _ As cs _ hrd1 hry1 (by have := shortL_len X hXl; omega)).mono ?_; rintro e w2 ⟨rfl, hd2⟩; have hcc2 := hd2.fr.cell hcc (fun h => h)))
        have hfr : Fr No w w2 := ((Dr.fr ⟨nq + 1, rfl⟩ : Fr No w (w.drewN (nq + 1))).trans hfs (fun _ h => .inl h)).trans hd2.fr (fun _ h => .inl h)
        have hR2 := hide (And.intro hfr (H.out.keep hfr))
        clear hfr hm1
        go_wp2_with fail
        refine (fail_any g w2 xs 0 11 hR2.out.2).mono ?_
        rintro r w3 ⟨rfl, hR3, hf3⟩
        go_wp2_with fail
        go_ret
        refine ⟨?_, (Fr.of_no hR2.out.1).trans hf3 (fun _ h => .inl h)⟩
        unfold VarPost
        rw [HF.out.2, if_neg (by simpa using HQ.out)]
        exact ⟨rfl, _, by simp [failE], hR3⟩
/-- a number is there -/
def OkVar (xs : List Int) (e : Int) : Prop := e = 0 ∧ 0 < varN xs ∧ shortL (varX (xs.take (varN xs))).toNat = xs.take (varN xs)
theorem RVar_any (g : Nat) (w : World) (xs : List Int) (e : Int) (h : IsR w g xs e) (hs : xs.length ≤ 100000000) (hbs : Bs xs) :
    Calls Tryd.prog 59 #[.pointer (some ⟨g, 0, none⟩)] w fun r w' =>
      ((OkVar xs e ∧ r = .returned (.int .u64 (varX (xs.take (varN xs)))) ∧ IsR w' g (xs.drop (varN xs)) 0) ∨ (¬ OkVar xs e ∧ r = .returned (.int .u64 0) ∧ ∃ e, e ≠ 0 ∧ IsR w' g xs e)) ∧ Fr (At g) w w' := by
  by_cases he : e = 0
  · subst he
    by_cases hn : varN xs = 0
    · exact (RVar_none g w xs h hs hn).mono fun r w' ⟨h1, h2, h3⟩ => ⟨.inr ⟨fun hk => by have := hk.2.1; omega, h1, h2⟩, h3⟩
    · refine (RVar_ok g w xs h hs hbs (by omega)).mono fun r w' ⟨h1, h3⟩ => ⟨?_, h3⟩
      unfold VarPost at h1
      by_cases hq : shortL (varX (xs.take (varN xs))).toNat = xs.take (varN xs)
      · rw [if_pos hq] at h1
        exact .inl ⟨⟨rfl, by omega, hq⟩, h1⟩
      · rw [if_neg hq] at h1
        exact .inr ⟨fun hk => hq hk.2.2, h1⟩
  · exact (RVar_err g w xs e h he).mono fun r w' ⟨h1, h2⟩ => ⟨.inr ⟨fun hk => he hk.1, h1, e, he, by subst h2; exact h⟩, by subst h2; exact Fr.refl _ _⟩
/-- bytes are there, with how many they are ahead -/
def OkBytes (xs : List Int) (e : Int) : Prop := OkVar xs e ∧ (varX (xs.take (varN xs))).toNat ≤ (xs.drop (varN xs)).length
def bytesGot (xs : List Int) : List Int := (xs.drop (varN xs)).take (varX (xs.take (varN xs))).toNat
def bytesRest (xs : List Int) : List Int := (xs.drop (varN xs)).drop (varX (xs.take (varN xs))).toNat
def BytesBad (w : World) (g : Nat) (xs : List Int) (v : Value) (w' : World) : Prop := Mine w w' v [] ∧ ∃ ys e, e ≠ 0 ∧ ys.length ≤ xs.length ∧ Bs ys ∧ IsR w' g ys e
def BytesGood (w : World) (g : Nat) (xs : List Int) (v : Value) (w' : World) : Prop := Mine w w' v (bytesGot xs) ∧ IsR w' g (bytesRest xs) 0
set_option maxHeartbeats 1000000 in
theorem RBytes_any (g : Nat) (w : World) (xs : List Int) (e : Int) (h : IsR w g xs e) (hs : xs.length ≤ 100000000) (hbs : Bs xs) :
    Calls Tryd.prog 35 #[.pointer (some ⟨g, 0, none⟩), .int .i64 xs.length] w fun r w' => ∃ v, r = .returned v ∧
      ((OkBytes xs e ∧ BytesGood w g xs v w') ∨ (¬ OkBytes xs e ∧ BytesBad w g xs v w')) ∧ Fr (At g) w w' := by
  have H := hide h
  have HB := hide hbs
  have d0 : decide ((xs.length : Int) < 0) = false := decide_eq_false (by omega)
  clear h
  by_cases hok : OkVar xs e
  · obtain ⟨X, hX⟩ : ∃ X : Nat, varX (xs.take (varN xs)) = (X : Int) := ⟨(varX (xs.take (varN xs))).toNat, by have := varX_range (xs.take (varN xs)); omega⟩
    have hXl : X < 18446744073709551616 := by have := varX_range (xs.take (varN xs)); omega
    have hvar : ∀ (r : Ending) (w' : World), (((OkVar xs e ∧ r = .returned (.int .u64 (varX (xs.take (varN xs)))) ∧ IsR w' g (xs.drop (varN xs)) 0) ∨ (¬ OkVar xs e ∧ r = .returned (.int .u64 0) ∧ ∃ e, e ≠ 0 ∧ IsR w' g xs e)) ∧ Fr (At g) w w') → r = .returned (.int .u64 X) ∧ IsR w' g (xs.drop (varN xs)) 0 ∧ Fr (At g) w w' := by
      rintro r w' ⟨h | h, hf⟩
      · rw [hX] at h
        exact ⟨h.2.1, h.2.2, hf⟩
      · exact absurd hok h.1
    have hV := hide ((RVar_any g w xs e H.out hs hbs).mono hvar)
    have hOB : OkBytes xs e ↔ X ≤ (xs.drop (varN xs)).length := by unfold OkBytes; rw [hX]; simp [hok]
    have hG : bytesGot xs = (xs.drop (varN xs)).take X := by unfold bytesGot; rw [hX]; rfl
    have hR : bytesRest xs = (xs.drop (varN xs)).drop X := by unfold bytesRest; rw [hX]; rfl
    obtain ⟨ys, hys⟩ : ∃ ys, xs.drop (varN xs) = ys := ⟨_, rfl⟩
    have hyl : ys.length ≤ xs.length := by rw [← hys, List.length_drop]; omega
    have hyb : Bs ys := by rw [← hys]; exact fun b hb => hbs b (List.mem_of_mem_drop hb)
    rw [hys] at hV hOB hG hR
    have HG := hide (And.intro hG (And.intro hR (And.intro hOB hyb)))
    clear hys hX hok hvar hOB hG hR hyb hbs
    by_cases hbig : xs.length < X
    · have hw : IntKind.u64.wrap (xs.length : Int) = (xs.length : Int) := IntWalk.u64_in _ (by omega)
      have d1 : decide ((xs.length : Int) < (X : Int)) = true := decide_eq_true (by omega)
      have d2 : decide (xs.length < X) = true := decide_eq_true hbig
      go_enter Tryd.func35, Tryd.ntmps35
      go_wp2_with fail
      refine hV.out.mono ?_
      rintro r w1 ⟨rfl, hR1, hf1⟩
      have HR1 := hide hR1
      clear hR1
      go_wp2_with (first | (go_at_call 60; refine (Err_any _ _ _ _ HR1.out).mono ?_; rintro r w' ⟨rfl, rfl⟩) | (go_at_call 57; refine (fail_any g _ ys 0 13 HR1.out).mono ?_; rintro r w2 ⟨rfl, hR2, hf2⟩))
      go_ret
      exact ⟨_, rfl, .inr ⟨fun hk => by have := HG.out.2.2.1.1 hk; omega, own_nil _ _ _ _, ys, _, by simp [failE], hyl, HG.out.2.2.2, hR2⟩, hf1.trans hf2 (fun _ h => .inl h)⟩
    · have hw : IntKind.u64.wrap (xs.length : Int) = (xs.length : Int) := IntWalk.u64_in _ (by omega)
      have d1 : decide ((xs.length : Int) < (X : Int)) = false := decide_eq_false (by omega)
      have d2 : decide (xs.length < X) = false := decide_eq_false hbig
      have hXs : X ≤ 100000000 := by omega
      by_cases hfit : X ≤ ys.length
      · go_enter Tryd.func35, Tryd.ntmps35
        go_wp2_with fail
        refine hV.out.mono ?_
        rintro r w1 ⟨rfl, hR1, hf1⟩
        have HR1 := hide hR1
        clear hR1
        go_wp2_with (first | (go_at_call 60; refine (Err_any _ _ _ _ HR1.out).mono ?_; rintro r w' ⟨rfl, rfl⟩) | (go_at_call 61; refine (RRaw_ok g _ ys X HR1.out hfit (by omega)).mono ?_; rintro r w2 ⟨v, rfl, hm2, hR2, hf2⟩))
        go_ret
        refine ⟨_, rfl, .inl ⟨HG.out.2.2.1.2 hfit, ?_, ?_⟩, hf1.trans hf2 (fun _ h => .inl h)⟩
        · rw [HG.out.1]
          exact own_weaken hm2 hf1.size
        · rw [HG.out.2.1]
          exact hR2
      · go_enter Tryd.func35, Tryd.ntmps35
        go_wp2_with fail
        refine hV.out.mono ?_
        rintro r w1 ⟨rfl, hR1, hf1⟩
        have HR1 := hide hR1
        clear hR1
        go_wp2_with (first | (go_at_call 60; refine (Err_any _ _ _ _ HR1.out).mono ?_; rintro r w' ⟨rfl, rfl⟩) | (go_at_call 61; refine (RRaw_no g _ ys 0 X HR1.out (.inr (by omega)) (by omega)).mono ?_; rintro r w2 ⟨v, rfl, hm2, hR2, hf2⟩))
        go_ret
        refine ⟨_, rfl, .inr ⟨fun hk => hfit (HG.out.2.2.1.1 hk), own_weaken hm2 hf1.size, ys, _, ?_, hyl, HG.out.2.2.2, hR2⟩, hf1.trans hf2 (fun _ h => .inl h)⟩
        unfold takeE
        rw [if_pos (by omega)]
        simp [failE]
  · have hvar : ∀ (r : Ending) (w' : World), (((OkVar xs e ∧ r = .returned (.int .u64 (varX (xs.take (varN xs)))) ∧ IsR w' g (xs.drop (varN xs)) 0) ∨ (¬ OkVar xs e ∧ r = .returned (.int .u64 0) ∧ ∃ e, e ≠ 0 ∧ IsR w' g xs e)) ∧ Fr (At g) w w') → r = .returned (.int .u64 0) ∧ (∃ e, e ≠ 0 ∧ IsR w' g xs e) ∧ Fr (At g) w w' := by
      rintro r w' ⟨h | h, hf⟩
      · exact absurd h.1 hok
      · exact ⟨h.2.1, h.2.2, hf⟩
    have hV := hide ((RVar_any g w xs e H.out hs hbs).mono hvar)
    have HN := hide hok
    clear hok hvar hbs
    go_enter Tryd.func35, Tryd.ntmps35
    go_wp2_with fail
    refine hV.out.mono ?_
    rintro r w1 ⟨rfl, ⟨e1, he1, hR1⟩, hf1⟩
    have HR1 := hide hR1
    have hd : (e1 != 0) = true := by simpa using he1
    have HE1 := hide he1
    clear hR1 he1
    go_wp2_with (first | (go_at_call 60; refine (Err_any _ _ _ _ HR1.out).mono ?_; rintro r w' ⟨rfl, rfl⟩))
    go_ret
    exact ⟨_, rfl, .inr ⟨fun hk => HN.out hk.1, own_nil _ _ _ _, xs, e1, HE1.out, Nat.le_refl _, HB.out, HR1.out⟩, hf1⟩
end Go.Proofs.YtkgffeclgapkbaaDoor
