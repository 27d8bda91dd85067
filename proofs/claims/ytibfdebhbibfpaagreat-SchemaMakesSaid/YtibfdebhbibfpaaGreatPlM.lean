/- Plain law: what has been put in: its free variables; one behind the other; taken out again. -/
import Derived.Test.YtibfdebhbibfpaaGreatPlL
set_option linter.unusedVariables false
set_option linter.unusedSimpArgs false
namespace Go.Proofs.YtibfdebhbibfpaaGreat.Ax
open Go Go.Proofs

theorem kidsX {k i : Int} {l : List Ex} (ha : allX (.mk k i l) = true) : ∀ e ∈ l, allX e = true := allX_kids ha
theorem quF_sg {k i x : Int} {t : Ex} (h : ¬ ((k = 7 ∨ k = 10) ∧ i = x)) : quF k i (sgF x t) = sgF x t := by
  unfold quF
  split
  · rename_i hq; exact drF_sg fun e => h ⟨hq, e⟩
  · rfl
theorem quF_same {k x : Int} {t : Ex} (h : k = 7 ∨ k = 10) : quF k x (sgF x t) = fun _ => none := by
  unfold quF
  rw [if_pos h, drF_same]
theorem psL_none {l : List Ex} (ha : ∀ e ∈ l, allX e = true) : psL (fun _ => none) l = l := psL_id l ha fun _ _ => .inl rfl
theorem psL_not {x : Int} {t : Ex} {l : List Ex} (ha : ∀ e ∈ l, allX e = true) (h : hasB (frL l) x = false) : psL (sgF x t) l = l := psL_id l ha fun y hy => by
  unfold sgF
  by_cases q : y = x
  · subst q; rw [h] at hy; cases hy
  · rw [if_neg q]; exact .inl rfl

/-! ### Its free variables -/
def frP (x : Int) (t : Ex) (s : Nat) (y : Int) : Bool := if hasB s x = true then (hasB s y && !decide (y = x)) || hasB (frE t) y else hasB s y
mutual
theorem fr_ps {x : Int} {t : Ex} (htt : allX t = true) (hts : isT t = true) : ∀ (a : Ex) (y : Int), allX a = true → catE (vaE t) x a = 0 → hasB (frE (psF (sgF x t) a)) y = frP x t (frE a) y
  | .mk k i l, y, ha, hc => by
    rw [psF]
    by_cases hk : k = 1
    · rw [if_pos hk]
      have hl : l = [] := kids_none ha hk
      subst hk hl
      have hv := shaped_var ha (.inl rfl)
      simp only [Ex.i_mk] at hv
      have hf : ∀ z, hasB (frE (.mk 1 i [])) z = decide (i = z) := fun z => by rw [frE, if_pos rfl, hasB_one hv]
      unfold frP sgF
      rw [hf, hf]
      by_cases e : i = x
      · subst e
        by_cases e2 : i = y
        · subst e2; simp
        · simp [e2]
      · simp [e, hf]
    · rw [if_neg hk]
      by_cases hq : (k = 7 ∨ k = 10) ∧ i = x
      · obtain ⟨h1, rfl⟩ := hq
        rw [quF_same h1, psL_none (kidsX ha)]
        unfold frP
        have : hasB (frE (.mk k i l)) i = false := by rw [has_node hk, has_bin (bin_in ha)]; simp [h1]
        rw [this]; rfl
      · rw [quF_sg hq]
        have hbx : hasB (binP k i) x = false := by rw [has_bin (bin_in ha)]; simpa using hq
        have hcl : catL (vaE t) x l = 0 := by
          cases hP : hasB (frL l) x with
          | false => exact catL_no l hP
          | true => exact (cat_zero hc (by rw [has_node hk, hP, hbx]; rfl)).2
        have hb : hasB (frL l) x = true → hasB (binP k i) y = true → hasB (frE t) y = false := fun hP hb => by
          rw [has_bin (bin_in ha)] at hb
          have hb := of_decide_eq_true hb
          have h0 := (cat_zero hc (by rw [has_node hk, hP, hbx]; rfl)).1
          have := bin_not hb.1 (bin_in ha hb.1) h0
          rw [term_va htt hts] at this
          rw [← hb.2]; exact this
        rw [has_node hk, fr_psL htt hts l y (kidsX ha) hcl]
        unfold frP
        rw [has_node hk, has_node hk, hbx]
        simp only [Bool.not_false, Bool.and_true]
        cases hP : hasB (frL l) x with
        | false => simp
        | true =>
          simp only [if_true]
          cases hB : hasB (binP k i) y with
          | false => simp
          | true => rw [hb hP hB]; simp
theorem fr_psL {x : Int} {t : Ex} (htt : allX t = true) (hts : isT t = true) : ∀ (l : List Ex) (y : Int), (∀ e ∈ l, allX e = true) → catL (vaE t) x l = 0 → hasB (frL (psL (sgF x t) l)) y = frP x t (frL l) y
  | [], y, _, _ => by rw [psL, frL]; unfold frP; rw [hasB_zero, hasB_zero]; rfl
  | e :: l, y, ha, hc => by
    obtain ⟨c1, c2⟩ := catL_cons hc
    rw [psL, has_cons, fr_ps htt hts e y (ha e (by simp)) c1, fr_psL htt hts l y (fun z hz => ha z (by simp [hz])) c2]
    unfold frP
    rw [has_cons, has_cons]
    cases h1 : hasB (frE e) x <;> cases h2 : hasB (frL l) x <;> by_cases h3 : y = x
    all_goals first
      | (subst h3; simp [h1, h2]; done)
      | (simp [h3]; done)
      | (simp [h3]; cases hasB (frE e) y <;> cases hasB (frL l) y <;> cases hasB (frE t) y <;> rfl)
end
theorem fr_bits {s s' : Nat} (h1 : s < 18446744073709551616) (h2 : s' < 18446744073709551616) (h : ∀ y : Int, hasB s y = hasB s' y) : s = s' := by
  apply Nat.eq_of_testBit_eq
  intro i
  by_cases q : i < 64
  · have := h (i : Int)
    rw [hasB_in ⟨by omega, by omega⟩, hasB_in ⟨by omega, by omega⟩] at this
    simpa using this
  · rw [bit_lt h1 (by omega), bit_lt h2 (by omega)]
theorem hasB_without {s : Nat} {x : Int} (hx : 0 ≤ x ∧ x ≤ 63) (y : Int) : hasB (withoutN s x) y = (hasB s y && !decide (y = x)) := by
  unfold withoutN
  rw [if_pos (by omega), hasB_dif, hasB_one hx]
  have : (x = y) = (y = x) := propext ⟨fun h => h.symm, fun h => h.symm⟩
  simp [this]
theorem fr_put {x : Int} {t a : Ex} (hx : 0 ≤ x ∧ x ≤ 63) (ht : allX t = true) (hts : isT t = true) (ha : allX a = true) (hc : catE (vaE t) x a = 0) :
    frE (psF (sgF x t) a) = if hasB (frE a) x = true then withoutN (frE a) x ||| vaE t else frE a := by
  have hs := (psF_shape a ha (termF_sg (x := x) ht hts)).1
  refine fr_bits (frE_lt hs) ?_ fun y => ?_
  · split
    · exact or_lt (withoutN_lt (frE_lt ha)) (vaE_lt ht)
    · exact frE_lt ha
  · rw [fr_ps ht hts a y ha hc]
    unfold frP
    split
    · rw [hasB_or, hasB_without hx, term_va ht hts]
    · rfl

/-! ### One behind the other -/
mutual
theorem sub_lem {x y : Int} {t u : Ex} (hxy : ¬ x = y) (ht : allX t = true) (hts : isT t = true) (hu : allX u = true) (hut : isT u = true) (hux : hasB (frE u) x = false) :
    ∀ a : Ex, allX a = true → catE (vaE t) x a = 0 → psF (sgF y u) (psF (sgF x t) a) = psF (sgF x (psF (sgF y u) t)) (psF (sgF y u) a)
  | .mk k i l, ha, hc => by
    rw [psF, psF]
    by_cases hk : k = 1
    · rw [if_pos hk, if_pos hk]
      have hl : l = [] := kids_none ha hk
      subst hk hl
      unfold sgF
      by_cases e : i = x
      · subst e
        rw [if_pos rfl, if_neg hxy]
        show psF (sgF y u) t = psF (sgF i (psF (sgF y u) t)) (.mk 1 i [])
        rw [psF, if_pos rfl]; unfold sgF; rw [if_pos rfl]; rfl
      · rw [if_neg e]
        by_cases e2 : i = y
        · subst e2
          rw [if_pos rfl]
          show psF (sgF i u) (.mk 1 i []) = psF (sgF x (psF (sgF i u) t)) u
          rw [psF_not hu hux, psF, if_pos rfl]; unfold sgF; rw [if_pos rfl]; rfl
        · rw [if_neg e2]
          show psF (sgF y u) (.mk 1 i []) = psF (sgF x (psF (sgF y u) t)) (.mk 1 i [])
          rw [psF, psF, if_pos rfl, if_pos rfl]; unfold sgF; rw [if_neg e2, if_neg e]
    · rw [if_neg hk, if_neg hk, psF, psF, if_neg hk, if_neg hk]
      congr 1
      by_cases hqx : (k = 7 ∨ k = 10) ∧ i = x
      · obtain ⟨h1, rfl⟩ := hqx
        rw [quF_same h1, quF_same h1, psL_none (kidsX ha), psL_none]
        rw [quF_sg (fun h => hxy h.2)]
        exact (psL_shape l (kidsX ha) (termF_sg hu hut)).1
      · rw [quF_sg hqx, quF_sg hqx]
        have hbx : hasB (binP k i) x = false := by rw [has_bin (bin_in ha)]; simpa using hqx
        by_cases hqy : (k = 7 ∨ k = 10) ∧ i = y
        · obtain ⟨h1, rfl⟩ := hqy
          rw [quF_same h1, psL_none (psL_shape l (kidsX ha) (termF_sg ht hts)).1, psL_none (kidsX ha)]
          cases hP : hasB (frL l) x with
          | false => rw [psL_not (kidsX ha) hP, psL_not (kidsX ha) hP]
          | true =>
            have h0 := (cat_zero hc (by rw [has_node hk, hP, hbx]; rfl)).1
            have := bin_not h1 (bin_in ha h1) h0
            rw [term_va ht hts] at this
            rw [psF_not ht this]
        · rw [quF_sg hqy]
          have hcl : catL (vaE t) x l = 0 := by
            cases hP : hasB (frL l) x with
            | false => exact catL_no l hP
            | true => exact (cat_zero hc (by rw [has_node hk, hP, hbx]; rfl)).2
          exact sub_lemL hxy ht hts hu hut hux l (kidsX ha) hcl
theorem sub_lemL {x y : Int} {t u : Ex} (hxy : ¬ x = y) (ht : allX t = true) (hts : isT t = true) (hu : allX u = true) (hut : isT u = true) (hux : hasB (frE u) x = false) :
    ∀ l : List Ex, (∀ e ∈ l, allX e = true) → catL (vaE t) x l = 0 → psL (sgF y u) (psL (sgF x t) l) = psL (sgF x (psF (sgF y u) t)) (psL (sgF y u) l)
  | [], _, _ => by simp only [psL]
  | e :: l, ha, hc => by
    obtain ⟨c1, c2⟩ := catL_cons hc
    simp only [psL]
    rw [sub_lem hxy ht hts hu hut hux e (ha e (by simp)) c1, sub_lemL hxy ht hts hu hut hux l (fun z hz => ha z (by simp [hz])) c2]
end

/-! ### Taken out again -/
mutual
theorem turn_back {x y : Int} : ∀ a : Ex, allX a = true → hasB (ocE a) y = false → hasB (boE a) y = false → psF (sgF y (.mk 1 x [])) (psF (sgF x (.mk 1 y [])) a) = a
  | .mk k i l, ha, ho, hb => by
    rw [psF]
    by_cases hk : k = 1
    · rw [if_pos hk]
      have hl : l = [] := kids_none ha hk
      subst hk hl
      have hv := shaped_var ha (.inl rfl)
      simp only [Ex.i_mk] at hv
      rw [ocE, if_pos rfl, hasB_one hv] at ho
      have hiy : ¬ i = y := of_decide_eq_false ho
      unfold sgF
      by_cases e : i = x
      · subst e
        rw [if_pos rfl]
        show psF (sgF y _) (.mk 1 y []) = _
        rw [psF, if_pos rfl]; unfold sgF; rw [if_pos rfl]; rfl
      · rw [if_neg e]
        show psF (sgF y _) (.mk 1 i []) = _
        rw [psF, if_pos rfl]; unfold sgF; rw [if_neg hiy]; rfl
    · rw [if_neg hk]
      rw [ocE, if_neg hk] at ho
      rw [boE, hasB_or, Bool.or_eq_false_iff] at hb
      have hbin := hb.1
      rw [has_bin (bin_in ha)] at hbin
      have hqy : ¬ ((k = 7 ∨ k = 10) ∧ i = y) := of_decide_eq_false hbin
      rw [psF, if_neg hk, quF_sg hqy]
      by_cases hqx : (k = 7 ∨ k = 10) ∧ i = x
      · obtain ⟨h1, rfl⟩ := hqx
        rw [quF_same h1, psL_none (kidsX ha), psL_not (kidsX ha)]
        cases hP : hasB (frL l) y with
        | false => rfl
        | true =>
          have h64 := hasB_range hP
          rw [hasB_in h64] at ho hP
          rw [fr_ocL _ l ho] at hP; cases hP
      · rw [quF_sg hqx, turn_backL l (kidsX ha) ho hb.2]
theorem turn_backL {x y : Int} : ∀ l : List Ex, (∀ e ∈ l, allX e = true) → hasB (ocL l) y = false → hasB (boL l) y = false → psL (sgF y (.mk 1 x [])) (psL (sgF x (.mk 1 y [])) l) = l
  | [], _, _, _ => by simp only [psL]
  | e :: l, ha, ho, hb => by
    rw [ocL, hasB_or, Bool.or_eq_false_iff] at ho
    rw [boL, hasB_or, Bool.or_eq_false_iff] at hb
    simp only [psL]
    rw [turn_back e (ha e (by simp)) ho.1 hb.1, turn_backL l (fun z hz => ha z (by simp [hz])) ho.2 hb.2]
end
theorem cat_out {x y : Int} (hy : 0 ≤ y ∧ y ≤ 63) {a : Ex} (hb : hasB (boE a) y = false) : catE (pw y.toNat) x a = 0 := by
  apply Nat.eq_of_testBit_eq
  intro j
  rw [Nat.zero_testBit]
  by_cases e : y.toNat = j
  · rw [hasB_in hy, e] at hb
    exact cat_bo _ x j a hb
  · refine cat_own _ x j ?_ a
    rw [pw_bit]; simp [e]
mutual
theorem cat_back {x y : Int} (hx : 0 ≤ x ∧ x ≤ 63) : ∀ a : Ex, allX a = true → hasB (ocE a) y = false → hasB (boE a) y = false → catE (pw x.toNat) y (psF (sgF x (.mk 1 y [])) a) = 0
  | .mk k i l, ha, ho, hb => by
    rw [psF]
    by_cases hk : k = 1
    · rw [if_pos hk]
      have hl : l = [] := kids_none ha hk
      subst hk hl
      unfold sgF
      by_cases e : i = x
      · rw [if_pos e]
        show catE _ _ (.mk 1 y []) = 0
        rw [catE, catL]; simp [binP]
      · rw [if_neg e]
        show catE _ _ (.mk 1 i []) = 0
        rw [catE, catL]; simp [binP]
    · rw [if_neg hk]
      rw [ocE, if_neg hk] at ho
      rw [boE, hasB_or, Bool.or_eq_false_iff] at hb
      by_cases hqx : (k = 7 ∨ k = 10) ∧ i = x
      · obtain ⟨h1, rfl⟩ := hqx
        rw [quF_same h1, psL_none (kidsX ha)]
        refine cat_no ?_
        rw [has_node hk]
        cases hP : hasB (frL l) y with
        | false => rfl
        | true =>
          have h64 := hasB_range hP
          rw [hasB_in h64] at ho hP
          rw [fr_ocL _ l ho] at hP; cases hP
      · rw [quF_sg hqx, catE]
        split
        · have h0 : pw x.toNat &&& binP k i = 0 := by
            apply Nat.eq_of_testBit_eq
            intro j
            rw [Nat.testBit_and, pw_bit, Nat.zero_testBit]
            unfold binP
            split
            · rename_i hq
              have hi := bin_in ha hq
              rw [pw_bit]
              have : ¬ (x.toNat = j ∧ i.toNat = j) := fun ⟨h1, h2⟩ => hqx ⟨hq, by omega⟩
              by_cases e : x.toNat = j <;> by_cases e2 : i.toNat = j <;> simp [e, e2]
              exact this ⟨e, e2⟩
            · simp
          rw [h0, cat_backL hx l (kidsX ha) ho hb.2]; rfl
        · rfl
theorem cat_backL {x y : Int} (hx : 0 ≤ x ∧ x ≤ 63) : ∀ l : List Ex, (∀ e ∈ l, allX e = true) → hasB (ocL l) y = false → hasB (boL l) y = false → catL (pw x.toNat) y (psL (sgF x (.mk 1 y [])) l) = 0
  | [], _, _, _ => by rw [psL, catL]
  | e :: l, ha, ho, hb => by
    rw [ocL, hasB_or, Bool.or_eq_false_iff] at ho
    rw [boL, hasB_or, Bool.or_eq_false_iff] at hb
    rw [psL, catL, cat_back hx e (ha e (by simp)) ho.1 hb.1, cat_backL hx l (fun z hz => ha z (by simp [hz])) ho.2 hb.2]; rfl
end
/-- Two variables changed about. -/
def twF (x y : Int) : Int → Option Ex := fun z => if z = x then some (.mk 1 y []) else if z = y then some (.mk 1 x []) else none
theorem bo_node {k i : Int} {l : List Ex} (h : boE (.mk k i l) = 0) : ¬ (k = 7 ∨ k = 10) ∧ boL l = 0 := by
  rw [boE] at h
  obtain ⟨h1, h2⟩ := or_zero h
  refine ⟨fun hq => ?_, h2⟩
  unfold binP at h1
  rw [if_pos hq] at h1
  have := pw_pos i.toNat; omega
mutual
theorem tw_back {x y : Int} (hxy : ¬ x = y) : ∀ a : Ex, allX a = true → boE a = 0 → psF (twF x y) (psF (twF x y) a) = a
  | .mk k i l, ha, hb => by
    obtain ⟨hq, hl⟩ := bo_node hb
    rw [psF]
    by_cases hk : k = 1
    · rw [if_pos hk]
      have hl : l = [] := kids_none ha hk
      subst hk hl
      have hyx : ¬ y = x := fun e => hxy e.symm
      by_cases e : i = x
      · subst e
        have : twF i y i = some (.mk 1 y []) := by unfold twF; rw [if_pos rfl]
        rw [this]
        show psF _ (.mk 1 y []) = _
        rw [psF, if_pos rfl]; unfold twF; rw [if_neg hyx, if_pos rfl]; rfl
      · by_cases e2 : i = y
        · subst e2
          have : twF x i i = some (.mk 1 x []) := by unfold twF; rw [if_neg e, if_pos rfl]
          rw [this]
          show psF _ (.mk 1 x []) = _
          rw [psF, if_pos rfl]; unfold twF; rw [if_pos rfl]; rfl
        · have : twF x y i = none := by unfold twF; rw [if_neg e, if_neg e2]
          rw [this]
          show psF _ (.mk 1 i []) = _
          rw [psF, if_pos rfl, this]; rfl
    · have hqu : quF k i (twF x y) = twF x y := by unfold quF; rw [if_neg hq]
      rw [if_neg hk, hqu, psF, if_neg hk, hqu, tw_backL hxy l (kidsX ha) hl]
theorem tw_backL {x y : Int} (hxy : ¬ x = y) : ∀ l : List Ex, (∀ e ∈ l, allX e = true) → boL l = 0 → psL (twF x y) (psL (twF x y) l) = l
  | [], _, _ => by simp only [psL]
  | e :: l, ha, hb => by
    rw [boL] at hb
    obtain ⟨h1, h2⟩ := or_zero hb
    simp only [psL]
    rw [tw_back hxy e (ha e (by simp)) h1, tw_backL hxy l (fun z hz => ha z (by simp [hz])) h2]
end
mutual
theorem bo_tw {f : Int → Option Ex} (hf : VarF f) : ∀ a : Ex, allX a = true → boE (psF f a) = boE a
  | .mk k i l, ha => by
    rw [psF]
    by_cases hk : k = 1
    · rw [if_pos hk]
      have hl : l = [] := kids_none ha hk
      subst hk hl
      cases hfi : f i with
      | none => rfl
      | some t => obtain ⟨z, rfl⟩ := hf i t hfi; show boE (.mk 1 z []) = _; rw [boE, boE]; simp [binP]
    · rw [if_neg hk, boE, boE, bo_twL (varF_dr hf k i) l (kidsX ha)]
theorem bo_twL {f : Int → Option Ex} (hf : VarF f) : ∀ l : List Ex, (∀ e ∈ l, allX e = true) → boL (psL f l) = boL l
  | [], _ => by rw [psL]
  | e :: l, ha => by rw [psL, boL, boL, bo_tw hf e (ha e (by simp)), bo_twL hf l fun z hz => ha z (by simp [hz])]
end
theorem cat_no_binder (own : Nat) (x : Int) {a : Ex} (hb : boE a = 0) : catE own x a = 0 := by
  apply Nat.eq_of_testBit_eq
  intro j
  rw [Nat.zero_testBit]
  exact cat_bo own x j a (by rw [hb, Nat.zero_testBit])
end Go.Proofs.YtibfdebhbibfpaaGreat.Ax
