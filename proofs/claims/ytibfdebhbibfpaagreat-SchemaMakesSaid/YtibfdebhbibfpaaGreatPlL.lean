/- Plain law: terms in the place of variables. -/
import Derived.Test.YtibfdebhbibfpaaGreatCxC
set_option linter.unusedVariables false
set_option linter.unusedSimpArgs false
namespace Go.Proofs.YtibfdebhbibfpaaGreat.Ax
open Go Go.Proofs

def drF (f : Int → Option Ex) (i : Int) : Int → Option Ex := fun y => if y = i then none else f y
def quF (k i : Int) (f : Int → Option Ex) : Int → Option Ex := if k = 7 ∨ k = 10 then drF f i else f
mutual
/-- Terms in the place of the free occurrences of variables, whatever is caught. -/
def psF (f : Int → Option Ex) : Ex → Ex
  | .mk k i l => if k = 1 then (f i).getD (.mk k i l) else .mk k i (psL (quF k i f) l)
def psL (f : Int → Option Ex) : List Ex → List Ex
  | [] => []
  | e :: l => psF f e :: psL f l
end
theorem psL_map (f : Int → Option Ex) : ∀ l, psL f l = l.map (psF f)
  | [] => by rw [psL]; rfl
  | e :: l => by rw [psL, psL_map f l]; rfl
theorem psF_eq (f : Int → Option Ex) (e : Ex) : psF f e = if e.k = 1 then (f e.i).getD e else .mk e.k e.i (e.kids.map (psF (quF e.k e.i f))) := by cases e; rw [psF, psL_map]; rfl
theorem psL_len (f : Int → Option Ex) (l : List Ex) : (psL f l).length = l.length := by rw [psL_map]; simp
def sgF (x : Int) (t : Ex) : Int → Option Ex := fun y => if y = x then some t else none
theorem drF_sg {x i : Int} {t : Ex} (h : ¬ i = x) : drF (sgF x t) i = sgF x t := by
  funext y
  unfold drF sgF
  by_cases e : y = i
  · rw [if_pos e, if_neg (by omega)]
  · rw [if_neg e]
theorem drF_same (x : Int) (t : Ex) : drF (sgF x t) x = fun _ => none := by
  funext y
  unfold drF sgF
  by_cases e : y = x
  · rw [if_pos e]
  · rw [if_neg e, if_neg e]
theorem hasB_in {s : Nat} {x : Int} (h : 0 ≤ x ∧ x ≤ 63) : hasB s x = s.testBit x.toNat := by
  unfold hasB
  rw [decide_eq_true h.1, decide_eq_true (show x < 64 by omega)]; rfl
theorem hasB_range {s : Nat} {x : Int} (h : hasB s x = true) : 0 ≤ x ∧ x ≤ 63 := by
  unfold hasB at h
  simp only [Bool.and_eq_true, decide_eq_true_eq] at h
  omega
/-- A node's free variables: its kids', but what it binds. -/
theorem has_node {k i : Int} {l : List Ex} (hk : ¬ k = 1) (y : Int) : hasB (frE (.mk k i l)) y = (hasB (frL l) y && !hasB (binP k i) y) := by rw [frE, if_neg hk, hasB_dif]
theorem has_bin {k i : Int} (hi : (k = 7 ∨ k = 10) → 0 ≤ i ∧ i ≤ 63) (y : Int) : hasB (binP k i) y = decide ((k = 7 ∨ k = 10) ∧ i = y) := by
  unfold binP
  split
  · rename_i h; rw [hasB_one (hi h)]; simp [h]
  · rename_i h; rw [hasB_zero]; simp [h]
theorem bin_in {k i : Int} {l : List Ex} (ha : allX (.mk k i l) = true) : (k = 7 ∨ k = 10) → 0 ≤ i ∧ i ≤ 63 := fun h => shaped_var ha (.inr h)
theorem has_cons (e : Ex) (l : List Ex) (y : Int) : hasB (frL (e :: l)) y = (hasB (frE e) y || hasB (frL l) y) := by rw [frL, hasB_or]

/-! ### What changes nothing -/
mutual
theorem psF_id {f : Int → Option Ex} : ∀ e : Ex, allX e = true → (∀ y, hasB (frE e) y = true → f y = none ∨ f y = some (.mk 1 y [])) → psF f e = e
  | .mk k i l, ha, h => by
    rw [psF]
    by_cases hk : k = 1
    · rw [if_pos hk]
      have hl : l = [] := kids_none ha hk
      subst hk hl
      have hv := shaped_var ha (.inl rfl)
      simp only [Ex.i_mk] at hv
      have hf : hasB (frE (.mk 1 i [])) i = true := by rw [frE, if_pos rfl, hasB_one hv]; simp
      rcases h i hf with h1 | h1 <;> rw [h1] <;> rfl
    · rw [if_neg hk]
      rw [psL_id l (allX_kids ha) fun y hy => ?_]
      unfold quF
      by_cases hq : k = 7 ∨ k = 10
      · rw [if_pos hq]
        unfold drF
        by_cases e : y = i
        · rw [if_pos e]; exact .inl rfl
        · rw [if_neg e]
          refine h y ?_
          rw [has_node hk, hy, has_bin (bin_in ha)]
          have : ¬ i = y := fun q => e q.symm
          simp [this]
      · rw [if_neg hq]
        refine h y ?_
        rw [has_node hk, hy, has_bin (bin_in ha)]
        simp [hq]
theorem psL_id {f : Int → Option Ex} : ∀ l : List Ex, (∀ e ∈ l, allX e = true) → (∀ y, hasB (frL l) y = true → f y = none ∨ f y = some (.mk 1 y [])) → psL f l = l
  | [], _, _ => by rw [psL]
  | e :: l, ha, h => by
    rw [psL, psF_id e (ha e (by simp)) fun y hy => h y (by rw [has_cons, hy]; rfl), psL_id l (fun x hx => ha x (by simp [hx])) fun y hy => h y (by rw [has_cons, hy, Bool.or_true])]
end
mutual
theorem psF_congr {f g : Int → Option Ex} : ∀ e : Ex, allX e = true → (∀ y, hasB (frE e) y = true → f y = g y) → psF f e = psF g e
  | .mk k i l, ha, h => by
    rw [psF, psF]
    by_cases hk : k = 1
    · rw [if_pos hk, if_pos hk]
      have hl : l = [] := kids_none ha hk
      subst hk hl
      have hv := shaped_var ha (.inl rfl)
      simp only [Ex.i_mk] at hv
      rw [h i (by rw [frE, if_pos rfl, hasB_one hv]; simp)]
    · rw [if_neg hk, if_neg hk]
      rw [psL_congr (g := quF k i g) l (allX_kids ha) fun y hy => ?_]
      unfold quF
      by_cases hq : k = 7 ∨ k = 10
      · rw [if_pos hq, if_pos hq]
        unfold drF
        by_cases e : y = i
        · rw [if_pos e, if_pos e]
        · rw [if_neg e, if_neg e]
          refine h y ?_
          rw [has_node hk, hy, has_bin (bin_in ha)]
          have : ¬ i = y := fun q => e q.symm
          simp [this]
      · rw [if_neg hq, if_neg hq]
        refine h y ?_
        rw [has_node hk, hy, has_bin (bin_in ha)]
        simp [hq]
theorem psL_congr {f g : Int → Option Ex} : ∀ l : List Ex, (∀ e ∈ l, allX e = true) → (∀ y, hasB (frL l) y = true → f y = g y) → psL f l = psL g l
  | [], _, _ => by rw [psL, psL]
  | e :: l, ha, h => by
    rw [psL, psL, psF_congr e (ha e (by simp)) fun y hy => h y (by rw [has_cons, hy]; rfl), psL_congr l (fun x hx => ha x (by simp [hx])) fun y hy => h y (by rw [has_cons, hy, Bool.or_true])]
end
theorem psF_none {e : Ex} (ha : allX e = true) : psF (fun _ => none) e = e := psF_id e ha fun _ _ => .inl rfl
theorem psF_not {x : Int} {t e : Ex} (ha : allX e = true) (h : hasB (frE e) x = false) : psF (sgF x t) e = e := psF_id e ha fun y hy => by
  unfold sgF
  by_cases q : y = x
  · subst q; rw [h] at hy; cases hy
  · rw [if_neg q]; exact .inl rfl
theorem psF_own {x : Int} {e : Ex} (ha : allX e = true) : psF (sgF x (.mk 1 x [])) e = e := psF_id e ha fun y hy => by
  unfold sgF
  by_cases q : y = x
  · subst q; rw [if_pos rfl]; exact .inr rfl
  · rw [if_neg q]; exact .inl rfl

/-! ### What it is made of -/
theorem kidsAre_same {k i : Int} {l m : List Ex} (h : l.map isT = m.map isT) (a b : Int) (t : Bool) : kidsAre (.mk k i l) a b t = kidsAre (.mk k i m) a b t := by
  have h1 : l.length = m.length := by simpa using congrArg List.length h
  have h2 : (l.all fun x => isT x == t) = (m.all fun x => isT x == t) := by
    have e1 : (l.all fun x => isT x == t) = ((l.map isT).all fun y => y == t) := by rw [List.all_map]; rfl
    have e2 : (m.all fun x => isT x == t) = ((m.map isT).all fun y => y == t) := by rw [List.all_map]; rfl
    rw [e1, e2, h]
  show (decide (a ≤ (l.length : Int)) && decide ((l.length : Int) ≤ b) && (l.all fun x => isT x == t)) = (decide (a ≤ (m.length : Int)) && decide ((m.length : Int) ≤ b) && (m.all fun x => isT x == t))
  rw [h2, h1]
def shG (k i : Int) (n : Nat) (f : Int → Int → Bool → Bool) : Bool := decide (0 ≤ i) && decide (i ≤ mostOf k) && (if k = 1 then decide (n = 0) else if k = 2 ∨ k = 3 then f 0 4 true else if k = 4 then f 2 2 true else if k = 5 ∨ k = 7 ∨ k = 10 then f 1 1 false else if k = 6 ∨ k = 8 ∨ k = 9 then f 2 2 false else false)
theorem shaped_G (k i : Int) (l : List Ex) : shapedX (.mk k i l) = shG k i l.length (kidsAre (.mk k i l)) := rfl
theorem shaped_same {k i : Int} {l m : List Ex} (h : l.map isT = m.map isT) : shapedX (.mk k i l) = shapedX (.mk k i m) := by
  have h1 : l.length = m.length := by simpa using congrArg List.length h
  have h2 : kidsAre (.mk k i l) = kidsAre (.mk k i m) := by funext a b t; exact kidsAre_same h a b t
  rw [shaped_G, shaped_G, h1, h2]
def TermF (f : Int → Option Ex) : Prop := ∀ y t, f y = some t → allX t = true ∧ isT t = true
theorem termF_dr {f : Int → Option Ex} (h : TermF f) (k i : Int) : TermF (quF k i f) := fun y t ht => by
  unfold quF at ht
  split at ht
  · unfold drF at ht
    split at ht
    · cases ht
    · exact h y t ht
  · exact h y t ht
theorem termF_sg {x : Int} {t : Ex} (h1 : allX t = true) (h2 : isT t = true) : TermF (sgF x t) := fun y u hu => by
  unfold sgF at hu
  split at hu
  · cases hu; exact ⟨h1, h2⟩
  · cases hu
theorem isT_k (k i : Int) (l m : List Ex) : isT (.mk k i l) = isT (.mk k i m) := rfl
mutual
theorem psF_shape {f : Int → Option Ex} : ∀ e : Ex, allX e = true → TermF f → allX (psF f e) = true ∧ isT (psF f e) = isT e
  | .mk k i l, ha, h => by
    rw [psF]
    by_cases hk : k = 1
    · rw [if_pos hk]
      cases hf : f i with
      | none => exact ⟨ha, rfl⟩
      | some t =>
        obtain ⟨h1, h2⟩ := h i t hf
        refine ⟨h1, ?_⟩
        show isT t = _
        rw [h2]; unfold isT; simp [hk]
    · rw [if_neg hk]
      obtain ⟨h1, h2⟩ := psL_shape l (allX_kids ha) (termF_dr h k i)
      refine ⟨?_, rfl⟩
      rw [allX_eq, Bool.and_eq_true] at ha ⊢
      exact ⟨(shaped_same h2).trans ha.1, List.all_eq_true.2 h1⟩
theorem psL_shape {f : Int → Option Ex} : ∀ l : List Ex, (∀ e ∈ l, allX e = true) → TermF f → (∀ e ∈ psL f l, allX e = true) ∧ (psL f l).map isT = l.map isT
  | [], _, _ => by rw [psL]; simp
  | e :: l, ha, h => by
    obtain ⟨h1, h2⟩ := psF_shape e (ha e (by simp)) h
    obtain ⟨h3, h4⟩ := psL_shape l (fun x hx => ha x (by simp [hx])) h
    rw [psL]
    refine ⟨fun y hy => ?_, by rw [List.map_cons, List.map_cons, h2, h4]⟩
    rcases List.mem_cons.1 hy with rfl | hy
    · exact h1
    · exact h3 y hy
end
def VarF (f : Int → Option Ex) : Prop := ∀ y t, f y = some t → ∃ z, t = .mk 1 z []
theorem varF_dr {f : Int → Option Ex} (h : VarF f) (k i : Int) : VarF (quF k i f) := fun y t ht => by
  unfold quF at ht
  split at ht
  · unfold drF at ht
    split at ht
    · cases ht
    · exact h y t ht
  · exact h y t ht
mutual
theorem psF_size {f : Int → Option Ex} : ∀ e : Ex, allX e = true → VarF f → cntE (psF f e) = cntE e ∧ depE (psF f e) = depE e
  | .mk k i l, ha, h => by
    rw [psF]
    by_cases hk : k = 1
    · rw [if_pos hk]
      have hl : l = [] := kids_none ha hk
      cases hf : f i with
      | none => exact ⟨rfl, rfl⟩
      | some t =>
        obtain ⟨z, rfl⟩ := h i t hf
        subst hl
        exact ⟨rfl, rfl⟩
    · rw [if_neg hk]
      obtain ⟨h1, h2⟩ := psL_size l (allX_kids ha) (varF_dr h k i)
      rw [cntE, cntE, depE, depE, h1, h2]
      exact ⟨rfl, rfl⟩
theorem psL_size {f : Int → Option Ex} : ∀ l : List Ex, (∀ e ∈ l, allX e = true) → VarF f → cntL (psL f l) = cntL l ∧ depL (psL f l) = depL l
  | [], _, _ => by rw [psL]; exact ⟨rfl, rfl⟩
  | e :: l, ha, h => by
    obtain ⟨h1, h2⟩ := psF_size e (ha e (by simp)) h
    obtain ⟨h3, h4⟩ := psL_size l (fun x hx => ha x (by simp [hx])) h
    rw [psL, cntL, cntL, depL, depL, h1, h2, h3, h4]
    exact ⟨rfl, rfl⟩
end
theorem psF_right {f : Int → Option Ex} {e : Ex} (he : rightE e = 0) (h1 : TermF f) (h2 : VarF f) : rightE (psF f e) = 0 := by
  obtain ⟨a, b, c⟩ := right_zero he
  obtain ⟨d1, d2⟩ := psF_size e c h2
  rw [nodesN_eq] at a
  exact right_of (by rw [nodesN_eq, d1]; exact a) (by rw [d2]; exact b) (psF_shape e c h1).1
/-- What was put into is refused only for its size. -/
theorem psF_err {f : Int → Option Ex} {e : Ex} (he : allX e = true) (h1 : TermF f) : rightE (psF f e) = 0 ∨ rightE (psF f e) = 20 ∨ rightE (psF f e) = 21 := by
  rw [rightE_eq, if_pos (psF_shape e he h1).1]
  split
  · exact .inr (.inl rfl)
  · split
    · exact .inr (.inr rfl)
    · exact .inl rfl

/-! ### Nothing caught -/
theorem or_zero {a b : Nat} (h : a ||| b = 0) : a = 0 ∧ b = 0 := by
  constructor
  · apply Nat.eq_of_testBit_eq
    intro i
    have := congrArg (fun n => Nat.testBit n i) h
    simp only [Nat.testBit_or, Nat.zero_testBit, Bool.or_eq_false_iff] at this
    rw [this.1, Nat.zero_testBit]
  · apply Nat.eq_of_testBit_eq
    intro i
    have := congrArg (fun n => Nat.testBit n i) h
    simp only [Nat.testBit_or, Nat.zero_testBit, Bool.or_eq_false_iff] at this
    rw [this.2, Nat.zero_testBit]
theorem cat_zero {own : Nat} {x k i : Int} {l : List Ex} (h : catE own x (.mk k i l) = 0) (hf : hasB (frE (.mk k i l)) x = true) : own &&& binP k i = 0 ∧ catL own x l = 0 := by
  rw [catE, if_pos hf] at h
  exact or_zero h
theorem catL_cons {own : Nat} {x : Int} {e : Ex} {l : List Ex} (h : catL own x (e :: l) = 0) : catE own x e = 0 ∧ catL own x l = 0 := by
  rw [catL] at h; exact or_zero h
theorem bin_not {own : Nat} {k i : Int} (hq : k = 7 ∨ k = 10) (hi : 0 ≤ i ∧ i ≤ 63) (h : own &&& binP k i = 0) : hasB own i = false := by
  rw [own_pw hi hq] at h
  cases hb : hasB own i with
  | false => rfl
  | true => rw [hb, if_pos rfl] at h; have := pw_pos i.toNat; omega
/-- The terms' own sets. -/
theorem term_kids {k i : Int} {l : List Ex} (ha : allX (.mk k i l) = true) (ht : isT (.mk k i l) = true) (hk : ¬ k = 1) : k = 2 ∧ ∀ e ∈ l, isT e = true := by
  have h2 : k = 2 := by
    have h : (decide (k = 1) || decide (k = 2)) = true := ht
    have ht' : k = 1 ∨ k = 2 := by simpa using h
    omega
  refine ⟨h2, fun e he => ?_⟩
  rw [allX_eq, Bool.and_eq_true] at ha
  have := ha.1
  subst h2
  unfold shapedX kidsAre at this
  simp at this
  exact this.2.2 e he
mutual
theorem term_sets : ∀ t : Ex, allX t = true → isT t = true → boE t = 0 ∧ ocE t = frE t
  | .mk k i l, ha, ht => by
    rw [boE, ocE, frE]
    by_cases hk : k = 1
    · have hl : l = [] := kids_none ha hk
      subst hk hl
      simp [binP, boL]
    · obtain ⟨h2, hT⟩ := term_kids ha ht hk
      obtain ⟨h3, h4⟩ := term_setsL l (allX_kids ha) hT
      have hb : binP k i = 0 := by unfold binP; rw [if_neg (by omega)]
      rw [if_neg hk, if_neg hk, hb, h3, h4, dif_zero]
      exact ⟨rfl, rfl⟩
theorem term_setsL : ∀ l : List Ex, (∀ e ∈ l, allX e = true) → (∀ e ∈ l, isT e = true) → boL l = 0 ∧ ocL l = frL l
  | [], _, _ => by rw [boL, ocL, frL]; exact ⟨rfl, rfl⟩
  | e :: l, ha, ht => by
    obtain ⟨h1, h2⟩ := term_sets e (ha e (by simp)) (ht e (by simp))
    obtain ⟨h3, h4⟩ := term_setsL l (fun x hx => ha x (by simp [hx])) fun x hx => ht x (by simp [hx])
    rw [boL, ocL, frL, h1, h2, h3, h4]
    exact ⟨rfl, rfl⟩
end
theorem term_va {t : Ex} (ha : allX t = true) (ht : isT t = true) : vaE t = frE t := by
  obtain ⟨h1, h2⟩ := term_sets t ha ht
  unfold vaE
  rw [h1, h2]; simp
/- In a term nothing is caught. -/
mutual
theorem cat_term (own : Nat) (x : Int) : ∀ t : Ex, allX t = true → isT t = true → catE own x t = 0
  | .mk k i l, ha, ht => by
    rw [catE]
    split
    · by_cases hk : k = 1
      · have hl : l = [] := kids_none ha hk
        subst hk hl
        simp [binP, catL]
      · obtain ⟨h2, hT⟩ := term_kids ha ht hk
        have hb : binP k i = 0 := by unfold binP; rw [if_neg (by omega)]
        rw [hb, cat_termL own x l (allX_kids ha) hT]; simp
    · rfl
theorem cat_termL (own : Nat) (x : Int) : ∀ l : List Ex, (∀ e ∈ l, allX e = true) → (∀ e ∈ l, isT e = true) → catL own x l = 0
  | [], _, _ => by rw [catL]
  | e :: l, ha, ht => by
    rw [catL, cat_term own x e (ha e (by simp)) (ht e (by simp)), cat_termL own x l (fun y hy => ha y (by simp [hy])) fun y hy => ht y (by simp [hy])]; rfl
end
end Go.Proofs.YtibfdebhbibfpaaGreat.Ax
