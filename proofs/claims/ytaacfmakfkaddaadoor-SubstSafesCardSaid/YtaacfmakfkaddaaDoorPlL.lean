/- Plain law: terms in the place of variables. -/
import Derived.Test.YtaacfmakfkaddaaDoorCxC
set_option linter.unusedVariables false
set_option linter.unusedSimpArgs false
namespace Go.Proofs.YtaacfmakfkaddaaDoor.Ax
open Go Go.Proofs

def drF (f : Int → Option Ex) (i : Int) : Int → Option Ex := fun y => if y = i then none else f y
def quF (k i : Int) (f : Int → Option Ex) : Int → Option Ex := if k = 7 ∨ k = 10 then drF f i else f
mutual
/-- Terms in the place of the free occurrences of variables, whatever is caught. -/
def psF (f : Int → Option Ex) : Ex → Ex
  | .mk k i l => if k = 1 then (f i).getD (.mk k i l) else .mk k i (psL (quF k i f) l)
def psL (f : Int → Option Ex) : List Ex → List Ex
  | [] => []
  | e :: l => psF f e :: psL f l
end
theorem psL_map (f : Int → Option Ex) : ∀ l, psL f l = l.map (psF f)
  | [] => by rw [psL]; rfl
  | e :: l => by rw [psL, psL_map f l]; rfl
theorem psF_eq (f : Int → Option Ex) (e : Ex) : psF f e = if e.k = 1 then (f e.i).getD e else .mk e.k e.i (e.kids.map (psF (quF e.k e.i f))) := by cases e; rw [psF, psL_map]; rfl
theorem psL_len (f : Int → Option Ex) (l : List Ex) : (psL f l).length = l.length := by rw [psL_map]; simp
def sgF (x : Int) (t : Ex) : Int → Option Ex := fun y => if y = x then some t else none
theorem drF_sg {x i : Int} {t : Ex} (h : ¬ i = x) : drF (sgF x t) i = sgF x t := by
  funext y
  unfold drF sgF
  by_cases e : y = i
  · rw [if_pos e, if_neg (by omega)]
  · rw [if_neg e]
theorem hasB_range {s : Nat} {x : Int} (h : hasB s x = true) : 0 ≤ x ∧ x ≤ 63 := by
  unfold hasB at h
  simp only [Bool.and_eq_true, decide_eq_true_eq] at h
  omega
/-- A node's free variables: its kids', but what it binds. -/
theorem has_node {k i : Int} {l : List Ex} (hk : ¬ k = 1) (y : Int) : hasB (frE (.mk k i l)) y = (hasB (frL l) y && !hasB (binP k i) y) := by rw [frE, if_neg hk, hasB_dif]
theorem has_bin {k i : Int} (hi : (k = 7 ∨ k = 10) → 0 ≤ i ∧ i ≤ 63) (y : Int) : hasB (binP k i) y = decide ((k = 7 ∨ k = 10) ∧ i = y) := by
  unfold binP
  split
  · rename_i h; rw [hasB_one (hi h)]; simp [h]
  · rename_i h; rw [hasB_zero]; simp [h]
theorem bin_in {k i : Int} {l : List Ex} (ha : allX (.mk k i l) = true) : (k = 7 ∨ k = 10) → 0 ≤ i ∧ i ≤ 63 := fun h => shaped_var ha (.inr h)
theorem has_cons (e : Ex) (l : List Ex) (y : Int) : hasB (frL (e :: l)) y = (hasB (frE e) y || hasB (frL l) y) := by rw [frL, hasB_or]

/-! ### What changes nothing -/
mutual
theorem psF_id {f : Int → Option Ex} : ∀ e : Ex, allX e = true → (∀ y, hasB (frE e) y = true → f y = none ∨ f y = some (.mk 1 y [])) → psF f e = e
  | .mk k i l, ha, h => by
    rw [psF]
    by_cases hk : k = 1
    · rw [if_pos hk]
      have hl : l = [] := kids_none ha hk
      subst hk hl
      have hv := shaped_var ha (.inl rfl)
      simp only [Ex.i_mk] at hv
      have hf : hasB (frE (.mk 1 i [])) i = true := by rw [frE, if_pos rfl, hasB_one hv]; simp
      rcases h i hf with h1 | h1 <;> rw [h1] <;> rfl
    · rw [if_neg hk]
      rw [psL_id l (allX_kids ha) fun y hy => ?_]
      unfold quF
      by_cases hq : k = 7 ∨ k = 10
      · rw [if_pos hq]
        unfold drF
        by_cases e : y = i
        · rw [if_pos e]; exact .inl rfl
        · rw [if_neg e]
          refine h y ?_
          rw [has_node hk, hy, has_bin (bin_in ha)]
          have : ¬ i = y := fun q => e q.symm
          simp [this]
      · rw [if_neg hq]
        refine h y ?_
        rw [has_node hk, hy, has_bin (bin_in ha)]
        simp [hq]
theorem psL_id {f : Int → Option Ex} : ∀ l : List Ex, (∀ e ∈ l, allX e = true) → (∀ y, hasB (frL l) y = true → f y = none ∨ f y = some (.mk 1 y [])) → psL f l = l
  | [], _, _ => by rw [psL]
  | e :: l, ha, h => by
    rw [psL, psF_id e (ha e (by simp)) fun y hy => h y (by rw [has_cons, hy]; rfl), psL_id l (fun x hx => ha x (by simp [hx])) fun y hy => h y (by rw [has_cons, hy, Bool.or_true])]
end
theorem psF_not {x : Int} {t e : Ex} (ha : allX e = true) (h : hasB (frE e) x = false) : psF (sgF x t) e = e := psF_id e ha fun y hy => by
  unfold sgF
  by_cases q : y = x
  · subst q; rw [h] at hy; cases hy
  · rw [if_neg q]; exact .inl rfl
/-! ### What it is made of -/
theorem kidsAre_same {k i : Int} {l m : List Ex} (h : l.map isT = m.map isT) (a b : Int) (t : Bool) : kidsAre (.mk k i l) a b t = kidsAre (.mk k i m) a b t := by
  have h1 : l.length = m.length := by simpa using congrArg List.length h
  have h2 : (l.all fun x => isT x == t) = (m.all fun x => isT x == t) := by
    have e1 : (l.all fun x => isT x == t) = ((l.map isT).all fun y => y == t) := by rw [List.all_map]; rfl
    have e2 : (m.all fun x => isT x == t) = ((m.map isT).all fun y => y == t) := by rw [List.all_map]; rfl
    rw [e1, e2, h]
  show (decide (a ≤ (l.length : Int)) && decide ((l.length : Int) ≤ b) && (l.all fun x => isT x == t)) = (decide (a ≤ (m.length : Int)) && decide ((m.length : Int) ≤ b) && (m.all fun x => isT x == t))
  rw [h2, h1]
def shG (k i : Int) (n : Nat) (f : Int → Int → Bool → Bool) : Bool := decide (0 ≤ i) && decide (i ≤ mostOf k) && (if k = 1 then decide (n = 0) else if k = 2 ∨ k = 3 then f 0 4 true else if k = 4 then f 2 2 true else if k = 5 ∨ k = 7 ∨ k = 10 then f 1 1 false else if k = 6 ∨ k = 8 ∨ k = 9 then f 2 2 false else false)
theorem shaped_G (k i : Int) (l : List Ex) : shapedX (.mk k i l) = shG k i l.length (kidsAre (.mk k i l)) := rfl
theorem shaped_same {k i : Int} {l m : List Ex} (h : l.map isT = m.map isT) : shapedX (.mk k i l) = shapedX (.mk k i m) := by
  have h1 : l.length = m.length := by simpa using congrArg List.length h
  have h2 : kidsAre (.mk k i l) = kidsAre (.mk k i m) := by funext a b t; exact kidsAre_same h a b t
  rw [shaped_G, shaped_G, h1, h2]
def TermF (f : Int → Option Ex) : Prop := ∀ y t, f y = some t → allX t = true ∧ isT t = true
theorem termF_dr {f : Int → Option Ex} (h : TermF f) (k i : Int) : TermF (quF k i f) := fun y t ht => by
  unfold quF at ht
  split at ht
  · unfold drF at ht
    split at ht
    · cases ht
    · exact h y t ht
  · exact h y t ht
theorem termF_sg {x : Int} {t : Ex} (h1 : allX t = true) (h2 : isT t = true) : TermF (sgF x t) := fun y u hu => by
  unfold sgF at hu
  split at hu
  · cases hu; exact ⟨h1, h2⟩
  · cases hu
mutual
theorem psF_shape {f : Int → Option Ex} : ∀ e : Ex, allX e = true → TermF f → allX (psF f e) = true ∧ isT (psF f e) = isT e
  | .mk k i l, ha, h => by
    rw [psF]
    by_cases hk : k = 1
    · rw [if_pos hk]
      cases hf : f i with
      | none => exact ⟨ha, rfl⟩
      | some t =>
        obtain ⟨h1, h2⟩ := h i t hf
        refine ⟨h1, ?_⟩
        show isT t = _
        rw [h2]; unfold isT; simp [hk]
    · rw [if_neg hk]
      obtain ⟨h1, h2⟩ := psL_shape l (allX_kids ha) (termF_dr h k i)
      refine ⟨?_, rfl⟩
      rw [allX_eq, Bool.and_eq_true] at ha ⊢
      exact ⟨(shaped_same h2).trans ha.1, List.all_eq_true.2 h1⟩
theorem psL_shape {f : Int → Option Ex} : ∀ l : List Ex, (∀ e ∈ l, allX e = true) → TermF f → (∀ e ∈ psL f l, allX e = true) ∧ (psL f l).map isT = l.map isT
  | [], _, _ => by rw [psL]; simp
  | e :: l, ha, h => by
    obtain ⟨h1, h2⟩ := psF_shape e (ha e (by simp)) h
    obtain ⟨h3, h4⟩ := psL_shape l (fun x hx => ha x (by simp [hx])) h
    rw [psL]
    refine ⟨fun y hy => ?_, by rw [List.map_cons, List.map_cons, h2, h4]⟩
    rcases List.mem_cons.1 hy with rfl | hy
    · exact h1
    · exact h3 y hy
end
def VarF (f : Int → Option Ex) : Prop := ∀ y t, f y = some t → ∃ z, t = .mk 1 z []
theorem varF_dr {f : Int → Option Ex} (h : VarF f) (k i : Int) : VarF (quF k i f) := fun y t ht => by
  unfold quF at ht
  split at ht
  · unfold drF at ht
    split at ht
    · cases ht
    · exact h y t ht
  · exact h y t ht
mutual
theorem psF_size {f : Int → Option Ex} : ∀ e : Ex, allX e = true → VarF f → cntE (psF f e) = cntE e ∧ depE (psF f e) = depE e
  | .mk k i l, ha, h => by
    rw [psF]
    by_cases hk : k = 1
    · rw [if_pos hk]
      have hl : l = [] := kids_none ha hk
      cases hf : f i with
      | none => exact ⟨rfl, rfl⟩
      | some t =>
        obtain ⟨z, rfl⟩ := h i t hf
        subst hl
        exact ⟨rfl, rfl⟩
    · rw [if_neg hk]
      obtain ⟨h1, h2⟩ := psL_size l (allX_kids ha) (varF_dr h k i)
      rw [cntE, cntE, depE, depE, h1, h2]
      exact ⟨rfl, rfl⟩
theorem psL_size {f : Int → Option Ex} : ∀ l : List Ex, (∀ e ∈ l, allX e = true) → VarF f → cntL (psL f l) = cntL l ∧ depL (psL f l) = depL l
  | [], _, _ => by rw [psL]; exact ⟨rfl, rfl⟩
  | e :: l, ha, h => by
    obtain ⟨h1, h2⟩ := psF_size e (ha e (by simp)) h
    obtain ⟨h3, h4⟩ := psL_size l (fun x hx => ha x (by simp [hx])) h
    rw [psL, cntL, cntL, depL, depL, h1, h2, h3, h4]
    exact ⟨rfl, rfl⟩
end
/-! ### Nothing caught -/
theorem or_zero {a b : Nat} (h : a ||| b = 0) : a = 0 ∧ b = 0 := by
  constructor
  · apply Nat.eq_of_testBit_eq
    intro i
    have := congrArg (fun n => Nat.testBit n i) h
    simp only [Nat.testBit_or, Nat.zero_testBit, Bool.or_eq_false_iff] at this
    rw [this.1, Nat.zero_testBit]
  · apply Nat.eq_of_testBit_eq
    intro i
    have := congrArg (fun n => Nat.testBit n i) h
    simp only [Nat.testBit_or, Nat.zero_testBit, Bool.or_eq_false_iff] at this
    rw [this.2, Nat.zero_testBit]
/- In a term nothing is caught. -/
section
set_option linter.unusedVariables false
set_option linter.unusedSimpArgs false
open Go Go.Proofs

theorem kidsX {k i : Int} {l : List Ex} (ha : allX (.mk k i l) = true) : ∀ e ∈ l, allX e = true := allX_kids ha
theorem quF_sg {k i x : Int} {t : Ex} (h : ¬ ((k = 7 ∨ k = 10) ∧ i = x)) : quF k i (sgF x t) = sgF x t := by
  unfold quF
  split
  · rename_i hq; exact drF_sg fun e => h ⟨hq, e⟩
  · rfl
/-! ### Its free variables -/
/-! ### One behind the other -/
/-! ### Taken out again -/
end
end Go.Proofs.YtaacfmakfkaddaaDoor.Ax
