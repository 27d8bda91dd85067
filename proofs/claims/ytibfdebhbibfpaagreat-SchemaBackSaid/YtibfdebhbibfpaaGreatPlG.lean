/- Plain law: what is caught. -/
import Derived.Test.YtibfdebhbibfpaaGreatPlE
import Derived.Test.YtibfdebhbibfpaaGreatBxP
set_option linter.unusedVariables false
set_option linter.unusedSimpArgs false
namespace Go.Proofs.YtibfdebhbibfpaaGreat.Ax
section
open Go Go.Proofs

theorem kids_none {e : Ex} (h : allX e = true) (hk : e.k = 1) : e.kids = [] := by
  rw [allX_eq, Bool.and_eq_true] at h
  have h1 := h.1
  unfold shapedX at h1
  rw [Bool.and_eq_true, if_pos hk] at h1
  exact List.eq_nil_of_length_eq_zero (of_decide_eq_true h1.2)
theorem hasB_or (a b : Nat) (x : Int) : hasB (a ||| b) x = (hasB a x || hasB b x) := by
  unfold hasB
  rw [Nat.testBit_or]
  cases decide (0 ≤ x) <;> cases decide (x < 64) <;> simp
theorem hasB_dif (a b : Nat) (x : Int) : hasB (dif a b) x = (hasB a x && !hasB b x) := by
  unfold hasB
  rw [dif_bit]
  cases decide (0 ≤ x) <;> cases decide (x < 64) <;> simp
theorem hasB_zero (x : Int) : hasB 0 x = false := by unfold hasB; simp
theorem hasB_one {x y : Int} (h : 0 ≤ y ∧ y ≤ 63) : hasB (pw y.toNat) x = decide (y = x) := by
  unfold hasB
  rw [pw_bit]
  by_cases h1 : y = x
  · subst h1; simp; omega
  · simp only [h1, decide_false]
    by_cases h2 : 0 ≤ x
    · have : ¬ y.toNat = x.toNat := by omega
      simp [this]
    · simp [h2]
def stpC (own : Nat) (x y : Int) (b s : Nat) : Nat := if y = x ∧ hasB b x = false then s ||| (own &&& b) else s
mutual
/-- What is caught. -/
def catE (own : Nat) (x : Int) : Ex → Nat
  | .mk k i l => if hasB (frE (.mk k i l)) x = true then (own &&& binP k i) ||| catL own x l else 0
def catL (own : Nat) (x : Int) : List Ex → Nat
  | [] => 0
  | e :: l => catE own x e ||| catL own x l
end
theorem catE_eq (own : Nat) (x : Int) (e : Ex) : catE own x e = if hasB (frE e) x = true then (own &&& binP e.k e.i) ||| catL own x e.kids else 0 := by cases e; rw [catE]; rfl
theorem catL_take (own : Nat) (x : Int) (l : List Ex) (j : Nat) (h : j < l.length) : catL own x (l.take (j + 1)) = catL own x (l.take j) ||| catE own x l[j] := by
  induction l generalizing j with
  | nil => simp at h
  | cons e l ih =>
    cases j with
    | zero => simp [catL]
    | succ j => simp only [List.take_succ_cons, catL, List.getElem_cons_succ]; rw [ih j (by simpa using h), Nat.or_assoc]
theorem cat_no {own : Nat} {x : Int} {e : Ex} (h : hasB (frE e) x = false) : catE own x e = 0 := by rw [catE_eq, if_neg (by simp [h])]
theorem catL_no {own : Nat} {x : Int} : ∀ l : List Ex, hasB (frL l) x = false → catL own x l = 0
  | [], _ => by rw [catL]
  | e :: l, h => by
    rw [frL, hasB_or, Bool.or_eq_false_iff] at h
    rw [catL, cat_no h.1, catL_no l h.2]; rfl
mutual
theorem cat_run (own : Nat) (x : Int) : ∀ (e : Ex) (b s : Nat), allX e = true → runO (stpC own x) (occE e b) s = s ||| (if hasB b x = false ∧ hasB (frE e) x = true then (own &&& b) ||| catE own x e else 0)
  | .mk k i l, b, s, ha => by
    rw [occE]
    by_cases hk : k = 1
    · rw [if_pos hk]
      have hv := shaped_var ha (.inl hk)
      have hl : l = [] := kids_none ha hk
      subst hk hl
      simp only [Ex.i_mk] at hv
      have hf : hasB (frE (.mk 1 i [])) x = decide (i = x) := by rw [frE, if_pos rfl, hasB_one hv]
      have hc : catE own x (.mk 1 i []) = 0 := by rw [catE, catL]; simp [binP]
      show stpC own x i b s = _
      rw [hc, hf]; unfold stpC
      by_cases h1 : i = x <;> by_cases h2 : hasB b x = false <;> simp [h1, h2]
    · rw [if_neg hk, cat_runL own x l _ s (allX_kids ha)]
      have hf : hasB (frE (.mk k i l)) x = (hasB (frL l) x && !hasB (binP k i) x) := by rw [frE, if_neg hk, hasB_dif]
      rw [hasB_or, catE, hf]
      cases h1 : hasB b x <;> cases h2 : hasB (binP k i) x <;> cases h3 : hasB (frL l) x <;> simp
      rw [Nat.and_or_distrib_left, Nat.or_assoc]
theorem cat_runL (own : Nat) (x : Int) : ∀ (l : List Ex) (b s : Nat), (∀ e ∈ l, allX e = true) → runO (stpC own x) (occL l b) s = s ||| (if hasB b x = false ∧ hasB (frL l) x = true then (own &&& b) ||| catL own x l else 0)
  | [], b, s, _ => by simp [occL, frL, runO, hasB_zero]
  | e :: l, b, s, h => by
    rw [occL, runO_append, cat_run own x e b s (h e (by simp)), cat_runL own x l b _ fun y hy => h y (by simp [hy]), frL, hasB_or, catL]
    cases h1 : hasB b x <;> cases h2 : hasB (frE e) x <;> cases h3 : hasB (frL l) x <;> simp
    · rw [cat_no h2]; simp
    · rw [catL_no l h3]; simp
    · apply Nat.eq_of_testBit_eq
      intro j
      simp only [Nat.testBit_or]
      cases s.testBit j <;> cases (own &&& b).testBit j <;> cases (catE own x e).testBit j <;> cases (catL own x l).testBit j <;> rfl
end
theorem cat_run0 (own : Nat) (x : Int) (e : Ex) (ha : allX e = true) : runO (stpC own x) (occE e 0) 0 = catE own x e := by
  rw [cat_run own x e 0 0 ha, hasB_zero]
  cases h : hasB (frE e) x
  · rw [cat_no h]; simp
  · simp
mutual
theorem cat_own (own : Nat) (x : Int) (j : Nat) (h : own.testBit j = false) : ∀ e : Ex, (catE own x e).testBit j = false
  | .mk k i l => by
    rw [catE]
    split
    · rw [Nat.testBit_or, Nat.testBit_and, h, cat_ownL own x j h l]; rfl
    · simp
theorem cat_ownL (own : Nat) (x : Int) (j : Nat) (h : own.testBit j = false) : ∀ l : List Ex, (catL own x l).testBit j = false
  | [] => by rw [catL]; simp
  | e :: l => by rw [catL, Nat.testBit_or, cat_own own x j h e, cat_ownL own x j h l]; rfl
end
theorem cat_lt {own : Nat} {x : Int} {e : Ex} (h : own < 18446744073709551616) : catE own x e < 18446744073709551616 := by
  have : catE own x e &&& own = catE own x e := by
    apply Nat.eq_of_testBit_eq
    intro j
    rw [Nat.testBit_and]
    cases ho : own.testBit j
    · rw [cat_own own x j ho e]; rfl
    · simp
  rw [← this]
  exact Nat.lt_of_le_of_lt Nat.and_le_right h
mutual
/-- x in the place of x catches nothing. -/
theorem cat_self (x : Int) (hx : 0 ≤ x ∧ x ≤ 63) : ∀ e : Ex, allX e = true → catE (pw x.toNat) x e = 0
  | .mk k i l, ha => by
    rw [catE]
    split
    · rename_i h
      rw [cat_selfL x hx l (allX_kids ha)]
      have hb : pw x.toNat &&& binP k i = 0 := by
        by_cases hk : k = 1
        · subst hk; simp [binP]
        · rw [frE, if_neg hk, hasB_dif, Bool.and_eq_true] at h
          have h2 := h.2
          unfold binP at *
          split at h2
          · rename_i hq
            rw [if_pos hq]
            have hv := shaped_var ha (.inr hq)
            simp only [Ex.i_mk] at hv
            rw [hasB_one hv] at h2
            have hne : ¬ i = x := by simpa using h2
            apply Nat.eq_of_testBit_eq
            intro j
            rw [Nat.testBit_and, pw_bit, pw_bit]
            by_cases e1 : x.toNat = j
            · have : ¬ i.toNat = j := by omega
              simp [this]
            · simp [e1]
          · rename_i hq; rw [if_neg hq]; simp
      rw [hb]; rfl
    · rfl
theorem cat_selfL (x : Int) (hx : 0 ≤ x ∧ x ≤ 63) : ∀ l : List Ex, (∀ e ∈ l, allX e = true) → catL (pw x.toNat) x l = 0
  | [], _ => by rw [catL]
  | e :: l, h => by rw [catL, cat_self x hx e (h e (by simp)), cat_selfL x hx l fun y hy => h y (by simp [hy])]; rfl
end
end
section
open Go Go.Proofs

structure Unf (e : Ex) : Prop where
  c : cntE (unfE e) ≤ 3 * cntE e
  d : depE (unfE e) ≤ 3 * depE e
  a : allX (unfE e) = true
  t : isT (unfE e) = isT e
  f : frE (unfE e) = frE e
theorem dif_zero (a : Nat) : dif a 0 = a := by unfold dif; simp
end
end Go.Proofs.YtibfdebhbibfpaaGreat.Ax
