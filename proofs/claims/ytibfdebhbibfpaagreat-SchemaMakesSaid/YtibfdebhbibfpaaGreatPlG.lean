/- Plain law: what is caught. -/
import Derived.Test.YtibfdebhbibfpaaGreatPlE
import Derived.Test.YtibfdebhbibfpaaGreatBxP
set_option linter.unusedVariables false
set_option linter.unusedSimpArgs false
namespace Go.Proofs.YtibfdebhbibfpaaGreat.Ax
section
open Go Go.Proofs

theorem kids_none {e : Ex} (h : allX e = true) (hk : e.k = 1) : e.kids = [] := by
  rw [allX_eq, Bool.and_eq_true] at h
  have h1 := h.1
  unfold shapedX at h1
  rw [Bool.and_eq_true, if_pos hk] at h1
  exact List.eq_nil_of_length_eq_zero (of_decide_eq_true h1.2)
theorem hasB_or (a b : Nat) (x : Int) : hasB (a ||| b) x = (hasB a x || hasB b x) := by
  unfold hasB
  rw [Nat.testBit_or]
  cases decide (0 ≤ x) <;> cases decide (x < 64) <;> simp
theorem hasB_dif (a b : Nat) (x : Int) : hasB (dif a b) x = (hasB a x && !hasB b x) := by
  unfold hasB
  rw [dif_bit]
  cases decide (0 ≤ x) <;> cases decide (x < 64) <;> simp
theorem hasB_zero (x : Int) : hasB 0 x = false := by unfold hasB; simp
theorem hasB_one {x y : Int} (h : 0 ≤ y ∧ y ≤ 63) : hasB (pw y.toNat) x = decide (y = x) := by
  unfold hasB
  rw [pw_bit]
  by_cases h1 : y = x
  · subst h1; simp; omega
  · simp only [h1, decide_false]
    by_cases h2 : 0 ≤ x
    · have : ¬ y.toNat = x.toNat := by omega
      simp [this]
    · simp [h2]
def stpC (own : Nat) (x y : Int) (b s : Nat) : Nat := if y = x ∧ hasB b x = false then s ||| (own &&& b) else s
mutual
/-- What is caught. -/
def catE (own : Nat) (x : Int) : Ex → Nat
  | .mk k i l => if hasB (frE (.mk k i l)) x = true then (own &&& binP k i) ||| catL own x l else 0
def catL (own : Nat) (x : Int) : List Ex → Nat
  | [] => 0
  | e :: l => catE own x e ||| catL own x l
end
theorem catE_eq (own : Nat) (x : Int) (e : Ex) : catE own x e = if hasB (frE e) x = true then (own &&& binP e.k e.i) ||| catL own x e.kids else 0 := by cases e; rw [catE]; rfl
theorem catL_take (own : Nat) (x : Int) (l : List Ex) (j : Nat) (h : j < l.length) : catL own x (l.take (j + 1)) = catL own x (l.take j) ||| catE own x l[j] := by
  induction l generalizing j with
  | nil => simp at h
  | cons e l ih =>
    cases j with
    | zero => simp [catL]
    | succ j => simp only [List.take_succ_cons, catL, List.getElem_cons_succ]; rw [ih j (by simpa using h), Nat.or_assoc]
theorem cat_no {own : Nat} {x : Int} {e : Ex} (h : hasB (frE e) x = false) : catE own x e = 0 := by rw [catE_eq, if_neg (by simp [h])]
theorem catL_no {own : Nat} {x : Int} : ∀ l : List Ex, hasB (frL l) x = false → catL own x l = 0
  | [], _ => by rw [catL]
  | e :: l, h => by
    rw [frL, hasB_or, Bool.or_eq_false_iff] at h
    rw [catL, cat_no h.1, catL_no l h.2]; rfl
mutual
theorem cat_run (own : Nat) (x : Int) : ∀ (e : Ex) (b s : Nat), allX e = true → runO (stpC own x) (occE e b) s = s ||| (if hasB b x = false ∧ hasB (frE e) x = true then (own &&& b) ||| catE own x e else 0)
  | .mk k i l, b, s, ha => by
    rw [occE]
    by_cases hk : k = 1
    · rw [if_pos hk]
      have hv := shaped_var ha (.inl hk)
      have hl : l = [] := kids_none ha hk
      subst hk hl
      simp only [Ex.i_mk] at hv
      have hf : hasB (frE (.mk 1 i [])) x = decide (i = x) := by rw [frE, if_pos rfl, hasB_one hv]
      have hc : catE own x (.mk 1 i []) = 0 := by rw [catE, catL]; simp [binP]
      show stpC own x i b s = _
      rw [hc, hf]; unfold stpC
      by_cases h1 : i = x <;> by_cases h2 : hasB b x = false <;> simp [h1, h2]
    · rw [if_neg hk, cat_runL own x l _ s (allX_kids ha)]
      have hf : hasB (frE (.mk k i l)) x = (hasB (frL l) x && !hasB (binP k i) x) := by rw [frE, if_neg hk, hasB_dif]
      rw [hasB_or, catE, hf]
      cases h1 : hasB b x <;> cases h2 : hasB (binP k i) x <;> cases h3 : hasB (frL l) x <;> simp
      rw [Nat.and_or_distrib_left, Nat.or_assoc]
theorem cat_runL (own : Nat) (x : Int) : ∀ (l : List Ex) (b s : Nat), (∀ e ∈ l, allX e = true) → runO (stpC own x) (occL l b) s = s ||| (if hasB b x = false ∧ hasB (frL l) x = true then (own &&& b) ||| catL own x l else 0)
  | [], b, s, _ => by simp [occL, frL, runO, hasB_zero]
  | e :: l, b, s, h => by
    rw [occL, runO_append, cat_run own x e b s (h e (by simp)), cat_runL own x l b _ fun y hy => h y (by simp [hy]), frL, hasB_or, catL]
    cases h1 : hasB b x <;> cases h2 : hasB (frE e) x <;> cases h3 : hasB (frL l) x <;> simp
    · rw [cat_no h2]; simp
    · rw [catL_no l h3]; simp
    · apply Nat.eq_of_testBit_eq
      intro j
      simp only [Nat.testBit_or]
      cases s.testBit j <;> cases (own &&& b).testBit j <;> cases (catE own x e).testBit j <;> cases (catL own x l).testBit j <;> rfl
end
theorem cat_run0 (own : Nat) (x : Int) (e : Ex) (ha : allX e = true) : runO (stpC own x) (occE e 0) 0 = catE own x e := by
  rw [cat_run own x e 0 0 ha, hasB_zero]
  cases h : hasB (frE e) x
  · rw [cat_no h]; simp
  · simp
mutual
theorem cat_own (own : Nat) (x : Int) (j : Nat) (h : own.testBit j = false) : ∀ e : Ex, (catE own x e).testBit j = false
  | .mk k i l => by
    rw [catE]
    split
    · rw [Nat.testBit_or, Nat.testBit_and, h, cat_ownL own x j h l]; rfl
    · simp
theorem cat_ownL (own : Nat) (x : Int) (j : Nat) (h : own.testBit j = false) : ∀ l : List Ex, (catL own x l).testBit j = false
  | [] => by rw [catL]; simp
  | e :: l => by rw [catL, Nat.testBit_or, cat_own own x j h e, cat_ownL own x j h l]; rfl
end
mutual
theorem cat_bo (own : Nat) (x : Int) (j : Nat) : ∀ e : Ex, (boE e).testBit j = false → (catE own x e).testBit j = false
  | .mk k i l, h => by
    rw [boE, Nat.testBit_or, Bool.or_eq_false_iff] at h
    rw [catE]
    split
    · rw [Nat.testBit_or, Nat.testBit_and, h.1, cat_boL own x j l h.2]; simp
    · simp
theorem cat_boL (own : Nat) (x : Int) (j : Nat) : ∀ l : List Ex, (boL l).testBit j = false → (catL own x l).testBit j = false
  | [], h => by rw [catL]; simp
  | e :: l, h => by
    rw [boL, Nat.testBit_or, Bool.or_eq_false_iff] at h
    rw [catL, Nat.testBit_or, cat_bo own x j e h.1, cat_boL own x j l h.2]; rfl
end
theorem cat_lt {own : Nat} {x : Int} {e : Ex} (h : own < 18446744073709551616) : catE own x e < 18446744073709551616 := by
  have : catE own x e &&& own = catE own x e := by
    apply Nat.eq_of_testBit_eq
    intro j
    rw [Nat.testBit_and]
    cases ho : own.testBit j
    · rw [cat_own own x j ho e]; rfl
    · simp
  rw [← this]
  exact Nat.lt_of_le_of_lt Nat.and_le_right h
theorem catL_lt {own : Nat} {x : Int} {l : List Ex} (h : own < 18446744073709551616) : catL own x l < 18446744073709551616 := by
  induction l with
  | nil => rw [catL]; omega
  | cons e l ih => rw [catL]; exact or_lt (cat_lt h) ih
mutual
/-- x in the place of x catches nothing. -/
theorem cat_self (x : Int) (hx : 0 ≤ x ∧ x ≤ 63) : ∀ e : Ex, allX e = true → catE (pw x.toNat) x e = 0
  | .mk k i l, ha => by
    rw [catE]
    split
    · rename_i h
      rw [cat_selfL x hx l (allX_kids ha)]
      have hb : pw x.toNat &&& binP k i = 0 := by
        by_cases hk : k = 1
        · subst hk; simp [binP]
        · rw [frE, if_neg hk, hasB_dif, Bool.and_eq_true] at h
          have h2 := h.2
          unfold binP at *
          split at h2
          · rename_i hq
            rw [if_pos hq]
            have hv := shaped_var ha (.inr hq)
            simp only [Ex.i_mk] at hv
            rw [hasB_one hv] at h2
            have hne : ¬ i = x := by simpa using h2
            apply Nat.eq_of_testBit_eq
            intro j
            rw [Nat.testBit_and, pw_bit, pw_bit]
            by_cases e1 : x.toNat = j
            · have : ¬ i.toNat = j := by omega
              simp [this]
            · simp [e1]
          · rename_i hq; rw [if_neg hq]; simp
      rw [hb]; rfl
    · rfl
theorem cat_selfL (x : Int) (hx : 0 ≤ x ∧ x ≤ 63) : ∀ l : List Ex, (∀ e ∈ l, allX e = true) → catL (pw x.toNat) x l = 0
  | [], _ => by rw [catL]
  | e :: l, h => by rw [catL, cat_self x hx e (h e (by simp)), cat_selfL x hx l fun y hy => h y (by simp [hy])]; rfl
end
mutual
theorem fr_oc (j : Nat) : ∀ e : Ex, (ocE e).testBit j = false → (frE e).testBit j = false
  | .mk k i l, h => by
    rw [ocE] at h
    rw [frE]
    split
    · rename_i hk; rw [if_pos hk] at h; exact h
    · rename_i hk; rw [if_neg hk] at h; rw [dif_bit, fr_ocL j l h]; rfl
theorem fr_ocL (j : Nat) : ∀ l : List Ex, (ocL l).testBit j = false → (frL l).testBit j = false
  | [], h => by rw [frL]; simp
  | e :: l, h => by
    rw [ocL, Nat.testBit_or, Bool.or_eq_false_iff] at h
    rw [frL, Nat.testBit_or, fr_oc j e h.1, fr_ocL j l h.2]; rfl
end
end
section
open Go Go.Proofs

def sh0 (k : Int) : Bool := decide (k = 8) || decide (k = 9) || decide (k = 10)
mutual
/-- Has it an abbreviation? -/
def shE : Ex → Bool
  | .mk k i l => sh0 k || shL l
def shL : List Ex → Bool
  | [] => false
  | e :: l => shE e || shL l
end
theorem shE_eq (e : Ex) : shE e = (sh0 e.k || shL e.kids) := by cases e; rw [shE]; rfl
theorem shL_getD : ∀ (l : List Ex) (j : Nat), shL l = false → shE (l.getD j ex0) = false
  | [], j, _ => by simp [ex0, shE, shL, sh0]
  | e :: l, 0, h => by rw [shL, Bool.or_eq_false_iff] at h; exact h.1
  | e :: l, j + 1, h => by rw [shL, Bool.or_eq_false_iff] at h; exact shL_getD l j h.2
theorem unf0_no {k i : Int} {l : List Ex} (h : sh0 k = false) : unf0 k i l = .mk k i l := by
  unfold sh0 at h
  simp only [Bool.or_eq_false_iff, decide_eq_false_iff_not] at h
  unfold unf0
  rw [if_neg h.1.1, if_neg h.1.2, if_neg h.2]
mutual
theorem unf_short : ∀ e : Ex, shE (unfE e) = false
  | .mk k i l => by
    rw [unfE]
    have h := unf_shortL l
    by_cases c : sh0 k = true
    · have h0 := shL_getD (unfL l) 0 h
      have h1 := shL_getD (unfL l) 1 h
      unfold sh0 at c
      simp only [Bool.or_eq_true, decide_eq_true_eq] at c
      unfold unf0 notX impX allQ
      rcases c with (rfl | rfl) | rfl <;> simp [shE, shL, sh0] <;> simp [List.getD] at h0 h1 ⊢ <;> simp [h0, h1]
    · rw [Bool.not_eq_true] at c
      rw [unf0_no c, shE, c, h]; rfl
theorem unf_shortL : ∀ l : List Ex, shL (unfL l) = false
  | [] => by rw [unfL, shL]
  | e :: l => by rw [unfL, shL, unf_short e, unf_shortL l]; rfl
end
mutual
theorem unf_same : ∀ e : Ex, shE e = false → unfE e = e
  | .mk k i l, h => by
    rw [shE, Bool.or_eq_false_iff] at h
    rw [unfE, unf_sameL l h.2, unf0_no h.1]
theorem unf_sameL : ∀ l : List Ex, shL l = false → unfL l = l
  | [], _ => by rw [unfL]
  | e :: l, h => by
    rw [shL, Bool.or_eq_false_iff] at h
    rw [unfL, unf_same e h.1, unf_sameL l h.2]
end
theorem kid_sorts {e : Ex} (h : allX e = true) (hk : 5 ≤ e.k) : ∀ x ∈ e.kids, isT x = false := by
  rw [allX_eq, Bool.and_eq_true] at h
  have h1 := h.1
  unfold shapedX kidsAre at h1
  rw [Bool.and_eq_true, if_neg (by omega), if_neg (by omega), if_neg (by omega)] at h1
  have h2 := h1.2
  intro x hx
  split at h2
  · simp only [Bool.and_eq_true, List.all_eq_true, beq_iff_eq] at h2; exact h2.2 x hx
  · split at h2
    · simp only [Bool.and_eq_true, List.all_eq_true, beq_iff_eq] at h2; exact h2.2 x hx
    · cases h2
theorem not_all {a : Ex} (ha : allX a = true) (ht : isT a = false) : allX (notX a) = true := by
  rw [allX_eq]
  have : shapedX (notX a) = true := by unfold shapedX mostOf kidsAre notX; simp [ht]
  rw [this]; simp [notX, ha]
theorem imp_all {a b : Ex} (ha : allX a = true) (hb : allX b = true) (hta : isT a = false) (htb : isT b = false) : allX (impX a b) = true := by
  rw [allX_eq]
  have : shapedX (impX a b) = true := by unfold shapedX mostOf kidsAre impX; simp [hta, htb]
  rw [this]; simp [impX, ha, hb]
theorem q_all {b : Ex} {x : Int} (hx : 0 ≤ x ∧ x ≤ 63) (hb : allX b = true) (ht : isT b = false) : allX (allQ x b) = true := by
  rw [allX_eq]
  have : shapedX (allQ x b) = true := by
    unfold shapedX mostOf kidsAre allQ
    simp [hx.1, hx.2, ht]
  rw [this]; simp [allQ, hb]
structure Unf (e : Ex) : Prop where
  c : cntE (unfE e) ≤ 3 * cntE e
  d : depE (unfE e) ≤ 3 * depE e
  a : allX (unfE e) = true
  t : isT (unfE e) = isT e
  f : frE (unfE e) = frE e
theorem dif_zero (a : Nat) : dif a 0 = a := by unfold dif; simp
theorem unf_list {l : List Ex} (h : ∀ x ∈ l, Unf x) : cntL (unfL l) ≤ 3 * cntL l ∧ depL (unfL l) ≤ 3 * depL l ∧ (unfL l).all allX = true ∧ (∀ t, (unfL l).all (fun k => isT k == t) = l.all (fun k => isT k == t)) ∧ frL (unfL l) = frL l ∧ (unfL l).length = l.length := by
  induction l with
  | nil => simp [unfL, cntL, depL, frL]
  | cons x l ih =>
    have hx := h x (by simp)
    obtain ⟨h1, h2, h3, h4, h5, h6⟩ := ih fun y hy => h y (by simp [hy])
    rw [unfL]
    have := hx.c
    have := hx.d
    refine ⟨by rw [cntL, cntL]; omega, by rw [depL, depL]; omega, by rw [List.all_cons, hx.a, h3]; rfl, fun t => by rw [List.all_cons, List.all_cons, hx.t, h4], by rw [frL, frL, hx.f, h5], by simp [h6]⟩
theorem unf_law (n : Nat) : ∀ e : Ex, SizeOf.sizeOf e < n → allX e = true → Unf e := by
  induction n with
  | zero => intro e h; omega
  | succ n ih =>
    intro e he ha
    have hk : ∀ x ∈ e.kids, Unf x := fun x hx => ih x (by have := mem_lt hx; omega) (allX_kids ha x hx)
    obtain ⟨k, i, l⟩ := e
    simp only [Ex.kids_mk] at hk
    by_cases c8 : k = 8
    · subst c8
      obtain ⟨a, b, hab⟩ := kids_two ha (.inr (.inl rfl))
      simp only [Ex.kids_mk] at hab
      subst hab
      have ua := hk a (by simp)
      have ub := hk b (by simp)
      have ta := kid_sorts ha (by simp) a (by simp)
      have tb := kid_sorts ha (by simp) b (by simp)
      have e1 : unfE (.mk 8 i [a, b]) = notX (impX (unfE a) (notX (unfE b))) := by rw [unfE, unfL, unfL, unfL]; rfl
      have h1 := ua.c; have h2 := ub.c; have h3 := ua.d; have h4 := ub.d
      have ta' := ua.t; have tb' := ub.t
      rw [ta] at ta'; rw [tb] at tb'
      refine ⟨?_, ?_, ?_, ?_, ?_⟩
      · rw [e1]; simp only [notX, impX, cntE, cntL]; omega
      · rw [e1]; simp only [notX, impX, depE, depL]; omega
      · rw [e1]; exact not_all (imp_all ua.a (not_all ub.a tb') ta' rfl) rfl
      · rw [e1]; rfl
      · rw [e1]; simp only [notX, impX, frE, frL]; simp [binP, dif_zero, ua.f, ub.f]
    by_cases c9 : k = 9
    · subst c9
      obtain ⟨a, b, hab⟩ := kids_two ha (.inr (.inr rfl))
      simp only [Ex.kids_mk] at hab
      subst hab
      have ua := hk a (by simp)
      have ub := hk b (by simp)
      have ta := kid_sorts ha (by simp) a (by simp)
      have tb := kid_sorts ha (by simp) b (by simp)
      have e1 : unfE (.mk 9 i [a, b]) = impX (notX (unfE a)) (unfE b) := by rw [unfE, unfL, unfL, unfL]; rfl
      have h1 := ua.c; have h2 := ub.c; have h3 := ua.d; have h4 := ub.d
      have ta' := ua.t; have tb' := ub.t
      rw [ta] at ta'; rw [tb] at tb'
      refine ⟨?_, ?_, ?_, ?_, ?_⟩
      · rw [e1]; simp only [notX, impX, cntE, cntL]; omega
      · rw [e1]; simp only [notX, impX, depE, depL]; omega
      · rw [e1]; exact imp_all (not_all ua.a ta') ub.a rfl tb'
      · rw [e1]; rfl
      · rw [e1]; simp only [notX, impX, frE, frL]; simp [binP, dif_zero, ua.f, ub.f]
    by_cases c10 : k = 10
    · subst c10
      obtain ⟨a, hab⟩ := kids_one ha (.inr (.inr rfl))
      simp only [Ex.kids_mk] at hab
      subst hab
      have ua := hk a (by simp)
      have ta := kid_sorts ha (by simp) a (by simp)
      have hv := shaped_var ha (.inr (.inr rfl))
      simp only [Ex.i_mk] at hv
      have e1 : unfE (.mk 10 i [a]) = notX (allQ i (notX (unfE a))) := by rw [unfE, unfL, unfL]; rfl
      have h1 := ua.c; have h3 := ua.d
      have ta' := ua.t
      rw [ta] at ta'
      refine ⟨?_, ?_, ?_, ?_, ?_⟩
      · rw [e1]; simp only [notX, allQ, cntE, cntL]; omega
      · rw [e1]; simp only [notX, allQ, depE, depL]; omega
      · rw [e1]; exact not_all (q_all hv (not_all ua.a ta') rfl) rfl
      · rw [e1]; rfl
      · rw [e1]; simp only [notX, allQ, frE, frL]; simp [binP, dif_zero, ua.f]
    have hs : sh0 k = false := by unfold sh0; simp [c8, c9, c10]
    have e1 : unfE (.mk k i l) = .mk k i (unfL l) := by rw [unfE, unf0_no hs]
    obtain ⟨h1, h2, h3, h4, h5, h6⟩ := unf_list hk
    rw [allX_eq, Bool.and_eq_true] at ha
    refine ⟨?_, ?_, ?_, ?_, ?_⟩
    · rw [e1, cntE, cntE]; omega
    · rw [e1, depE, depE]; omega
    · rw [e1, allX_eq]
      have : shapedX (.mk k i (unfL l)) = shapedX (.mk k i l) := by
        have hk : ∀ a b t, kidsAre (.mk k i (unfL l)) a b t = kidsAre (.mk k i l) a b t := fun a b t => by
          unfold kidsAre
          rw [show (Ex.mk k i (unfL l)).kids = unfL l from rfl, show (Ex.mk k i l).kids = l from rfl, h4]
          simp only [h6]
        unfold shapedX
        rw [hk, hk, hk, hk]
        simp only [Ex.k_mk, Ex.i_mk, Ex.kids_mk, h6]
        rfl
      rw [this, ha.1]; exact h3
    · rw [e1]; rfl
    · rw [e1, frE, frE, h5]
mutual
/-- All parts of an expression. -/
def partE : Ex → List Ex
  | .mk k i l => .mk k i l :: partL l
def partL : List Ex → List Ex
  | [] => []
  | e :: l => partE e ++ partL l
end
theorem partE_eq (e : Ex) : partE e = e :: partL e.kids := by cases e; rw [partE]; rfl
theorem partL_take (l : List Ex) (j : Nat) (h : j < l.length) : partL (l.take (j + 1)) = partL (l.take j) ++ partE l[j] := by
  induction l generalizing j with
  | nil => simp at h
  | cons e l ih =>
    cases j with
    | zero => simp [partL]
    | succ j => simp only [List.take_succ_cons, partL, List.getElem_cons_succ]; rw [ih j (by simpa using h), List.append_assoc]
mutual
theorem partE_len : ∀ e : Ex, (partE e).length = cntE e
  | .mk k i l => by rw [partE, cntE, List.length_cons, partL_len l]
theorem partL_len : ∀ l : List Ex, (partL l).length = cntL l
  | [] => by rw [partL, cntL]; rfl
  | e :: l => by rw [partL, cntL, List.length_append, partE_len e, partL_len l]
end
mutual
theorem part_short : ∀ e : Ex, (partE e).any (fun x => sh0 x.k) = shE e
  | .mk k i l => by rw [partE, shE, List.any_cons, part_shortL l]; rfl
theorem part_shortL : ∀ l : List Ex, (partL l).any (fun x => sh0 x.k) = shL l
  | [] => by rw [partL, shL]; rfl
  | e :: l => by rw [partL, shL, List.any_append, part_short e, part_shortL l]
end
end
end Go.Proofs.YtibfdebhbibfpaaGreat.Ax
