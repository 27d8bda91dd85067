/- Plain: a formula's parts by a schema. -/
import Derived.Test.YtibfdebhbibfpaaGreatDxG
set_option linter.unusedVariables false
set_option linter.unusedSimpArgs false
namespace Go.Proofs.YtibfdebhbibfpaaGreat.Ax
open Go Go.Proofs

mutual
theorem o_inj : ∀ (a b : Ex), ordE a b = 0 → a = b
  | .mk k i l, .mk k' i' l', h => by
    rw [ordE_hd] at h
    split at h
    · rename_i c; exact absurd h c
    · rename_i c
      have c : hd3 (.mk k i l) (.mk k' i' l') = 0 := by omega
      have hl := hd3_len c
      have z : k = k' ∧ i = i' := by
        have h1 := ordI_zero k k'
        have h2 := ordI_zero i i'
        unfold hd3 at c
        simp only [Ex.k_mk, Ex.i_mk] at c
        by_cases e1 : ordI k k' = 0 <;> by_cases e2 : ordI i i' = 0 <;> simp [e1, e2] at c <;> exact ⟨h1.1 e1, h2.1 e2⟩
      simp only [Ex.kids_mk] at hl h
      rw [z.1, z.2, o_injL l l' hl h]
theorem o_injL : ∀ (l m : List Ex), l.length = m.length → ordL l m = 0 → l = m
  | [], [], _, _ => rfl
  | a :: l, b :: m, hl, h => by
    rw [ordL] at h
    split at h
    · rename_i c; exact absurd h c
    · rename_i c
      rw [o_inj a b (by omega), o_injL l m (by simpa using hl) h]
end
def kd (e : Ex) (i : Nat) : Ex := e.kids.getD i ex0
def atK : Ex → List Int → List Int → Option Ex
  | e, _, [] => some e
  | e, k :: ks, p :: ps => if e.k = k then atK (kd e p.toNat) ks ps else none
  | _, [], _ :: _ => none
/-! ### What stands for a variable -/
mutual
def stE : Ex → Ex → Int → Option Ex
  | .mk k i l, b, x => if k = 1 ∧ i = x then (if isT b = true then some b else none) else if ((k = 7 ∨ k = 10) ∧ i = x) ∨ ¬ k = b.k ∨ ¬ l.length = b.kids.length then none else stL l b.kids x
def stL : List Ex → List Ex → Int → Option Ex
  | a :: l, b :: m, x => match stE a b x with
    | some t => some t
    | none => stL l m x
  | _, _, _ => none
end
theorem stE_eq (a b : Ex) (x : Int) : stE a b x = if a.k = 1 ∧ a.i = x then (if isT b = true then some b else none) else if ((a.k = 7 ∨ a.k = 10) ∧ a.i = x) ∨ ¬ a.k = b.k ∨ ¬ a.kids.length = b.kids.length then none else stL a.kids b.kids x := by
  cases a; rw [stE]; rfl
mutual
def rsE : Ex → Ex → Int → Option Ex
  | .mk k i l, b, x => if hasB (frE (.mk k i l)) x = false ∨ (¬ k = 1 ∧ ¬ l.length = b.kids.length) then none else if k = 1 then some b else rsL l b.kids x
def rsL : List Ex → List Ex → Int → Option Ex
  | a :: l, b :: m, x => if hasB (frE a) x = true then rsE a b x else rsL l m x
  | _, _, _ => none
end
theorem rsE_eq (a b : Ex) (x : Int) : rsE a b x = if hasB (frE a) x = false ∨ (¬ a.k = 1 ∧ ¬ a.kids.length = b.kids.length) then none else if a.k = 1 then some b else rsL a.kids b.kids x := by
  cases a; rw [rsE]; rfl
theorem rs_none {a b : Ex} {x : Int} (h : hasB (frE a) x = false) : rsE a b x = none := by rw [rsE_eq, if_pos (.inl h)]
theorem fr_kids {k i x : Int} {l : List Ex} (hk : ¬ k = 1) (ha : allX (.mk k i l) = true) (h : hasB (frE (.mk k i l)) x = true) : hasB (frL l) x = true ∧ ¬ ((k = 7 ∨ k = 10) ∧ i = x) := by
  rw [has_node hk, has_bin (bin_in ha)] at h
  simp only [Bool.and_eq_true, Bool.not_eq_true', decide_eq_false_iff_not] at h
  exact h
mutual
theorem st_none {x : Int} : ∀ (a b : Ex), allX a = true → hasB (frE a) x = false → stE a b x = none
  | .mk k i l, b, ha, hf => by
    rw [stE]
    by_cases k1 : k = 1
    · have hl : l = [] := kids_none ha k1
      subst k1
      have hv := shaped_var ha (.inl rfl)
      have hx : ¬ i = x := fun e => by
        subst e
        rw [frE, if_pos rfl, hasB_in (show 0 ≤ i ∧ i ≤ 63 from hv), pw_bit] at hf
        simp at hf
      rw [if_neg (fun h => hx h.2), hl]
      split
      · rfl
      · rw [stL]; intro a l m n h; cases h
    · rw [if_neg (fun h => k1 h.1)]
      by_cases q : (k = 7 ∨ k = 10) ∧ i = x
      · rw [if_pos (.inl q)]
      · split
        · rfl
        · refine st_noneL l b.kids (allX_kids ha) ?_
          rw [has_node k1, has_bin (bin_in ha), decide_eq_false q] at hf
          simpa using hf
theorem st_noneL {x : Int} : ∀ (l m : List Ex), (∀ e ∈ l, allX e = true) → hasB (frL l) x = false → stL l m x = none
  | [], m, _, _ => by cases m <;> simp [stL]
  | a :: l, [], _, _ => by simp [stL]
  | a :: l, b :: m, h, hf => by
    rw [has_cons, Bool.or_eq_false_iff] at hf
    rw [stL, st_none a b (h a (by simp)) hf.1, st_noneL l m (fun e he => h e (by simp [he])) hf.2]
end
mutual
theorem st_some {x : Int} {t : Ex} (ht : isT t = true) : ∀ a : Ex, allX a = true → hasB (frE a) x = true → stE a (psF (sgF x t) a) x = some t ∧ rsE a (psF (sgF x t) a) x = some t
  | .mk k i l, ha, hf => by
    by_cases k1 : k = 1
    · subst k1
      have hv := shaped_var ha (.inl rfl)
      have hx : i = x := by
        have hr := hasB_range hf
        have hv2 : 0 ≤ i ∧ i ≤ 63 := hv
        rw [frE, if_pos rfl, hasB_in hr, pw_bit, decide_eq_true_eq] at hf
        omega
      subst hx
      have hz : psF (sgF i t) (.mk 1 i l) = t := by rw [psF_eq]; simp [sgF]
      rw [hz]
      refine ⟨by rw [stE, if_pos ⟨rfl, rfl⟩, if_pos ht], ?_⟩
      rw [rsE, if_neg (by simp [hf]), if_pos rfl]
    · obtain ⟨h1, h2⟩ := fr_kids k1 ha hf
      have hz : psF (sgF x t) (.mk k i l) = .mk k i (psL (sgF x t) l) := by
        rw [psF_eq]
        show (if k = 1 then (sgF x t i).getD (.mk k i l) else .mk k i (l.map (psF (quF k i (sgF x t))))) = _
        rw [if_neg k1, quF_sg h2, psL_map]
      rw [hz]
      obtain ⟨h3, h4⟩ := st_someL ht l (allX_kids ha) h1
      have hl := psL_len (sgF x t) l
      refine ⟨?_, ?_⟩
      · rw [stE, if_neg (fun h => k1 h.1), if_neg (by simp [h2, hl])]; exact h3
      · rw [rsE, if_neg (by simp [hf, hl]), if_neg k1]; exact h4
theorem st_someL {x : Int} {t : Ex} (ht : isT t = true) : ∀ l : List Ex, (∀ e ∈ l, allX e = true) → hasB (frL l) x = true → stL l (psL (sgF x t) l) x = some t ∧ rsL l (psL (sgF x t) l) x = some t
  | [], _, h => by simp [frL, hasB] at h
  | a :: l, h, hf => by
    simp only [psL, stL, rsL]
    by_cases c : hasB (frE a) x = true
    · obtain ⟨h1, h2⟩ := st_some ht a (h a (by simp)) c
      rw [h1, if_pos c, h2]; exact ⟨rfl, rfl⟩
    · rw [Bool.not_eq_true] at c
      rw [has_cons, c, Bool.false_or] at hf
      obtain ⟨h1, h2⟩ := st_someL ht l (fun e he => h e (by simp [he])) hf
      rw [st_none a _ (h a (by simp)) c, if_neg (by simp [c]), h1, h2]; exact ⟨rfl, rfl⟩
end
/-! ### What may be the parts -/
def gs (k : Int) (e : Ex) : List Ex × Int :=
  if k = 1 then ([kd e 0, kd (kd e 1) 0], 0)
  else if k = 2 then ([kd (kd e 0) 0, kd (kd (kd e 0) 1) 0, kd (kd (kd e 0) 1) 1], 0)
  else if k = 3 then ([kd (kd e 1) 1, kd (kd e 1) 0], 0)
  else if k = 4 then ([kd (kd e 0) 0, (rsE (kd (kd e 0) 0) (kd e 1) (kd e 0).i).getD (.mk 1 (kd e 0).i [])], (kd e 0).i)
  else if k = 5 then ([kd (kd (kd e 0) 0) 0, kd (kd (kd e 0) 0) 1], (kd e 0).i)
  else if k = 6 then ([kd e 0], 0)
  else ([kd (kd e 0) 0, kd (kd e 0) 1, kd (kd e 1) 0, kd (kd e 1) 1], 0)
def fd (k : Int) (e : Ex) : Option (List Ex × Int) :=
  if k = 1 then (atK e [6, 6] [1, 0]).map fun b => ([kd e 0, b], 0)
  else if k = 2 then (atK e [6, 6, 6] [0, 1, 1]).map fun c => ([kd (kd e 0) 0, kd (kd (kd e 0) 1) 0, c], 0)
  else if k = 3 then (atK e [6, 6] [1, 0]).map fun b => ([kd (kd e 1) 1, b], 0)
  else if k = 4 then (atK e [6, 7] [0, 0]).map fun a => ([a, (stE a (kd e 1) (kd e 0).i).getD (.mk 1 (kd e 0).i [])], (kd e 0).i)
  else if k = 5 then (atK e [6, 7, 6] [0, 0, 1]).map fun b => ([kd (kd (kd e 0) 0) 0, b], (kd e 0).i)
  else if k = 6 then (atK e [4] [0]).map fun t => ([t], 0)
  else (atK e [6, 4] [0, 0]).bind fun t => (atK e [6, 6] [1, 0]).map fun a => ([t, kd (kd e 0) 1, a, kd (kd e 1) 1], 0)
@[simp] theorem kd_imp0 (a b : Ex) : kd (impX a b) 0 = a := rfl
@[simp] theorem kd_imp1 (a b : Ex) : kd (impX a b) 1 = b := rfl
@[simp] theorem kd_all (x : Int) (a : Ex) : kd (allQ x a) 0 = a := rfl
@[simp] theorem kd_eq0 (a b : Ex) : kd (eqX a b) 0 = a := rfl
@[simp] theorem kd_eq1 (a b : Ex) : kd (eqX a b) 1 = b := rfl
@[simp] theorem k_imp (a b : Ex) : (impX a b).k = 6 := rfl
@[simp] theorem k_all (x : Int) (a : Ex) : (allQ x a).k = 7 := rfl
@[simp] theorem i_all (x : Int) (a : Ex) : (allQ x a).i = x := rfl
@[simp] theorem k_eq (a b : Ex) : (eqX a b).k = 4 := rfl
/-- Instances have the form. -/
theorem fd_inst {k : Int} (hk : okK k) (l : List Ex) (x : Int) : ∃ p, fd k (instE k l x) = some p := by
  rcases seven hk with rfl | rfl | rfl | rfl | rfl | rfl | rfl
  all_goals (unfold fd instE; simp [atK])
theorem at_kid {e b : Ex} : ∀ {ks ps : List Int}, atK e ks ps = some b → b = ps.foldl (fun e p => kd e p.toNat) e := by
  intro ks ps
  induction ps generalizing e ks with
  | nil => intro h; cases ks <;> (simp [atK] at h; exact h.symm)
  | cons p ps ih =>
    intro h
    cases ks with
    | nil => simp [atK] at h
    | cons k ks =>
      simp only [atK] at h
      split at h
      · simpa using ih h
      · cases h
theorem fd_gs {k : Int} {e : Ex} {p : List Ex × Int} (hk : okK k) (h4 : ¬ k = 4) (h : fd k e = some p) : p = gs k e := by
  rcases seven hk with rfl | rfl | rfl | rfl | rfl | rfl | rfl
  all_goals first
    | exact absurd rfl h4
    | (unfold fd at h
       simp only [Int.reduceEq, if_true, if_false] at h
       first
         | (obtain ⟨b, hb, rfl⟩ := Option.map_eq_some_iff.1 h
            have := at_kid hb
            simp at this
            subst this
            unfold gs; simp)
         | (obtain ⟨t, ht, h⟩ := Option.bind_eq_some_iff.1 h
            obtain ⟨b, hb, rfl⟩ := Option.map_eq_some_iff.1 h
            have h1 := at_kid ht
            have h2 := at_kid hb
            simp at h1 h2
            subst h1 h2
            unfold gs; simp))
/-- Schema 4: where one of the guesses is right, both are the same. -/
theorem four_same {e t : Ex} (hm : mkErr 4 [kd (kd e 0) 0, t] (kd e 0).i = 0) (hi : instE 4 [kd (kd e 0) 0, t] (kd e 0).i = e) :
    (hasB (frE (kd (kd e 0) 0)) (kd e 0).i = true → stE (kd (kd e 0) 0) (kd e 1) (kd e 0).i = some t ∧ rsE (kd (kd e 0) 0) (kd e 1) (kd e 0).i = some t) ∧
    (hasB (frE (kd (kd e 0) 0)) (kd e 0).i = false → stE (kd (kd e 0) 0) (kd e 1) (kd e 0).i = none ∧ rsE (kd (kd e 0) 0) (kd e 1) (kd e 0).i = none) := by
  have hp : Prt 4 [kd (kd e 0) 0, t] (kd e 0).i ∧ sortE [kd (kd e 0) 0, t] (srtS 4) = 0 := by
    unfold mkErr at hm
    rw [if_pos ⟨by omega, by omega⟩] at hm
    split at hm
    · rename_i c
      split at hm
      · rename_i s; exact absurd hm s
      · rename_i s; exact ⟨(prt_iff _ _ _).1 c, by simpa using s⟩
    · cases hm
  obtain ⟨hall, hso⟩ := sortE_ok hp.2
  have ra := right_zero (hall (kd (kd e 0) 0) (by simp))
  have hT : isT t = true := by
    simp [srtS, sortsOk] at hso
    exact hso.2
  have h1 : kd e 1 = psF (sgF (kd e 0).i t) (kd (kd e 0) 0) := by
    have : kd (instE 4 [kd (kd e 0) 0, t] (kd e 0).i) 1 = psF (sgF (kd e 0).i t) (kd (kd e 0) 0) := by unfold instE psX; simp
    rwa [hi] at this
  refine ⟨fun hf => ?_, fun hf => ?_⟩
  · rw [h1]; exact st_some hT _ ra.2.2 hf
  · exact ⟨st_none _ _ ra.2.2 hf, rs_none hf⟩
def goodP (k : Int) (e : Ex) (p : List Ex × Int) : Bool := decide (mkErr k p.1 p.2 = 0) && decide (ordE (instE k p.1 p.2) e = 0)
def validB (k : Int) (e : Ex) : Bool := goodP k e (gs k e)
theorem good_iff {k : Int} {e : Ex} {p : List Ex × Int} : goodP k e p = true ↔ mkErr k p.1 p.2 = 0 ∧ instE k p.1 p.2 = e := by
  unfold goodP
  simp only [Bool.and_eq_true, decide_eq_true_eq]
  constructor
  · rintro ⟨h1, h2⟩; exact ⟨h1, o_inj _ _ h2⟩
  · rintro ⟨h1, h2⟩; exact ⟨h1, by rw [h2]; exact ordE_self e⟩
/-- What is found is right just if what is guessed is; then both are the same. -/
theorem parts_law {k : Int} (hk : okK k) (e : Ex) : (match fd k e with | none => false | some p => goodP k e p) = validB k e ∧ (validB k e = true → fd k e = some (gs k e)) := by
  by_cases h4 : k = 4
  · subst h4
    cases hf : fd 4 e with
    | none =>
      have hn : validB 4 e = false := by
        rw [← Bool.not_eq_true]
        intro h
        have h2 := (good_iff.1 h).2
        obtain ⟨p, hp⟩ := fd_inst hk (gs 4 e).1 (gs 4 e).2
        rw [h2, hf] at hp; cases hp
      exact ⟨hn.symm, fun h => by rw [hn] at h; cases h⟩
    | some p =>
      have hp : p = ([kd (kd e 0) 0, (stE (kd (kd e 0) 0) (kd e 1) (kd e 0).i).getD (.mk 1 (kd e 0).i [])], (kd e 0).i) := by
        unfold fd at hf
        simp only [Int.reduceEq, if_true, if_false] at hf
        obtain ⟨b, hb, rfl⟩ := Option.map_eq_some_iff.1 hf
        have := at_kid hb
        simp at this
        subst this
        rfl
      have hg : gs 4 e = ([kd (kd e 0) 0, (rsE (kd (kd e 0) 0) (kd e 1) (kd e 0).i).getD (.mk 1 (kd e 0).i [])], (kd e 0).i) := by unfold gs; simp
      have key : goodP 4 e p = true ∨ validB 4 e = true → p = gs 4 e := by
        intro h
        obtain ⟨t, hm, hi⟩ : ∃ t, mkErr 4 [kd (kd e 0) 0, t] (kd e 0).i = 0 ∧ instE 4 [kd (kd e 0) 0, t] (kd e 0).i = e := by
          rcases h with h | h
          · have := good_iff.1 h; rw [hp] at this; exact ⟨_, this⟩
          · have := good_iff.1 h; rw [hg] at this; exact ⟨_, this⟩
        obtain ⟨s1, s2⟩ := four_same hm hi
        rw [hp, hg]
        cases hc : hasB (frE (kd (kd e 0) 0)) (kd e 0).i with
        | true => rw [(s1 hc).1, (s1 hc).2]
        | false => rw [(s2 hc).1, (s2 hc).2]
      refine ⟨?_, fun h => by rw [key (.inr h)]⟩
      show goodP 4 e p = validB 4 e
      cases ha : goodP 4 e p with
      | true => have := key (.inl ha); rw [this] at ha; exact ha.symm
      | false =>
        cases hb : validB 4 e with
        | true => have := key (.inr hb); rw [this] at ha; unfold validB at hb; rw [ha] at hb; cases hb
        | false => rfl
  · cases hf : fd k e with
    | none =>
      have hn : validB k e = false := by
        rw [← Bool.not_eq_true]
        intro h
        have h2 := (good_iff.1 h).2
        obtain ⟨p, hp⟩ := fd_inst hk (gs k e).1 (gs k e).2
        rw [h2, hf] at hp; cases hp
      exact ⟨hn.symm, fun h => by rw [hn] at h; cases h⟩
    | some p =>
      have := fd_gs hk h4 hf
      subst this
      exact ⟨rfl, fun _ => rfl⟩
end Go.Proofs.YtibfdebhbibfpaaGreat.Ax
