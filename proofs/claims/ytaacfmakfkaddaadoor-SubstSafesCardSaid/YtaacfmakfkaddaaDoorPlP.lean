/- Plain law: binders called anew where they would catch. -/
import Derived.Test.YtaacfmakfkaddaaDoorDxZ
import Derived.Test.YtaacfmakfkaddaaDoorPlO
set_option linter.unusedVariables false
set_option linter.unusedSimpArgs false
namespace Go.Proofs.YtaacfmakfkaddaaDoor.Ax
open Go Go.Proofs

def kid0 (e : Ex) : Ex := e.kids.headD ex0
/-- What a new name must not be. -/
def rnU (x : Int) (o : Nat) (e : Ex) : Nat := withN (vaE (kid0 e) ||| o) x
def vrX (z : Int) : Ex := .mk 1 z []
def rnF (x : Int) (o : Nat) : Nat → Ex → Option Ex
  | 0, _ => none
  | f + 1, e => if isQ e = true then (if e.i = x ∨ hasB (frE (kid0 e)) x = false then some e
      else if hasB o e.i = true then (if leastN (rnU x o e) < 0 then none else pcK (rnF x o f) e.k (leastN (rnU x o e)) [psF (sgF e.i (vrX (leastN (rnU x o e)))) (kid0 e)])
      else pcK (rnF x o f) e.k e.i e.kids)
    else pcK (rnF x o f) e.k e.i e.kids
def rnE (x : Int) (o : Nat) (e : Ex) : Option Ex := rnF x o (cntE e) e
theorem optL_congr {α β : Type} {F G : α → Option β} : ∀ l : List α, (∀ y ∈ l, F y = G y) → optL F l = optL G l
  | [], _ => rfl
  | a :: l, h => by rw [optL, optL, h a (by simp), optL_congr l fun y hy => h y (by simp [hy])]
theorem cntL_mem {y : Ex} : ∀ {l : List Ex}, y ∈ l → cntE y ≤ cntL l
  | a :: l, h => by
    rw [cntL]
    rcases List.mem_cons.1 h with rfl | h
    · omega
    · have := cntL_mem h; omega
theorem cnt_mem {y e : Ex} (h : y ∈ e.kids) : cntE y < cntE e := by
  have := cntL_mem h; rw [cntE_eq e]; omega
theorem q_kids {e : Ex} (ha : allX e = true) (hq : isQ e = true) : e.kids = [kid0 e] := by
  have hk : e.k = 7 ∨ e.k = 10 := by simpa [isQ] using hq
  rw [allX_eq, Bool.and_eq_true] at ha
  have h1 := ha.1
  unfold shapedX at h1
  rw [if_neg (by omega), if_neg (by omega), if_neg (by omega), if_pos (by omega)] at h1
  simp only [Bool.and_eq_true] at h1
  have h2 := h1.2
  unfold kidsAre at h2
  simp only [Bool.and_eq_true, decide_eq_true_eq] at h2
  unfold kid0
  have hl : e.kids.length = 1 := by omega
  match e.kids, hl with
  | [y], _ => rfl
theorem vr_term {z : Int} (h : 0 ≤ z ∧ z ≤ 63) : allX (vrX z) = true ∧ isT (vrX z) = true := by
  refine ⟨?_, rfl⟩
  rw [allX_eq]
  simp [vrX, shapedX, mostOf, h]
theorem termF_vr {i z : Int} (h : 0 ≤ z ∧ z ≤ 63) : TermF (sgF i (vrX z)) := termF_sg (vr_term h).1 (vr_term h).2
theorem varF_vr (i z : Int) : VarF (sgF i (vrX z)) := fun y t h => by
  unfold sgF at h
  split at h
  · cases h; exact ⟨z, rfl⟩
  · cases h
theorem rn_fuel (x : Int) (o : Nat) : ∀ (f g : Nat) (e : Ex), allX e = true → cntE e ≤ f → cntE e ≤ g → rnF x o f e = rnF x o g e
  | 0, g, e, ha, h1, h2 => by rw [cntE_eq] at h1; omega
  | f + 1, 0, e, ha, h1, h2 => by rw [cntE_eq] at h2; omega
  | f + 1, g + 1, e, ha, h1, h2 => by
    have hk : ∀ y ∈ e.kids, rnF x o f y = rnF x o g y := fun y hy => by
      have := cnt_mem hy
      exact rn_fuel x o f g y (allX_kids ha y hy) (by omega) (by omega)
    have hp : ∀ i, pcK (rnF x o f) e.k i e.kids = pcK (rnF x o g) e.k i e.kids := fun i => by
      unfold pcK; rw [optL_congr _ hk]
    rw [rnF, rnF, hp]
    by_cases hq : isQ e = true
    · rw [if_pos hq, if_pos hq]
      by_cases c1 : e.i = x ∨ hasB (frE (kid0 e)) x = false
      · rw [if_pos c1, if_pos c1]
      · rw [if_neg c1, if_neg c1]
        by_cases c2 : hasB o e.i = true
        · rw [if_pos c2, if_pos c2]
          by_cases c3 : leastN (rnU x o e) < 0
          · rw [if_pos c3, if_pos c3]
          · rw [if_neg c3, if_neg c3]
            have hkm : kid0 e ∈ e.kids := by rw [q_kids ha hq]; simp [kid0]
            have hc := cnt_mem hkm
            have hka := allX_kids ha _ hkm
            have hr := least_range (rnU x o e)
            have hz : 0 ≤ leastN (rnU x o e) ∧ leastN (rnU x o e) ≤ 63 := ⟨by omega, hr.2⟩
            have hs := (psF_size (kid0 e) hka (varF_vr e.i (leastN (rnU x o e)))).1
            unfold pcK
            rw [optL_congr (G := rnF x o g) _ fun y hy => ?_]
            obtain rfl : y = _ := List.mem_singleton.1 hy
            exact rn_fuel x o f g _ (psF_shape _ hka (termF_vr hz)).1 (by omega) (by omega)
        · rw [if_neg c2, if_neg c2]
    · rw [if_neg hq, if_neg hq]
/-- The renamed kid. -/
def rnK (x : Int) (o : Nat) (e : Ex) : Ex := psF (sgF e.i (vrX (leastN (rnU x o e)))) (kid0 e)
theorem rnK_small {x : Int} {o : Nat} {e : Ex} (ha : allX e = true) (hq : isQ e = true) (hz : ¬ leastN (rnU x o e) < 0) : cntE (rnK x o e) < cntE e ∧ depE (rnK x o e) < depE e ∧ allX (rnK x o e) = true := by
  have hkm : kid0 e ∈ e.kids := by rw [q_kids ha hq]; simp [kid0]
  have hc := cnt_mem hkm
  have hka := allX_kids ha _ hkm
  have hr := least_range (rnU x o e)
  have hz : 0 ≤ leastN (rnU x o e) ∧ leastN (rnU x o e) ≤ 63 := ⟨by omega, hr.2⟩
  obtain ⟨hs, hd⟩ := psF_size (kid0 e) hka (varF_vr e.i (leastN (rnU x o e)))
  refine ⟨by unfold rnK; omega, ?_, (psF_shape _ hka (termF_vr hz)).1⟩
  have hde := depE_eq e
  rw [q_kids ha hq, depL, depL] at hde
  unfold rnK; omega
theorem rnE_eq {x : Int} {o : Nat} {e : Ex} (ha : allX e = true) : rnE x o e = if isQ e = true then (if e.i = x ∨ hasB (frE (kid0 e)) x = false then some e
      else if hasB o e.i = true then (if leastN (rnU x o e) < 0 then none else pcK (rnE x o) e.k (leastN (rnU x o e)) [rnK x o e])
      else pcK (rnE x o) e.k e.i e.kids)
    else pcK (rnE x o) e.k e.i e.kids := by
  have hk : ∀ y ∈ e.kids, rnF x o (cntL e.kids) y = rnE x o y := fun y hy => rn_fuel x o _ _ y (allX_kids ha y hy) (cntL_mem hy) (Nat.le_refl _)
  have hp : ∀ i, pcK (rnF x o (cntL e.kids)) e.k i e.kids = pcK (rnE x o) e.k i e.kids := fun i => by
    unfold pcK; rw [optL_congr _ hk]
  have h0 : rnE x o e = rnF x o (cntL e.kids + 1) e := by unfold rnE; rw [cntE_eq]
  rw [h0, rnF, hp]
  by_cases hq : isQ e = true
  · rw [if_pos hq, if_pos hq]
    by_cases c1 : e.i = x ∨ hasB (frE (kid0 e)) x = false
    · rw [if_pos c1, if_pos c1]
    · rw [if_neg c1, if_neg c1]
      by_cases c2 : hasB o e.i = true
      · rw [if_pos c2, if_pos c2]
        by_cases c3 : leastN (rnU x o e) < 0
        · rw [if_pos c3, if_pos c3]
        · rw [if_neg c3, if_neg c3]
          obtain ⟨s1, s2, s3⟩ := rnK_small ha hq c3
          rw [cntE_eq e] at s1
          unfold pcK
          rw [optL_congr (G := rnE x o) _ fun y hy => ?_]
          · rfl
          · obtain rfl : y = rnK x o e := List.mem_singleton.1 hy
            exact rn_fuel x o _ _ _ s3 (by omega) (Nat.le_refl _)
      · rw [if_neg c2, if_neg c2]
  · rw [if_neg hq, if_neg hq]
theorem right_mem {e y : Ex} (h : rightE e = 0) (hy : y ∈ e.kids) : rightE y = 0 := by
  obtain ⟨h1, h2, h3⟩ := right_zero h
  have hc := cnt_mem hy
  obtain ⟨j, hj, rfl⟩ := List.getElem_of_mem hy
  have hd := depE_kid (e := e) j hj
  rw [nodesN_eq] at h1
  exact right_of (by rw [nodesN_eq]; omega) (by omega) (allX_kids h3 _ hy)
theorem rnK_right {x : Int} {o : Nat} {e : Ex} (h : rightE e = 0) (hq : isQ e = true) (hz : ¬ leastN (rnU x o e) < 0) : rightE (rnK x o e) = 0 := by
  obtain ⟨h1, h2, h3⟩ := right_zero h
  obtain ⟨s1, s2, s3⟩ := rnK_small h3 hq hz
  rw [nodesN_eq] at h1
  exact right_of (by rw [nodesN_eq]; omega) (by omega) s3
end Go.Proofs.YtaacfmakfkaddaaDoor.Ax
