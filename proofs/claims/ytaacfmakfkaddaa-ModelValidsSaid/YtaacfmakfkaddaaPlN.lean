/- What holds in a world: in plain words, and with room for so much work. -/
import Derived.Test.YtaacfmakfkaddaaCxQ
import Derived.Test.YtaacfmakfkaddaaBxD
set_option linter.unusedVariables false
set_option linter.unusedSimpArgs false
namespace Go.Proofs.Ytaacfmakfkaddaa.Ax
open Go Go.Proofs

abbrev Tf := List Int → Bool × Nat
def atB (w : Wo) (k i : Int) (zs : List Int) : Bool := if k = 4 then decide (zs.getD 0 0 = zs.getD 1 0) else decide (lookV w.preds w.size i zs = 1)
/-- Till an answer is so: over these things. -/
def qnF (f : Tf) (env : List Int) (i : Nat) (till : Bool) : List Nat → Bool × Nat
  | [] => (!till, 0)
  | v :: vs => if (f (env.set i v)).1 = till then (till, (f (env.set i v)).2) else ((qnF f env i till vs).1, (f (env.set i v)).2 + (qnF f env i till vs).2)
/-- Whether the first part answers alone. -/
def shB (k : Int) (b : Bool) : Bool := (decide (k = 6) && !b) || (decide (k = 9) && b) || (decide (k = 8) && !b)
def trK (w : Wo) (k i : Int) (l : List Ex) (env : List Int) (f0 f1 : Tf) : Bool × Nat :=
  if k = 3 ∨ k = 4 then (atB w k i (ofL w env l), 1 + cntL l)
  else if k = 7 ∨ k = 10 then ((qnF f0 env i.toNat (decide (k = 10)) (List.range w.size.toNat)).1, 1 + (qnF f0 env i.toNat (decide (k = 10)) (List.range w.size.toNat)).2)
  else if k = 5 then (!(f0 env).1, 1 + (f0 env).2)
  else if shB k (f0 env).1 = true then (decide (k ≠ 8), 1 + (f0 env).2)
  else ((f1 env).1, 1 + (f0 env).2 + (f1 env).2)
def tf0 : Tf := fun _ => (false, 1)
mutual
def trE (w : Wo) : Ex → Tf
  | .mk k i l => fun env => trK w k i l env ((trL w l).getD 0 tf0) ((trL w l).getD 1 tf0)
def trL (w : Wo) : List Ex → List Tf
  | [] => []
  | e :: l => trE w e :: trL w l
end
theorem trL_map (w : Wo) : ∀ l, trL w l = l.map (trE w)
  | [] => by rw [trL]; rfl
  | e :: l => by rw [trL, trL_map w l]; rfl
theorem trE_eq (w : Wo) (e : Ex) (env : List Int) : trE w e env = trK w e.k e.i e.kids env ((trL w e.kids).getD 0 tf0) ((trL w e.kids).getD 1 tf0) := by cases e; rw [trE]; rfl
theorem tr_kid (w : Wo) {l : List Ex} {j : Nat} (h : j < l.length) : (trL w l).getD j tf0 = trE w l[j] := by
  rw [trL_map, List.getD_eq_getElem?_getD, List.getElem?_map, List.getElem?_eq_getElem h]; rfl
theorem tr_pos (w : Wo) (e : Ex) (env : List Int) : 1 ≤ (trE w e env).2 := by
  rw [trE_eq]
  unfold trK
  repeat' split
  all_goals (simp only; omega)

/-! ### With room for so much work -/
abbrev Rf := List Int → Int → Bool × Int
def qnR (f : Rf) (env : List Int) (i : Nat) (room : Int) (till : Bool) : List Nat → Int → Bool × Int
  | [], work => (!till, work)
  | v :: vs, work =>
    if room < work + (f (env.set i v) (room - work)).2 then (false, work + (f (env.set i v) (room - work)).2)
    else if (f (env.set i v) (room - work)).1 = till then (till, work + (f (env.set i v) (room - work)).2)
    else qnR f env i room till vs (work + (f (env.set i v) (room - work)).2)
def toK (w : Wo) (k i : Int) (l : List Ex) (env : List Int) (room : Int) (f0 f1 : Rf) : Bool × Int :=
  if room < 1 then (false, 1)
  else if k = 3 ∨ k = 4 then (atB w k i (ofL w env l), 1 + (cntL l : Int))
  else if k = 7 ∨ k = 10 then qnR f0 env i.toNat room (decide (k = 10)) (List.range w.size.toNat) 1
  else if room < 1 + (f0 env (room - 1)).2 then (false, 1 + (f0 env (room - 1)).2)
  else if k = 5 then (!(f0 env (room - 1)).1, 1 + (f0 env (room - 1)).2)
  else if shB k (f0 env (room - 1)).1 = true then (decide (k ≠ 8), 1 + (f0 env (room - 1)).2)
  else ((f1 env (room - (1 + (f0 env (room - 1)).2))).1, 1 + (f0 env (room - 1)).2 + (f1 env (room - (1 + (f0 env (room - 1)).2))).2)
def rf0 : Rf := fun _ _ => (false, 1)
mutual
def toE (w : Wo) : Ex → Rf
  | .mk k i l => fun env room => toK w k i l env room ((toL w l).getD 0 rf0) ((toL w l).getD 1 rf0)
def toL (w : Wo) : List Ex → List Rf
  | [] => []
  | e :: l => toE w e :: toL w l
end
theorem toL_map (w : Wo) : ∀ l, toL w l = l.map (toE w)
  | [] => by rw [toL]; rfl
  | e :: l => by rw [toL, toL_map w l]; rfl
theorem toE_eq (w : Wo) (e : Ex) (env : List Int) (room : Int) : toE w e env room = toK w e.k e.i e.kids env room ((toL w e.kids).getD 0 rf0) ((toL w e.kids).getD 1 rf0) := by cases e; rw [toE]; rfl
theorem to_kid (w : Wo) {l : List Ex} {j : Nat} (h : j < l.length) : (toL w l).getD j rf0 = toE w l[j] := by
  rw [toL_map, List.getD_eq_getElem?_getD, List.getElem?_map, List.getElem?_eq_getElem h]; rfl
/-- With room enough it is what is true; else too much. -/
def Fits (f : Tf) (g : Rf) : Prop := ∀ env room, (((f env).2 : Int) ≤ room → g env room = ((f env).1, ((f env).2 : Int))) ∧ (room < ((f env).2 : Int) → room < (g env room).2) ∧ 1 ≤ (g env room).2 ∧ (g env room).2 ≤ max room 0 + 1001 ∧ 1 ≤ (f env).2
theorem fits0 : Fits tf0 rf0 := fun env room => ⟨fun _ => rfl, fun h => h, Int.le_refl _, by simp only [rf0]; omega, Nat.le_refl _⟩
theorem fits_qn {f : Tf} {g : Rf} (h : Fits f g) (env : List Int) (i : Nat) (till : Bool) : ∀ (vs : List Nat) (room work : Int), 0 ≤ work → work ≤ room →
    (work + ((qnF f env i till vs).2 : Int) ≤ room → qnR g env i room till vs work = ((qnF f env i till vs).1, work + ((qnF f env i till vs).2 : Int))) ∧ (room < work + ((qnF f env i till vs).2 : Int) → room < (qnR g env i room till vs work).2) ∧
    work ≤ (qnR g env i room till vs work).2 ∧ (qnR g env i room till vs work).2 ≤ room + 1001
  | [], room, work, h0, h1 => by
    simp only [qnF, qnR]
    exact ⟨fun _ => by simp, fun h => by simpa using h, Int.le_refl _, by omega⟩
  | v :: vs, room, work, h0, h1 => by
    obtain ⟨a1, a2, a3, a4, a5⟩ := h (env.set i v) (room - work)
    unfold qnF qnR
    by_cases c : room < work + (g (env.set i v) (room - work)).2
    · rw [if_pos c]
      have hf : room - work < ((f (env.set i v)).2 : Int) := by
        by_cases d : ((f (env.set i v)).2 : Int) ≤ room - work
        · rw [a1 d] at c; simp only at c; omega
        · omega
      refine ⟨fun hle => ?_, fun _ => c, by simp only; omega, by simp only; omega⟩
      exfalso
      split at hle
      · simp only at hle; omega
      · simp only at hle; omega
    · rw [if_neg c]
      have d : ((f (env.set i v)).2 : Int) ≤ room - work := by
        by_cases d : ((f (env.set i v)).2 : Int) ≤ room - work
        · exact d
        · have := a2 (by omega); omega
      have e := a1 d
      rw [e] at c ⊢
      simp only at c ⊢
      by_cases t : (f (env.set i v)).1 = till
      · simp only [if_pos t]
        exact ⟨fun _ => by first | rfl | trivial, fun h => h, by omega, by omega⟩
      · simp only [if_neg t]
        obtain ⟨b1, b2, b3, b4⟩ := fits_qn h env i till vs room (work + ((f (env.set i v)).2 : Int)) (by omega) (by omega)
        refine ⟨fun hle => ?_, fun hlt => b2 (by omega), by omega, b4⟩
        rw [b1 (by omega)]
        congr 1
        omega
theorem fits_k (w : Wo) (k i : Int) (l : List Ex) {f0 f1 : Tf} {g0 g1 : Rf} (h0 : Fits f0 g0) (h1 : Fits f1 g1) (hc : cntL l ≤ 1000) :
    Fits (fun env => trK w k i l env f0 f1) (fun env room => toK w k i l env room g0 g1) := fun env room => by
  unfold trK toK
  by_cases r : room < 1
  · simp only [if_pos r]
    have hp : 1 ≤ (if k = 3 ∨ k = 4 then (atB w k i (ofL w env l), 1 + cntL l)
      else if k = 7 ∨ k = 10 then ((qnF f0 env i.toNat (decide (k = 10)) (List.range w.size.toNat)).1, 1 + (qnF f0 env i.toNat (decide (k = 10)) (List.range w.size.toNat)).2)
      else if k = 5 then (!(f0 env).1, 1 + (f0 env).2)
      else if shB k (f0 env).1 = true then (decide (k ≠ 8), 1 + (f0 env).2)
      else ((f1 env).1, 1 + (f0 env).2 + (f1 env).2) : Bool × Nat).2 := by
      repeat' split
      all_goals (simp only; omega)
    exact ⟨fun h => by omega, fun _ => r, Int.le_refl _, by omega, hp⟩
  simp only [if_neg r]
  by_cases c1 : k = 3 ∨ k = 4
  · simp only [if_pos c1]
    exact ⟨fun _ => by simp, fun h => by simpa using h, by omega, by omega, by omega⟩
  simp only [if_neg c1]
  by_cases c2 : k = 7 ∨ k = 10
  · simp only [if_pos c2]
    obtain ⟨b1, b2, b3, b4⟩ := fits_qn h0 env i.toNat (decide (k = 10)) (List.range w.size.toNat) room 1 (by omega) (by omega)
    refine ⟨fun hle => ?_, fun hlt => b2 (by simpa using hlt), b3, by omega, by omega⟩
    rw [b1 (by simpa using hle)]
    simp
  simp only [if_neg c2]
  obtain ⟨a1, a2, a3, a4, a5⟩ := h0 env (room - 1)
  by_cases c : room < 1 + (g0 env (room - 1)).2
  · simp only [if_pos c]
    have hf : room - 1 < ((f0 env).2 : Int) := by
      by_cases d : ((f0 env).2 : Int) ≤ room - 1
      · rw [a1 d] at c; simp only at c; omega
      · omega
    refine ⟨fun hle => ?_, fun _ => c, by omega, by omega, ?_⟩
    · exfalso
      repeat' split at hle
      all_goals (simp only at hle; omega)
    · repeat' split
      all_goals (simp only; omega)
  simp only [if_neg c]
  have d : ((f0 env).2 : Int) ≤ room - 1 := by
    by_cases d : ((f0 env).2 : Int) ≤ room - 1
    · exact d
    · have := a2 (by omega); omega
  have e := a1 d
  rw [e]
  simp only
  by_cases c5 : k = 5
  · simp only [if_pos c5]
    exact ⟨fun _ => by simp, fun h => by simpa using h, by omega, by omega, by omega⟩
  simp only [if_neg c5]
  by_cases cs : shB k (f0 env).1 = true
  · simp only [if_pos cs]
    exact ⟨fun _ => by simp, fun h => by simpa using h, by omega, by omega, by omega⟩
  simp only [if_neg cs]
  obtain ⟨b1, b2, b3, b4, b5⟩ := h1 env (room - (1 + ((f0 env).2 : Int)))
  refine ⟨fun hle => ?_, fun hlt => ?_, by omega, by omega, by omega⟩
  · rw [b1 (by omega)]; simp
  · have := b2 (by omega); omega
theorem cntL_mem : ∀ {l : List Ex} {e : Ex}, e ∈ l → cntE e ≤ cntL l
  | a :: l, e, h => by
    rw [cntL]
    rcases List.mem_cons.1 h with rfl | h
    · omega
    · have := cntL_mem h; omega
theorem fits (w : Wo) (n : Nat) : ∀ e : Ex, SizeOf.sizeOf e < n → cntE e ≤ 1000 → Fits (trE w e) (toE w e) := by
  induction n with
  | zero => intro e h; omega
  | succ n ih =>
    intro e he hc
    obtain ⟨k, i, l⟩ := e
    have hcl : cntL l + 1 ≤ 1000 := by
      have : cntE (.mk k i l) = cntL l + 1 := by rw [cntE]; first | done | omega
      omega
    have kid : ∀ j, Fits ((trL w l).getD j tf0) ((toL w l).getD j rf0) := fun j => by
      by_cases h : j < l.length
      · rw [tr_kid w h, to_kid w h]
        have hm : l[j] ∈ l := List.getElem_mem h
        have h1 := List.sizeOf_lt_of_mem hm
        have h2 := cntL_mem hm
        refine ih _ ?_ (by omega)
        simp only [Ex.mk.sizeOf_spec] at he
        omega
      · rw [trL_map, toL_map, List.getD_eq_getElem?_getD, List.getD_eq_getElem?_getD, List.getElem?_eq_none (by simp; omega), List.getElem?_eq_none (by simp; omega)]
        exact fits0
    have := fits_k w k i l (kid 0) (kid 1) (by omega)
    intro env room
    have h := this env room
    rw [trE, toE]
    exact h
end Go.Proofs.Ytaacfmakfkaddaa.Ax
