/- Plain law: the common form of what is alike. -/
import Derived.Test.YtaacfmakfkaddaaDoorPlC
import Derived.Test.YtaacfmakfkaddaaDoorPlE
set_option linter.unusedVariables false
set_option linter.unusedSimpArgs false
namespace Go.Proofs.YtaacfmakfkaddaaDoor.Ax
open Go Go.Proofs

/-! ### Lists whose members may fail -/
def optL {α β : Type} (f : α → Option β) : List α → Option (List β)
  | [] => some []
  | a :: l => (f a).bind fun b => (optL f l).map (b :: ·)
theorem optL_take {α β : Type} (f : α → Option β) : ∀ (l : List α) (j : Nat) (h : j < l.length) {L : List β} {y : β}, optL f (l.take j) = some L → f l[j] = some y → optL f (l.take (j + 1)) = some (L ++ [y])
  | a :: l, 0, h, L, y, h1, h2 => by
    simp [optL] at h1 h2 ⊢
    subst h1
    rw [h2]; rfl
  | a :: l, j + 1, h, L, y, h1, h2 => by
    simp only [List.take_succ_cons, optL] at h1 ⊢
    obtain ⟨b, hb, h1⟩ := Option.bind_eq_some_iff.1 h1
    obtain ⟨M, hM, rfl⟩ := Option.map_eq_some_iff.1 h1
    rw [hb, optL_take f l j (by simpa using h) hM (by simpa using h2)]; rfl
theorem optL_none {α β : Type} (f : α → Option β) : ∀ (l : List α) (j : Nat) (h : j < l.length), f l[j] = none → optL f l = none
  | a :: l, 0, h, h2 => by simp at h2; simp [optL, h2]
  | a :: l, j + 1, h, h2 => by
    simp only [optL]
    rw [optL_none f l j (by simpa using h) (by simpa using h2)]
    cases f a <;> rfl
theorem snoc_ind {α : Type} {p : List α → Prop} (h0 : p []) (h1 : ∀ l x, p l → p (l ++ [x])) (l : List α) : p l := by
  have h : ∀ m : List α, p m.reverse := by
    intro m
    induction m with
    | nil => exact h0
    | cons x m ih => rw [List.reverse_cons]; exact h1 _ _ ih
  have := h l.reverse
  rwa [List.reverse_reverse] at this
/-! ### The least number that is none of a set's -/
def lsF (s : Nat) : Nat → Nat → Int
  | 0, _ => -1
  | f + 1, z => if s.testBit z = true then lsF s f (z + 1) else z
def leastN (s : Nat) : Int := lsF s 64 0
theorem lsF_spec (s : Nat) : ∀ f z, (lsF s f z = -1 ∧ ∀ i, z ≤ i → i < z + f → s.testBit i = true) ∨ ∃ k, lsF s f z = (k : Nat) ∧ z ≤ k ∧ k < z + f ∧ s.testBit k = false ∧ ∀ i, z ≤ i → i < k → s.testBit i = true
  | 0, z => .inl ⟨rfl, fun i h1 h2 => by omega⟩
  | f + 1, z => by
    rw [lsF]
    cases h : s.testBit z with
    | false => exact .inr ⟨z, by simp, Nat.le_refl _, by omega, h, fun i h1 h2 => by omega⟩
    | true =>
      rw [if_pos rfl]
      rcases lsF_spec s f (z + 1) with ⟨h1, h2⟩ | ⟨k, h1, h2, h3, h4, h5⟩
      · refine .inl ⟨h1, fun i a b => ?_⟩
        by_cases e : i = z
        · rw [e]; exact h
        · exact h2 i (by omega) (by omega)
      · refine .inr ⟨k, h1, by omega, by omega, h4, fun i a b => ?_⟩
        by_cases e : i = z
        · rw [e]; exact h
        · exact h5 i (by omega) b
theorem least_spec (s : Nat) : (leastN s = -1 ∧ ∀ i, i < 64 → s.testBit i = true) ∨ ∃ k, leastN s = (k : Nat) ∧ k < 64 ∧ s.testBit k = false ∧ ∀ i, i < k → s.testBit i = true := by
  rcases lsF_spec s 64 0 with ⟨h1, h2⟩ | ⟨k, h1, h2, h3, h4, h5⟩
  · exact .inl ⟨h1, fun i hi => h2 i (by omega) (by omega)⟩
  · exact .inr ⟨k, h1, by omega, h4, fun i hi => h5 i (by omega) hi⟩
theorem least_range (s : Nat) : -1 ≤ leastN s ∧ leastN s ≤ 63 := by
  rcases least_spec s with ⟨h, _⟩ | ⟨k, h, h2, _⟩ <;> omega
theorem least_free {s : Nat} (h : ¬ leastN s < 0) : s.testBit (leastN s).toNat = false := by
  rcases least_spec s with ⟨h1, _⟩ | ⟨k, h1, h2, h3, _⟩
  · omega
  · rw [h1]; simpa using h3

/-! ### The common form -/
def usedN (A : Nat) (n : List Int) : Nat := n.foldl withN A
theorem used_snoc (A : Nat) (n : List Int) (z : Int) : usedN A (n ++ [z]) = withN (usedN A n) z := by simp [usedN]
theorem used_bit {A : Nat} : ∀ {n : List Int} {z : Int}, (∀ y ∈ n, 0 ≤ y ∧ y ≤ 63) → 0 ≤ z → ((usedN A n).testBit z.toNat = true ↔ A.testBit z.toNat = true ∨ z ∈ n) := by
  intro n
  refine snoc_ind (p := fun n => ∀ {z : Int}, (∀ y ∈ n, 0 ≤ y ∧ y ≤ 63) → 0 ≤ z → ((usedN A n).testBit z.toNat = true ↔ A.testBit z.toNat = true ∨ z ∈ n)) ?_ ?_ n
  · intro z _ _; simp [usedN]
  · intro n y ih z h hz
    have hy := h y (by simp)
    rw [used_snoc]
    unfold withN
    rw [if_pos (by omega), Nat.testBit_or, Bool.or_eq_true, ih (fun x hx => h x (by simp [hx])) hz, pw_bit]
    have : y.toNat = z.toNat ↔ z = y := by omega
    simp [this, or_assoc]
theorem used_lt {A : Nat} (h : A < 18446744073709551616) : ∀ {n : List Int}, usedN A n < 18446744073709551616 := by
  intro n
  refine snoc_ind (p := fun n => usedN A n < 18446744073709551616) h (fun n y ih => ?_) n
  rw [used_snoc]; exact withN_lt ih
mutual
/-- By the names of the quantifiers around, old and new. -/
def cnE : Ex → List Int → List Int → Nat → Option Ex
  | .mk k i l, p, n, A => if k = 7 ∨ k = 10 then (if leastN (usedN A n) < 0 then none else (cnL l (p ++ [i]) (n ++ [leastN (usedN A n)]) A).map (.mk k (leastN (usedN A n))))
    else (cnL l p n A).map (.mk k (if k = 1 ∧ 0 ≤ pl p i then n.getD (pl p i).toNat 0 else i))
def cnL : List Ex → List Int → List Int → Nat → Option (List Ex)
  | [], _, _, _ => some []
  | e :: l, p, n, A => (cnE e p n A).bind fun x => (cnL l p n A).map (x :: ·)
end
theorem cnL_eq (p n : List Int) (A : Nat) : ∀ l, cnL l p n A = optL (fun e => cnE e p n A) l
  | [] => by rw [cnL, optL]
  | e :: l => by rw [cnL, optL, cnL_eq p n A l]
theorem cnE_eq (e : Ex) (p n : List Int) (A : Nat) : cnE e p n A = if e.k = 7 ∨ e.k = 10 then (if leastN (usedN A n) < 0 then none else (optL (fun x => cnE x (p ++ [e.i]) (n ++ [leastN (usedN A n)]) A) e.kids).map (.mk e.k (leastN (usedN A n))))
    else (optL (fun x => cnE x p n A) e.kids).map (.mk e.k (if e.k = 1 ∧ 0 ≤ pl p e.i then n.getD (pl p e.i).toNat 0 else e.i)) := by
  cases e; rw [cnE, cnL_eq, cnL_eq]; rfl
mutual
/-- By what variables are called now, and what is used. -/
def pcE : Ex → List Int → Nat → Option Ex
  | .mk k i l, x, u => if k = 7 ∨ k = 10 then (if leastN u < 0 then none else (pcL l (x.set i.toNat (leastN u + 1)) (withN u (leastN u))).map (.mk k (leastN u)))
    else (pcL l x u).map (.mk k (if k = 1 ∧ 0 < x.getD i.toNat 0 then x.getD i.toNat 0 - 1 else i))
def pcL : List Ex → List Int → Nat → Option (List Ex)
  | [], _, _ => some []
  | e :: l, x, u => (pcE e x u).bind fun y => (pcL l x u).map (y :: ·)
end
theorem pcL_eq (x : List Int) (u : Nat) : ∀ l, pcL l x u = optL (fun e => pcE e x u) l
  | [] => by rw [pcL, optL]
  | e :: l => by rw [pcL, optL, pcL_eq x u l]
theorem pcE_eq (e : Ex) (x : List Int) (u : Nat) : pcE e x u = if e.k = 7 ∨ e.k = 10 then (if leastN u < 0 then none else (optL (fun y => pcE y (x.set e.i.toNat (leastN u + 1)) (withN u (leastN u))) e.kids).map (.mk e.k (leastN u)))
    else (optL (fun y => pcE y x u) e.kids).map (.mk e.k (if e.k = 1 ∧ 0 < x.getD e.i.toNat 0 then x.getD e.i.toNat 0 - 1 else e.i)) := by
  cases e; rw [pcE, pcL_eq, pcL_eq]; rfl
def Nn (n : List Int) : Prop := ∀ z ∈ n, 0 ≤ z ∧ z ≤ 63
theorem nn_snoc {n : List Int} (h : Nn n) {z : Int} (h0 : 0 ≤ z) (h1 : z ≤ 63) : Nn (n ++ [z]) := fun y hy => by
  rcases List.mem_append.1 hy with hy | hy
  · exact h y hy
  · obtain rfl : y = z := by simpa using hy
    exact ⟨h0, h1⟩
theorem getD_mem {n : List Int} {i : Nat} (h : i < n.length) : n.getD i 0 ∈ n := by
  rw [List.getD_eq_getElem?_getD, List.getElem?_eq_getElem h]; exact List.getElem_mem h
mutual
theorem pc_cn : ∀ (a : Ex) (x p n : List Int) (A : Nat), allX a = true → x.length = 64 → p.length = n.length → Nn n → At x p (n.map (· + 1)) → pcE a x (usedN A n) = cnE a p n A
  | .mk k i l, x, p, n, A, ha, hx, hp, hn, hat => by
    have ka : ∀ y ∈ l, allX y = true := allX_kids ha
    rw [pcE, cnE]
    by_cases hk : k = 7 ∨ k = 10
    · rw [if_pos hk, if_pos hk]
      have va := shaped_var ha (.inr hk)
      simp only [Ex.i_mk] at va
      by_cases hz : leastN (usedN A n) < 0
      · rw [if_pos hz, if_pos hz]
      · rw [if_neg hz, if_neg hz]
        have hr := least_range (usedN A n)
        rw [← used_snoc]
        rw [pc_cnL l _ (p ++ [i]) (n ++ [leastN (usedN A n)]) A ka (by simpa using hx) (by simp [hp]) (nn_snoc hn (by omega) hr.2) (by
          have := at_put (d := leastN (usedN A n) + 1) hat hx (by simpa using hp) va.1 va.2
          simpa using this)]
    · rw [if_neg hk, if_neg hk, pc_cnL l x p n A ka hx hp hn hat]
      congr 2
      by_cases h1 : k = 1
      · have va := shaped_var ha (.inl h1)
        simp only [Ex.i_mk] at va
        have hv := hat i va.1 va.2
        have hr := pl_range p i
        by_cases hpl : pl p i < 0
        · rw [if_pos hpl] at hv
          rw [hv, if_neg (by omega), if_neg (by omega)]
        · rw [if_neg hpl] at hv
          have hlt : (pl p i).toNat < n.length := by omega
          have hm := hn _ (getD_mem hlt)
          have e : (n.map (· + 1)).getD (pl p i).toNat 0 = n.getD (pl p i).toNat 0 + 1 := by
            simp [List.getD_eq_getElem?_getD, hlt]
          rw [hv, e, if_pos ⟨h1, by omega⟩, if_pos ⟨h1, by omega⟩]
          omega
      · simp [h1]
theorem pc_cnL : ∀ (l : List Ex) (x p n : List Int) (A : Nat), (∀ y ∈ l, allX y = true) → x.length = 64 → p.length = n.length → Nn n → At x p (n.map (· + 1)) → pcL l x (usedN A n) = cnL l p n A
  | [], x, p, n, A, _, _, _, _, _ => by rw [pcL, cnL]
  | e :: l, x, p, n, A, ha, hx, hp, hn, hat => by
    rw [pcL, cnL, pc_cn e x p n A (allX_tail ha).1 hx hp hn hat, pc_cnL l x p n A (allX_tail ha).2 hx hp hn hat]
end
theorem pc_cn0 (a : Ex) (A : Nat) (ha : allX a = true) : pcE a names0 A = cnE a [] [] A := by
  refine pc_cn a names0 [] [] A ha (by simp [names0]) rfl (fun z h => by simp at h) fun v hv hv' => ?_
  rw [pl_nil, if_pos (by omega)]
  unfold names0
  rw [List.getD_eq_getElem?_getD, List.getElem?_replicate]
  split <;> rfl
end Go.Proofs.YtaacfmakfkaddaaDoor.Ax
