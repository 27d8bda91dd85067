/- Plain law: alike, by depths and by places. -/
import Derived.Test.YtaacfmakfkaddaaDoorAxY
import Derived.Test.YtaacfmakfkaddaaDoorBxD
set_option linter.unusedVariables false
set_option linter.unusedSimpArgs false
namespace Go.Proofs.YtaacfmakfkaddaaDoor.Ax
open Go Go.Proofs

/-- Where a number stands last in a list; -1: nowhere. -/
def plR : List Int → Int → Int
  | [], _ => -1
  | v :: r, x => if v = x then r.length else plR r x
def pl (l : List Int) (x : Int) : Int := plR l.reverse x
theorem pl_nil (x : Int) : pl [] x = -1 := rfl
theorem pl_snoc (l : List Int) (v x : Int) : pl (l ++ [v]) x = if v = x then (l.length : Int) else pl l x := by
  unfold pl
  rw [List.reverse_append]
  simp [plR]
theorem pl_take (l : List Int) (j : Nat) (h : j < l.length) (x : Int) : pl (l.take (j + 1)) x = if l[j] = x then (j : Int) else pl (l.take j) x := by
  rw [List.take_add_one]
  simp only [h, List.getElem?_eq_getElem, Option.toList_some]
  rw [pl_snoc, List.length_take, Nat.min_eq_left (by omega)]
theorem plR_range : ∀ (l : List Int) (x : Int), -1 ≤ plR l x ∧ plR l x < l.length
  | [], x => by simp [plR]
  | v :: r, x => by
    have := plR_range r x
    simp only [plR, List.length_cons]
    split <;> omega
theorem pl_range (l : List Int) (x : Int) : -1 ≤ pl l x ∧ pl l x < l.length := by
  have := plR_range l.reverse x
  unfold pl; simpa using this

mutual
def lkE : Ex → Ex → List Int → List Int → Int → Bool
  | .mk k i l, b, x, y, d => decide (k = b.k) && decide (l.length = b.kids.length) &&
    (if k = 1 then decide (x.getD i.toNat 0 = y.getD b.i.toNat 0) && (decide (0 < x.getD i.toNat 0) || decide (i = b.i))
     else if k = 7 ∨ k = 10 then lkL l b.kids (x.set i.toNat d) (y.set b.i.toNat d) (d + 1) else decide (i = b.i) && lkL l b.kids x y (d + 1))
def lkL : List Ex → List Ex → List Int → List Int → Int → Bool
  | e :: l, f :: m, x, y, d => lkE e f x y d && lkL l m x y d
  | _, _, _, _, _ => true
end
theorem lkE_eq (a b : Ex) (x y : List Int) (d : Int) : lkE a b x y d = (decide (a.k = b.k) && decide (a.kids.length = b.kids.length) &&
    (if a.k = 1 then decide (x.getD a.i.toNat 0 = y.getD b.i.toNat 0) && (decide (0 < x.getD a.i.toNat 0) || decide (a.i = b.i))
     else if a.k = 7 ∨ a.k = 10 then lkL a.kids b.kids (x.set a.i.toNat d) (y.set b.i.toNat d) (d + 1) else decide (a.i = b.i) && lkL a.kids b.kids x y (d + 1))) := by
  cases a; rw [lkE]; rfl
theorem lkL_eq : ∀ (l m : List Ex) (x y : List Int) (d : Int), lkL l m x y d = all2 (fun u v => lkE u v x y d) l m
  | e :: l, f :: m, x, y, d => by rw [lkL, all2, lkL_eq l m]
  | [], [], x, y, d => by simp [lkL, all2]
  | [], f :: m, x, y, d => by simp [lkL, all2]
  | e :: l, [], x, y, d => by simp [lkL, all2]
mutual
def alkE : Ex → Ex → List Int → List Int → Bool
  | .mk k i l, b, p, q => decide (k = b.k) && decide (l.length = b.kids.length) &&
    (if k = 1 then decide (pl p i = pl q b.i) && (decide (0 ≤ pl p i) || decide (i = b.i))
     else if k = 7 ∨ k = 10 then alkL l b.kids (p ++ [i]) (q ++ [b.i]) else decide (i = b.i) && alkL l b.kids p q)
def alkL : List Ex → List Ex → List Int → List Int → Bool
  | e :: l, f :: m, p, q => alkE e f p q && alkL l m p q
  | _, _, _, _ => true
end
theorem alkE_eq (a b : Ex) (p q : List Int) : alkE a b p q = (decide (a.k = b.k) && decide (a.kids.length = b.kids.length) &&
    (if a.k = 1 then decide (pl p a.i = pl q b.i) && (decide (0 ≤ pl p a.i) || decide (a.i = b.i))
     else if a.k = 7 ∨ a.k = 10 then alkL a.kids b.kids (p ++ [a.i]) (q ++ [b.i]) else decide (a.i = b.i) && alkL a.kids b.kids p q)) := by
  cases a; rw [alkE]; rfl
/-- The depths of the quantifiers around; where each variable was named last. -/
def At (x p D : List Int) : Prop := ∀ v : Int, 0 ≤ v → v ≤ 63 → x.getD v.toNat 0 = if pl p v < 0 then 0 else D.getD (pl p v).toNat 0
def Up (D : List Int) (d : Int) : Prop := (∀ i, i < D.length → 1 ≤ D.getD i 0 ∧ D.getD i 0 < d) ∧ ∀ i j, i < j → j < D.length → D.getD i 0 < D.getD j 0
theorem at_put {x p D : List Int} {d v : Int} (h : At x p D) (hx : x.length = 64) (hp : p.length = D.length) (hv : 0 ≤ v) (hv' : v ≤ 63) : At (x.set v.toNat d) (p ++ [v]) (D ++ [d]) := fun u hu hu' => by
  rw [pl_snoc]
  have hr := pl_range p u
  by_cases e : v = u
  · subst e
    rw [if_pos rfl, if_neg (by omega), hp]
    rw [List.getD_eq_getElem?_getD, List.getElem?_set_self (by omega)]
    simp
  · rw [if_neg e, List.getD_eq_getElem?_getD, List.getElem?_set_ne (by omega), ← List.getD_eq_getElem?_getD, h u hu hu']
    split
    · rfl
    · have hlt : (pl p u).toNat < D.length := by omega
      simp [List.getElem?_append, hlt]
theorem up_put {D : List Int} {d : Int} (h : Up D d) (hd : 1 ≤ d) : Up (D ++ [d]) (d + 1) := by
  obtain ⟨h1, h2⟩ := h
  refine ⟨fun i hi => ?_, fun i j hij hj => ?_⟩
  · simp only [List.getD_eq_getElem?_getD, List.getElem?_append]
    split
    · rename_i hlt
      have := h1 i hlt
      simp only [List.getD_eq_getElem?_getD] at this; omega
    · have : i - D.length = 0 := by simp at hi; omega
      rw [this]; simp; omega
  · rw [List.getD_eq_getElem?_getD, List.getD_eq_getElem?_getD, List.getElem?_append, List.getElem?_append]
    simp at hj
    rw [if_pos (show i < D.length by omega)]
    split
    · rename_i hlt
      have := h2 i j hij hlt
      rw [← List.getD_eq_getElem?_getD, ← List.getD_eq_getElem?_getD]; exact this
    · have h3 := h1 i (by omega)
      have : j - D.length = 0 := by omega
      rw [List.getD_eq_getElem?_getD] at h3
      rw [this]; simp; omega
theorem up_mono {D : List Int} {d d' : Int} (h : Up D d) (hd : d ≤ d') : Up D d' := ⟨fun i hi => by have := h.1 i hi; omega, h.2⟩
theorem up_inj {D : List Int} {d : Int} (h : Up D d) {i j : Nat} (hi : i < D.length) (hj : j < D.length) (e : D.getD i 0 = D.getD j 0) : i = j := by
  rcases Nat.lt_trichotomy i j with h1 | h1 | h1
  · have := h.2 i j h1 hj; omega
  · exact h1
  · have := h.2 j i h1 hi; omega
theorem allX_tail {e : Ex} {l : List Ex} (h : ∀ x ∈ e :: l, allX x = true) : allX e = true ∧ ∀ x ∈ l, allX x = true := ⟨h e (by simp), fun x hx => h x (by simp [hx])⟩
theorem lk_step (a b : Ex) (ih : ∀ (x y p q D : List Int) (d : Int), (∀ x ∈ a.kids, allX x = true) → (∀ x ∈ b.kids, allX x = true) → x.length = 64 → y.length = 64 → p.length = D.length → q.length = D.length → At x p D → At y q D → Up D d → 1 ≤ d → lkL a.kids b.kids x y d = alkL a.kids b.kids p q)
    (x y p q D : List Int) (d : Int) (ha : allX a = true) (hb : allX b = true) (hx : x.length = 64) (hy : y.length = 64) (hp : p.length = D.length) (hq : q.length = D.length) (ax : At x p D) (ay : At y q D) (hu : Up D d) (hd : 1 ≤ d) : lkE a b x y d = alkE a b p q := by
  rw [lkE_eq, alkE_eq]
  by_cases e1 : a.k = b.k
  rotate_left
  · simp [e1]
  by_cases e2 : a.kids.length = b.kids.length
  rotate_left
  · simp [e2]
  congr 1
  have ka : ∀ x ∈ a.kids, allX x = true := allX_kids ha
  have kb := allX_kids hb
  by_cases hk : a.k = 1
  · rw [if_pos hk, if_pos hk]
    have va := shaped_var ha (.inl hk)
    have vb := shaped_var hb (.inl (e1 ▸ hk))
    rw [ax a.i va.1 va.2, ay b.i vb.1 vb.2]
    have ra := pl_range p a.i
    have rb := pl_range q b.i
    by_cases pa : pl p a.i < 0
    · have pa' : pl p a.i = -1 := by omega
      by_cases pb : pl q b.i < 0
      · have pb' : pl q b.i = -1 := by omega
        simp [pa', pb']
      · have h1 := hu.1 (pl q b.i).toNat (by omega)
        rw [if_pos pa, if_neg pb]
        have e3 : ¬ (0 : Int) = D.getD (pl q b.i).toNat 0 := by omega
        have e4 : ¬ pl p a.i = pl q b.i := by omega
        simp [e3, e4]
        intro h; exact absurd h (by simpa using e3)
    · have h0 := hu.1 (pl p a.i).toNat (by omega)
      by_cases pb : pl q b.i < 0
      · rw [if_neg pa, if_pos pb]
        have e3 : ¬ D.getD (pl p a.i).toNat 0 = 0 := by omega
        have e4 : ¬ pl p a.i = pl q b.i := by omega
        simp [e3, e4]
        intro h; exact absurd h (by simpa using e3)
      · rw [if_neg pa, if_neg pb]
        have e5 : (D.getD (pl p a.i).toNat 0 = D.getD (pl q b.i).toNat 0) = (pl p a.i = pl q b.i) := by
          apply propext
          constructor
          · intro h
            have := up_inj hu (i := (pl p a.i).toNat) (j := (pl q b.i).toNat) (by omega) (by omega) h
            omega
          · intro h; rw [h]
        have e6 : 0 < D.getD (pl p a.i).toNat 0 := by omega
        have e7 : 0 ≤ pl p a.i := by omega
        have e8 : decide (D.getD (pl p a.i).toNat 0 = D.getD (pl q b.i).toNat 0) = decide (pl p a.i = pl q b.i) := by
          exact decide_eq_decide.2 (by rw [e5])
        rw [e8, decide_eq_true e6, decide_eq_true e7]
  · rw [if_neg hk, if_neg hk]
    by_cases hk : a.k = 7 ∨ a.k = 10
    · rw [if_pos hk, if_pos hk]
      have va := shaped_var ha (.inr hk)
      have vb := shaped_var hb (.inr (e1 ▸ hk))
      exact ih _ _ _ _ (D ++ [d]) (d + 1) ka kb (by simpa using hx) (by simpa using hy) (by simp [hp]) (by simp [hq]) (at_put ax hx hp va.1 va.2) (at_put ay hy hq vb.1 vb.2) (up_put hu hd) (by omega)
    · rw [if_neg hk, if_neg hk]
      rw [ih x y p q D (d + 1) ka kb hx hy hp hq ax ay (up_mono hu (by omega)) (by omega)]
mutual
theorem lk_alk : ∀ (a b : Ex) (x y p q D : List Int) (d : Int), allX a = true → allX b = true → x.length = 64 → y.length = 64 → p.length = D.length → q.length = D.length → At x p D → At y q D → Up D d → 1 ≤ d → lkE a b x y d = alkE a b p q
  | .mk k i l, b, x, y, p, q, D, d, ha, hb, hx, hy, hp, hq, ax, ay, hu, hd => lk_step (.mk k i l) b (lk_alkL l b.kids) x y p q D d ha hb hx hy hp hq ax ay hu hd
theorem lk_alkL : ∀ (l m : List Ex) (x y p q D : List Int) (d : Int), (∀ x ∈ l, allX x = true) → (∀ x ∈ m, allX x = true) → x.length = 64 → y.length = 64 → p.length = D.length → q.length = D.length → At x p D → At y q D → Up D d → 1 ≤ d → lkL l m x y d = alkL l m p q
  | [], m, x, y, p, q, D, d, _, _, _, _, _, _, _, _, _, _ => by cases m <;> simp [lkL, alkL]
  | e :: l, [], x, y, p, q, D, d, _, _, _, _, _, _, _, _, _, _ => by simp [lkL, alkL]
  | e :: l, f :: m, x, y, p, q, D, d, ha, hb, hx, hy, hp, hq, ax, ay, hu, hd => by
    rw [lkL, alkL, lk_alk e f x y p q D d (allX_tail ha).1 (allX_tail hb).1 hx hy hp hq ax ay hu hd, lk_alkL l m x y p q D d (allX_tail ha).2 (allX_tail hb).2 hx hy hp hq ax ay hu hd]
end
def names0 : List Int := List.replicate 64 0
theorem alike0 (a b : Ex) (ha : allX a = true) (hb : allX b = true) : lkE a b names0 names0 1 = alkE a b [] [] := by
  have h0 : At names0 [] [] := fun v hv hv' => by
    rw [pl_nil, if_pos (by omega)]
    unfold names0
    rw [List.getD_eq_getElem?_getD, List.getElem?_replicate]
    split <;> rfl
  exact lk_alk a b _ _ _ _ [] 1 ha hb (by simp [names0]) (by simp [names0]) rfl rfl h0 h0 ⟨fun i hi => by simp at hi, fun i j _ hj => by simp at hj⟩ (by omega)
end Go.Proofs.YtaacfmakfkaddaaDoor.Ax
