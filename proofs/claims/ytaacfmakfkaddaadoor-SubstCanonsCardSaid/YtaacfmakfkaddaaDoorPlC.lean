/- Plain law: alike, by depths and by places. -/
import Derived.Test.YtaacfmakfkaddaaDoorAxY
import Derived.Test.YtaacfmakfkaddaaDoorBxD
set_option linter.unusedVariables false
set_option linter.unusedSimpArgs false
namespace Go.Proofs.YtaacfmakfkaddaaDoor.Ax
open Go Go.Proofs

/-- Where a number stands last in a list; -1: nowhere. -/
def plR : List Int → Int → Int
  | [], _ => -1
  | v :: r, x => if v = x then r.length else plR r x
def pl (l : List Int) (x : Int) : Int := plR l.reverse x
theorem pl_nil (x : Int) : pl [] x = -1 := rfl
theorem pl_snoc (l : List Int) (v x : Int) : pl (l ++ [v]) x = if v = x then (l.length : Int) else pl l x := by
  unfold pl
  rw [List.reverse_append]
  simp [plR]
theorem pl_take (l : List Int) (j : Nat) (h : j < l.length) (x : Int) : pl (l.take (j + 1)) x = if l[j] = x then (j : Int) else pl (l.take j) x := by
  rw [List.take_add_one]
  simp only [h, List.getElem?_eq_getElem, Option.toList_some]
  rw [pl_snoc, List.length_take, Nat.min_eq_left (by omega)]
theorem plR_range : ∀ (l : List Int) (x : Int), -1 ≤ plR l x ∧ plR l x < l.length
  | [], x => by simp [plR]
  | v :: r, x => by
    have := plR_range r x
    simp only [plR, List.length_cons]
    split <;> omega
theorem pl_range (l : List Int) (x : Int) : -1 ≤ pl l x ∧ pl l x < l.length := by
  have := plR_range l.reverse x
  unfold pl; simpa using this

mutual
def lkE : Ex → Ex → List Int → List Int → Int → Bool
  | .mk k i l, b, x, y, d => decide (k = b.k) && decide (l.length = b.kids.length) &&
    (if k = 1 then decide (x.getD i.toNat 0 = y.getD b.i.toNat 0) && (decide (0 < x.getD i.toNat 0) || decide (i = b.i))
     else if k = 7 ∨ k = 10 then lkL l b.kids (x.set i.toNat d) (y.set b.i.toNat d) (d + 1) else decide (i = b.i) && lkL l b.kids x y (d + 1))
def lkL : List Ex → List Ex → List Int → List Int → Int → Bool
  | e :: l, f :: m, x, y, d => lkE e f x y d && lkL l m x y d
  | _, _, _, _, _ => true
end
mutual
def alkE : Ex → Ex → List Int → List Int → Bool
  | .mk k i l, b, p, q => decide (k = b.k) && decide (l.length = b.kids.length) &&
    (if k = 1 then decide (pl p i = pl q b.i) && (decide (0 ≤ pl p i) || decide (i = b.i))
     else if k = 7 ∨ k = 10 then alkL l b.kids (p ++ [i]) (q ++ [b.i]) else decide (i = b.i) && alkL l b.kids p q)
def alkL : List Ex → List Ex → List Int → List Int → Bool
  | e :: l, f :: m, p, q => alkE e f p q && alkL l m p q
  | _, _, _, _ => true
end
/-- The depths of the quantifiers around; where each variable was named last. -/
def At (x p D : List Int) : Prop := ∀ v : Int, 0 ≤ v → v ≤ 63 → x.getD v.toNat 0 = if pl p v < 0 then 0 else D.getD (pl p v).toNat 0
theorem at_put {x p D : List Int} {d v : Int} (h : At x p D) (hx : x.length = 64) (hp : p.length = D.length) (hv : 0 ≤ v) (hv' : v ≤ 63) : At (x.set v.toNat d) (p ++ [v]) (D ++ [d]) := fun u hu hu' => by
  rw [pl_snoc]
  have hr := pl_range p u
  by_cases e : v = u
  · subst e
    rw [if_pos rfl, if_neg (by omega), hp]
    rw [List.getD_eq_getElem?_getD, List.getElem?_set_self (by omega)]
    simp
  · rw [if_neg e, List.getD_eq_getElem?_getD, List.getElem?_set_ne (by omega), ← List.getD_eq_getElem?_getD, h u hu hu']
    split
    · rfl
    · have hlt : (pl p u).toNat < D.length := by omega
      simp [List.getElem?_append, hlt]
theorem allX_tail {e : Ex} {l : List Ex} (h : ∀ x ∈ e :: l, allX x = true) : allX e = true ∧ ∀ x ∈ l, allX x = true := ⟨h e (by simp), fun x hx => h x (by simp [hx])⟩
def names0 : List Int := List.replicate 64 0
end Go.Proofs.YtaacfmakfkaddaaDoor.Ax
