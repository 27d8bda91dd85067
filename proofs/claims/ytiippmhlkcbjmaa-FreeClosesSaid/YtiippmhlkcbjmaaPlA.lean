/- Plain law: how deep an expression is, as its nodes are told. -/
import Derived.Test.YtiippmhlkcbjmaaByA
set_option linter.unusedVariables false
set_option linter.unusedSimpArgs false
namespace Go.Proofs.Ytiippmhlkcbjmaa.Ax
open Go Go.Proofs

mutual
def depE : Ex → Nat
  | .mk _ _ l => depL l + 1
def depL : List Ex → Nat
  | [] => 0
  | e :: l => max (depE e) (depL l)
end
theorem depE_eq (e : Ex) : depE e = depL e.kids + 1 := by cases e; rw [depE]; rfl
mutual
def preN : Ex → Nat → List Nat
  | .mk _ _ l, d => d :: preNL l (d + 1)
def preNL : List Ex → Nat → List Nat
  | [], _ => []
  | e :: l, d => preN e d ++ preNL l d
end
theorem wrap_wrap (n : Int) : IntKind.i64.wrap (IntKind.i64.wrap n + 1) = IntKind.i64.wrap (n + 1) := by
  simp only [IntKind.wrap, IntKind.bits, IntKind.signed]
  simp
  omega
mutual
theorem preE_fst : ∀ (e : Ex) (d : Int) (d' : Nat), d = IntKind.i64.wrap d' → (preE e d).map (·.1) = (preN e d').map fun r : Nat => IntKind.i64.wrap r
  | .mk k i l, d, d', h => by
    rw [preE, preN, List.map_cons, List.map_cons, h, preL_fst l _ (d' + 1) (by rw [wrap_wrap]; rfl)]
theorem preL_fst : ∀ (l : List Ex) (d : Int) (d' : Nat), d = IntKind.i64.wrap d' → (preL l d).map (·.1) = (preNL l d').map fun r : Nat => IntKind.i64.wrap r
  | [], d, d', h => by rw [preL, preNL]; rfl
  | e :: l, d, d', h => by rw [preL, preNL, List.map_append, List.map_append, preE_fst e d d' h, preL_fst l d d' h]
end
def maxl (m : Nat) (l : List Nat) : Nat := l.foldl max m
def Stairs : Nat → List Nat → Prop
  | _, [] => True
  | m, x :: l => x ≤ m + 1 ∧ Stairs (max m x) l
theorem stairs_append : ∀ (m : Nat) (l l' : List Nat), Stairs m l → Stairs (maxl m l) l' → Stairs m (l ++ l')
  | m, [], l', _, h => h
  | m, x :: l, l', ⟨h1, h2⟩, h => ⟨h1, stairs_append _ l l' h2 h⟩
theorem maxl_append (m : Nat) (l l' : List Nat) : maxl m (l ++ l') = maxl (maxl m l) l' := by simp [maxl]
mutual
theorem stairsE : ∀ (e : Ex) (d m : Nat), 1 ≤ d → d ≤ m + 1 → Stairs m (preN e d) ∧ maxl m (preN e d) = max m (d - 1 + depE e)
  | .mk k i l, d, m, h1, h2 => by
    obtain ⟨a, b⟩ := stairsL l d (max m d) (by omega)
    rw [preN, depE]
    refine ⟨⟨h2, a⟩, ?_⟩
    show maxl (max m d) _ = _
    rw [b]; omega
theorem stairsL : ∀ (l : List Ex) (d m : Nat), d ≤ m → Stairs m (preNL l (d + 1)) ∧ maxl m (preNL l (d + 1)) = max m (d + depL l)
  | [], d, m, h => by rw [preNL, depL]; exact ⟨trivial, by simp [maxl]; omega⟩
  | e :: l, d, m, h => by
    obtain ⟨a, b⟩ := stairsE e (d + 1) m (by omega) (by omega)
    rw [preNL, depL]
    obtain ⟨a', b'⟩ := stairsL l d (maxl m (preN e (d + 1))) (by rw [b]; omega)
    refine ⟨stairs_append _ _ _ a a', ?_⟩
    rw [maxl_append, b', b]; omega
end
theorem stairs_at : ∀ (l : List Nat) (m n x : Nat), Stairs m l → l[n]? = some x → x ≤ maxl m (l.take n) + 1 ∧ maxl m (l.take (n + 1)) = max (maxl m (l.take n)) x
  | [], m, n, x, _, h => by simp at h
  | y :: l, m, 0, x, hs, h => by simp at h; subst h; exact ⟨hs.1, by simp [maxl]⟩
  | y :: l, m, n + 1, x, hs, h => stairs_at l (max m y) n x hs.2 (by simpa using h)
theorem maxl_ge : ∀ (l : List Nat) (m : Nat), m ≤ maxl m l
  | [], m => Nat.le_refl _
  | x :: l, m => Nat.le_trans (Nat.le_max_left m x) (maxl_ge l _)
theorem maxl_take : ∀ (l : List Nat) (m n : Nat), maxl m (l.take n) ≤ maxl m l
  | [], m, n => by simp
  | x :: l, m, 0 => maxl_ge _ _
  | x :: l, m, n + 1 => maxl_take l (max m x) n
theorem dep_all (e : Ex) : maxl 0 (preN e 1) = depE e := by
  rw [(stairsE e 1 0 (by omega) (by omega)).2]; omega
/-- What is told at place n, where nothing deeper than 100 has been told. -/
theorem dep_at (e : Ex) (n : Nat) (x : Int × Ex) (hx : (preE e 1)[n]? = some x) (hm : maxl 0 ((preN e 1).take n) ≤ 100) :
    ∃ d : Nat, x.1 = d ∧ d ≤ 101 ∧ maxl 0 ((preN e 1).take (n + 1)) = max (maxl 0 ((preN e 1).take n)) d ∧ max (maxl 0 ((preN e 1).take n)) d ≤ depE e := by
  have h1 := congrArg (fun l => l[n]?) (preE_fst e 1 1 (by decide))
  simp only [List.getElem?_map, hx, Option.map_some] at h1
  obtain ⟨d, hd, he⟩ := Option.map_eq_some_iff.1 h1.symm
  obtain ⟨h2, h3⟩ := stairs_at _ 0 n d (stairsE e 1 0 (by omega) (by omega)).1 hd
  refine ⟨d, ?_, by omega, h3, ?_⟩
  · rw [← he]; exact wrap64 (by omega) (by omega)
  · rw [← h3, ← dep_all e]; exact maxl_take _ _ _
theorem preN_length (e : Ex) : (preN e 1).length = (preE e 1).length := by
  have h1 := congrArg List.length (preE_fst e 1 1 (by decide))
  simpa using h1.symm
theorem dep_done (e : Ex) : maxl 0 ((preN e 1).take (preE e 1).length) = depE e := by
  rw [← preN_length, List.take_length, dep_all]
end Go.Proofs.Ytiippmhlkcbjmaa.Ax
