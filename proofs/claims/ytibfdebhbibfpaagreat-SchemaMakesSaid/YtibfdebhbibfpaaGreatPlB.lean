/- Plain law: expressions are ordered. -/
import Derived.Test.YtibfdebhbibfpaaGreatBxF
set_option linter.unusedVariables false
set_option linter.unusedSimpArgs false
namespace Go.Proofs.YtibfdebhbibfpaaGreat.Ax
open Go Go.Proofs

theorem ordI_flip (a b : Int) : ordI b a = - ordI a b := by unfold ordI; repeat' split
                                                            all_goals omega
theorem hd3_flip (a b : Ex) : hd3 b a = - hd3 a b := by
  unfold hd3
  rw [ordI_flip a.k b.k, ordI_flip a.i b.i, ordI_flip a.kids.length b.kids.length]
  repeat' split
  all_goals omega
mutual
theorem ordE_flip : ∀ (a b : Ex), ordE b a = - ordE a b
  | .mk k i l, .mk k' i' l' => by
    have h := ordL_flip l l'
    rw [ordE_hd, ordE_hd, hd3_flip]
    simp only [Ex.kids_mk]
    rw [h]
    repeat' split
    all_goals omega
theorem ordL_flip : ∀ (l m : List Ex), ordL m l = - ordL l m
  | [], [] => by simp [ordL]
  | [], b :: m => by simp [ordL]
  | a :: l, [] => by simp [ordL]
  | a :: l, b :: m => by
    have h1 := ordE_flip a b
    have h2 := ordL_flip l m
    rw [ordL, ordL, h1, h2]
    repeat' split
    all_goals omega
end
/-- One ahead of one ahead of a third is ahead of it. -/
def Tri (x z w : Int) : Prop := x ≤ 0 → z ≤ 0 → w ≤ 0 ∧ (w = 0 → x = 0 ∧ z = 0)
theorem ordI_tri (a b c : Int) : Tri (ordI a b) (ordI b c) (ordI a c) := by
  unfold Tri ordI
  repeat' split
  all_goals omega
theorem tri_lex {x z w x' z' w' : Int} (h : Tri x z w) (hw : x = 0 → z = 0 → w = 0) (h' : x = 0 → z = 0 → Tri x' z' w') : Tri (if x ≠ 0 then x else x') (if z ≠ 0 then z else z') (if w ≠ 0 then w else w') := by
  unfold Tri at *
  intro h1 h2
  by_cases e1 : x = 0 <;> by_cases e2 : z = 0 <;> by_cases e3 : w = 0 <;> simp [e1, e2, e3] at * <;> omega
theorem ordI_zz (a b c : Int) : ordI a b = 0 → ordI b c = 0 → ordI a c = 0 := by
  rw [ordI_zero, ordI_zero, ordI_zero]; omega
theorem hd3_zz (a b c : Ex) : hd3 a b = 0 → hd3 b c = 0 → hd3 a c = 0 := by
  have z : ∀ a b : Ex, hd3 a b = 0 ↔ a.k = b.k ∧ a.i = b.i ∧ (a.kids.length : Int) = b.kids.length := fun a b => by
    unfold hd3
    have h1 := ordI_zero a.k b.k
    have h2 := ordI_zero a.i b.i
    have h3 := ordI_zero a.kids.length b.kids.length
    by_cases e1 : ordI a.k b.k = 0 <;> by_cases e2 : ordI a.i b.i = 0 <;> simp [e1, e2] <;> omega
  rw [z, z, z]; omega
theorem hd3_tri (a b c : Ex) : Tri (hd3 a b) (hd3 b c) (hd3 a c) := by
  unfold hd3
  exact tri_lex (ordI_tri _ _ _) (ordI_zz _ _ _) fun _ _ => tri_lex (ordI_tri _ _ _) (ordI_zz _ _ _) fun _ _ => ordI_tri _ _ _
mutual
theorem ordE_tri : ∀ (a b c : Ex), Tri (ordE a b) (ordE b c) (ordE a c) ∧ (ordE a b = 0 → ordE b c = 0 → ordE a c = 0)
  | .mk k i l, .mk k' i' l', .mk k2 i2 l2 => by
    have h := hd3_tri (.mk k i l) (.mk k' i' l') (.mk k2 i2 l2)
    have hz := hd3_zz (.mk k i l) (.mk k' i' l') (.mk k2 i2 l2)
    rw [ordE_hd, ordE_hd (.mk k' i' l'), ordE_hd (.mk k i l) (.mk k2 i2 l2)]
    simp only [Ex.kids_mk]
    have r : hd3 (.mk k i l) (.mk k' i' l') = 0 → hd3 (.mk k' i' l') (.mk k2 i2 l2) = 0 → Tri (ordL l l') (ordL l' l2) (ordL l l2) ∧ (ordL l l' = 0 → ordL l' l2 = 0 → ordL l l2 = 0) := fun h1 h2 => ordL_tri l l' l2 (hd3_len h1) (hd3_len h2)
    refine ⟨tri_lex h hz fun h1 h2 => (r h1 h2).1, ?_⟩
    by_cases e1 : hd3 (.mk k i l) (.mk k' i' l') = 0 <;> by_cases e2 : hd3 (.mk k' i' l') (.mk k2 i2 l2) = 0
    · have r2 := (r e1 e2).2
      simp only [e1, e2, hz e1 e2]
      simpa using r2
    all_goals simp [e1, e2]
theorem ordL_tri : ∀ (l m n : List Ex), l.length = m.length → m.length = n.length → Tri (ordL l m) (ordL m n) (ordL l n) ∧ (ordL l m = 0 → ordL m n = 0 → ordL l n = 0)
  | [], [], [], _, _ => by simp [ordL, Tri]
  | a :: l, b :: m, c :: n, h1, h2 => by
    have e := ordE_tri a b c
    have r := ordL_tri l m n (by simpa using h1) (by simpa using h2)
    rw [ordL, ordL, ordL]
    refine ⟨tri_lex e.1 e.2 fun _ _ => r.1, ?_⟩
    have e2 := e.2
    have r2 := r.2
    repeat' split
    all_goals (intros; simp_all)
end
end Go.Proofs.YtibfdebhbibfpaaGreat.Ax
