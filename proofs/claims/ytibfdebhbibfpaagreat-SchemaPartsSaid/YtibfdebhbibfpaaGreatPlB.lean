/- Plain law: expressions are ordered. -/
import Derived.Test.YtibfdebhbibfpaaGreatBxF
set_option linter.unusedVariables false
set_option linter.unusedSimpArgs false
namespace Go.Proofs.YtibfdebhbibfpaaGreat.Ax
open Go Go.Proofs

theorem ordI_flip (a b : Int) : ordI b a = - ordI a b := by unfold ordI; repeat' split
                                                            all_goals omega
theorem hd3_flip (a b : Ex) : hd3 b a = - hd3 a b := by
  unfold hd3
  rw [ordI_flip a.k b.k, ordI_flip a.i b.i, ordI_flip a.kids.length b.kids.length]
  repeat' split
  all_goals omega
mutual
theorem ordE_flip : ∀ (a b : Ex), ordE b a = - ordE a b
  | .mk k i l, .mk k' i' l' => by
    have h := ordL_flip l l'
    rw [ordE_hd, ordE_hd, hd3_flip]
    simp only [Ex.kids_mk]
    rw [h]
    repeat' split
    all_goals omega
theorem ordL_flip : ∀ (l m : List Ex), ordL m l = - ordL l m
  | [], [] => by simp [ordL]
  | [], b :: m => by simp [ordL]
  | a :: l, [] => by simp [ordL]
  | a :: l, b :: m => by
    have h1 := ordE_flip a b
    have h2 := ordL_flip l m
    rw [ordL, ordL, h1, h2]
    repeat' split
    all_goals omega
end
end Go.Proofs.YtibfdebhbibfpaaGreat.Ax
