/- Contracts: decoding; ExprDecodes, walked. -/
import Derived.Test.YtaacfmakfkaddaaDoorCxH
import Derived.Test.YtaacfmakfkaddaaDoorBxL
set_option linter.unusedVariables false
set_option linter.unusedSimpArgs false
namespace Go.Proofs.YtaacfmakfkaddaaDoor.Ax
open Go Go.Proofs

def decR (b : List Int) : Int × Ex × Nat × Nat := rdE false b 1001 0 0
def decErr (b : List Int) : Int := if (decR b).1 ≠ 0 then (decR b).1 else if (decR b).2.2.1 < b.length then 23 else rightE (decR b).2.1
def decX (b : List Int) : Ex := if decErr b = 0 then (decR b).2.1 else ex0
@[simp] noncomputable def gDecode : List V → Option V := f1 (kIs .u8) fun b => if byt b then some (.tup [enc (decX b), .int .i64 (decErr b)]) else none
section
set_option linter.unusedVariables false
set_option linter.unusedSimpArgs false
open Go Go.Proofs

mutual
theorem ord_eq : ∀ (a b : Ex), ordE a b = 0 → a = b
  | .mk k i l, .mk k' i' l', h => by
    rw [ordE_hd] at h
    split at h
    · rename_i c; exact absurd h c
    · rename_i c
      have c : hd3 (.mk k i l) (.mk k' i' l') = 0 := by omega
      have hl := hd3_len c
      have z : k = k' ∧ i = i' := by
        have h1 := ordI_zero k k'
        have h2 := ordI_zero i i'
        unfold hd3 at c
        simp only [Ex.k_mk, Ex.i_mk] at c
        by_cases e1 : ordI k k' = 0 <;> by_cases e2 : ordI i i' = 0 <;> simp [e1, e2] at c <;> exact ⟨h1.1 e1, h2.1 e2⟩
      simp only [Ex.kids_mk] at hl h
      rw [z.1, z.2, ord_eqL l l' hl h]
theorem ord_eqL : ∀ (l m : List Ex), l.length = m.length → ordL l m = 0 → l = m
  | [], [], _, _ => rfl
  | a :: l, b :: m, hl, h => by
    rw [ordL] at h
    split at h
    · rename_i c; exact absurd h c
    · rename_i c
      rw [ord_eq a b (by omega), ord_eqL l m (by simpa using hl) h]
end
end
end Go.Proofs.YtaacfmakfkaddaaDoor.Ax
