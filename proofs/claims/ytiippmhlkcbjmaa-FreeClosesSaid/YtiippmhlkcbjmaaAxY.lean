/- Functions that write a box that they are handed; closures over one. -/
import Derived.Test.YtiippmhlkcbjmaaAxX
set_option linter.unusedVariables false
set_option linter.unusedSimpArgs false
namespace Go.Proofs.Ytiippmhlkcbjmaa.Ax
open Go

theorem fin_mem {P : Program} {fn : Func} {σ : St} {x : V} {M' : Mem} {K' : Toks} (h : (resAll P σ fn.results.toList).pre ∧ (resAll P σ fn.results.toList).v.erase = x)
    (hM : ∀ id, M' id ≠ none → M' id = σ.M id) (hK : ∀ t, K' t = true → σ.K t = true) : fin P fn (fun y M1 K1 => y = x ∧ M1 = M' ∧ K1 = K') .ret σ :=
  ⟨h.1, M', K', hM, hK, .inr ⟨h.2, rfl, rfl⟩⟩
theorem fin_mem' {P : Program} {fn : Func} {σ : St} {x : V} {M' : Mem} {K' : Toks} (h : (resAll P σ fn.results.toList).pre ∧ (resAll P σ fn.results.toList).v.erase = x)
    (hM : ∀ id, M' id ≠ none → M' id = σ.M id) (hK : ∀ t, K' t = true → σ.K t = true) : fin P fn (fun y M1 K1 => y = x ∧ M1 = M' ∧ K1 = K') .normal σ :=
  ⟨h.1, M', K', hM, hK, .inr ⟨h.2, rfl, rfl⟩⟩
/-- What is looked at only. -/
def roOk (ro : List (Path × Box)) (M : Mem) : Prop := ∀ r ∈ ro, M r.1 = some r.2
theorem roOk_eq {ro : List (Path × Box)} {M M' : Mem} (h : roOk ro M) (he : ∀ r ∈ ro, M' r.1 = M r.1) : roOk ro M' := fun r hr => by rw [he r hr]; exact h r hr
theorem not_own {q : Path} {M : Mem} {id : Path} (hM : ∀ id, q <:+ id → M id = none) (h : M id ≠ none) (c d : Nat) : ¬ id = c :: d :: q := fun e => h (hM id (by rw [e]; exact ⟨[c, d], rfl⟩))
theorem not_own' {q : Path} {M : Mem} {id : Path} (hM : ∀ id, q <:+ id → M id = none) (h : M id ≠ none) : ¬ q <:+ id := fun e => h (hM id e)
theorem own_suf (q : Path) (c d : Nat) : q <:+ c :: d :: q := ⟨[c, d], rfl⟩
end Go.Proofs.Ytiippmhlkcbjmaa.Ax
