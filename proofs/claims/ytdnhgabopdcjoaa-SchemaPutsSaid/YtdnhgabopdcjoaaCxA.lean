/- Contracts: one plain form; detachment; RuleEquals and RuleDetaches, walked. -/
import Derived.Test.YtdnhgabopdcjoaaBxZ
import Derived.Test.YtdnhgabopdcjoaaBxO
set_option linter.unusedVariables false
set_option linter.unusedSimpArgs false
namespace Go.Proofs.Ytdnhgabopdcjoaa.Ax
open Go Go.Proofs

def eqErr (a b : Ex) : Int := if bothE a b ≠ 0 then bothE a b else if plainErr a ≠ 0 then plainErr a else plainErr b
def eqB (a b : Ex) : Bool := decide (eqErr a b = 0) && decide (ordE (plainX a) (plainX b) = 0)
theorem plain_right {e : Ex} (h : plainErr e = 0) : rightE (plainX e) = 0 ∧ rightE e = 0 := by
  have h0 := h
  unfold plainErr at h
  split at h
  · rename_i h1; exact absurd h h1
  · rename_i h1; unfold plainX; rw [if_pos h0]; exact ⟨h, by omega⟩
@[simp] def gEqual : List V → Option V := f2 kE kE fun a b => some (.tup [.bool (eqB a b), .int .i64 (eqErr a b)])
theorem eq_bad {a b : Ex} {n : Int} (h : eqErr a b = n) (hn : n ≠ 0) : eqB a b = false := by unfold eqB; rw [h]; simp [hn]
theorem eq_good {a b : Ex} (h : eqErr a b = 0) : eqB a b = decide (ordE (plainX a) (plainX b) = 0) := by unfold eqB; rw [h]; simp
/-- The sorts of a list against a string: t a term. -/
def sortsOk : List Ex → List UInt8 → Bool
  | [], _ => true
  | e :: l, [] => true
  | e :: l, c :: s => (isT e == decide (c = 116)) && sortsOk l s
theorem sorts_drop (l : List Ex) (s : List UInt8) (j : Nat) (h : j < l.length) (hs : j < s.length) : sortsOk (l.drop j) (s.drop j) = ((isT l[j] == decide (s[j] = 116)) && sortsOk (l.drop (j + 1)) (s.drop (j + 1))) := by
  rw [List.drop_eq_getElem_cons h, List.drop_eq_getElem_cons hs, sortsOk]
def sortE (l : List Ex) (s : ByteArray) : Int := if firstBad l ≠ 0 then firstBad l else if sortsOk l s.data.toList = true then 0 else 40
@[simp] def gSorted : List V → Option V := f2 kL kS fun l s => if s.size = l.length then some (.int .i64 (sortE l s)) else none
def detErr (a b : Ex) : Int := if formsE [a, b] ≠ 0 then formsE [a, b] else if b.k = 6 ∧ ordE a (b.kids.getD 0 ex0) = 0 then 0 else 80
def detX (a b : Ex) : Ex := if detErr a b = 0 then b.kids.getD 1 ex0 else ex0
@[simp] def gDetach : List V → Option V := f2 kE kE fun a b => some (.tup [enc (detX a b), .int .i64 (detErr a b)])
theorem det_bad {a b : Ex} {n : Int} (h : detErr a b = n) (hn : n ≠ 0) : detX a b = ex0 := by unfold detX; rw [h, if_neg hn]
theorem det_good {a b : Ex} (h : detErr a b = 0) : detX a b = b.kids.getD 1 ex0 := by unfold detX; rw [h, if_pos rfl]
theorem right_kid' {e k : Ex} (h : rightE e = 0) (hk : k ∈ e.kids) : rightE k = 0 := by
  obtain ⟨z1, z2, z3⟩ := right_zero h
  obtain ⟨j, hj, rfl⟩ := List.getElem_of_mem hk
  have h1 := cntE_kid (e := e) j hj
  have h2 := depE_kid (e := e) j hj
  rw [nodesN_eq] at z1
  exact right_of (by rw [nodesN_eq]; omega) (by omega) (allX_kids z3 _ hk)
theorem forms_two {a b : Ex} (h : formsE [a, b] = 0) : rightE a = 0 ∧ rightE b = 0 ∧ isT a = false ∧ isT b = false := by
  unfold formsE at h
  split at h
  · rename_i h1; exact absurd h h1
  · rename_i h1
    have := firstBad_all [a, b] (by omega)
    split at h
    · cases h
    · rename_i h2
      unfold anyT at h2
      simp at h2
      exact ⟨this a (by simp), this b (by simp), h2.1, h2.2⟩
theorem sort_two (a b : Ex) : sortE [a, b] ⟨#[102, 102]⟩ = formsE [a, b] := by
  have hs : sortsOk [a, b] [102, 102] = !(isT a || isT b) := by
    simp only [sortsOk]
    cases isT a <;> cases isT b <;> rfl
  have ha : anyT [a, b] = (isT a || isT b) := by unfold anyT; simp
  unfold sortE formsE
  show (if firstBad [a, b] ≠ 0 then firstBad [a, b] else if sortsOk [a, b] [102, 102] = true then 0 else 40) = _
  rw [hs, ha]
  by_cases h : (isT a || isT b) = true
  · rw [h]; rfl
  · rw [Bool.not_eq_true] at h; rw [h]; rfl
end Go.Proofs.Ytdnhgabopdcjoaa.Ax
