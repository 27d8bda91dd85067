/- Contracts: expressions encoded; the law ExprBytes. -/
import Derived.Test.YtibfdebhbibfpaaGreatBxJ
set_option linter.unusedVariables false
set_option linter.unusedSimpArgs false
namespace Go.Proofs.YtibfdebhbibfpaaGreat.Ax
open Go Go.Proofs

def byts (l : List (Int × Ex)) : List Int := l.flatMap fun x => sev (headN x.2)
theorem byts_append (l m : List (Int × Ex)) : byts (l ++ m) = byts l ++ byts m := by simp [byts]
mutual
theorem preE_byts : ∀ (e : Ex) (d : Int), byts (preE e d) = bytE e
  | .mk k i l, d => by
    rw [preE, bytE_eq]
    show sev (headN _) ++ byts (preL l _) = _
    rw [preL_byts l]; rfl
theorem preL_byts : ∀ (l : List Ex) (d : Int), byts (preL l d) = bytL l
  | [], d => by rw [preL, bytL]; rfl
  | e :: l, d => by rw [preL, bytL, byts_append, preE_byts e, preL_byts l]
end
theorem byts_take (l : List (Int × Ex)) (n : Nat) (x : Int × Ex) (h : l[n]? = some x) : byts (l.take (n + 1)) = byts (l.take n) ++ sev (headN x.2) := by
  rw [List.take_add_one, byts_append, h]; simp [byts]
theorem byts_len (l : List (Int × Ex)) (h : (l.all fun x => shapedX x.2) = true) : (byts l).length ≤ 5 * l.length := by
  induction l with
  | nil => simp [byts]
  | cons x l ih =>
    rw [List.all_cons, Bool.and_eq_true] at h
    have h1 := sev_len5 (head_lt h.1)
    have h2 := ih h.2
    show (sev (headN x.2) ++ byts l).length ≤ _
    rw [List.length_append, List.length_cons]; omega
def encodeV (e : Ex) : V := .tup [if rightE e = 0 then .sl (encI .u8 (bytE e)) .no else .sl [] .no, .int .i64 (rightE e)]
@[simp] def gEncode : List V → Option V := f1 kE fun e => some (encodeV e)
theorem isByte_encI (l : List Int) : (∀ el ∈ encI .u8 l, isByteV el = true) = True := eq_true fun el h => by
  obtain ⟨n, _, rfl⟩ := List.mem_map.1 h; rfl
end Go.Proofs.YtibfdebhbibfpaaGreat.Ax
