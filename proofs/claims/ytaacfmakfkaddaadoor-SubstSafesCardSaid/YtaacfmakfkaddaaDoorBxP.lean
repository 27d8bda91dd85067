/- Plain law: unfolded forms. -/
import Derived.Test.YtaacfmakfkaddaaDoorBxD
import Derived.Test.YtaacfmakfkaddaaDoorBxH
set_option linter.unusedVariables false
set_option linter.unusedSimpArgs false
namespace Go.Proofs.YtaacfmakfkaddaaDoor.Ax
open Go Go.Proofs

theorem encL_mapsucc (F : Ex → Ex) (l : List Ex) (j : Nat) (h : j < l.length) : encL ((l.map F).take (j + 1)) = encL ((l.map F).take j) ++ [encC (F l[j])] := by
  rw [List.take_add_one, encL_append]; simp [h, encC_eq]
def ex0 : Ex := .mk 0 0 []
def notX (a : Ex) : Ex := .mk 5 0 [a]
def impX (a b : Ex) : Ex := .mk 6 0 [a, b]
def allQ (x : Int) (a : Ex) : Ex := .mk 7 x [a]
def unf0 (k i : Int) (l : List Ex) : Ex :=
  if k = 8 then notX (impX (l.getD 0 ex0) (notX (l.getD 1 ex0))) else if k = 9 then impX (notX (l.getD 0 ex0)) (l.getD 1 ex0) else if k = 10 then notX (allQ i (notX (l.getD 0 ex0))) else .mk k i l
mutual
def unfE : Ex → Ex
  | .mk k i l => unf0 k i (unfL l)
def unfL : List Ex → List Ex
  | [] => []
  | e :: l => unfE e :: unfL l
end
theorem kids_four {e : Ex} (h : allX e = true) : e.kids.length ≤ 4 := by
  rw [allX_eq, Bool.and_eq_true] at h
  have h1 := h.1
  unfold shapedX kidsAre at h1
  rw [Bool.and_eq_true] at h1
  have h2 := h1.2
  repeat' split at h2
  all_goals first | (cases h2; done) | (simp only [Bool.and_eq_true, decide_eq_true_eq] at h2; omega)
@[simp] def gNotok_pNot : List V → Option V := f1 kE fun e => some (enc (notX e))
@[simp] def gNotok_rNot : List V → Option V := f1 kE fun e => some (enc (notX e))
@[simp] def gImpok_pImp : List V → Option V := f2 kE kE fun a b => some (enc (impX a b))
@[simp] def gImpok_rImp : List V → Option V := f2 kE kE fun a b => some (enc (impX a b))
@[simp] def gAllok_rAll : List V → Option V := f2 (kI .i64) kE fun x a => some (enc (allQ x a))
def shortV (e : Ex) (l : List Ex) : V := if e.k = 8 then .ifc 115 (.agg (encC (l.getD 0 ex0) ++ encC (l.getD 1 ex0))) else if e.k = 9 then .ifc 117 (.agg (encC (l.getD 0 ex0) ++ encC (l.getD 1 ex0))) else if e.k = 10 then .ifc 119 (.agg (.int .i64 e.i :: encC (l.getD 0 ex0))) else .nilif
def okShort (e : Ex) (l : List Ex) : Prop := (e.k = 8 ∨ e.k = 9 → ∃ a b, l = [a, b]) ∧ (e.k = 10 → ∃ a, l = [a])
noncomputable instance (e : Ex) (l : List Ex) : Decidable (okShort e l) := Classical.propDecidable _
@[simp] noncomputable def gShort : List V → Option V := f2 kE kL fun e l => if okShort e l then some (shortV e l) else none
section
set_option linter.unusedVariables false
set_option linter.unusedSimpArgs false
open Go Go.Proofs

@[simp] def gUnf : List V → Option V := f1 kE fun e => if allX e = true then some (enc (unfE e)) else none
def plainErr (e : Ex) : Int := if rightE e ≠ 0 then rightE e else rightE (unfE e)
def plainX (e : Ex) : Ex := if plainErr e = 0 then unfE e else ex0
def rightX (e : Ex) : Ex := if rightE e = 0 then e else ex0
@[simp] def gRight2 : List V → Option V := f1 kE fun e => some (.tup [enc (rightX e), .int .i64 (rightE e)])
@[simp] def gPlain : List V → Option V := f1 kE fun e => some (.tup [enc (plainX e), .int .i64 (plainErr e)])
end
end Go.Proofs.YtaacfmakfkaddaaDoor.Ax
