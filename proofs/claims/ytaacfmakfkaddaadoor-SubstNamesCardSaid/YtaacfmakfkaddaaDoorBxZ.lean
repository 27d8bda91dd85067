/- Contracts: parts of expressions; copies. -/
import Derived.Test.YtaacfmakfkaddaaDoorBxP
import Derived.Test.YtaacfmakfkaddaaDoorBxL
import Derived.Test.YtaacfmakfkaddaaDoorBxJ
set_option linter.unusedVariables false
set_option linter.unusedSimpArgs false
namespace Go.Proofs.YtaacfmakfkaddaaDoor.Ax
section
open Go Go.Proofs

/-- The part at a path. -/
def atX : Ex → List Int → Option Ex
  | e, [] => some e
  | e, i :: p => if 0 ≤ i ∧ i < e.kids.length then atX (e.kids.getD i.toNat ex0) p else none
def atV (e : Ex) (p : List Int) : V := match atX e p with
  | some x => .tup [enc x, .bool true]
  | none => .tup [enc ex0, .bool false]
@[simp] def gAtI : List V → Option V := f2 kE (kIs .i64) fun e p => some (atV e p)
theorem small_of (n : Nat) : ∀ e : Ex, SizeOf.sizeOf e < n → allX e = true → smE e = true := by
  induction n with
  | zero => intro e h; omega
  | succ n ih =>
    intro e he ha
    rw [smE_eq, Bool.and_eq_true, decide_eq_true_eq]
    refine ⟨by have := kids_four ha; omega, ?_⟩
    have : ∀ l : List Ex, (∀ x ∈ l, x ∈ e.kids) → smL l = true := by
      intro l hl
      induction l with
      | nil => rw [smL]
      | cons x l ihl =>
        rw [smL, ih x (by have := mem_lt (hl x (by simp)); omega) (allX_kids ha x (hl x (by simp))), ihl fun y hy => hl y (by simp [hy])]; rfl
    exact this e.kids fun _ h => h
theorem small_all {e : Ex} (h : allX e = true) : smE e = true := small_of _ e (Nat.lt_succ_self _) h
/-- The part at a path of one that is right. -/
def partV (e : Ex) (p : List Int) : V := if rightE e = 0 then match atX e p with
  | some x => .tup [enc x, .int .i64 0]
  | none => .tup [enc ex0, .int .i64 24] else .tup [enc ex0, .int .i64 (rightE e)]
@[simp] def gAt : List V → Option V := f2 kE (kIs .i64) fun e p => some (partV e p)
end
section
open Go Go.Proofs

def firstBad : List Ex → Int
  | [] => 0
  | e :: l => if rightE e ≠ 0 then rightE e else firstBad l
def anyT (l : List Ex) : Bool := l.any isT
def formsE (l : List Ex) : Int := if firstBad l ≠ 0 then firstBad l else if anyT l = true then 40 else 0
def wantF (e : Ex) : Int := if rightE e ≠ 0 then rightE e else if isT e then 40 else 0
@[simp] def gForms : List V → Option V := f1 kL fun l => some (.int .i64 (formsE l))
@[simp] def gWantF : List V → Option V := f1 kE fun e => some (.int .i64 (wantF e))
def genErr (a : Ex) (x : Int) : Int := if 0 ≤ x ∧ x ≤ 63 then if wantF a ≠ 0 then wantF a else rightE (allQ x a) else 1
def genX (a : Ex) (x : Int) : Ex := if genErr a x = 0 then allQ x a else ex0
@[simp] def gGen : List V → Option V := f2 kE (kI .i64) fun a x => some (.tup [enc (genX a x), .int .i64 (genErr a x)])
end
end Go.Proofs.YtaacfmakfkaddaaDoor.Ax
