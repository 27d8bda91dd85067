/- Contracts: parts of expressions; copies. -/
import Derived.Test.YtaacfmakfkaddaaBxP
import Derived.Test.YtaacfmakfkaddaaBxF
import Derived.Test.YtaacfmakfkaddaaByU
import Derived.Test.YtaacfmakfkaddaaBxJ
set_option linter.unusedVariables false
set_option linter.unusedSimpArgs false
namespace Go.Proofs.Ytaacfmakfkaddaa.Ax
section
open Go Go.Proofs

/-- The part at a path. -/
def atX : Ex → List Int → Option Ex
  | e, [] => some e
  | e, i :: p => if 0 ≤ i ∧ i < e.kids.length then atX (e.kids.getD i.toNat ex0) p else none
def atV (e : Ex) (p : List Int) : V := match atX e p with
  | some x => .tup [enc x, .bool true]
  | none => .tup [enc ex0, .bool false]
@[simp] def gAtI : List V → Option V := f2 kE (kIs .i64) fun e p => some (atV e p)
/-- The part at a path of one that is right. -/
def partV (e : Ex) (p : List Int) : V := if rightE e = 0 then match atX e p with
  | some x => .tup [enc x, .int .i64 0]
  | none => .tup [enc ex0, .int .i64 24] else .tup [enc ex0, .int .i64 (rightE e)]
@[simp] def gAt : List V → Option V := f2 kE (kIs .i64) fun e p => some (partV e p)
end
section
open Go Go.Proofs

def firstBad : List Ex → Int
  | [] => 0
  | e :: l => if rightE e ≠ 0 then rightE e else firstBad l
def anyT (l : List Ex) : Bool := l.any isT
def formsE (l : List Ex) : Int := if firstBad l ≠ 0 then firstBad l else if anyT l = true then 40 else 0
def wantF (e : Ex) : Int := if rightE e ≠ 0 then rightE e else if isT e then 40 else 0
@[simp] def gForms : List V → Option V := f1 kL fun l => some (.int .i64 (formsE l))
@[simp] def gWantF : List V → Option V := f1 kE fun e => some (.int .i64 (wantF e))
theorem ok_rWantF : PureOk Try.prog 13 gWantF := by
  intro args r h
  obtain ⟨e, rfl, ⟨⟩⟩ := f1_inv h
  clear h
  have hE := (((EnvOk.nil (P := Try.prog) (eq := fun _ => false) (own := fun _ => false) (mem := fun _ => false) EqOk.none).addf ok_rRight).addf ok_rTerm)
  refine ⟨⟨Try.f13, Try.func13, by decide, rfl⟩, pure_of_T Try.func13 rfl (by simp [Try.ntmps13]) fun q => ?_⟩
  by_cases v : rightE e = 0
  · by_cases u : isT e = true
    · repeat' (first | (with_reducible refine T.sq fun K hK => ?_) | ((first | ((with_reducible refine T.reg hE ?hd ?_); (case hd => kernel_rfl)) | ((with_reducible refine T.any hE mixed ?hd ?hok ?_); (case hd => kernel_rfl); (case hok => kernel_rfl))); simp [*]; (repeat' (split; all_goals (rename_i hc; try simp [*])))) | ((with_reducible refine T.ret ?_); refine fin_pure ?_; simp [*]; try (change Hold _)) | (with_reducible refine T.block ?_) | ((with_reducible refine T.skip ?_); simp [*]) | ((with_reducible refine T.exit ?_); simp [*]) | ((with_reducible refine T.br fun K1 K2 hK1 hK2 => ?_); simp [*]; try ((refine Br.intro (fun hc => ?_) (fun hc => ?_)) <;> (try simp at hc))) | (with_reducible refine Cont.go (by assumption) _ ?_) | (with_reducible refine Cnt.go (by assumption) ?_))
      all_goals (unfold Hold wantF; simp [v, u])
    · repeat' (first | (with_reducible refine T.sq fun K hK => ?_) | ((first | ((with_reducible refine T.reg hE ?hd ?_); (case hd => kernel_rfl)) | ((with_reducible refine T.any hE mixed ?hd ?hok ?_); (case hd => kernel_rfl); (case hok => kernel_rfl))); simp [*]; (repeat' (split; all_goals (rename_i hc; try simp [*])))) | ((with_reducible refine T.ret ?_); refine fin_pure ?_; simp [*]; try (change Hold _)) | (with_reducible refine T.block ?_) | ((with_reducible refine T.skip ?_); simp [*]) | ((with_reducible refine T.exit ?_); simp [*]) | ((with_reducible refine T.br fun K1 K2 hK1 hK2 => ?_); simp [*]; try ((refine Br.intro (fun hc => ?_) (fun hc => ?_)) <;> (try simp at hc))) | (with_reducible refine Cont.go (by assumption) _ ?_) | (with_reducible refine Cnt.go (by assumption) ?_))
      all_goals (unfold Hold wantF; simp [v, u])
  · repeat' (first | (with_reducible refine T.sq fun K hK => ?_) | ((first | ((with_reducible refine T.reg hE ?hd ?_); (case hd => kernel_rfl)) | ((with_reducible refine T.any hE mixed ?hd ?hok ?_); (case hd => kernel_rfl); (case hok => kernel_rfl))); simp [*]; (repeat' (split; all_goals (rename_i hc; try simp [*])))) | ((with_reducible refine T.ret ?_); refine fin_pure ?_; simp [*]; try (change Hold _)) | (with_reducible refine T.block ?_) | ((with_reducible refine T.skip ?_); simp [*]) | ((with_reducible refine T.exit ?_); simp [*]) | ((with_reducible refine T.br fun K1 K2 hK1 hK2 => ?_); simp [*]; try ((refine Br.intro (fun hc => ?_) (fun hc => ?_)) <;> (try simp at hc))) | (with_reducible refine Cont.go (by assumption) _ ?_) | (with_reducible refine Cnt.go (by assumption) ?_))
    all_goals (unfold Hold wantF; simp [v])
def genErr (a : Ex) (x : Int) : Int := if 0 ≤ x ∧ x ≤ 63 then if wantF a ≠ 0 then wantF a else rightE (allQ x a) else 1
def genX (a : Ex) (x : Int) : Ex := if genErr a x = 0 then allQ x a else ex0
@[simp] def gGen : List V → Option V := f2 kE (kI .i64) fun a x => some (.tup [enc (genX a x), .int .i64 (genErr a x)])
end
end Go.Proofs.Ytaacfmakfkaddaa.Ax
