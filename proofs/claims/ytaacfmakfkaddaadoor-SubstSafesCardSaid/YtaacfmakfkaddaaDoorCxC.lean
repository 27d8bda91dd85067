/- Contracts: what is caught; FreeCatches, walked. -/
import Derived.Test.YtaacfmakfkaddaaDoorBxX
import Derived.Test.YtaacfmakfkaddaaDoorPlG
import Derived.Test.YtaacfmakfkaddaaDoorBxZ
set_option linter.unusedVariables false
set_option linter.unusedSimpArgs false
namespace Go.Proofs.YtaacfmakfkaddaaDoor.Ax
section
open Go Go.Proofs

section
variable {P : Program} {f : FuncId} {β γ : Type} {B : Kd β} {C : Kd γ}
end
def wantT (e : Ex) : Int := if rightE e ≠ 0 then rightE e else if isT e then 0 else 40
@[simp] def gWantT : List V → Option V := f1 kE fun e => some (.int .i64 (wantT e))
theorem ok_rWantT : PureOk Tryd.prog 85 gWantT := by
  intro args r h
  obtain ⟨e, rfl, ⟨⟩⟩ := f1_inv h
  clear h
  have hE := (((EnvOk.nil (P := Tryd.prog) (eq := fun _ => false) (own := fun _ => false) (mem := fun _ => false) EqOk.none).addf ok_rRight).addf ok_rTerm)
  refine ⟨⟨Tryd.f85, Tryd.func85, by decide, rfl⟩, pure_of_T Tryd.func85 rfl (by simp [Tryd.ntmps85]) fun q => ?_⟩
  by_cases v : rightE e = 0
  · by_cases u : isT e = true
    · repeat' (first | (with_reducible refine T.sq fun K hK => ?_) | ((first | ((with_reducible refine T.reg hE ?hd ?_); (case hd => kernel_rfl)) | ((with_reducible refine T.any hE mixed ?hd ?hok ?_); (case hd => kernel_rfl); (case hok => kernel_rfl))); simp [*]; (repeat' (split; all_goals (rename_i hc; try simp [*])))) | ((with_reducible refine T.ret ?_); refine fin_pure ?_; simp [*]; try (change Hold _)) | (with_reducible refine T.block ?_) | ((with_reducible refine T.skip ?_); simp [*]) | ((with_reducible refine T.exit ?_); simp [*]) | ((with_reducible refine T.br fun K1 K2 hK1 hK2 => ?_); simp [*]; try ((refine Br.intro (fun hc => ?_) (fun hc => ?_)) <;> (try simp at hc))) | (with_reducible refine Cont.go (by assumption) _ ?_) | (with_reducible refine Cnt.go (by assumption) ?_))
      all_goals (unfold Hold wantT; simp [v, u])
    · repeat' (first | (with_reducible refine T.sq fun K hK => ?_) | ((first | ((with_reducible refine T.reg hE ?hd ?_); (case hd => kernel_rfl)) | ((with_reducible refine T.any hE mixed ?hd ?hok ?_); (case hd => kernel_rfl); (case hok => kernel_rfl))); simp [*]; (repeat' (split; all_goals (rename_i hc; try simp [*])))) | ((with_reducible refine T.ret ?_); refine fin_pure ?_; simp [*]; try (change Hold _)) | (with_reducible refine T.block ?_) | ((with_reducible refine T.skip ?_); simp [*]) | ((with_reducible refine T.exit ?_); simp [*]) | ((with_reducible refine T.br fun K1 K2 hK1 hK2 => ?_); simp [*]; try ((refine Br.intro (fun hc => ?_) (fun hc => ?_)) <;> (try simp at hc))) | (with_reducible refine Cont.go (by assumption) _ ?_) | (with_reducible refine Cnt.go (by assumption) ?_))
      all_goals (unfold Hold wantT; simp [v, u])
  · repeat' (first | (with_reducible refine T.sq fun K hK => ?_) | ((first | ((with_reducible refine T.reg hE ?hd ?_); (case hd => kernel_rfl)) | ((with_reducible refine T.any hE mixed ?hd ?hok ?_); (case hd => kernel_rfl); (case hok => kernel_rfl))); simp [*]; (repeat' (split; all_goals (rename_i hc; try simp [*])))) | ((with_reducible refine T.ret ?_); refine fin_pure ?_; simp [*]; try (change Hold _)) | (with_reducible refine T.block ?_) | ((with_reducible refine T.skip ?_); simp [*]) | ((with_reducible refine T.exit ?_); simp [*]) | ((with_reducible refine T.br fun K1 K2 hK1 hK2 => ?_); simp [*]; try ((refine Br.intro (fun hc => ?_) (fun hc => ?_)) <;> (try simp at hc))) | (with_reducible refine Cont.go (by assumption) _ ?_) | (with_reducible refine Cnt.go (by assumption) ?_))
    all_goals (unfold Hold wantT; simp [v])
def okCat (own : Int) (e : Ex) : Prop := isU64 own ∧ okX e
noncomputable instance (own : Int) (e : Ex) : Decidable (okCat own e) := Classical.propDecidable _
@[simp] noncomputable def gCat : List V → Option V := f3 (kI .u64) (kI .i64) kE fun own x e => if okCat own e then some (.int .u64 (catE own.toNat x e : Nat)) else none
def ctErr (t : Ex) (x : Int) (a : Ex) : Int := if 0 ≤ x ∧ x ≤ 63 then if bothE t a ≠ 0 then bothE t a else if isT t = true then 0 else 40 else 1
def ctS (t : Ex) (x : Int) (a : Ex) : Nat := if ctErr t x a = 0 then catE (vaE t) x a else 0
@[simp] def gAsked : List V → Option V := f3 kE (kI .i64) kE fun t x a => some (.int .i64 (ctErr t x a))
@[simp] def gCaught : List V → Option V := f3 kE (kI .i64) kE fun t x a => some (.tup [.int .u64 (ctS t x a : Nat), .int .i64 (ctErr t x a)])
end
section
open Go Go.Proofs

def ffB (t : Ex) (x : Int) (a : Ex) : Bool := decide (ctErr t x a = 0) && decide (ctS t x a = 0)
@[simp] def gFreeFor : List V → Option V := f3 kE (kI .i64) kE fun t x a => some (.tup [.bool (ffB t x a), .int .i64 (ctErr t x a)])
theorem setV_good {F : Ex → Nat} {e : Ex} (h : rightE e = 0) : setV F e = .tup [.int .u64 (F e : Nat), .int .i64 0] := by rw [setV_eq, if_pos h, h]
end
end Go.Proofs.YtaacfmakfkaddaaDoor.Ax
