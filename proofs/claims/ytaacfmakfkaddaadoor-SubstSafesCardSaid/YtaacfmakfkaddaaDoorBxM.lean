/- Contracts: alike; the law SubstAlphas. -/
import Derived.Test.YtaacfmakfkaddaaDoorPlC
import Derived.Test.YtaacfmakfkaddaaDoorBxF
import Derived.Test.YtaacfmakfkaddaaDoorBxJ
set_option linter.unusedVariables false
set_option linter.unusedSimpArgs false
namespace Go.Proofs.YtaacfmakfkaddaaDoor.Ax
open Go Go.Proofs

def isQ (e : Ex) : Bool := decide (e.k = 7) || decide (e.k = 10)
@[simp] def gQ : List V → Option V := f1 kE fun e => some (.bool (isQ e))
theorem ok_sBinds : PureOk Tryd.prog 67 gQ := by
  intro args r h
  obtain ⟨e, rfl, ⟨⟩⟩ := f1_inv h
  clear h
  have hE := (EnvOk.nil (P := Tryd.prog) (eq := fun _ => false) (own := fun _ => false) (mem := fun _ => false) EqOk.none)
  refine ⟨⟨Tryd.f67, Tryd.func67, by decide, rfl⟩, pure_of_T Tryd.func67 rfl (by simp [Tryd.ntmps67]) fun q => ?_⟩
  repeat' (first | (with_reducible refine T.sq fun K hK => ?_) | ((first | ((with_reducible refine T.reg hE ?hd ?_); (case hd => kernel_rfl)) | ((with_reducible refine T.any hE mixed ?hd ?hok ?_); (case hd => kernel_rfl); (case hok => kernel_rfl))); simp [*]; (repeat' (split; all_goals (rename_i hc; try simp [*])))) | ((with_reducible refine T.ret ?_); refine fin_pure ?_; simp [*]; try (change Hold _)) | (with_reducible refine T.block ?_) | ((with_reducible refine T.skip ?_); simp [*]) | ((with_reducible refine T.exit ?_); simp [*]) | ((with_reducible refine T.br fun K1 K2 hK1 hK2 => ?_); simp [*]; try ((refine Br.intro (fun hc => ?_) (fun hc => ?_)) <;> (try simp at hc))) | (with_reducible refine Cont.go (by assumption) _ ?_) | (with_reducible refine Cnt.go (by assumption) ?_))
  all_goals (unfold Hold; simp [isQ, *])
theorem ok_rQuant : PureOk Tryd.prog 54 gQ := by
  intro args r h
  obtain ⟨e, rfl, ⟨⟩⟩ := f1_inv h
  clear h
  have hE := (EnvOk.nil (P := Tryd.prog) (eq := fun _ => false) (own := fun _ => false) (mem := fun _ => false) EqOk.none)
  refine ⟨⟨Tryd.f54, Tryd.func54, by decide, rfl⟩, pure_of_T Tryd.func54 rfl (by simp [Tryd.ntmps54]) fun q => ?_⟩
  repeat' (first | (with_reducible refine T.sq fun K hK => ?_) | ((first | ((with_reducible refine T.reg hE ?hd ?_); (case hd => kernel_rfl)) | ((with_reducible refine T.any hE mixed ?hd ?hok ?_); (case hd => kernel_rfl); (case hok => kernel_rfl))); simp [*]; (repeat' (split; all_goals (rename_i hc; try simp [*])))) | ((with_reducible refine T.ret ?_); refine fin_pure ?_; simp [*]; try (change Hold _)) | (with_reducible refine T.block ?_) | ((with_reducible refine T.skip ?_); simp [*]) | ((with_reducible refine T.exit ?_); simp [*]) | ((with_reducible refine T.br fun K1 K2 hK1 hK2 => ?_); simp [*]; try ((refine Br.intro (fun hc => ?_) (fun hc => ?_)) <;> (try simp at hc))) | (with_reducible refine Cont.go (by assumption) _ ?_) | (with_reducible refine Cnt.go (by assumption) ?_))
  all_goals (unfold Hold; simp [isQ, *])
@[simp] def gPlace : List V → Option V := f2 (kIs .i64) (kI .i64) fun l x => some (.int .i64 (pl l x))
def okLk (a b : Ex) (x y : List Int) (d : Int) : Prop := allX a = true ∧ allX b = true ∧ x.length = 64 ∧ y.length = 64 ∧ 0 ≤ d ∧ d + depE a ≤ 1000000
noncomputable instance (a b : Ex) (x y : List Int) (d : Int) : Decidable (okLk a b x y d) := Classical.propDecidable _
@[simp] noncomputable def gLk : List V → Option V := f5 kE kE kA kA (kI .i64) fun a b x y d => if okLk a b x y d then some (.bool (lkE a b x y d)) else none
end Go.Proofs.YtaacfmakfkaddaaDoor.Ax
