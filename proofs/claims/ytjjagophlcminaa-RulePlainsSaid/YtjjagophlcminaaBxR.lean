/- The law RulePlains, walked. -/
import Derived.Test.YtjjagophlcminaaBxQ
import Derived.Test.YtjjagophlcminaaBxL
set_option linter.unusedVariables false
set_option linter.unusedSimpArgs false
namespace Go.Proofs.Ytjjagophlcminaa.Ax
open Go Go.Proofs

theorem ok_RulePlains : PureOk Try.prog 9 (f1 kE fun _ => some (.bool true)) := by
  intro args r h
  obtain ⟨e, rfl, ⟨⟩⟩ := f1_inv h
  clear h
  have hE := ((((EnvOk.nil (P := Try.prog) (eq := fun _ => false) (own := fun _ => false) (mem := fun _ => false) EqOk.none).addf ok_Plain).addf ok_rPlain).addf ok_rLike)
  refine ⟨⟨Try.f9, Try.func9, by decide, rfl⟩, pure_of_T Try.func9 rfl (by simp [Try.ntmps9]) fun q => ?_⟩
  have ho := ordE_self (plainX e)
  repeat' (first
    | (with_reducible refine T.sq fun K hK => ?_)
    | ((first | ((with_reducible refine T.reg hE ?hd ?_); (case hd => kernel_rfl)) | ((with_reducible refine T.any hE mixed ?hd ?hok ?_); (case hd => kernel_rfl); (case hok => kernel_rfl))); simp [*]; (repeat' (split; all_goals (rename_i hc; try simp [*]))))
    | ((with_reducible refine T.ret ?_); refine fin_pure ?_; simp [*]; try (change Hold _))
    | (with_reducible refine T.block ?_)
    | ((with_reducible refine T.skip ?_); simp [*])
    | ((with_reducible refine T.exit ?_); simp [*])
    | ((with_reducible refine T.br fun K1 K2 hK1 hK2 => ?_); simp [*]; try ((refine Br.intro (fun hc => ?_) (fun hc => ?_)) <;> (try simp at hc)))
    | (with_reducible refine Cont.go (by assumption) _ ?_)
    | (with_reducible refine Cnt.go (by assumption) ?_))
  all_goals (unfold Hold; first | rfl | (simp [*]; done))
end Go.Proofs.Ytjjagophlcminaa.Ax
