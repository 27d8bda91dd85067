/- Contracts: ExprSames, walked. -/
import Derived.Test.YtjjagophlcminaaBxH
import Derived.Test.YtjjagophlcminaaPlB
import Derived.Test.YtjjagophlcminaaByU
set_option linter.unusedVariables false
set_option linter.unusedSimpArgs false
namespace Go.Proofs.Ytjjagophlcminaa.Ax
open Go Go.Proofs

mutual
theorem fine_small : ∀ e : Ex, fineE e = true → smE e = true
  | .mk k i l, h => by
    rw [fineE] at h
    simp only [Bool.and_eq_true, decide_eq_true_eq] at h
    rw [smE, fine_smallL l h.2, Bool.and_true, decide_eq_true_eq]
    omega
theorem fine_smallL : ∀ l : List Ex, fineL l = true → smL l = true
  | [], h => by rw [smL]
  | e :: l, h => by
    rw [fineL, Bool.and_eq_true] at h
    rw [smL, fine_small e h.1, fine_smallL l h.2]; rfl
end
theorem ordE_self (a : Ex) : ordE a a = 0 := by have := ordE_flip a a; omega
set_option maxHeartbeats 1000000 in
theorem ok_ExprSames : PureOk Try.prog 7 (f2 kE kE fun a b => if fineE a = true then some (.bool true) else none) := by
  intro args r h
  obtain ⟨a, b, rfl, hr⟩ := f2_inv h
  clear h
  split at hr
  · rename_i ha
    cases hr
    have hs := fine_small a ha
    have ho := ordE_self a
    clear ha
    have hE := (((((((EnvOk.nil (P := Try.prog) (eq := fun _ => false) (own := fun _ => false) (mem := fun _ => false) EqOk.none).addf ok_Compare).addf ok_rCompare).addf ok_Same).addf ok_rSame).addf ok_Copy).addf ok_rRight)
    refine ⟨⟨Try.f7, Try.func7, by decide, rfl⟩, pure_of_T Try.func7 rfl (by simp [Try.ntmps7]) fun q => ?_⟩
    repeat' (first
      | (with_reducible refine T.sq fun K hK => ?_)
      | ((first | ((with_reducible refine T.reg hE ?hd ?_); (case hd => kernel_rfl)) | ((with_reducible refine T.any hE mixed ?hd ?hok ?_); (case hd => kernel_rfl); (case hok => kernel_rfl))); simp [*]; (repeat' (split; all_goals (rename_i hc; try simp [*]))))
      | ((with_reducible refine T.ret ?_); refine fin_pure ?_; simp [*]; try (change Hold _))
      | (with_reducible refine T.block ?_)
      | ((with_reducible refine T.skip ?_); simp [*])
      | ((with_reducible refine T.exit ?_); simp [*])
      | ((with_reducible refine T.br fun K1 K2 hK1 hK2 => ?_); simp [*]; try ((refine Br.intro (fun hc => ?_) (fun hc => ?_)) <;> (try simp at hc)))
      | (with_reducible refine Cont.go (by assumption) _ ?_)
      | (with_reducible refine Cnt.go (by assumption) ?_))
    all_goals (unfold Hold; first | rfl | (simp [*]; done))
  · cases hr
end Go.Proofs.Ytjjagophlcminaa.Ax
