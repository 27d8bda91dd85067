/- The law SubstNames, walked. -/
import Derived.Test.YtaacfmakfkaddaaDoorExB
set_option linter.unusedVariables false
set_option linter.unusedSimpArgs false
namespace Go.Proofs.YtaacfmakfkaddaaDoor.Ax
open Go Go.Proofs

theorem canV_both (a : Ex) : ∃ y z, canV a = .tup [enc y, .int .i64 z] ∧ (z = 0 → rightE a = 0 ∧ canX a = some y) := by
  unfold canV
  split
  · rename_i h
    cases hx : canX a with
    | none => exact ⟨_, _, rfl, fun c => by cases c⟩
    | some y => exact ⟨_, _, rfl, fun _ => ⟨h, rfl⟩⟩
  · rename_i h
    exact ⟨_, _, rfl, fun c => absurd c h⟩
theorem both_zero {a b : Ex} (ha : rightE a = 0) (hb : rightE b = 0) : bothE a b = 0 := by unfold bothE; rw [if_neg (by omega)]; exact hb
set_option maxHeartbeats 1000000 in
theorem ok_SubstNames : PureOk Tryd.prog 4 (f2 kE kE fun _ _ => some (.bool true)) := by
  intro args r h
  obtain ⟨a, b, rfl, ⟨⟩⟩ := f2_inv h; clear h
  have hE := (((((EnvOk.nil (P := Tryd.prog) (eq := fun _ => false) (own := fun _ => false) (mem := fun _ => false) EqOk.none).addf ok_Canon).addf ok_rCanonV).addf ok_rLike).addf ok_Alpha)
  refine ⟨⟨Tryd.f4, Tryd.func4, by decide, rfl⟩, pure_of_T Tryd.func4 rfl (by simp [Tryd.ntmps4]) fun q => ?_⟩
  obtain ⟨x, z, hc, hz⟩ := canV_both a
  obtain ⟨y, w, hd, hw⟩ := canV_both b
  by_cases c1 : z = 0
  · by_cases c2 : w = 0
    · subst c1 c2
      obtain ⟨v1, x1⟩ := hz rfl
      obtain ⟨v2, x2⟩ := hw rfl
      obtain ⟨v3, k3, x3⟩ := can_good v1 x1
      have hal := can_alike v1 v2 x1 x2
      have b1 := both_zero v1 v2
      have b2 := both_zero v1 v3
      have hcx : canV x = .tup [enc x, .int .i64 0] := by unfold canV; rw [if_pos v3, x3]; rfl
      have hs := ordE_self x
      clear hz hw x1 x2 x3
      repeat' (first | (with_reducible refine T.sq fun K hK => ?_) | ((first | ((with_reducible refine T.reg hE ?hd ?_); (case hd => kernel_rfl)) | ((with_reducible refine T.any hE mixed ?hd ?hok ?_); (case hd => kernel_rfl); (case hok => kernel_rfl))); simp [*]; (repeat' (split; all_goals (rename_i hc; try simp [*])))) | ((with_reducible refine T.ret ?_); refine fin_pure ?_; simp [*]; try (change Hold _)) | (with_reducible refine T.block ?_) | ((with_reducible refine T.skip ?_); simp [*]) | ((with_reducible refine T.exit ?_); simp [*]) | ((with_reducible refine T.br fun K1 K2 hK1 hK2 => ?_); simp [*]; try ((refine Br.intro (fun hc => ?_) (fun hc => ?_)) <;> (try simp at hc))) | (with_reducible refine Cont.go (by assumption) _ ?_) | (with_reducible refine Cnt.go (by assumption) ?_))
    · clear hz hw
      repeat' (first | (with_reducible refine T.sq fun K hK => ?_) | ((first | ((with_reducible refine T.reg hE ?hd ?_); (case hd => kernel_rfl)) | ((with_reducible refine T.any hE mixed ?hd ?hok ?_); (case hd => kernel_rfl); (case hok => kernel_rfl))); simp [*]; (repeat' (split; all_goals (rename_i hc; try simp [*])))) | ((with_reducible refine T.ret ?_); refine fin_pure ?_; simp [*]; try (change Hold _)) | (with_reducible refine T.block ?_) | ((with_reducible refine T.skip ?_); simp [*]) | ((with_reducible refine T.exit ?_); simp [*]) | ((with_reducible refine T.br fun K1 K2 hK1 hK2 => ?_); simp [*]; try ((refine Br.intro (fun hc => ?_) (fun hc => ?_)) <;> (try simp at hc))) | (with_reducible refine Cont.go (by assumption) _ ?_) | (with_reducible refine Cnt.go (by assumption) ?_))
  · clear hz hw
    repeat' (first | (with_reducible refine T.sq fun K hK => ?_) | ((first | ((with_reducible refine T.reg hE ?hd ?_); (case hd => kernel_rfl)) | ((with_reducible refine T.any hE mixed ?hd ?hok ?_); (case hd => kernel_rfl); (case hok => kernel_rfl))); simp [*]; (repeat' (split; all_goals (rename_i hc; try simp [*])))) | ((with_reducible refine T.ret ?_); refine fin_pure ?_; simp [*]; try (change Hold _)) | (with_reducible refine T.block ?_) | ((with_reducible refine T.skip ?_); simp [*]) | ((with_reducible refine T.exit ?_); simp [*]) | ((with_reducible refine T.br fun K1 K2 hK1 hK2 => ?_); simp [*]; try ((refine Br.intro (fun hc => ?_) (fun hc => ?_)) <;> (try simp at hc))) | (with_reducible refine Cont.go (by assumption) _ ?_) | (with_reducible refine Cnt.go (by assumption) ?_))
end Go.Proofs.YtaacfmakfkaddaaDoor.Ax
