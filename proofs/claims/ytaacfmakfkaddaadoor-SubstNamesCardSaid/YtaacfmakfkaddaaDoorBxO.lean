/- Contracts: alike, by the reference. -/
import Derived.Test.YtaacfmakfkaddaaDoorBxM
import Derived.Test.YtaacfmakfkaddaaDoorBxJ
set_option linter.unusedVariables false
set_option linter.unusedSimpArgs false
namespace Go.Proofs.YtaacfmakfkaddaaDoor.Ax
section
open Go Go.Proofs

def okAk (a b : Ex) (p q : List Int) : Prop := p.length = q.length ∧ p.length + depE a ≤ 1000000
noncomputable instance (a b : Ex) (p q : List Int) : Decidable (okAk a b p q) := Classical.propDecidable _
@[simp] noncomputable def gAlk : List V → Option V := f4 kE kE (kIs .i64) (kIs .i64) fun a b p q => if okAk a b p q then some (.bool (alkE a b p q)) else none
end
section
open Go Go.Proofs

theorem dec_zeros : decA [V.int .i64 0, V.int .i64 0, V.int .i64 0, V.int .i64 0, V.int .i64 0, V.int .i64 0, V.int .i64 0, V.int .i64 0, V.int .i64 0, V.int .i64 0, V.int .i64 0, V.int .i64 0, V.int .i64 0, V.int .i64 0, V.int .i64 0, V.int .i64 0, V.int .i64 0, V.int .i64 0, V.int .i64 0, V.int .i64 0, V.int .i64 0, V.int .i64 0, V.int .i64 0, V.int .i64 0, V.int .i64 0, V.int .i64 0, V.int .i64 0, V.int .i64 0, V.int .i64 0, V.int .i64 0, V.int .i64 0, V.int .i64 0, V.int .i64 0, V.int .i64 0, V.int .i64 0, V.int .i64 0, V.int .i64 0, V.int .i64 0, V.int .i64 0, V.int .i64 0, V.int .i64 0, V.int .i64 0, V.int .i64 0, V.int .i64 0, V.int .i64 0, V.int .i64 0, V.int .i64 0, V.int .i64 0, V.int .i64 0, V.int .i64 0, V.int .i64 0, V.int .i64 0, V.int .i64 0, V.int .i64 0, V.int .i64 0, V.int .i64 0, V.int .i64 0, V.int .i64 0, V.int .i64 0, V.int .i64 0, V.int .i64 0, V.int .i64 0, V.int .i64 0, V.int .i64 0] = some names0 := rfl
@[simp] def gAlpha : List V → Option V := f2 kE kE fun a b => some (.tup [.bool (decide (bothE a b = 0) && alkE a b [] []), .int .i64 (bothE a b)])
set_option maxHeartbeats 1000000 in
theorem ok_Alpha : PureOk Tryd.prog 12 gAlpha := by
  intro args r h
  obtain ⟨a, b, rfl, ⟨⟩⟩ := f2_inv h
  clear h
  have hE := (((EnvOk.nil (P := Tryd.prog) (eq := fun _ => false) (own := fun _ => false) (mem := fun _ => false) EqOk.none).addf ok_Right).addf ok_like)
  have hr2 : List.range 2 = [0, 1] := rfl
  refine ⟨⟨Tryd.f12, Tryd.func12, by decide, rfl⟩, pure_of_T Tryd.func12 rfl (by simp [Tryd.ntmps12]) fun q => ?_⟩
  repeat' (first | (with_reducible refine T.sq fun K hK => ?_) | ((first | ((with_reducible refine T.reg hE ?hd ?_); (case hd => kernel_rfl)) | ((with_reducible refine T.any hE mixed ?hd ?hok ?_); (case hd => kernel_rfl); (case hok => kernel_rfl))); simp [*]; (repeat' (split; all_goals (rename_i hc; try simp [*])))) | ((with_reducible refine T.ret ?_); refine fin_pure ?_; simp [*]; try (change Hold _)) | (with_reducible refine T.block ?_) | ((with_reducible refine T.skip ?_); simp [*]) | ((with_reducible refine T.exit ?_); simp [*]) | ((with_reducible refine T.br fun K1 K2 hK1 hK2 => ?_); simp [*]; try ((refine Br.intro (fun hc => ?_) (fun hc => ?_)) <;> (try simp at hc))) | (with_reducible refine Cont.go (by assumption) _ ?_) | (with_reducible refine Cnt.go (by assumption) ?_))
  refine T.loop (fun n σ => σ.get 11 = .sl [encC a, encC b] .ex ∧ σ.get 12 = .int .i64 2 ∧ σ.get 2 = .ptr (0 :: 4 :: q) 0 ∧ σ.get 3 = .ptr (0 :: 5 :: q) 0 ∧ σ.M (0 :: 4 :: q) = some (.cells (encC a)) ∧ σ.M (0 :: 5 :: q) = some (.cells (encC b)) ∧
    ((n = 2 ∧ σ.get 13 = .int .i64 0) ∨ (n = 1 ∧ σ.get 13 = .int .i64 1 ∧ rightE a = 0) ∨ (n = 0 ∧ σ.get 13 = .int .i64 2 ∧ rightE a = 0 ∧ rightE b = 0))) 2 ⟨by simp [encC_eq], by simp, by simp, by simp, by simp [encC_eq], by simp [encC_eq], .inl ⟨rfl, by simp⟩⟩ ?_
  rintro n σ ⟨g1, g2, g3, g4, g5, g6, g7⟩
  rw [encC_eq] at g5 g6
  rw [encC_eq, encC_eq] at g1
  rcases g7 with ⟨rfl, g7⟩ | ⟨rfl, g7, v1⟩ | ⟨rfl, g7, v1, v2⟩
  · have hw : IntKind.i64.wrap 1 = 1 := wrap64 (by omega) (by omega)
    by_cases v1 : rightE a = 0
    · repeat' (first | (with_reducible refine T.sq fun K hK => ?_) | ((first | ((with_reducible refine T.reg hE ?hd ?_); (case hd => kernel_rfl)) | ((with_reducible refine T.any hE mixed ?hd ?hok ?_); (case hd => kernel_rfl); (case hok => kernel_rfl))); simp [*]; (repeat' (split; all_goals (rename_i hc; try simp [*])))) | ((with_reducible refine T.ret ?_); refine fin_pure ?_; simp [*]; try (change Hold _)) | (with_reducible refine T.block ?_) | ((with_reducible refine T.skip ?_); simp [*]) | ((with_reducible refine T.exit ?_); simp [*]) | ((with_reducible refine T.br fun K1 K2 hK1 hK2 => ?_); simp [*]; try ((refine Br.intro (fun hc => ?_) (fun hc => ?_)) <;> (try simp at hc))) | (with_reducible refine Cont.go (by assumption) _ ?_) | (with_reducible refine Cnt.go (by assumption) ?_))
      all_goals simp [encC_eq, *]
    · have hb : Hold (bothE a b = rightE a) := by unfold Hold bothE; rw [if_pos v1]
      repeat' (first | (with_reducible refine T.sq fun K hK => ?_) | ((first | ((with_reducible refine T.reg hE ?hd ?_); (case hd => kernel_rfl)) | ((with_reducible refine T.any hE mixed ?hd ?hok ?_); (case hd => kernel_rfl); (case hok => kernel_rfl))); simp [*]; (repeat' (split; all_goals (rename_i hc; try simp [*])))) | ((with_reducible refine T.ret ?_); refine fin_pure ?_; simp [*]; try (change Hold _)) | (with_reducible refine T.block ?_) | ((with_reducible refine T.skip ?_); simp [*]) | ((with_reducible refine T.exit ?_); simp [*]) | ((with_reducible refine T.br fun K1 K2 hK1 hK2 => ?_); simp [*]; try ((refine Br.intro (fun hc => ?_) (fun hc => ?_)) <;> (try simp at hc))) | (with_reducible refine Cont.go (by assumption) _ ?_) | (with_reducible refine Cnt.go (by assumption) ?_))
      all_goals (unfold Hold at *; rw [hb]; simp [v1])
  · have hw : IntKind.i64.wrap 2 = 2 := wrap64 (by omega) (by omega)
    have hb : Hold (bothE a b = rightE b) := by unfold Hold bothE; rw [if_neg (by omega)]
    by_cases v2 : rightE b = 0
    · repeat' (first | (with_reducible refine T.sq fun K hK => ?_) | ((first | ((with_reducible refine T.reg hE ?hd ?_); (case hd => kernel_rfl)) | ((with_reducible refine T.any hE mixed ?hd ?hok ?_); (case hd => kernel_rfl); (case hok => kernel_rfl))); simp [*]; (repeat' (split; all_goals (rename_i hc; try simp [*])))) | ((with_reducible refine T.ret ?_); refine fin_pure ?_; simp [*]; try (change Hold _)) | (with_reducible refine T.block ?_) | ((with_reducible refine T.skip ?_); simp [*]) | ((with_reducible refine T.exit ?_); simp [*]) | ((with_reducible refine T.br fun K1 K2 hK1 hK2 => ?_); simp [*]; try ((refine Br.intro (fun hc => ?_) (fun hc => ?_)) <;> (try simp at hc))) | (with_reducible refine Cont.go (by assumption) _ ?_) | (with_reducible refine Cnt.go (by assumption) ?_))
      all_goals simp [encC_eq, *]
    · repeat' (first | (with_reducible refine T.sq fun K hK => ?_) | ((first | ((with_reducible refine T.reg hE ?hd ?_); (case hd => kernel_rfl)) | ((with_reducible refine T.any hE mixed ?hd ?hok ?_); (case hd => kernel_rfl); (case hok => kernel_rfl))); simp [*]; (repeat' (split; all_goals (rename_i hc; try simp [*])))) | ((with_reducible refine T.ret ?_); refine fin_pure ?_; simp [*]; try (change Hold _)) | (with_reducible refine T.block ?_) | ((with_reducible refine T.skip ?_); simp [*]) | ((with_reducible refine T.exit ?_); simp [*]) | ((with_reducible refine T.br fun K1 K2 hK1 hK2 => ?_); simp [*]; try ((refine Br.intro (fun hc => ?_) (fun hc => ?_)) <;> (try simp at hc))) | (with_reducible refine Cont.go (by assumption) _ ?_) | (with_reducible refine Cnt.go (by assumption) ?_))
      all_goals (unfold Hold at *; rw [hb]; simp [v2])
  · have hb : Hold (bothE a b = 0) := by unfold Hold bothE; rw [if_neg (by omega)]; exact v2
    obtain ⟨x1, x2, x3⟩ := right_zero v1
    obtain ⟨y1, y2, y3⟩ := right_zero v2
    have hz := dec_zeros
    have hok : okLk a b names0 names0 1 := ⟨x3, y3, by simp [names0], by simp [names0], by omega, by omega⟩
    have hl := alike0 a b x3 y3
    repeat' (first | (with_reducible refine T.sq fun K hK => ?_) | ((first | ((with_reducible refine T.reg hE ?hd ?_); (case hd => kernel_rfl)) | ((with_reducible refine T.any hE mixed ?hd ?hok ?_); (case hd => kernel_rfl); (case hok => kernel_rfl))); simp [*]; (repeat' (split; all_goals (rename_i hc; try simp [*])))) | ((with_reducible refine T.ret ?_); refine fin_pure ?_; simp [*]; try (change Hold _)) | (with_reducible refine T.block ?_) | ((with_reducible refine T.skip ?_); simp [*]) | ((with_reducible refine T.exit ?_); simp [*]) | ((with_reducible refine T.br fun K1 K2 hK1 hK2 => ?_); simp [*]; try ((refine Br.intro (fun hc => ?_) (fun hc => ?_)) <;> (try simp at hc))) | (with_reducible refine Cont.go (by assumption) _ ?_) | (with_reducible refine Cnt.go (by assumption) ?_))
    all_goals (unfold Hold at *; rw [hb]; simp)
end
end Go.Proofs.YtaacfmakfkaddaaDoor.Ax
