/- The law SubstCanons, walked. -/
import Derived.Test.YtaacfmakfkaddaaDoorExA
import Derived.Test.YtaacfmakfkaddaaDoorBxO
import Derived.Test.YtaacfmakfkaddaaDoorPlO
set_option linter.unusedVariables false
set_option linter.unusedSimpArgs false
namespace Go.Proofs.YtaacfmakfkaddaaDoor.Ax
open Go Go.Proofs

def canV (a : Ex) : V := if rightE a = 0 then cnV (canX a) else .tup [enc ex0, .int .i64 (rightE a)]
@[simp] def gCanon : List V → Option V := f1 kE fun a => some (canV a)
set_option maxHeartbeats 1000000 in
theorem ok_Canon : PureOk Tryd.prog 9 gCanon := by
  intro args r h
  obtain ⟨a, rfl, ⟨⟩⟩ := f1_inv h; clear h
  have hE := (((EnvOk.nil (P := Tryd.prog) (eq := fun _ => false) (own := fun _ => false) (mem := fun _ => false) EqOk.none).addf ok_Free).addf ok_canon)
  refine ⟨⟨Tryd.f9, Tryd.func9, by decide, rfl⟩, pure_of_T Tryd.func9 rfl (by simp [Tryd.ntmps9]) fun q => ?_⟩
  by_cases v : rightE a = 0
  · obtain ⟨x1, x2, x3⟩ := right_zero v
    have hx : allX a = true := x3
    have hl := frE_lt hx
    have hv : setV frE a = _ := setV_good v
    have hz := dec_zeros
    have hok : okPc a names0 (frE a : Nat) := ⟨x3, by simp [names0], fun z h => by simp [names0] at h; omega, u64_nat hl⟩
    have hn : Hold (canV a = cnV (canX a)) := by unfold Hold canV; rw [if_pos v]
    have hc : pcE a names0 (frE a) = canX a := rfl
    cases hcx : canX a with
    | none =>
      rw [hcx] at hc hn
      have e1 : cnV none = .tup [enc ex0, .int .i64 51] := rfl
      repeat' (first | (with_reducible refine T.sq fun K hK => ?_) | ((first | ((with_reducible refine T.reg hE ?hd ?_); (case hd => kernel_rfl)) | ((with_reducible refine T.any hE mixed ?hd ?hok ?_); (case hd => kernel_rfl); (case hok => kernel_rfl))); simp [*]; (repeat' (split; all_goals (rename_i hc; try simp [*])))) | ((with_reducible refine T.ret ?_); refine fin_pure ?_; simp [*]; try (change Hold _)) | (with_reducible refine T.block ?_) | ((with_reducible refine T.skip ?_); simp [*]) | ((with_reducible refine T.exit ?_); simp [*]) | ((with_reducible refine T.br fun K1 K2 hK1 hK2 => ?_); simp [*]; try ((refine Br.intro (fun hc => ?_) (fun hc => ?_)) <;> (try simp at hc))) | (with_reducible refine Cont.go (by assumption) _ ?_) | (with_reducible refine Cnt.go (by assumption) ?_))
      all_goals (unfold Hold at *; rw [hn]; simp [e1, ex0])
    | some y =>
      rw [hcx] at hc hn
      have e1 : cnV (some y) = .tup [enc y, .int .i64 0] := rfl
      repeat' (first | (with_reducible refine T.sq fun K hK => ?_) | ((first | ((with_reducible refine T.reg hE ?hd ?_); (case hd => kernel_rfl)) | ((with_reducible refine T.any hE mixed ?hd ?hok ?_); (case hd => kernel_rfl); (case hok => kernel_rfl))); simp [*]; (repeat' (split; all_goals (rename_i hc; try simp [*])))) | ((with_reducible refine T.ret ?_); refine fin_pure ?_; simp [*]; try (change Hold _)) | (with_reducible refine T.block ?_) | ((with_reducible refine T.skip ?_); simp [*]) | ((with_reducible refine T.exit ?_); simp [*]) | ((with_reducible refine T.br fun K1 K2 hK1 hK2 => ?_); simp [*]; try ((refine Br.intro (fun hc => ?_) (fun hc => ?_)) <;> (try simp at hc))) | (with_reducible refine Cont.go (by assumption) _ ?_) | (with_reducible refine Cnt.go (by assumption) ?_))
      all_goals (unfold Hold at *; rw [hn]; simp [e1, ex0])
  · have hv : setV frE a = .tup [.int .u64 0, .int .i64 (rightE a)] := by unfold setV; rw [if_neg v]; rfl
    have hn : Hold (canV a = .tup [enc ex0, .int .i64 (rightE a)]) := by unfold Hold canV; rw [if_neg v]
    repeat' (first | (with_reducible refine T.sq fun K hK => ?_) | ((first | ((with_reducible refine T.reg hE ?hd ?_); (case hd => kernel_rfl)) | ((with_reducible refine T.any hE mixed ?hd ?hok ?_); (case hd => kernel_rfl); (case hok => kernel_rfl))); simp [*]; (repeat' (split; all_goals (rename_i hc; try simp [*])))) | ((with_reducible refine T.ret ?_); refine fin_pure ?_; simp [*]; try (change Hold _)) | (with_reducible refine T.block ?_) | ((with_reducible refine T.skip ?_); simp [*]) | ((with_reducible refine T.exit ?_); simp [*]) | ((with_reducible refine T.br fun K1 K2 hK1 hK2 => ?_); simp [*]; try ((refine Br.intro (fun hc => ?_) (fun hc => ?_)) <;> (try simp at hc))) | (with_reducible refine Cont.go (by assumption) _ ?_) | (with_reducible refine Cnt.go (by assumption) ?_))
    all_goals (unfold Hold at *; rw [hn]; simp [ex0])
set_option maxHeartbeats 1000000 in
theorem ok_rCanonV : PureOk Tryd.prog 10 gCanon := by
  intro args r h
  obtain ⟨a, rfl, ⟨⟩⟩ := f1_inv h; clear h
  have hE := ((((EnvOk.nil (P := Tryd.prog) (eq := fun _ => false) (own := fun _ => false) (mem := fun _ => false) EqOk.none).addf ok_rRight).addf ok_rFreeS).addf ok_rCanon)
  refine ⟨⟨Tryd.f10, Tryd.func10, by decide, rfl⟩, pure_of_T Tryd.func10 rfl (by simp [Tryd.ntmps10]) fun q => ?_⟩
  have hd0 : decI .i64 [] = some [] := rfl
  by_cases v : rightE a = 0
  · obtain ⟨x1, x2, x3⟩ := right_zero v
    have hx : allX a = true := x3
    have hokx : okX a := x3
    have hl := frE_lt hx
    have hok : okCn a [] [] (frE a : Nat) := ⟨x3, rfl, fun z h => by simp at h, u64_nat hl, by simp; omega⟩
    have hn : Hold (canV a = cnV (canX a)) := by unfold Hold canV; rw [if_pos v]
    have hc : cnE a [] [] (frE a) = canX a := (pc_cn0 a (frE a) hx).symm
    cases hcx : canX a with
    | none =>
      rw [hcx] at hc hn
      have e1 : cnV none = .tup [enc ex0, .int .i64 51] := rfl
      repeat' (first | (with_reducible refine T.sq fun K hK => ?_) | ((first | ((with_reducible refine T.reg hE ?hd ?_); (case hd => kernel_rfl)) | ((with_reducible refine T.any hE mixed ?hd ?hok ?_); (case hd => kernel_rfl); (case hok => kernel_rfl))); simp [*]; (repeat' (split; all_goals (rename_i hc; try simp [*])))) | ((with_reducible refine T.ret ?_); refine fin_pure ?_; simp [*]; try (change Hold _)) | (with_reducible refine T.block ?_) | ((with_reducible refine T.skip ?_); simp [*]) | ((with_reducible refine T.exit ?_); simp [*]) | ((with_reducible refine T.br fun K1 K2 hK1 hK2 => ?_); simp [*]; try ((refine Br.intro (fun hc => ?_) (fun hc => ?_)) <;> (try simp at hc))) | (with_reducible refine Cont.go (by assumption) _ ?_) | (with_reducible refine Cnt.go (by assumption) ?_))
      all_goals (unfold Hold at *; rw [hn]; simp [e1, ex0])
    | some y =>
      rw [hcx] at hc hn
      have e1 : cnV (some y) = .tup [enc y, .int .i64 0] := rfl
      repeat' (first | (with_reducible refine T.sq fun K hK => ?_) | ((first | ((with_reducible refine T.reg hE ?hd ?_); (case hd => kernel_rfl)) | ((with_reducible refine T.any hE mixed ?hd ?hok ?_); (case hd => kernel_rfl); (case hok => kernel_rfl))); simp [*]; (repeat' (split; all_goals (rename_i hc; try simp [*])))) | ((with_reducible refine T.ret ?_); refine fin_pure ?_; simp [*]; try (change Hold _)) | (with_reducible refine T.block ?_) | ((with_reducible refine T.skip ?_); simp [*]) | ((with_reducible refine T.exit ?_); simp [*]) | ((with_reducible refine T.br fun K1 K2 hK1 hK2 => ?_); simp [*]; try ((refine Br.intro (fun hc => ?_) (fun hc => ?_)) <;> (try simp at hc))) | (with_reducible refine Cont.go (by assumption) _ ?_) | (with_reducible refine Cnt.go (by assumption) ?_))
      all_goals (unfold Hold at *; rw [hn]; simp [e1, ex0])
  · have hn : Hold (canV a = .tup [enc ex0, .int .i64 (rightE a)]) := by unfold Hold canV; rw [if_neg v]
    repeat' (first | (with_reducible refine T.sq fun K hK => ?_) | ((first | ((with_reducible refine T.reg hE ?hd ?_); (case hd => kernel_rfl)) | ((with_reducible refine T.any hE mixed ?hd ?hok ?_); (case hd => kernel_rfl); (case hok => kernel_rfl))); simp [*]; (repeat' (split; all_goals (rename_i hc; try simp [*])))) | ((with_reducible refine T.ret ?_); refine fin_pure ?_; simp [*]; try (change Hold _)) | (with_reducible refine T.block ?_) | ((with_reducible refine T.skip ?_); simp [*]) | ((with_reducible refine T.exit ?_); simp [*]) | ((with_reducible refine T.br fun K1 K2 hK1 hK2 => ?_); simp [*]; try ((refine Br.intro (fun hc => ?_) (fun hc => ?_)) <;> (try simp at hc))) | (with_reducible refine Cont.go (by assumption) _ ?_) | (with_reducible refine Cnt.go (by assumption) ?_))
    all_goals (unfold Hold at *; rw [hn]; simp [ex0])
end Go.Proofs.YtaacfmakfkaddaaDoor.Ax
