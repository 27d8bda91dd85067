/- The law ExprReads, walked. -/
import Derived.Test.YtiippmhlkcbjmaaCxJ
import Derived.Test.YtiippmhlkcbjmaaPlI
import Derived.Test.YtiippmhlkcbjmaaBxK
set_option linter.unusedVariables false
set_option linter.unusedSimpArgs false
namespace Go.Proofs.Ytiippmhlkcbjmaa.Ax
open Go Go.Proofs

theorem dec_back {b : List Int} (hb : byt b) (h : decErr b = 0) : rightE (decX b) = 0 ∧ bytE (decX b) = b := by
  have hx := dec_good h
  have he := decErr_eq b
  have hin := rdE_in false b 1001 0 0 (by omega) (by omega)
  have hbk := rdE_back false b hb 1001 0 0
  unfold decR at hx
  rw [h] at he
  generalize rdE false b 1001 0 0 = R at *
  obtain ⟨e1, x1, p2, s2⟩ := R
  simp only at *
  split at he
  · rename_i c; exact absurd he.symm c
  · rename_i c
    split at he
    · cases he
    · rename_i c2
      rw [hx]
      obtain ⟨h1, h2⟩ := hbk (by omega)
      refine ⟨he.symm, ?_⟩
      rw [h2, List.drop_zero, List.take_of_length_le (by omega)]
set_option maxHeartbeats 1000000 in
theorem ok_ExprReads : PureOk Try.prog 9 (f1 (kIs .u8) fun b => if byt b then some (.bool true) else none) := by
  intro args r h
  obtain ⟨b, rfl, hr⟩ := f1_inv h; clear h
  split at hr
  · rename_i hm
    cases hr
    have hE := (((((EnvOk.nil (P := Try.prog) (eq := fun _ => false) (own := fun _ => false) (mem := fun _ => false) EqOk.none).addf ok_Decode).addf ok_rDecode).addf ok_Encode).addf ok_Right)
    refine ⟨⟨Try.f9, Try.func9, by decide, rfl⟩, pure_of_T Try.func9 rfl (by simp [Try.ntmps9]) fun q => ?_⟩
    by_cases c : decErr b = 0
    · obtain ⟨h1, h2⟩ := dec_back hm c
      have h3 : encodeV (decX b) = .tup [.sl (encI .u8 b) .no, .int .i64 0] := by unfold encodeV; rw [if_pos h1, h2, h1]
      have hib : ∀ el ∈ encI .u8 b, isByteV el = true := fun el hel => by
        unfold encI at hel
        obtain ⟨n, hn, rfl⟩ := List.mem_map.1 hel
        obtain ⟨n0, n1⟩ := hm n hn
        simp [isByteV, n0, n1]
      repeat' (first
        | (with_reducible refine T.sq fun K hK => ?_)
        | ((first | ((with_reducible refine T.reg hE ?hd ?_); (case hd => kernel_rfl)) | ((with_reducible refine T.any hE mixed ?hd ?hok ?_); (case hd => kernel_rfl); (case hok => kernel_rfl))); simp [*]; (repeat' (split; all_goals (rename_i hc; try simp [*]))))
        | ((with_reducible refine T.ret ?_); refine fin_pure ?_; simp [*]; try (change Hold _))
        | (with_reducible refine T.block ?_)
        | ((with_reducible refine T.skip ?_); simp [*])
        | ((with_reducible refine T.exit ?_); simp [*])
        | ((with_reducible refine T.br fun K1 K2 hK1 hK2 => ?_); simp [*]; try ((refine Br.intro (fun hc => ?_) (fun hc => ?_)) <;> (try simp at hc)))
        | (with_reducible refine Cont.go (by assumption) _ ?_)
        | (with_reducible refine Cnt.go (by assumption) ?_))
      refine ⟨hib, ?_⟩
      repeat' (first
        | (with_reducible refine T.sq fun K hK => ?_)
        | ((first | ((with_reducible refine T.reg hE ?hd ?_); (case hd => kernel_rfl)) | ((with_reducible refine T.any hE mixed ?hd ?hok ?_); (case hd => kernel_rfl); (case hok => kernel_rfl))); simp [*]; (repeat' (split; all_goals (rename_i hc; try simp [*]))))
        | ((with_reducible refine T.ret ?_); refine fin_pure ?_; simp [*]; try (change Hold _))
        | (with_reducible refine T.block ?_)
        | ((with_reducible refine T.skip ?_); simp [*])
        | ((with_reducible refine T.exit ?_); simp [*])
        | ((with_reducible refine T.br fun K1 K2 hK1 hK2 => ?_); simp [*]; try ((refine Br.intro (fun hc => ?_) (fun hc => ?_)) <;> (try simp at hc)))
        | (with_reducible refine Cont.go (by assumption) _ ?_)
        | (with_reducible refine Cnt.go (by assumption) ?_))
      all_goals (unfold Hold; first | rfl | (simp [*]; done))
    · repeat' (first
        | (with_reducible refine T.sq fun K hK => ?_)
        | ((first | ((with_reducible refine T.reg hE ?hd ?_); (case hd => kernel_rfl)) | ((with_reducible refine T.any hE mixed ?hd ?hok ?_); (case hd => kernel_rfl); (case hok => kernel_rfl))); simp [*]; (repeat' (split; all_goals (rename_i hc; try simp [*]))))
        | ((with_reducible refine T.ret ?_); refine fin_pure ?_; simp [*]; try (change Hold _))
        | (with_reducible refine T.block ?_)
        | ((with_reducible refine T.skip ?_); simp [*])
        | ((with_reducible refine T.exit ?_); simp [*])
        | ((with_reducible refine T.br fun K1 K2 hK1 hK2 => ?_); simp [*]; try ((refine Br.intro (fun hc => ?_) (fun hc => ?_)) <;> (try simp at hc)))
        | (with_reducible refine Cont.go (by assumption) _ ?_)
        | (with_reducible refine Cnt.go (by assumption) ?_))
      all_goals (unfold Hold; first | rfl | (simp [*]; done))
  · cases hr
end Go.Proofs.Ytiippmhlkcbjmaa.Ax
