/- The law ExprBack, walked. -/
import Derived.Test.YtdpphpdjimmpbaaPlJ
set_option linter.unusedVariables false
set_option linter.unusedSimpArgs false
namespace Go.Proofs.Ytdpphpdjimmpbaa.Ax
open Go Go.Proofs

theorem str_same {a b : Ex} (ha : rightE a = 0) (hb : rightE b = 0) : ((encI .u8 (bytE a)).map byteV == (encI .u8 (bytE b)).map byteV) = decide (ordE a b = 0) := by
  have h1 := bytE_byt a (right_zero ha).2.2
  have h2 := bytE_byt b (right_zero hb).2.2
  by_cases c : ordE a b = 0
  · rw [ord_eq a b c]; simp [ordE_self]
  · rw [decide_eq_false c]
    apply Bool.eq_false_iff.2
    intro h
    have h3 := bytes_inj _ _ h1 h2 (eq_of_beq h)
    have h4 := (dec_bytE ha).2
    rw [h3, (dec_bytE hb).2] at h4
    rw [h4] at c
    exact c (ordE_self _)
set_option maxHeartbeats 1000000 in
theorem ok_ExprBack : PureOk Try.prog 6 (f2 kE kE fun _ _ => some (.bool true)) := by
  intro args r h
  obtain ⟨a, b, rfl, ⟨⟩⟩ := f2_inv h
  clear h
  have hE := (((((EnvOk.nil (P := Try.prog) (eq := fun _ => false) (own := fun _ => false) (mem := fun _ => false) EqOk.none).addf ok_Encode).addf ok_rRight).addf ok_Decode).addf ok_Same)
  refine ⟨⟨Try.f6, Try.func6, by decide, rfl⟩, pure_of_T Try.func6 rfl (by simp [Try.ntmps6]) fun q => ?_⟩
  by_cases v : rightE a = 0
  · have va : encodeV a = .tup [.sl (encI .u8 (bytE a)) .no, .int .i64 0] := by unfold encodeV; rw [if_pos v, v]
    by_cases w : rightE b = 0
    · have wb : encodeV b = .tup [.sl (encI .u8 (bytE b)) .no, .int .i64 0] := by unfold encodeV; rw [if_pos w, w]
      have h1 := bytE_byt a (right_zero v).2.2
      obtain ⟨d1, d2⟩ := dec_bytE v
      have hs := str_same v w
      have i1 := isByte_encI (bytE a)
      have i2 := isByte_encI (bytE b)
      have o1 := ordE_self a
      repeat' (first
        | (with_reducible refine T.sq fun K hK => ?_)
        | ((first | ((with_reducible refine T.reg hE ?hd ?_); (case hd => kernel_rfl)) | ((with_reducible refine T.any hE mixed ?hd ?hok ?_); (case hd => kernel_rfl); (case hok => kernel_rfl))); simp [*]; (repeat' (split; all_goals (rename_i hc; try simp [*]))))
        | ((with_reducible refine T.ret ?_); refine fin_pure ?_; simp [*]; try (change Hold _))
        | (with_reducible refine T.block ?_)
        | ((with_reducible refine T.skip ?_); simp [*])
        | ((with_reducible refine T.exit ?_); simp [*])
        | ((with_reducible refine T.br fun K1 K2 hK1 hK2 => ?_); simp [*]; try ((refine Br.intro (fun hc => ?_) (fun hc => ?_)) <;> (try simp at hc)))
        | (with_reducible refine Cont.go (by assumption) _ ?_)
        | (with_reducible refine Cnt.go (by assumption) ?_))
      all_goals (unfold Hold; first | rfl | (simp [*]; done))
    · have wb : encodeV b = .tup [.sl [] .no, .int .i64 (rightE b)] := by unfold encodeV; rw [if_neg w]
      repeat' (first
        | (with_reducible refine T.sq fun K hK => ?_)
        | ((first | ((with_reducible refine T.reg hE ?hd ?_); (case hd => kernel_rfl)) | ((with_reducible refine T.any hE mixed ?hd ?hok ?_); (case hd => kernel_rfl); (case hok => kernel_rfl))); simp [*]; (repeat' (split; all_goals (rename_i hc; try simp [*]))))
        | ((with_reducible refine T.ret ?_); refine fin_pure ?_; simp [*]; try (change Hold _))
        | (with_reducible refine T.block ?_)
        | ((with_reducible refine T.skip ?_); simp [*])
        | ((with_reducible refine T.exit ?_); simp [*])
        | ((with_reducible refine T.br fun K1 K2 hK1 hK2 => ?_); simp [*]; try ((refine Br.intro (fun hc => ?_) (fun hc => ?_)) <;> (try simp at hc)))
        | (with_reducible refine Cont.go (by assumption) _ ?_)
        | (with_reducible refine Cnt.go (by assumption) ?_))
      all_goals (unfold Hold; first | rfl | (simp [*]; done))
  · have va : encodeV a = .tup [.sl [] .no, .int .i64 (rightE a)] := by unfold encodeV; rw [if_neg v]
    by_cases w : rightE b = 0
    · have wb : encodeV b = .tup [.sl (encI .u8 (bytE b)) .no, .int .i64 0] := by unfold encodeV; rw [if_pos w, w]
      repeat' (first
        | (with_reducible refine T.sq fun K hK => ?_)
        | ((first | ((with_reducible refine T.reg hE ?hd ?_); (case hd => kernel_rfl)) | ((with_reducible refine T.any hE mixed ?hd ?hok ?_); (case hd => kernel_rfl); (case hok => kernel_rfl))); simp [*]; (repeat' (split; all_goals (rename_i hc; try simp [*]))))
        | ((with_reducible refine T.ret ?_); refine fin_pure ?_; simp [*]; try (change Hold _))
        | (with_reducible refine T.block ?_)
        | ((with_reducible refine T.skip ?_); simp [*])
        | ((with_reducible refine T.exit ?_); simp [*])
        | ((with_reducible refine T.br fun K1 K2 hK1 hK2 => ?_); simp [*]; try ((refine Br.intro (fun hc => ?_) (fun hc => ?_)) <;> (try simp at hc)))
        | (with_reducible refine Cont.go (by assumption) _ ?_)
        | (with_reducible refine Cnt.go (by assumption) ?_))
      all_goals (unfold Hold; first | rfl | (simp [*]; done))
    · have wb : encodeV b = .tup [.sl [] .no, .int .i64 (rightE b)] := by unfold encodeV; rw [if_neg w]
      repeat' (first
        | (with_reducible refine T.sq fun K hK => ?_)
        | ((first | ((with_reducible refine T.reg hE ?hd ?_); (case hd => kernel_rfl)) | ((with_reducible refine T.any hE mixed ?hd ?hok ?_); (case hd => kernel_rfl); (case hok => kernel_rfl))); simp [*]; (repeat' (split; all_goals (rename_i hc; try simp [*]))))
        | ((with_reducible refine T.ret ?_); refine fin_pure ?_; simp [*]; try (change Hold _))
        | (with_reducible refine T.block ?_)
        | ((with_reducible refine T.skip ?_); simp [*])
        | ((with_reducible refine T.exit ?_); simp [*])
        | ((with_reducible refine T.br fun K1 K2 hK1 hK2 => ?_); simp [*]; try ((refine Br.intro (fun hc => ?_) (fun hc => ?_)) <;> (try simp at hc)))
        | (with_reducible refine Cont.go (by assumption) _ ?_)
        | (with_reducible refine Cnt.go (by assumption) ?_))
      all_goals (unfold Hold; first | rfl | (simp [*]; done))
end Go.Proofs.Ytdpphpdjimmpbaa.Ax
