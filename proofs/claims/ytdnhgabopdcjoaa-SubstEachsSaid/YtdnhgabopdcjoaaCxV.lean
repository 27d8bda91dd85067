/- The law SubstRests, walked. -/
import Derived.Test.YtdnhgabopdcjoaaCxU
set_option linter.unusedVariables false
set_option linter.unusedSimpArgs false
namespace Go.Proofs.Ytdnhgabopdcjoaa.Ax
open Go Go.Proofs

theorem var_all {x : Int} (hx : 0 ≤ x ∧ x ≤ 63) : allX (.mk 1 x []) = true := (right_zero (var_right hx)).2.2
theorem var_va (x : Int) : vaE (.mk 1 x []) = pw x.toNat := by
  unfold vaE
  rw [boE, boL, ocE]; simp [binP]
theorem var_fr (x : Int) : frE (.mk 1 x []) = pw x.toNat := by rw [frE]; simp
theorem put_err {a t : Ex} {x : Int} (hx : 0 ≤ x ∧ x ≤ 63) (h1 : rightE a = 0) (h2 : rightE t = 0) (h3 : isT t = true) : putErr a x t = if catE (vaE t) x a = 0 then rightE (psF (sgF x t) a) else 50 := by
  have he := ask_mk hx h1 h2 h3
  unfold putErr
  rw [if_neg (by omega), ffB_eq hx h1 h2 h3]
  by_cases c : catE (vaE t) x a = 0 <;> simp [c]
theorem put_own {a : Ex} {x : Int} (hx : 0 ≤ x ∧ x ≤ 63) (h1 : rightE a = 0) : putErr a x (.mk 1 x []) = 0 ∧ putX a x (.mk 1 x []) = a := by
  have ha := (right_zero h1).2.2
  have h : putErr a x (.mk 1 x []) = 0 := by rw [put_err hx h1 (var_right hx) rfl, var_va, if_pos (cat_self x hx a ha), psF_own ha]; exact h1
  exact ⟨h, by rw [put_good h, psF_own ha]⟩
theorem put_not {a t : Ex} {x : Int} (hx : 0 ≤ x ∧ x ≤ 63) (h1 : rightE a = 0) (h2 : rightE t = 0) (h3 : isT t = true) (hf : hasB (frE a) x = false) : putErr a x t = 0 ∧ putX a x t = a := by
  have ha := (right_zero h1).2.2
  have h : putErr a x t = 0 := by rw [put_err hx h1 h2 h3, if_pos (cat_no hf), psF_not ha hf]; exact h1
  exact ⟨h, by rw [put_good h, psF_not ha hf]⟩
theorem put_all {a t : Ex} {x : Int} (h : putErr a x t = 0) : rightE (putX a x t) = 0 := by
  rw [put_good h]
  unfold putErr at h
  split at h
  · rename_i c; exact absurd h c
  · split at h
    · exact h
    · cases h
@[simp] def gVar : List V → Option V := f1 (kI .i64) fun x => some (enc (.mk 1 x []))
theorem ok_variable : PureOk Try.prog 16 gVar := by
  intro args r h
  obtain ⟨x, rfl, ⟨⟩⟩ := f1_inv h
  clear h
  have hE := (EnvOk.nil (P := Try.prog) (eq := fun _ => false) (own := fun _ => false) (mem := fun _ => false) EqOk.none)
  refine ⟨⟨Try.f16, Try.func16, by decide, rfl⟩, pure_of_T Try.func16 rfl (by simp [Try.ntmps16]) fun q => ?_⟩
  repeat' (first
    | (with_reducible refine T.sq fun K hK => ?_)
    | ((first | ((with_reducible refine T.reg hE ?hd ?_); (case hd => kernel_rfl)) | ((with_reducible refine T.any hE mixed ?hd ?hok ?_); (case hd => kernel_rfl); (case hok => kernel_rfl))); simp [*]; (repeat' (split; all_goals (rename_i hc; try simp [*]))))
    | ((with_reducible refine T.ret ?_); refine fin_pure ?_; simp [*]; try (change Hold _))
    | (with_reducible refine T.block ?_)
    | ((with_reducible refine T.skip ?_); simp [*])
    | ((with_reducible refine T.exit ?_); simp [*])
    | ((with_reducible refine T.br fun K1 K2 hK1 hK2 => ?_); simp [*]; try ((refine Br.intro (fun hc => ?_) (fun hc => ?_)) <;> (try simp at hc)))
    | (with_reducible refine Cont.go (by assumption) _ ?_)
    | (with_reducible refine Cnt.go (by assumption) ?_))
  all_goals (unfold Hold; first | rfl | (simp; done))
set_option maxHeartbeats 2000000 in
theorem ok_SubstRests : PureOk Try.prog 4 (f3 kE (kI .i64) kE fun _ _ _ => some (.bool true)) := by
  intro args r h
  obtain ⟨a, x, t, rfl, ⟨⟩⟩ := f3_inv h
  clear h
  have hE := ((((((((((((EnvOk.nil (P := Try.prog) (eq := fun _ => false) (own := fun _ => false) (mem := fun _ => false) EqOk.none).addf ok_rRight).addf ok_rIsTerm).addf ok_variable).addf ok_Put).addf ok_rLike).addf ok_rIsFree).addf ok_rFreeFor).addf ok_rFreeS).addf ok_rWithout).addf ok_rVarsS).addf ok_rUnion)
  refine ⟨⟨Try.f4, Try.func4, by decide, rfl⟩, pure_of_T Try.func4 rfl (by simp [Try.ntmps4]) fun q => ?_⟩
  by_cases v1 : rightE a = 0
  rotate_left
  · repeat' (first
      | (with_reducible refine T.sq fun K hK => ?_)
      | ((first | ((with_reducible refine T.reg hE ?hd ?_); (case hd => kernel_rfl)) | ((with_reducible refine T.any hE mixed ?hd ?hok ?_); (case hd => kernel_rfl); (case hok => kernel_rfl))); simp [*]; (repeat' (split; all_goals (rename_i hc; try simp [*]))))
      | ((with_reducible refine T.ret ?_); refine fin_pure ?_; simp [*]; try (change Hold _))
      | (with_reducible refine T.block ?_)
      | ((with_reducible refine T.skip ?_); simp [*])
      | ((with_reducible refine T.exit ?_); simp [*])
      | ((with_reducible refine T.br fun K1 K2 hK1 hK2 => ?_); simp [*]; try ((refine Br.intro (fun hc => ?_) (fun hc => ?_)) <;> (try simp at hc)))
      | (with_reducible refine Cont.go (by assumption) _ ?_)
      | (with_reducible refine Cnt.go (by assumption) ?_))
    all_goals (unfold Hold; first | rfl | (simp [*]; done))
  by_cases v2 : (rightE t == 0 && isT t) = true
  rotate_left
  · repeat' (first
      | (with_reducible refine T.sq fun K hK => ?_)
      | ((first | ((with_reducible refine T.reg hE ?hd ?_); (case hd => kernel_rfl)) | ((with_reducible refine T.any hE mixed ?hd ?hok ?_); (case hd => kernel_rfl); (case hok => kernel_rfl))); simp [*]; (repeat' (split; all_goals (rename_i hc; try simp [*]))))
      | ((with_reducible refine T.ret ?_); refine fin_pure ?_; simp [*]; try (change Hold _))
      | (with_reducible refine T.block ?_)
      | ((with_reducible refine T.skip ?_); simp [*])
      | ((with_reducible refine T.exit ?_); simp [*])
      | ((with_reducible refine T.br fun K1 K2 hK1 hK2 => ?_); simp [*]; try ((refine Br.intro (fun hc => ?_) (fun hc => ?_)) <;> (try simp at hc)))
      | (with_reducible refine Cont.go (by assumption) _ ?_)
      | (with_reducible refine Cnt.go (by assumption) ?_))
    all_goals (unfold Hold; first | rfl | (simp [*]; done))
  by_cases c1 : x < 0
  · repeat' (first
      | (with_reducible refine T.sq fun K hK => ?_)
      | ((first | ((with_reducible refine T.reg hE ?hd ?_); (case hd => kernel_rfl)) | ((with_reducible refine T.any hE mixed ?hd ?hok ?_); (case hd => kernel_rfl); (case hok => kernel_rfl))); simp [*]; (repeat' (split; all_goals (rename_i hc; try simp [*]))))
      | ((with_reducible refine T.ret ?_); refine fin_pure ?_; simp [*]; try (change Hold _))
      | (with_reducible refine T.block ?_)
      | ((with_reducible refine T.skip ?_); simp [*])
      | ((with_reducible refine T.exit ?_); simp [*])
      | ((with_reducible refine T.br fun K1 K2 hK1 hK2 => ?_); simp [*]; try ((refine Br.intro (fun hc => ?_) (fun hc => ?_)) <;> (try simp at hc)))
      | (with_reducible refine Cont.go (by assumption) _ ?_)
      | (with_reducible refine Cnt.go (by assumption) ?_))
    all_goals (unfold Hold; first | rfl | (simp [*]; done))
  by_cases c2 : 63 < x
  · repeat' (first
      | (with_reducible refine T.sq fun K hK => ?_)
      | ((first | ((with_reducible refine T.reg hE ?hd ?_); (case hd => kernel_rfl)) | ((with_reducible refine T.any hE mixed ?hd ?hok ?_); (case hd => kernel_rfl); (case hok => kernel_rfl))); simp [*]; (repeat' (split; all_goals (rename_i hc; try simp [*]))))
      | ((with_reducible refine T.ret ?_); refine fin_pure ?_; simp [*]; try (change Hold _))
      | (with_reducible refine T.block ?_)
      | ((with_reducible refine T.skip ?_); simp [*])
      | ((with_reducible refine T.exit ?_); simp [*])
      | ((with_reducible refine T.br fun K1 K2 hK1 hK2 => ?_); simp [*]; try ((refine Br.intro (fun hc => ?_) (fun hc => ?_)) <;> (try simp at hc)))
      | (with_reducible refine Cont.go (by assumption) _ ?_)
      | (with_reducible refine Cnt.go (by assumption) ?_))
    all_goals (unfold Hold; first | rfl | (simp [*]; done))
  have hx : 0 ≤ x ∧ x ≤ 63 := by omega
  obtain ⟨w1, w2⟩ : rightE t = 0 ∧ isT t = true := by simpa using v2
  have hoa : okX a := (right_zero v1).2.2
  have hot : okX t := (right_zero w1).2.2
  have hl := ordE_self a
  obtain ⟨o1, o2⟩ := put_own hx v1
  by_cases f : hasB (frE a) x = true
  rotate_left
  · rw [Bool.not_eq_true] at f
    obtain ⟨p1, p2⟩ := put_not hx v1 w1 w2 f
    clear hx
    repeat' (first
      | (with_reducible refine T.sq fun K hK => ?_)
      | ((first | ((with_reducible refine T.reg hE ?hd ?_); (case hd => kernel_rfl)) | ((with_reducible refine T.any hE mixed ?hd ?hok ?_); (case hd => kernel_rfl); (case hok => kernel_rfl))); simp [*]; (repeat' (split; all_goals (rename_i hc; try simp [*]))))
      | ((with_reducible refine T.ret ?_); refine fin_pure ?_; simp [*]; try (change Hold _))
      | (with_reducible refine T.block ?_)
      | ((with_reducible refine T.skip ?_); simp [*])
      | ((with_reducible refine T.exit ?_); simp [*])
      | ((with_reducible refine T.br fun K1 K2 hK1 hK2 => ?_); simp [*]; try ((refine Br.intro (fun hc => ?_) (fun hc => ?_)) <;> (try simp at hc)))
      | (with_reducible refine Cont.go (by assumption) _ ?_)
      | (with_reducible refine Cnt.go (by assumption) ?_))
    all_goals (unfold Hold; first | rfl | (simp [*]; done))
  have hpe := put_err hx v1 w1 w2
  have hff := ffB_eq hx v1 w1 w2
  by_cases c : catE (vaE t) x a = 0
  · rw [if_pos c] at hpe
    rw [c] at hff
    rcases psF_err (f := sgF x t) hoa (termF_sg hot w2) with p | p | p
    · rw [p] at hpe
      have hpx := put_good hpe
      have hox : okX (putX a x t) := (right_zero (put_all hpe)).2.2
      have hfr : frE (putX a x t) = withoutN (frE a) x ||| vaE t := by rw [hpx, fr_put hx hot w2 hoa c, if_pos f]
      have u1 := u64_nat (frE_lt hoa)
      have u2 := u64_nat (withoutN_lt (n := x) (frE_lt hoa))
      have u3 := u64_nat (vaE_lt hot)
      clear hpx hff c hx p
      repeat' (first
        | (with_reducible refine T.sq fun K hK => ?_)
        | ((first | ((with_reducible refine T.reg hE ?hd ?_); (case hd => kernel_rfl)) | ((with_reducible refine T.any hE mixed ?hd ?hok ?_); (case hd => kernel_rfl); (case hok => kernel_rfl))); simp [*]; (repeat' (split; all_goals (rename_i hc; try simp [*]))))
        | ((with_reducible refine T.ret ?_); refine fin_pure ?_; simp [*]; try (change Hold _))
        | (with_reducible refine T.block ?_)
        | ((with_reducible refine T.skip ?_); simp [*])
        | ((with_reducible refine T.exit ?_); simp [*])
        | ((with_reducible refine T.br fun K1 K2 hK1 hK2 => ?_); simp [*]; try ((refine Br.intro (fun hc => ?_) (fun hc => ?_)) <;> (try simp at hc)))
        | (with_reducible refine Cont.go (by assumption) _ ?_)
        | (with_reducible refine Cnt.go (by assumption) ?_))
      all_goals (unfold Hold; first | rfl | (simp [*]; done))
    · rw [p] at hpe
      clear hx c p
      repeat' (first
        | (with_reducible refine T.sq fun K hK => ?_)
        | ((first | ((with_reducible refine T.reg hE ?hd ?_); (case hd => kernel_rfl)) | ((with_reducible refine T.any hE mixed ?hd ?hok ?_); (case hd => kernel_rfl); (case hok => kernel_rfl))); simp [*]; (repeat' (split; all_goals (rename_i hc; try simp [*]))))
        | ((with_reducible refine T.ret ?_); refine fin_pure ?_; simp [*]; try (change Hold _))
        | (with_reducible refine T.block ?_)
        | ((with_reducible refine T.skip ?_); simp [*])
        | ((with_reducible refine T.exit ?_); simp [*])
        | ((with_reducible refine T.br fun K1 K2 hK1 hK2 => ?_); simp [*]; try ((refine Br.intro (fun hc => ?_) (fun hc => ?_)) <;> (try simp at hc)))
        | (with_reducible refine Cont.go (by assumption) _ ?_)
        | (with_reducible refine Cnt.go (by assumption) ?_))
      all_goals (unfold Hold; first | rfl | (simp [*]; done))
    · rw [p] at hpe
      clear hx c p
      repeat' (first
        | (with_reducible refine T.sq fun K hK => ?_)
        | ((first | ((with_reducible refine T.reg hE ?hd ?_); (case hd => kernel_rfl)) | ((with_reducible refine T.any hE mixed ?hd ?hok ?_); (case hd => kernel_rfl); (case hok => kernel_rfl))); simp [*]; (repeat' (split; all_goals (rename_i hc; try simp [*]))))
        | ((with_reducible refine T.ret ?_); refine fin_pure ?_; simp [*]; try (change Hold _))
        | (with_reducible refine T.block ?_)
        | ((with_reducible refine T.skip ?_); simp [*])
        | ((with_reducible refine T.exit ?_); simp [*])
        | ((with_reducible refine T.br fun K1 K2 hK1 hK2 => ?_); simp [*]; try ((refine Br.intro (fun hc => ?_) (fun hc => ?_)) <;> (try simp at hc)))
        | (with_reducible refine Cont.go (by assumption) _ ?_)
        | (with_reducible refine Cnt.go (by assumption) ?_))
      all_goals (unfold Hold; first | rfl | (simp [*]; done))
  · rw [if_neg c] at hpe
    rw [decide_eq_false c] at hff
    clear hx c
    repeat' (first
      | (with_reducible refine T.sq fun K hK => ?_)
      | ((first | ((with_reducible refine T.reg hE ?hd ?_); (case hd => kernel_rfl)) | ((with_reducible refine T.any hE mixed ?hd ?hok ?_); (case hd => kernel_rfl); (case hok => kernel_rfl))); simp [*]; (repeat' (split; all_goals (rename_i hc; try simp [*]))))
      | ((with_reducible refine T.ret ?_); refine fin_pure ?_; simp [*]; try (change Hold _))
      | (with_reducible refine T.block ?_)
      | ((with_reducible refine T.skip ?_); simp [*])
      | ((with_reducible refine T.exit ?_); simp [*])
      | ((with_reducible refine T.br fun K1 K2 hK1 hK2 => ?_); simp [*]; try ((refine Br.intro (fun hc => ?_) (fun hc => ?_)) <;> (try simp at hc)))
      | (with_reducible refine Cont.go (by assumption) _ ?_)
      | (with_reducible refine Cnt.go (by assumption) ?_))
    all_goals (unfold Hold; first | rfl | (simp [*]; done))
end Go.Proofs.Ytdnhgabopdcjoaa.Ax
