/- The law ExprOrders, walked. -/
import Derived.Test.YtjjagophlcminaaPlB
set_option linter.unusedVariables false
set_option linter.unusedSimpArgs false
namespace Go.Proofs.Ytjjagophlcminaa.Ax
open Go Go.Proofs

theorem ordI_range (a b : Int) : -1 ≤ ordI a b ∧ ordI a b ≤ 1 := by unfold ordI; repeat' split
                                                                    all_goals omega
mutual
theorem ordE_range : ∀ (a b : Ex), -1 ≤ ordE a b ∧ ordE a b ≤ 1
  | .mk k i l, .mk k' i' l' => by
    have h := ordL_range l l'
    have h1 := ordI_range k k'
    have h2 := ordI_range i i'
    have h3 := ordI_range l.length l'.length
    rw [ordE]
    repeat' split
    all_goals omega
theorem ordL_range : ∀ (l m : List Ex), -1 ≤ ordL l m ∧ ordL l m ≤ 1
  | [], [] => by simp [ordL]
  | [], b :: m => by simp [ordL]
  | a :: l, [] => by simp [ordL]
  | a :: l, b :: m => by
    have h1 := ordE_range a b
    have h2 := ordL_range l m
    rw [ordL]
    split
    all_goals omega
end
set_option maxHeartbeats 2000000 in
theorem ok_ExprOrders : PureOk Try.prog 8 (f3 kE kE kE fun _ _ _ => some (.bool true)) := by
  intro args r h
  obtain ⟨a, b, c, rfl, ⟨⟩⟩ := f3_inv h
  clear h
  have hE := ((((EnvOk.nil (P := Try.prog) (eq := fun _ => false) (own := fun _ => false) (mem := fun _ => false) EqOk.none).addf ok_rRight).addf ok_Compare).addf ok_Same)
  refine ⟨⟨Try.f8, Try.func8, by decide, rfl⟩, pure_of_T Try.func8 rfl (by simp [Try.ntmps8]) fun q => ?_⟩
  by_cases v1 : rightE a = 0
  · by_cases v2 : rightE b = 0
    · by_cases v3 : rightE c = 0
      · have b1 : bothE a b = 0 := by simp [bothE, v1, v2]
        have b2 : bothE b a = 0 := by simp [bothE, v1, v2]
        have b3 : bothE b c = 0 := by simp [bothE, v3, v2]
        have b4 : bothE a c = 0 := by simp [bothE, v1, v3]
        have r1 := ordE_range a b
        have f1 := ordE_flip a b
        have n1 : IntKind.i64.wrap (-ordE b a) = ordE a b := by rw [f1, Int.neg_neg]; exact wrap64 (by omega) (by omega)
        have t1 : Hold (Tri (ordE a b) (ordE b c) (ordE a c)) := (ordE_tri a b c).1
        clear r1 f1
        generalize hx : ordE a b = x at *
        generalize hz : ordE b c = z at *
        generalize hw : ordE a c = w at *
        by_cases c1 : 0 < x
        · have c2 : ¬ x = 0 := by omega
          clear t1
          repeat' (first
            | (with_reducible refine T.sq fun K hK => ?_)
            | ((first | ((with_reducible refine T.reg hE ?hd ?_); (case hd => kernel_rfl)) | ((with_reducible refine T.any hE mixed ?hd ?hok ?_); (case hd => kernel_rfl); (case hok => kernel_rfl))); simp [*]; (repeat' (split; all_goals (rename_i hc; try simp [*]))))
            | ((with_reducible refine T.ret ?_); refine fin_pure ?_; simp [*]; try (change Hold _))
            | (with_reducible refine T.block ?_)
            | ((with_reducible refine T.skip ?_); simp [*])
            | ((with_reducible refine T.exit ?_); simp [*])
            | ((with_reducible refine T.br fun K1 K2 hK1 hK2 => ?_); simp [*]; try ((refine Br.intro (fun hc => ?_) (fun hc => ?_)) <;> (try simp at hc)))
            | (with_reducible refine Cont.go (by assumption) _ ?_)
            | (with_reducible refine Cnt.go (by assumption) ?_))
          all_goals (unfold Hold; first | rfl | (simp [*]; done))
        · by_cases c2 : 0 < z
          · have c3 : x ≤ 0 := by omega
            clear t1
            by_cases c4 : x = 0
            · repeat' (first
                | (with_reducible refine T.sq fun K hK => ?_)
                | ((first | ((with_reducible refine T.reg hE ?hd ?_); (case hd => kernel_rfl)) | ((with_reducible refine T.any hE mixed ?hd ?hok ?_); (case hd => kernel_rfl); (case hok => kernel_rfl))); simp [*]; (repeat' (split; all_goals (rename_i hc; try simp [*]))))
                | ((with_reducible refine T.ret ?_); refine fin_pure ?_; simp [*]; try (change Hold _))
                | (with_reducible refine T.block ?_)
                | ((with_reducible refine T.skip ?_); simp [*])
                | ((with_reducible refine T.exit ?_); simp [*])
                | ((with_reducible refine T.br fun K1 K2 hK1 hK2 => ?_); simp [*]; try ((refine Br.intro (fun hc => ?_) (fun hc => ?_)) <;> (try simp at hc)))
                | (with_reducible refine Cont.go (by assumption) _ ?_)
                | (with_reducible refine Cnt.go (by assumption) ?_))
              all_goals (unfold Hold; first | rfl | (simp [*]; done))
            · repeat' (first
                | (with_reducible refine T.sq fun K hK => ?_)
                | ((first | ((with_reducible refine T.reg hE ?hd ?_); (case hd => kernel_rfl)) | ((with_reducible refine T.any hE mixed ?hd ?hok ?_); (case hd => kernel_rfl); (case hok => kernel_rfl))); simp [*]; (repeat' (split; all_goals (rename_i hc; try simp [*]))))
                | ((with_reducible refine T.ret ?_); refine fin_pure ?_; simp [*]; try (change Hold _))
                | (with_reducible refine T.block ?_)
                | ((with_reducible refine T.skip ?_); simp [*])
                | ((with_reducible refine T.exit ?_); simp [*])
                | ((with_reducible refine T.br fun K1 K2 hK1 hK2 => ?_); simp [*]; try ((refine Br.intro (fun hc => ?_) (fun hc => ?_)) <;> (try simp at hc)))
                | (with_reducible refine Cont.go (by assumption) _ ?_)
                | (with_reducible refine Cnt.go (by assumption) ?_))
              all_goals (unfold Hold; first | rfl | (simp [*]; done))
          · have c3 : x ≤ 0 := by omega
            have c4 : z ≤ 0 := by omega
            obtain ⟨d1, d2⟩ := t1 c3 c4
            by_cases c5 : w = 0
            · obtain ⟨rfl, rfl⟩ := d2 c5
              subst c5
              clear d2
              repeat' (first
                | (with_reducible refine T.sq fun K hK => ?_)
                | ((first | ((with_reducible refine T.reg hE ?hd ?_); (case hd => kernel_rfl)) | ((with_reducible refine T.any hE mixed ?hd ?hok ?_); (case hd => kernel_rfl); (case hok => kernel_rfl))); simp [*]; (repeat' (split; all_goals (rename_i hc; try simp [*]))))
                | ((with_reducible refine T.ret ?_); refine fin_pure ?_; simp [*]; try (change Hold _))
                | (with_reducible refine T.block ?_)
                | ((with_reducible refine T.skip ?_); simp [*])
                | ((with_reducible refine T.exit ?_); simp [*])
                | ((with_reducible refine T.br fun K1 K2 hK1 hK2 => ?_); simp [*]; try ((refine Br.intro (fun hc => ?_) (fun hc => ?_)) <;> (try simp at hc)))
                | (with_reducible refine Cont.go (by assumption) _ ?_)
                | (with_reducible refine Cnt.go (by assumption) ?_))
              all_goals (unfold Hold; first | rfl | (simp [*]; done))
            · have c6 : w < 0 := by omega
              have c7 : ¬ 0 ≤ w := by omega
              clear d2
              by_cases c8 : x = 0
              · repeat' (first
                  | (with_reducible refine T.sq fun K hK => ?_)
                  | ((first | ((with_reducible refine T.reg hE ?hd ?_); (case hd => kernel_rfl)) | ((with_reducible refine T.any hE mixed ?hd ?hok ?_); (case hd => kernel_rfl); (case hok => kernel_rfl))); simp [*]; (repeat' (split; all_goals (rename_i hc; try simp [*]))))
                  | ((with_reducible refine T.ret ?_); refine fin_pure ?_; simp [*]; try (change Hold _))
                  | (with_reducible refine T.block ?_)
                  | ((with_reducible refine T.skip ?_); simp [*])
                  | ((with_reducible refine T.exit ?_); simp [*])
                  | ((with_reducible refine T.br fun K1 K2 hK1 hK2 => ?_); simp [*]; try ((refine Br.intro (fun hc => ?_) (fun hc => ?_)) <;> (try simp at hc)))
                  | (with_reducible refine Cont.go (by assumption) _ ?_)
                  | (with_reducible refine Cnt.go (by assumption) ?_))
                all_goals (unfold Hold; first | rfl | (simp [*]; done))
              · repeat' (first
                  | (with_reducible refine T.sq fun K hK => ?_)
                  | ((first | ((with_reducible refine T.reg hE ?hd ?_); (case hd => kernel_rfl)) | ((with_reducible refine T.any hE mixed ?hd ?hok ?_); (case hd => kernel_rfl); (case hok => kernel_rfl))); simp [*]; (repeat' (split; all_goals (rename_i hc; try simp [*]))))
                  | ((with_reducible refine T.ret ?_); refine fin_pure ?_; simp [*]; try (change Hold _))
                  | (with_reducible refine T.block ?_)
                  | ((with_reducible refine T.skip ?_); simp [*])
                  | ((with_reducible refine T.exit ?_); simp [*])
                  | ((with_reducible refine T.br fun K1 K2 hK1 hK2 => ?_); simp [*]; try ((refine Br.intro (fun hc => ?_) (fun hc => ?_)) <;> (try simp at hc)))
                  | (with_reducible refine Cont.go (by assumption) _ ?_)
                  | (with_reducible refine Cnt.go (by assumption) ?_))
                all_goals (unfold Hold; first | rfl | (simp [*]; done))
      · repeat' (first
          | (with_reducible refine T.sq fun K hK => ?_)
          | ((first | ((with_reducible refine T.reg hE ?hd ?_); (case hd => kernel_rfl)) | ((with_reducible refine T.any hE mixed ?hd ?hok ?_); (case hd => kernel_rfl); (case hok => kernel_rfl))); simp [*]; (repeat' (split; all_goals (rename_i hc; try simp [*]))))
          | ((with_reducible refine T.ret ?_); refine fin_pure ?_; simp [*]; try (change Hold _))
          | (with_reducible refine T.block ?_)
          | ((with_reducible refine T.skip ?_); simp [*])
          | ((with_reducible refine T.exit ?_); simp [*])
          | ((with_reducible refine T.br fun K1 K2 hK1 hK2 => ?_); simp [*]; try ((refine Br.intro (fun hc => ?_) (fun hc => ?_)) <;> (try simp at hc)))
          | (with_reducible refine Cont.go (by assumption) _ ?_)
          | (with_reducible refine Cnt.go (by assumption) ?_))
        all_goals (unfold Hold; simp [*])
    · repeat' (first
        | (with_reducible refine T.sq fun K hK => ?_)
        | ((first | ((with_reducible refine T.reg hE ?hd ?_); (case hd => kernel_rfl)) | ((with_reducible refine T.any hE mixed ?hd ?hok ?_); (case hd => kernel_rfl); (case hok => kernel_rfl))); simp [*]; (repeat' (split; all_goals (rename_i hc; try simp [*]))))
        | ((with_reducible refine T.ret ?_); refine fin_pure ?_; simp [*]; try (change Hold _))
        | (with_reducible refine T.block ?_)
        | ((with_reducible refine T.skip ?_); simp [*])
        | ((with_reducible refine T.exit ?_); simp [*])
        | ((with_reducible refine T.br fun K1 K2 hK1 hK2 => ?_); simp [*]; try ((refine Br.intro (fun hc => ?_) (fun hc => ?_)) <;> (try simp at hc)))
        | (with_reducible refine Cont.go (by assumption) _ ?_)
        | (with_reducible refine Cnt.go (by assumption) ?_))
      all_goals (unfold Hold; simp [*])
  · repeat' (first
      | (with_reducible refine T.sq fun K hK => ?_)
      | ((first | ((with_reducible refine T.reg hE ?hd ?_); (case hd => kernel_rfl)) | ((with_reducible refine T.any hE mixed ?hd ?hok ?_); (case hd => kernel_rfl); (case hok => kernel_rfl))); simp [*]; (repeat' (split; all_goals (rename_i hc; try simp [*]))))
      | ((with_reducible refine T.ret ?_); refine fin_pure ?_; simp [*]; try (change Hold _))
      | (with_reducible refine T.block ?_)
      | ((with_reducible refine T.skip ?_); simp [*])
      | ((with_reducible refine T.exit ?_); simp [*])
      | ((with_reducible refine T.br fun K1 K2 hK1 hK2 => ?_); simp [*]; try ((refine Br.intro (fun hc => ?_) (fun hc => ?_)) <;> (try simp at hc)))
      | (with_reducible refine Cont.go (by assumption) _ ?_)
      | (with_reducible refine Cnt.go (by assumption) ?_))
    all_goals (unfold Hold; simp [*])
end Go.Proofs.Ytjjagophlcminaa.Ax
