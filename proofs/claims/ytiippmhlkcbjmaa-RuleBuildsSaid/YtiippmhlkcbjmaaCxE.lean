/- The law RuleBuilds, walked. -/
import Derived.Test.YtiippmhlkcbjmaaCxA
import Derived.Test.YtiippmhlkcbjmaaCxC
set_option linter.unusedVariables false
set_option linter.unusedSimpArgs false
namespace Go.Proofs.Ytiippmhlkcbjmaa.Ax
open Go Go.Proofs

theorem all_nodes (b : Ex) (x : Int) : nodesN (.mk 7 x [b]) = nodesN b + 1 := by rw [nodesN_eq, nodesN_eq, cntE, cntL, cntL]
theorem all_dep (b : Ex) (x : Int) : depE (.mk 7 x [b]) = depE b + 1 := by rw [depE, depL, depL]; simp
theorem all_shape {b : Ex} {x : Int} (hx : 0 ≤ x ∧ x ≤ 63) (hb : allX b = true) (ht : isT b = false) : allX (.mk 7 x [b]) = true := by
  rw [allX_eq]
  have : shapedX (.mk 7 x [b]) = true := by
    unfold shapedX mostOf kidsAre
    simp [hx.1, hx.2, ht]
  rw [this]; simp [hb]
set_option maxHeartbeats 2000000 in
theorem ok_RuleBuilds : PureOk Try.prog 13 (f3 kE kE (kI .i64) fun _ _ _ => some (.bool true)) := by
  intro args r h
  obtain ⟨a, b, x, rfl, ⟨⟩⟩ := f3_inv h
  clear h
  have hE := ((((((((((EnvOk.nil (P := Try.prog) (eq := fun _ => false) (own := fun _ => false) (mem := fun _ => false) EqOk.none).addf ok_rIsForm).addf ok_Copy).addf ok_rRight).addf ok_Detach).addf ok_rLike).addf ok_Gen).addf ok_rSize).addf ok_rDepth).addf ok_rIsFree)
  have hr2 : List.range 2 = [0, 1] := rfl
  have hr1 : List.range 1 = [0] := rfl
  refine ⟨⟨Try.f13, Try.func13, by decide, rfl⟩, pure_of_T Try.func13 rfl (by simp [Try.ntmps13]) fun q => ?_⟩
  by_cases v : (rightE a == 0 && !isT a) = true
  · by_cases w : (rightE b == 0 && !isT b) = true
    · by_cases c1 : x < 0
      · repeat' (first
          | (with_reducible refine T.sq fun K hK => ?_)
          | ((first | ((with_reducible refine T.reg hE ?hd ?_); (case hd => kernel_rfl)) | ((with_reducible refine T.any hE mixed ?hd ?hok ?_); (case hd => kernel_rfl); (case hok => kernel_rfl))); simp [*]; (repeat' (split; all_goals (rename_i hc; try simp [*]))))
          | ((with_reducible refine T.ret ?_); refine fin_pure ?_; simp [*]; try (change Hold _))
          | (with_reducible refine T.block ?_)
          | ((with_reducible refine T.skip ?_); simp [*])
          | ((with_reducible refine T.exit ?_); simp [*])
          | ((with_reducible refine T.br fun K1 K2 hK1 hK2 => ?_); simp [*]; try ((refine Br.intro (fun hc => ?_) (fun hc => ?_)) <;> (try simp at hc)))
          | (with_reducible refine Cont.go (by assumption) _ ?_)
          | (with_reducible refine Cnt.go (by assumption) ?_))
        all_goals (unfold Hold; rfl)
      by_cases c2 : 63 < x
      · repeat' (first
          | (with_reducible refine T.sq fun K hK => ?_)
          | ((first | ((with_reducible refine T.reg hE ?hd ?_); (case hd => kernel_rfl)) | ((with_reducible refine T.any hE mixed ?hd ?hok ?_); (case hd => kernel_rfl); (case hok => kernel_rfl))); simp [*]; (repeat' (split; all_goals (rename_i hc; try simp [*]))))
          | ((with_reducible refine T.ret ?_); refine fin_pure ?_; simp [*]; try (change Hold _))
          | (with_reducible refine T.block ?_)
          | ((with_reducible refine T.skip ?_); simp [*])
          | ((with_reducible refine T.exit ?_); simp [*])
          | ((with_reducible refine T.br fun K1 K2 hK1 hK2 => ?_); simp [*]; try ((refine Br.intro (fun hc => ?_) (fun hc => ?_)) <;> (try simp at hc)))
          | (with_reducible refine Cont.go (by assumption) _ ?_)
          | (with_reducible refine Cnt.go (by assumption) ?_))
        all_goals (unfold Hold; rfl)
      have hx : 0 ≤ x ∧ x ≤ 63 := by omega
      obtain ⟨v1, v2⟩ : rightE a = 0 ∧ isT a = false := by simpa using v
      obtain ⟨w1, w2⟩ : rightE b = 0 ∧ isT b = false := by simpa using w
      obtain ⟨b1, b2, hob⟩ := right_zero w1
      have hoa : allX a = true := (right_zero v1).2.2
      have sa := small_all hoa
      have sb := small_all hob
      by_cases u1 : rightE (.mk 6 0 [a, b]) = 0
      · have ht : isT (.mk 6 0 [a, b]) = false := rfl
        have fa : formsE [a, .mk 6 0 [a, b]] = 0 := by
          unfold formsE
          have : firstBad [a, .mk 6 0 [a, b]] = 0 := by simp [firstBad, v1, u1]
          rw [if_neg (by omega)]
          simp [anyT, v2, ht]
        have fb : formsE [b, .mk 6 0 [a, b]] = 0 := by
          unfold formsE
          have : firstBad [b, .mk 6 0 [a, b]] = 0 := by simp [firstBad, w1, u1]
          rw [if_neg (by omega)]
          simp [anyT, w2, ht]
        have d1 : detErr a (.mk 6 0 [a, b]) = 0 := by
          unfold detErr; rw [if_neg (by omega), if_pos ⟨rfl, ordE_self a⟩]
        have d2 : detX a (.mk 6 0 [a, b]) = b := by unfold detX; rw [if_pos d1]; rfl
        have d3 : detErr b (.mk 6 0 [a, b]) = if ordE a b = 0 then 0 else 80 := by
          unfold detErr; rw [if_neg (by omega)]
          have hfl := ordE_flip a b
          by_cases z : ordE a b = 0
          · rw [if_pos ⟨rfl, show ordE b a = 0 by omega⟩, if_pos z]
          · rw [if_neg (fun h => z (by have : ordE b a = 0 := h.2; omega)), if_neg z]
        have ob := ordE_self b
        have ge : genErr b x = rightE (.mk 7 x [b]) := by
          have : wantF b = 0 := by unfold wantF; rw [if_neg (by omega), w2]; rfl
          unfold genErr; rw [if_pos hx, if_neg (by omega)]; rfl
        have hall := all_shape hx hob w2
        have hrt : rightE (.mk 7 x [b]) = if nodesN b = 1000 then 20 else if depE b = 100 then 21 else 0 := by
          rw [rightE_eq, all_nodes, all_dep, if_pos hall]
          by_cases z1 : nodesN b = 1000
          · rw [if_pos (by omega), if_pos z1]
          · rw [if_neg (by omega), if_neg z1]
            by_cases z2 : depE b = 100
            · rw [if_pos (by omega), if_pos z2]
            · rw [if_neg (by omega), if_neg z2]
        clear v w hoa
        have main : ∀ n : Int, n = (if ordE a b = 0 then 0 else 80) → (n = 0 ∧ ordE a b = 0) ∨ (n = 80 ∧ ¬ ordE a b = 0) := fun n h => by
          by_cases z : ordE a b = 0
          · rw [if_pos z] at h; exact .inl ⟨h, z⟩
          · rw [if_neg z] at h; exact .inr ⟨h, z⟩
        have hcase := main _ d3
        clear main d3 fa fb
        by_cases z1 : nodesN b = 1000
        · rw [if_pos z1] at hrt
          rw [hrt] at ge
          clear hrt hall hx
          have m1 : min (nodesN b) 1001 = 1000 := by omega
          by_cases z2 : depE b = 100
          · have m2 : min (depE b) 101 = 100 := by omega
            rcases hcase with ⟨d3, z⟩ | ⟨d3, z⟩
            · repeat' (first
                | (with_reducible refine T.sq fun K hK => ?_)
                | ((first | ((with_reducible refine T.reg hE ?hd ?_); (case hd => kernel_rfl)) | ((with_reducible refine T.any hE mixed ?hd ?hok ?_); (case hd => kernel_rfl); (case hok => kernel_rfl))); simp [*]; (repeat' (split; all_goals (rename_i hc; try simp [*]))))
                | ((with_reducible refine T.ret ?_); refine fin_pure ?_; simp [*]; try (change Hold _))
                | (with_reducible refine T.block ?_)
                | ((with_reducible refine T.skip ?_); simp [*])
                | ((with_reducible refine T.exit ?_); simp [*])
                | ((with_reducible refine T.br fun K1 K2 hK1 hK2 => ?_); simp [*]; try ((refine Br.intro (fun hc => ?_) (fun hc => ?_)) <;> (try simp at hc)))
                | (with_reducible refine Cont.go (by assumption) _ ?_)
                | (with_reducible refine Cnt.go (by assumption) ?_))
              all_goals (unfold Hold; first | rfl | (simp [*]; done))
            · repeat' (first
                | (with_reducible refine T.sq fun K hK => ?_)
                | ((first | ((with_reducible refine T.reg hE ?hd ?_); (case hd => kernel_rfl)) | ((with_reducible refine T.any hE mixed ?hd ?hok ?_); (case hd => kernel_rfl); (case hok => kernel_rfl))); simp [*]; (repeat' (split; all_goals (rename_i hc; try simp [*]))))
                | ((with_reducible refine T.ret ?_); refine fin_pure ?_; simp [*]; try (change Hold _))
                | (with_reducible refine T.block ?_)
                | ((with_reducible refine T.skip ?_); simp [*])
                | ((with_reducible refine T.exit ?_); simp [*])
                | ((with_reducible refine T.br fun K1 K2 hK1 hK2 => ?_); simp [*]; try ((refine Br.intro (fun hc => ?_) (fun hc => ?_)) <;> (try simp at hc)))
                | (with_reducible refine Cont.go (by assumption) _ ?_)
                | (with_reducible refine Cnt.go (by assumption) ?_))
              all_goals (unfold Hold; first | rfl | (simp [*]; done))
          · have m2 : ¬ (min (depE b) 101 : Nat) = 100 := by omega
            have m3 : ¬ ((min (depE b) 101 : Nat) : Int) = 100 := by omega
            rcases hcase with ⟨d3, z⟩ | ⟨d3, z⟩
            · repeat' (first
                | (with_reducible refine T.sq fun K hK => ?_)
                | ((first | ((with_reducible refine T.reg hE ?hd ?_); (case hd => kernel_rfl)) | ((with_reducible refine T.any hE mixed ?hd ?hok ?_); (case hd => kernel_rfl); (case hok => kernel_rfl))); simp [*]; (repeat' (split; all_goals (rename_i hc; try simp [*]))))
                | ((with_reducible refine T.ret ?_); refine fin_pure ?_; simp [*]; try (change Hold _))
                | (with_reducible refine T.block ?_)
                | ((with_reducible refine T.skip ?_); simp [*])
                | ((with_reducible refine T.exit ?_); simp [*])
                | ((with_reducible refine T.br fun K1 K2 hK1 hK2 => ?_); simp [*]; try ((refine Br.intro (fun hc => ?_) (fun hc => ?_)) <;> (try simp at hc)))
                | (with_reducible refine Cont.go (by assumption) _ ?_)
                | (with_reducible refine Cnt.go (by assumption) ?_))
              all_goals (unfold Hold; first | rfl | (simp [*]; done))
            · repeat' (first
                | (with_reducible refine T.sq fun K hK => ?_)
                | ((first | ((with_reducible refine T.reg hE ?hd ?_); (case hd => kernel_rfl)) | ((with_reducible refine T.any hE mixed ?hd ?hok ?_); (case hd => kernel_rfl); (case hok => kernel_rfl))); simp [*]; (repeat' (split; all_goals (rename_i hc; try simp [*]))))
                | ((with_reducible refine T.ret ?_); refine fin_pure ?_; simp [*]; try (change Hold _))
                | (with_reducible refine T.block ?_)
                | ((with_reducible refine T.skip ?_); simp [*])
                | ((with_reducible refine T.exit ?_); simp [*])
                | ((with_reducible refine T.br fun K1 K2 hK1 hK2 => ?_); simp [*]; try ((refine Br.intro (fun hc => ?_) (fun hc => ?_)) <;> (try simp at hc)))
                | (with_reducible refine Cont.go (by assumption) _ ?_)
                | (with_reducible refine Cnt.go (by assumption) ?_))
              all_goals (unfold Hold; first | rfl | (simp [*]; done))
        · rw [if_neg z1] at hrt
          by_cases z2 : depE b = 100
          · rw [if_pos z2] at hrt
            rw [hrt] at ge
            clear hrt hall hx
            have m2 : min (depE b) 101 = 100 := by omega
            rcases hcase with ⟨d3, z⟩ | ⟨d3, z⟩
            · repeat' (first
                | (with_reducible refine T.sq fun K hK => ?_)
                | ((first | ((with_reducible refine T.reg hE ?hd ?_); (case hd => kernel_rfl)) | ((with_reducible refine T.any hE mixed ?hd ?hok ?_); (case hd => kernel_rfl); (case hok => kernel_rfl))); simp [*]; (repeat' (split; all_goals (rename_i hc; try simp [*]))))
                | ((with_reducible refine T.ret ?_); refine fin_pure ?_; simp [*]; try (change Hold _))
                | (with_reducible refine T.block ?_)
                | ((with_reducible refine T.skip ?_); simp [*])
                | ((with_reducible refine T.exit ?_); simp [*])
                | ((with_reducible refine T.br fun K1 K2 hK1 hK2 => ?_); simp [*]; try ((refine Br.intro (fun hc => ?_) (fun hc => ?_)) <;> (try simp at hc)))
                | (with_reducible refine Cont.go (by assumption) _ ?_)
                | (with_reducible refine Cnt.go (by assumption) ?_))
              all_goals (unfold Hold; first | rfl | (simp [*]; done))
            · repeat' (first
                | (with_reducible refine T.sq fun K hK => ?_)
                | ((first | ((with_reducible refine T.reg hE ?hd ?_); (case hd => kernel_rfl)) | ((with_reducible refine T.any hE mixed ?hd ?hok ?_); (case hd => kernel_rfl); (case hok => kernel_rfl))); simp [*]; (repeat' (split; all_goals (rename_i hc; try simp [*]))))
                | ((with_reducible refine T.ret ?_); refine fin_pure ?_; simp [*]; try (change Hold _))
                | (with_reducible refine T.block ?_)
                | ((with_reducible refine T.skip ?_); simp [*])
                | ((with_reducible refine T.exit ?_); simp [*])
                | ((with_reducible refine T.br fun K1 K2 hK1 hK2 => ?_); simp [*]; try ((refine Br.intro (fun hc => ?_) (fun hc => ?_)) <;> (try simp at hc)))
                | (with_reducible refine Cont.go (by assumption) _ ?_)
                | (with_reducible refine Cnt.go (by assumption) ?_))
              all_goals (unfold Hold; first | rfl | (simp [*]; done))
          · rw [if_neg z2] at hrt
            rw [hrt] at ge
            have gx : genX b x = .mk 7 x [b] := by unfold genX; rw [if_pos ge]; rfl
            have hokx : okX (.mk 7 x [b]) := hall
            have hnf : hasB (frE (.mk 7 x [b])) x = false := by
              rw [all_fr, hasB_dif, hasB_one hx]; simp
            clear hrt hall hx
            rcases hcase with ⟨d3, z⟩ | ⟨d3, z⟩
            · repeat' (first
                | (with_reducible refine T.sq fun K hK => ?_)
                | ((first | ((with_reducible refine T.reg hE ?hd ?_); (case hd => kernel_rfl)) | ((with_reducible refine T.any hE mixed ?hd ?hok ?_); (case hd => kernel_rfl); (case hok => kernel_rfl))); simp [*]; (repeat' (split; all_goals (rename_i hc; try simp [*]))))
                | ((with_reducible refine T.ret ?_); refine fin_pure ?_; simp [*]; try (change Hold _))
                | (with_reducible refine T.block ?_)
                | ((with_reducible refine T.skip ?_); simp [*])
                | ((with_reducible refine T.exit ?_); simp [*])
                | ((with_reducible refine T.br fun K1 K2 hK1 hK2 => ?_); simp [*]; try ((refine Br.intro (fun hc => ?_) (fun hc => ?_)) <;> (try simp at hc)))
                | (with_reducible refine Cont.go (by assumption) _ ?_)
                | (with_reducible refine Cnt.go (by assumption) ?_))
              all_goals (unfold Hold; first | rfl | (simp [*]; done))
            · repeat' (first
                | (with_reducible refine T.sq fun K hK => ?_)
                | ((first | ((with_reducible refine T.reg hE ?hd ?_); (case hd => kernel_rfl)) | ((with_reducible refine T.any hE mixed ?hd ?hok ?_); (case hd => kernel_rfl); (case hok => kernel_rfl))); simp [*]; (repeat' (split; all_goals (rename_i hc; try simp [*]))))
                | ((with_reducible refine T.ret ?_); refine fin_pure ?_; simp [*]; try (change Hold _))
                | (with_reducible refine T.block ?_)
                | ((with_reducible refine T.skip ?_); simp [*])
                | ((with_reducible refine T.exit ?_); simp [*])
                | ((with_reducible refine T.br fun K1 K2 hK1 hK2 => ?_); simp [*]; try ((refine Br.intro (fun hc => ?_) (fun hc => ?_)) <;> (try simp at hc)))
                | (with_reducible refine Cont.go (by assumption) _ ?_)
                | (with_reducible refine Cnt.go (by assumption) ?_))
              all_goals (unfold Hold; first | rfl | (simp [*]; done))
      · clear v w hx
        repeat' (first
          | (with_reducible refine T.sq fun K hK => ?_)
          | ((first | ((with_reducible refine T.reg hE ?hd ?_); (case hd => kernel_rfl)) | ((with_reducible refine T.any hE mixed ?hd ?hok ?_); (case hd => kernel_rfl); (case hok => kernel_rfl))); simp [*]; (repeat' (split; all_goals (rename_i hc; try simp [*]))))
          | ((with_reducible refine T.ret ?_); refine fin_pure ?_; simp [*]; try (change Hold _))
          | (with_reducible refine T.block ?_)
          | ((with_reducible refine T.skip ?_); simp [*])
          | ((with_reducible refine T.exit ?_); simp [*])
          | ((with_reducible refine T.br fun K1 K2 hK1 hK2 => ?_); simp [*]; try ((refine Br.intro (fun hc => ?_) (fun hc => ?_)) <;> (try simp at hc)))
          | (with_reducible refine Cont.go (by assumption) _ ?_)
          | (with_reducible refine Cnt.go (by assumption) ?_))
        all_goals (unfold Hold; rfl)
    · rw [Bool.not_eq_true] at w
      repeat' (first
        | (with_reducible refine T.sq fun K hK => ?_)
        | ((first | ((with_reducible refine T.reg hE ?hd ?_); (case hd => kernel_rfl)) | ((with_reducible refine T.any hE mixed ?hd ?hok ?_); (case hd => kernel_rfl); (case hok => kernel_rfl))); simp [*]; (repeat' (split; all_goals (rename_i hc; try simp [*]))))
        | ((with_reducible refine T.ret ?_); refine fin_pure ?_; simp [*]; try (change Hold _))
        | (with_reducible refine T.block ?_)
        | ((with_reducible refine T.skip ?_); simp [*])
        | ((with_reducible refine T.exit ?_); simp [*])
        | ((with_reducible refine T.br fun K1 K2 hK1 hK2 => ?_); simp [*]; try ((refine Br.intro (fun hc => ?_) (fun hc => ?_)) <;> (try simp at hc)))
        | (with_reducible refine Cont.go (by assumption) _ ?_)
        | (with_reducible refine Cnt.go (by assumption) ?_))
      all_goals (unfold Hold; rfl)
  · rw [Bool.not_eq_true] at v
    repeat' (first
      | (with_reducible refine T.sq fun K hK => ?_)
      | ((first | ((with_reducible refine T.reg hE ?hd ?_); (case hd => kernel_rfl)) | ((with_reducible refine T.any hE mixed ?hd ?hok ?_); (case hd => kernel_rfl); (case hok => kernel_rfl))); simp [*]; (repeat' (split; all_goals (rename_i hc; try simp [*]))))
      | ((with_reducible refine T.ret ?_); refine fin_pure ?_; simp [*]; try (change Hold _))
      | (with_reducible refine T.block ?_)
      | ((with_reducible refine T.skip ?_); simp [*])
      | ((with_reducible refine T.exit ?_); simp [*])
      | ((with_reducible refine T.br fun K1 K2 hK1 hK2 => ?_); simp [*]; try ((refine Br.intro (fun hc => ?_) (fun hc => ?_)) <;> (try simp at hc)))
      | (with_reducible refine Cont.go (by assumption) _ ?_)
      | (with_reducible refine Cnt.go (by assumption) ?_))
    all_goals (unfold Hold; rfl)
end Go.Proofs.Ytiippmhlkcbjmaa.Ax
