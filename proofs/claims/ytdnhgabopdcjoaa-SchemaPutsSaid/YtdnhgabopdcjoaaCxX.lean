/- The law SchemaPuts, walked. -/
import Derived.Test.YtdnhgabopdcjoaaCxV
import Derived.Test.YtdnhgabopdcjoaaCxO
set_option linter.unusedVariables false
set_option linter.unusedSimpArgs false
namespace Go.Proofs.Ytdnhgabopdcjoaa.Ax
open Go Go.Proofs

mutual
/-- What stands for a variable is swapped. -/
theorem sw_put {x : Int} {t u : Ex} : ∀ (a : Ex) (may : Bool), allX a = true → catE (vaE t) x a = 0 → catE (vaE u) x a = 0 → (hasB (frE a) x = true → may = true) → swE t u (vaE t ||| vaE u) (psF (sgF x t) a) (psF (sgF x u) a) may = true
  | .mk k i l, may, ha, h1, h2, hm => by
    cases hf : hasB (frE (.mk k i l)) x with
    | false => rw [psF_not ha hf, psF_not ha hf]; exact sw_self _ _ _ _ _
    | true =>
      have hmay := hm hf
      subst hmay
      by_cases hk : k = 1
      · have hl : l = [] := kids_none ha hk
        subst hk hl
        have hv := shaped_var ha (.inl rfl)
        simp only [Ex.i_mk] at hv
        rw [frE, if_pos rfl, hasB_one hv] at hf
        have hi : i = x := of_decide_eq_true hf
        have e1 : ∀ z : Ex, psF (sgF x z) (.mk 1 i []) = z := fun z => by rw [psF, if_pos rfl]; unfold sgF; rw [if_pos hi]; rfl
        rw [e1, e1, swE_eq]
        unfold hitB
        rw [ordE_self, ordE_self]; rfl
      · have hq : ¬ ((k = 7 ∨ k = 10) ∧ i = x) := fun h => by
          rw [has_node hk, has_bin (bin_in ha)] at hf
          simp [h.1, h.2] at hf
        obtain ⟨a1, a2⟩ := cat_zero h1 hf
        obtain ⟨b1, b2⟩ := cat_zero h2 hf
        rw [psF, psF, if_neg hk, if_neg hk, quF_sg hq, quF_sg hq, swE]
        have hn : ((decide (k = 7) || decide (k = 10)) && hasB (vaE t ||| vaE u) i) = false := by
          by_cases hb : k = 7 ∨ k = 10
          · rw [hasB_or, bin_not hb (bin_in ha hb) a1, bin_not hb (bin_in ha hb) b1]; simp
          · have : (decide (k = 7) || decide (k = 10)) = false := by simpa using hb
            rw [this]; rfl
        simp only [Ex.k_mk, Ex.i_mk, Ex.kids_mk]
        have hs := sw_putL l (kidsX ha) a2 b2
        rw [hn]
        simp [psL_len, hs]
theorem sw_putL {x : Int} {t u : Ex} : ∀ (l : List Ex), (∀ e ∈ l, allX e = true) → catL (vaE t) x l = 0 → catL (vaE u) x l = 0 → swL t u (vaE t ||| vaE u) (psL (sgF x t) l) (psL (sgF x u) l) true = true
  | [], _, _, _ => by simp only [psL, swL]
  | e :: l, ha, h1, h2 => by
    obtain ⟨a1, a2⟩ := catL_cons h1
    obtain ⟨b1, b2⟩ := catL_cons h2
    simp only [psL]
    rw [swL, sw_put e _ (ha e (by simp)) a1 b1 (fun _ => rfl), sw_putL l (fun y hy => ha y (by simp [hy])) a2 b2]; rfl
end
theorem sw_mk {a b t u : Ex} (h1 : rightE a = 0) (h2 : rightE b = 0) (h3 : rightE t = 0) (h4 : rightE u = 0) (h5 : isT a = false) (h6 : isT b = false) (h7 : isT t = true) (h8 : isT u = true) : swErr a b t u = 0 := by
  unfold swErr sortE
  rw [if_neg (by simp [firstBad, h1, h2, h3, h4])]
  simp [sortsOk, h5, h6, h7, h8]
set_option maxHeartbeats 2000000 in
theorem ok_SchemaPuts : PureOk Try.prog 10 (f4 kE kE kE (kI .i64) fun _ _ _ _ => some (.bool true)) := by
  intro args r h
  obtain ⟨a, t, u, x, rfl, ⟨⟩⟩ := f4_inv h; clear h
  have hE := ((((((EnvOk.nil (P := Try.prog) (eq := fun _ => false) (own := fun _ => false) (mem := fun _ => false) EqOk.none).addf ok_rIsForm).addf ok_rIsTerm).addf ok_rFreeFor).addf ok_Put).addf ok_Swapped)
  refine ⟨⟨Try.f10, Try.func10, by decide, rfl⟩, pure_of_T Try.func10 rfl (by simp [Try.ntmps10]) fun q => ?_⟩
  by_cases d1 : (rightE a == 0 && !isT a) = true
  rotate_left
  · repeat' (first
      | (with_reducible refine T.sq fun K hK => ?_)
      | ((first | ((with_reducible refine T.reg hE ?hd ?_); (case hd => kernel_rfl)) | ((with_reducible refine T.any hE mixed ?hd ?hok ?_); (case hd => kernel_rfl); (case hok => kernel_rfl))); simp [*]; (repeat' (split; all_goals (rename_i hc; try simp [*]))))
      | ((with_reducible refine T.ret ?_); refine fin_pure ?_; simp [*]; try (change Hold _))
      | (with_reducible refine T.block ?_)
      | ((with_reducible refine T.skip ?_); simp [*])
      | ((with_reducible refine T.exit ?_); simp [*])
      | ((with_reducible refine T.br fun K1 K2 hK1 hK2 => ?_); simp [*]; try ((refine Br.intro (fun hc => ?_) (fun hc => ?_)) <;> (try simp at hc)))
      | (with_reducible refine Cont.go (by assumption) _ ?_)
      | (with_reducible refine Cnt.go (by assumption) ?_))
    all_goals (unfold Hold; first | rfl | (simp [*]; done))
  by_cases d2 : (rightE t == 0 && isT t) = true
  rotate_left
  · repeat' (first
      | (with_reducible refine T.sq fun K hK => ?_)
      | ((first | ((with_reducible refine T.reg hE ?hd ?_); (case hd => kernel_rfl)) | ((with_reducible refine T.any hE mixed ?hd ?hok ?_); (case hd => kernel_rfl); (case hok => kernel_rfl))); simp [*]; (repeat' (split; all_goals (rename_i hc; try simp [*]))))
      | ((with_reducible refine T.ret ?_); refine fin_pure ?_; simp [*]; try (change Hold _))
      | (with_reducible refine T.block ?_)
      | ((with_reducible refine T.skip ?_); simp [*])
      | ((with_reducible refine T.exit ?_); simp [*])
      | ((with_reducible refine T.br fun K1 K2 hK1 hK2 => ?_); simp [*]; try ((refine Br.intro (fun hc => ?_) (fun hc => ?_)) <;> (try simp at hc)))
      | (with_reducible refine Cont.go (by assumption) _ ?_)
      | (with_reducible refine Cnt.go (by assumption) ?_))
    all_goals (unfold Hold; first | rfl | (simp [*]; done))
  by_cases d3 : (rightE u == 0 && isT u) = true
  rotate_left
  · repeat' (first
      | (with_reducible refine T.sq fun K hK => ?_)
      | ((first | ((with_reducible refine T.reg hE ?hd ?_); (case hd => kernel_rfl)) | ((with_reducible refine T.any hE mixed ?hd ?hok ?_); (case hd => kernel_rfl); (case hok => kernel_rfl))); simp [*]; (repeat' (split; all_goals (rename_i hc; try simp [*]))))
      | ((with_reducible refine T.ret ?_); refine fin_pure ?_; simp [*]; try (change Hold _))
      | (with_reducible refine T.block ?_)
      | ((with_reducible refine T.skip ?_); simp [*])
      | ((with_reducible refine T.exit ?_); simp [*])
      | ((with_reducible refine T.br fun K1 K2 hK1 hK2 => ?_); simp [*]; try ((refine Br.intro (fun hc => ?_) (fun hc => ?_)) <;> (try simp at hc)))
      | (with_reducible refine Cont.go (by assumption) _ ?_)
      | (with_reducible refine Cnt.go (by assumption) ?_))
    all_goals (unfold Hold; first | rfl | (simp [*]; done))
  by_cases c1 : x < 0
  · repeat' (first
      | (with_reducible refine T.sq fun K hK => ?_)
      | ((first | ((with_reducible refine T.reg hE ?hd ?_); (case hd => kernel_rfl)) | ((with_reducible refine T.any hE mixed ?hd ?hok ?_); (case hd => kernel_rfl); (case hok => kernel_rfl))); simp [*]; (repeat' (split; all_goals (rename_i hc; try simp [*]))))
      | ((with_reducible refine T.ret ?_); refine fin_pure ?_; simp [*]; try (change Hold _))
      | (with_reducible refine T.block ?_)
      | ((with_reducible refine T.skip ?_); simp [*])
      | ((with_reducible refine T.exit ?_); simp [*])
      | ((with_reducible refine T.br fun K1 K2 hK1 hK2 => ?_); simp [*]; try ((refine Br.intro (fun hc => ?_) (fun hc => ?_)) <;> (try simp at hc)))
      | (with_reducible refine Cont.go (by assumption) _ ?_)
      | (with_reducible refine Cnt.go (by assumption) ?_))
    all_goals (unfold Hold; first | rfl | (simp [*]; done))
  by_cases c2 : 63 < x
  · repeat' (first
      | (with_reducible refine T.sq fun K hK => ?_)
      | ((first | ((with_reducible refine T.reg hE ?hd ?_); (case hd => kernel_rfl)) | ((with_reducible refine T.any hE mixed ?hd ?hok ?_); (case hd => kernel_rfl); (case hok => kernel_rfl))); simp [*]; (repeat' (split; all_goals (rename_i hc; try simp [*]))))
      | ((with_reducible refine T.ret ?_); refine fin_pure ?_; simp [*]; try (change Hold _))
      | (with_reducible refine T.block ?_)
      | ((with_reducible refine T.skip ?_); simp [*])
      | ((with_reducible refine T.exit ?_); simp [*])
      | ((with_reducible refine T.br fun K1 K2 hK1 hK2 => ?_); simp [*]; try ((refine Br.intro (fun hc => ?_) (fun hc => ?_)) <;> (try simp at hc)))
      | (with_reducible refine Cont.go (by assumption) _ ?_)
      | (with_reducible refine Cnt.go (by assumption) ?_))
    all_goals (unfold Hold; first | rfl | (simp [*]; done))
  have hx : 0 ≤ x ∧ x ≤ 63 := by omega
  obtain ⟨a1, a2⟩ : rightE a = 0 ∧ isT a = false := by simpa using d1
  obtain ⟨t1, t2⟩ : rightE t = 0 ∧ isT t = true := by simpa using d2
  obtain ⟨u1, u2⟩ : rightE u = 0 ∧ isT u = true := by simpa using d3
  have hoa := (right_zero a1).2.2
  have s1 : swErr a a t u = 0 := sw_mk a1 a1 t1 u1 a2 a2 t2 u2
  have s2 : swB a a t u = true := by unfold swB; rw [s1, sw_self]; rfl
  have pt := put_err hx a1 t1 t2
  have pu := put_err hx a1 u1 u2
  have ft := ffB_eq hx a1 t1 t2
  have fu := ffB_eq hx a1 u1 u2
  by_cases q1 : putErr a x t = 0
  rotate_left
  · by_cases q2 : ffB t x a = true
    · by_cases q3 : ffB u x a = true
      · clear hx pt pu ft fu hoa
        repeat' (first
          | (with_reducible refine T.sq fun K hK => ?_)
          | ((first | ((with_reducible refine T.reg hE ?hd ?_); (case hd => kernel_rfl)) | ((with_reducible refine T.any hE mixed ?hd ?hok ?_); (case hd => kernel_rfl); (case hok => kernel_rfl))); simp [*]; (repeat' (split; all_goals (rename_i hc; try simp [*]))))
          | ((with_reducible refine T.ret ?_); refine fin_pure ?_; simp [*]; try (change Hold _))
          | (with_reducible refine T.block ?_)
          | ((with_reducible refine T.skip ?_); simp [*])
          | ((with_reducible refine T.exit ?_); simp [*])
          | ((with_reducible refine T.br fun K1 K2 hK1 hK2 => ?_); simp [*]; try ((refine Br.intro (fun hc => ?_) (fun hc => ?_)) <;> (try simp at hc)))
          | (with_reducible refine Cont.go (by assumption) _ ?_)
          | (with_reducible refine Cnt.go (by assumption) ?_))
        all_goals (unfold Hold; first | rfl | (simp [*]; done))
      · rw [Bool.not_eq_true] at q3
        clear hx pt pu ft fu hoa
        repeat' (first
          | (with_reducible refine T.sq fun K hK => ?_)
          | ((first | ((with_reducible refine T.reg hE ?hd ?_); (case hd => kernel_rfl)) | ((with_reducible refine T.any hE mixed ?hd ?hok ?_); (case hd => kernel_rfl); (case hok => kernel_rfl))); simp [*]; (repeat' (split; all_goals (rename_i hc; try simp [*]))))
          | ((with_reducible refine T.ret ?_); refine fin_pure ?_; simp [*]; try (change Hold _))
          | (with_reducible refine T.block ?_)
          | ((with_reducible refine T.skip ?_); simp [*])
          | ((with_reducible refine T.exit ?_); simp [*])
          | ((with_reducible refine T.br fun K1 K2 hK1 hK2 => ?_); simp [*]; try ((refine Br.intro (fun hc => ?_) (fun hc => ?_)) <;> (try simp at hc)))
          | (with_reducible refine Cont.go (by assumption) _ ?_)
          | (with_reducible refine Cnt.go (by assumption) ?_))
        all_goals (unfold Hold; first | rfl | (simp [*]; done))
    · rw [Bool.not_eq_true] at q2
      clear hx pt pu ft fu hoa
      repeat' (first
        | (with_reducible refine T.sq fun K hK => ?_)
        | ((first | ((with_reducible refine T.reg hE ?hd ?_); (case hd => kernel_rfl)) | ((with_reducible refine T.any hE mixed ?hd ?hok ?_); (case hd => kernel_rfl); (case hok => kernel_rfl))); simp [*]; (repeat' (split; all_goals (rename_i hc; try simp [*]))))
        | ((with_reducible refine T.ret ?_); refine fin_pure ?_; simp [*]; try (change Hold _))
        | (with_reducible refine T.block ?_)
        | ((with_reducible refine T.skip ?_); simp [*])
        | ((with_reducible refine T.exit ?_); simp [*])
        | ((with_reducible refine T.br fun K1 K2 hK1 hK2 => ?_); simp [*]; try ((refine Br.intro (fun hc => ?_) (fun hc => ?_)) <;> (try simp at hc)))
        | (with_reducible refine Cont.go (by assumption) _ ?_)
        | (with_reducible refine Cnt.go (by assumption) ?_))
      all_goals (unfold Hold; first | rfl | (simp [*]; done))
  by_cases q2 : putErr a x u = 0
  rotate_left
  · by_cases q3 : ffB u x a = true
    · by_cases q4 : ffB t x a = true
      · clear hx pt pu ft fu hoa
        repeat' (first
          | (with_reducible refine T.sq fun K hK => ?_)
          | ((first | ((with_reducible refine T.reg hE ?hd ?_); (case hd => kernel_rfl)) | ((with_reducible refine T.any hE mixed ?hd ?hok ?_); (case hd => kernel_rfl); (case hok => kernel_rfl))); simp [*]; (repeat' (split; all_goals (rename_i hc; try simp [*]))))
          | ((with_reducible refine T.ret ?_); refine fin_pure ?_; simp [*]; try (change Hold _))
          | (with_reducible refine T.block ?_)
          | ((with_reducible refine T.skip ?_); simp [*])
          | ((with_reducible refine T.exit ?_); simp [*])
          | ((with_reducible refine T.br fun K1 K2 hK1 hK2 => ?_); simp [*]; try ((refine Br.intro (fun hc => ?_) (fun hc => ?_)) <;> (try simp at hc)))
          | (with_reducible refine Cont.go (by assumption) _ ?_)
          | (with_reducible refine Cnt.go (by assumption) ?_))
        all_goals (unfold Hold; first | rfl | (simp [*]; done))
      · rw [Bool.not_eq_true] at q4
        clear hx pt pu ft fu hoa
        repeat' (first
          | (with_reducible refine T.sq fun K hK => ?_)
          | ((first | ((with_reducible refine T.reg hE ?hd ?_); (case hd => kernel_rfl)) | ((with_reducible refine T.any hE mixed ?hd ?hok ?_); (case hd => kernel_rfl); (case hok => kernel_rfl))); simp [*]; (repeat' (split; all_goals (rename_i hc; try simp [*]))))
          | ((with_reducible refine T.ret ?_); refine fin_pure ?_; simp [*]; try (change Hold _))
          | (with_reducible refine T.block ?_)
          | ((with_reducible refine T.skip ?_); simp [*])
          | ((with_reducible refine T.exit ?_); simp [*])
          | ((with_reducible refine T.br fun K1 K2 hK1 hK2 => ?_); simp [*]; try ((refine Br.intro (fun hc => ?_) (fun hc => ?_)) <;> (try simp at hc)))
          | (with_reducible refine Cont.go (by assumption) _ ?_)
          | (with_reducible refine Cnt.go (by assumption) ?_))
        all_goals (unfold Hold; first | rfl | (simp [*]; done))
    · rw [Bool.not_eq_true] at q3
      by_cases q4 : ffB t x a = true
      · clear hx pt pu ft fu hoa
        repeat' (first
          | (with_reducible refine T.sq fun K hK => ?_)
          | ((first | ((with_reducible refine T.reg hE ?hd ?_); (case hd => kernel_rfl)) | ((with_reducible refine T.any hE mixed ?hd ?hok ?_); (case hd => kernel_rfl); (case hok => kernel_rfl))); simp [*]; (repeat' (split; all_goals (rename_i hc; try simp [*]))))
          | ((with_reducible refine T.ret ?_); refine fin_pure ?_; simp [*]; try (change Hold _))
          | (with_reducible refine T.block ?_)
          | ((with_reducible refine T.skip ?_); simp [*])
          | ((with_reducible refine T.exit ?_); simp [*])
          | ((with_reducible refine T.br fun K1 K2 hK1 hK2 => ?_); simp [*]; try ((refine Br.intro (fun hc => ?_) (fun hc => ?_)) <;> (try simp at hc)))
          | (with_reducible refine Cont.go (by assumption) _ ?_)
          | (with_reducible refine Cnt.go (by assumption) ?_))
        all_goals (unfold Hold; first | rfl | (simp [*]; done))
      · rw [Bool.not_eq_true] at q4
        clear hx pt pu ft fu hoa
        repeat' (first
          | (with_reducible refine T.sq fun K hK => ?_)
          | ((first | ((with_reducible refine T.reg hE ?hd ?_); (case hd => kernel_rfl)) | ((with_reducible refine T.any hE mixed ?hd ?hok ?_); (case hd => kernel_rfl); (case hok => kernel_rfl))); simp [*]; (repeat' (split; all_goals (rename_i hc; try simp [*]))))
          | ((with_reducible refine T.ret ?_); refine fin_pure ?_; simp [*]; try (change Hold _))
          | (with_reducible refine T.block ?_)
          | ((with_reducible refine T.skip ?_); simp [*])
          | ((with_reducible refine T.exit ?_); simp [*])
          | ((with_reducible refine T.br fun K1 K2 hK1 hK2 => ?_); simp [*]; try ((refine Br.intro (fun hc => ?_) (fun hc => ?_)) <;> (try simp at hc)))
          | (with_reducible refine Cont.go (by assumption) _ ?_)
          | (with_reducible refine Cnt.go (by assumption) ?_))
        all_goals (unfold Hold; first | rfl | (simp [*]; done))
  have k1 : catE (vaE t) x a = 0 := by
    rw [q1] at pt
    split at pt
    · rename_i c; exact c
    · cases pt
  have k2 : catE (vaE u) x a = 0 := by
    rw [q2] at pu
    split at pu
    · rename_i c; exact c
    · cases pu
  rw [k1] at ft
  rw [k2] at fu
  have r1 := put_all q1
  have r2 := put_all q2
  have i1 : isT (putX a x t) = false := by rw [put_good q1, (psF_shape a hoa (termF_sg (right_zero t1).2.2 t2)).2, a2]
  have i2 : isT (putX a x u) = false := by rw [put_good q2, (psF_shape a hoa (termF_sg (right_zero u1).2.2 u2)).2, a2]
  have s3 : swErr (putX a x t) (putX a x u) t u = 0 := sw_mk r1 r2 t1 u1 i1 i2 t2 u2
  have s4 : swB (putX a x t) (putX a x u) t u = true := by
    unfold swB
    rw [s3, put_good q1, put_good q2, sw_put a true hoa k1 k2 (fun _ => rfl)]; rfl
  clear hx pt pu hoa k1 k2 r1 r2 i1 i2
  repeat' (first
    | (with_reducible refine T.sq fun K hK => ?_)
    | ((first | ((with_reducible refine T.reg hE ?hd ?_); (case hd => kernel_rfl)) | ((with_reducible refine T.any hE mixed ?hd ?hok ?_); (case hd => kernel_rfl); (case hok => kernel_rfl))); simp [*]; (repeat' (split; all_goals (rename_i hc; try simp [*]))))
    | ((with_reducible refine T.ret ?_); refine fin_pure ?_; simp [*]; try (change Hold _))
    | (with_reducible refine T.block ?_)
    | ((with_reducible refine T.skip ?_); simp [*])
    | ((with_reducible refine T.exit ?_); simp [*])
    | ((with_reducible refine T.br fun K1 K2 hK1 hK2 => ?_); simp [*]; try ((refine Br.intro (fun hc => ?_) (fun hc => ?_)) <;> (try simp at hc)))
    | (with_reducible refine Cont.go (by assumption) _ ?_)
    | (with_reducible refine Cnt.go (by assumption) ?_))
  all_goals (unfold Hold; first | rfl | (simp [*]; done))
end Go.Proofs.Ytdnhgabopdcjoaa.Ax
