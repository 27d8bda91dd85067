/- The laws SubstOnce and SubstTurns, walked. -/
import Derived.Test.YtdnhgabopdcjoaaCxY
set_option linter.unusedVariables false
set_option linter.unusedSimpArgs false
namespace Go.Proofs.Ytdnhgabopdcjoaa.Ax
open Go Go.Proofs

theorem lk_nil : lkF [] = fun _ => none := by funext y; rfl
theorem each_none {a : Ex} (h : rightE a = 0) : eaV a [] = .tup [enc a, .int .i64 0] := by
  have he : eachErr a [] = 0 := each_mk ⟨fun p hp => by simp at hp, by simp⟩ h fun p hp => by simp at hp
  rw [eaV_good he]
  unfold plV
  rw [lk_nil, psF_none (right_zero h).2.2]
  exact frV_good h
theorem vars_one {x : Int} {t : Ex} : VarsP [(x, t)] ↔ 0 ≤ x ∧ x ≤ 63 := by
  constructor
  · intro h; exact h.1 (x, t) (by simp)
  · intro h
    refine ⟨fun p hp => ?_, by simp⟩
    obtain rfl : p = (x, t) := by simpa using hp
    exact h
theorem each_one {a t : Ex} {x : Int} (h1 : rightE a = 0) (h2 : rightE t = 0) : eaV a [(x, t)] = .tup [enc (putX a x t), .int .i64 (putErr a x t)] := by
  have he : eachErr a [(x, t)] = askE a x t := by
    unfold eachErr askE bothE
    by_cases hx : 0 ≤ x ∧ x ≤ 63
    · rw [if_pos (vars_one.2 hx), if_pos hx, h1, h2]
      have hf : firstBad (sndL [(x, t)]) = 0 := by simp [sndL, firstBad, h2]
      have ht : allT (sndL [(x, t)]) = isT t := by simp [sndL, allT]
      rw [hf, ht]; simp
    · rw [if_neg (fun h => hx (vars_one.1 h)), if_neg hx]
  by_cases v : askE a x t = 0
  · rw [eaV_good (he.trans v)]
    have hpl : plV a [(x, t)] = if ffB t x a = true then frV (psF (sgF x t) a) else .tup [enc ex0, .int .i64 50] := by
      unfold plV ffL
      rw [lk_sg]; simp
    rw [hpl]
    have hp : putErr a x t = if ffB t x a = true then rightE (psF (sgF x t) a) else 50 := by unfold putErr; rw [if_neg (by omega)]
    by_cases w : ffB t x a = true
    · rw [if_pos w] at hp ⊢
      by_cases u : rightE (psF (sgF x t) a) = 0
      · rw [frV_good u, put_good (hp.trans u), hp, u]
      · rw [frV_bad rfl u, put_bad hp u, hp]
    · rw [if_neg w] at hp ⊢
      rw [put_bad hp (by omega), hp]
  · have hp : putErr a x t = askE a x t := by unfold putErr; rw [if_pos v]
    rw [eaV_bad he v, put_bad hp v, hp]
set_option maxHeartbeats 2000000 in
theorem ok_SubstOnce : PureOk Try.prog 8 (f3 kE (kI .i64) kE fun _ _ _ => some (.bool true)) := by
  intro args r h
  obtain ⟨a, x, t, rfl, ⟨⟩⟩ := f3_inv h
  clear h
  have hE := ((((((EnvOk.nil (P := Try.prog) (eq := fun _ => false) (own := fun _ => false) (mem := fun _ => false) EqOk.none).addf ok_rRight).addf ok_Each).addf ok_Put).addf ok_rLike).addf ok_rIsForm)
  refine ⟨⟨Try.f8, Try.func8, by decide, rfl⟩, pure_of_T Try.func8 rfl (by simp [Try.ntmps8]) fun q => ?_⟩
  have hr1 : List.range 1 = [0] := rfl
  have hd0 : rPair.decL [] = some [] := rfl
  have hdl : rPair.decL [[.int .i64 x, .int .i64 t.k, .int .i64 t.i, .sl (encL t.kids) .no]] = some [(x, t)] := by simp [Rw.decL]
  by_cases v1 : rightE a = 0
  rotate_left
  · repeat' (first
      | (with_reducible refine T.sq fun K hK => ?_)
      | ((first | ((with_reducible refine T.reg hE ?hd ?_); (case hd => kernel_rfl)) | ((with_reducible refine T.any hE mixed ?hd ?hok ?_); (case hd => kernel_rfl); (case hok => kernel_rfl))); simp [*]; (repeat' (split; all_goals (rename_i hc; try simp [*]))))
      | ((with_reducible refine T.ret ?_); refine fin_pure ?_; simp [*]; try (change Hold _))
      | (with_reducible refine T.block ?_)
      | ((with_reducible refine T.skip ?_); simp [*])
      | ((with_reducible refine T.exit ?_); simp [*])
      | ((with_reducible refine T.br fun K1 K2 hK1 hK2 => ?_); simp [*]; try ((refine Br.intro (fun hc => ?_) (fun hc => ?_)) <;> (try simp at hc)))
      | (with_reducible refine Cont.go (by assumption) _ ?_)
      | (with_reducible refine Cnt.go (by assumption) ?_))
    all_goals (unfold Hold; first | rfl | (simp [*]; done))
  by_cases v2 : rightE t = 0
  rotate_left
  · repeat' (first
      | (with_reducible refine T.sq fun K hK => ?_)
      | ((first | ((with_reducible refine T.reg hE ?hd ?_); (case hd => kernel_rfl)) | ((with_reducible refine T.any hE mixed ?hd ?hok ?_); (case hd => kernel_rfl); (case hok => kernel_rfl))); simp [*]; (repeat' (split; all_goals (rename_i hc; try simp [*]))))
      | ((with_reducible refine T.ret ?_); refine fin_pure ?_; simp [*]; try (change Hold _))
      | (with_reducible refine T.block ?_)
      | ((with_reducible refine T.skip ?_); simp [*])
      | ((with_reducible refine T.exit ?_); simp [*])
      | ((with_reducible refine T.br fun K1 K2 hK1 hK2 => ?_); simp [*]; try ((refine Br.intro (fun hc => ?_) (fun hc => ?_)) <;> (try simp at hc)))
      | (with_reducible refine Cont.go (by assumption) _ ?_)
      | (with_reducible refine Cnt.go (by assumption) ?_))
    all_goals (unfold Hold; first | rfl | (simp [*]; done))
  have e1 := each_none v1
  have e2 := each_one (x := x) v1 v2
  have o1 := ordE_self a
  have o2 := ordE_self (putX a x t)
  have hc : (isT t = true ∧ ¬ putErr a x t = 40) ∨ isT t = false := by
    cases ht : isT t with
    | false => exact .inr rfl
    | true =>
      refine .inl ⟨rfl, fun h => ?_⟩
      by_cases hx : 0 ≤ x ∧ x ≤ 63
      · rw [put_err hx v1 v2 ht] at h
        split at h
        · rcases psF_err (f := sgF x t) (right_zero v1).2.2 (termF_sg (right_zero v2).2.2 ht) with p | p | p <;> omega
        · omega
      · unfold putErr askE at h
        rw [if_neg hx, if_pos (by omega)] at h
        omega
  rcases hc with ⟨c1, c2⟩ | c1
  · repeat' (first
      | (with_reducible refine T.sq fun K hK => ?_)
      | ((first | ((with_reducible refine T.reg hE ?hd ?_); (case hd => kernel_rfl)) | ((with_reducible refine T.any hE mixed ?hd ?hok ?_); (case hd => kernel_rfl); (case hok => kernel_rfl))); simp [*]; (repeat' (split; all_goals (rename_i hc; try simp [*]))))
      | ((with_reducible refine T.ret ?_); refine fin_pure ?_; simp [*]; try (change Hold _))
      | (with_reducible refine T.block ?_)
      | ((with_reducible refine T.skip ?_); simp [*])
      | ((with_reducible refine T.exit ?_); simp [*])
      | ((with_reducible refine T.br fun K1 K2 hK1 hK2 => ?_); simp [*]; try ((refine Br.intro (fun hc => ?_) (fun hc => ?_)) <;> (try simp at hc)))
      | (with_reducible refine Cont.go (by assumption) _ ?_)
      | (with_reducible refine Cnt.go (by assumption) ?_))
    all_goals (unfold Hold; first | rfl | (simp [*]; done))
  · by_cases c2 : putErr a x t = 40
    · repeat' (first
        | (with_reducible refine T.sq fun K hK => ?_)
        | ((first | ((with_reducible refine T.reg hE ?hd ?_); (case hd => kernel_rfl)) | ((with_reducible refine T.any hE mixed ?hd ?hok ?_); (case hd => kernel_rfl); (case hok => kernel_rfl))); simp [*]; (repeat' (split; all_goals (rename_i hc; try simp [*]))))
        | ((with_reducible refine T.ret ?_); refine fin_pure ?_; simp [*]; try (change Hold _))
        | (with_reducible refine T.block ?_)
        | ((with_reducible refine T.skip ?_); simp [*])
        | ((with_reducible refine T.exit ?_); simp [*])
        | ((with_reducible refine T.br fun K1 K2 hK1 hK2 => ?_); simp [*]; try ((refine Br.intro (fun hc => ?_) (fun hc => ?_)) <;> (try simp at hc)))
        | (with_reducible refine Cont.go (by assumption) _ ?_)
        | (with_reducible refine Cnt.go (by assumption) ?_))
      all_goals (unfold Hold; first | rfl | (simp [*]; done))
    · repeat' (first
        | (with_reducible refine T.sq fun K hK => ?_)
        | ((first | ((with_reducible refine T.reg hE ?hd ?_); (case hd => kernel_rfl)) | ((with_reducible refine T.any hE mixed ?hd ?hok ?_); (case hd => kernel_rfl); (case hok => kernel_rfl))); simp [*]; (repeat' (split; all_goals (rename_i hc; try simp [*]))))
        | ((with_reducible refine T.ret ?_); refine fin_pure ?_; simp [*]; try (change Hold _))
        | (with_reducible refine T.block ?_)
        | ((with_reducible refine T.skip ?_); simp [*])
        | ((with_reducible refine T.exit ?_); simp [*])
        | ((with_reducible refine T.br fun K1 K2 hK1 hK2 => ?_); simp [*]; try ((refine Br.intro (fun hc => ?_) (fun hc => ?_)) <;> (try simp at hc)))
        | (with_reducible refine Cont.go (by assumption) _ ?_)
        | (with_reducible refine Cnt.go (by assumption) ?_))
      all_goals (unfold Hold; first | rfl | (simp [*]; done))
theorem var_term {x : Int} (hx : 0 ≤ x ∧ x ≤ 63) : allX (.mk 1 x []) = true ∧ isT (.mk 1 x []) = true := ⟨var_all hx, rfl⟩
theorem varF_sg (x y : Int) : VarF (sgF x (.mk 1 y [])) := fun z t ht => by
  unfold sgF at ht
  split at ht
  · cases ht; exact ⟨y, rfl⟩
  · cases ht
theorem turn_once {a : Ex} {x y : Int} (hx : 0 ≤ x ∧ x ≤ 63) (hy : 0 ≤ y ∧ y ≤ 63) (h1 : rightE a = 0) (hv : hasB (vaE a) y = false) :
    putErr a x (.mk 1 y []) = 0 ∧ putErr (putX a x (.mk 1 y [])) y (.mk 1 x []) = 0 ∧ putX (putX a x (.mk 1 y [])) y (.mk 1 x []) = a := by
  have ha := (right_zero h1).2.2
  have hbo : hasB (boE a) y = false ∧ hasB (ocE a) y = false := by
    unfold vaE at hv
    rw [hasB_or, Bool.or_eq_false_iff] at hv
    exact hv
  have t1 := termF_sg (x := x) (var_all hy) (rfl : isT (.mk 1 y []) = true)
  have e1 : putErr a x (.mk 1 y []) = 0 := by
    rw [put_err hx h1 (var_right hy) rfl, var_va, if_pos (cat_out hy hbo.1)]
    exact psF_right h1 t1 (varF_sg x y)
  have r1 : rightE (psF (sgF x (.mk 1 y [])) a) = 0 := psF_right h1 t1 (varF_sg x y)
  have e2 : putErr (putX a x (.mk 1 y [])) y (.mk 1 x []) = 0 := by
    rw [put_good e1, put_err hy r1 (var_right hx) rfl, var_va, if_pos (cat_back hx a ha hbo.2 hbo.1)]
    exact psF_right r1 (termF_sg (var_all hx) rfl) (varF_sg y x)
  refine ⟨e1, e2, ?_⟩
  rw [put_good e2, put_good e1]
  exact turn_back a ha hbo.2 hbo.1
theorem lk_tw {x y : Int} (h : ¬ x = y) : lkF [(x, .mk 1 y []), (y, .mk 1 x [])] = twF x y := by
  funext z
  unfold twF
  show (if x = z then some _ else if y = z then some _ else none) = _
  by_cases e : x = z
  · subst e; simp
  · have e' : ¬ z = x := fun q => e q.symm
    rw [if_neg e, if_neg e']
    by_cases e2 : y = z
    · subst e2; simp
    · have e3 : ¬ z = y := fun q => e2 q.symm
      rw [if_neg e2, if_neg e3]
theorem tw_term {x y : Int} (hx : 0 ≤ x ∧ x ≤ 63) (hy : 0 ≤ y ∧ y ≤ 63) : TermF (twF x y) ∧ VarF (twF x y) := by
  constructor
  · intro z t ht
    unfold twF at ht
    split at ht
    · cases ht; exact var_term hy
    · split at ht
      · cases ht; exact var_term hx
      · cases ht
  · intro z t ht
    unfold twF at ht
    split at ht
    · cases ht; exact ⟨y, rfl⟩
    · split at ht
      · cases ht; exact ⟨x, rfl⟩
      · cases ht
theorem each_tw {a : Ex} {x y : Int} (hx : 0 ≤ x ∧ x ≤ 63) (hy : 0 ≤ y ∧ y ≤ 63) (hxy : ¬ x = y) (h1 : rightE a = 0) (hb : boE a = 0) : eaV a [(x, .mk 1 y []), (y, .mk 1 x [])] = .tup [enc (psF (twF x y) a), .int .i64 0] ∧ rightE (psF (twF x y) a) = 0 := by
  obtain ⟨t1, t2⟩ := tw_term hx hy
  have hr := psF_right h1 t1 t2
  refine ⟨?_, hr⟩
  have he : eachErr a [(x, .mk 1 y []), (y, .mk 1 x [])] = 0 := by
    refine each_mk ⟨fun p hp => ?_, by simp [hxy]⟩ h1 fun p hp => ?_
    · simp at hp
      rcases hp with rfl | rfl
      · exact hx
      · exact hy
    · simp at hp
      rcases hp with rfl | rfl
      · exact ⟨var_right hy, rfl⟩
      · exact ⟨var_right hx, rfl⟩
  rw [eaV_good he]
  unfold plV ffL
  rw [lk_tw hxy]
  have f1 : ffB (.mk 1 y []) x a = true := by rw [ffB_eq hx h1 (var_right hy) rfl, cat_no_binder _ _ hb]; rfl
  have f2 : ffB (.mk 1 x []) y a = true := by rw [ffB_eq hy h1 (var_right hx) rfl, cat_no_binder _ _ hb]; rfl
  simp [f1, f2, frV_good hr]
set_option maxHeartbeats 2000000 in
theorem ok_SubstTurns : PureOk Try.prog 7 (f3 kE (kI .i64) (kI .i64) fun _ _ _ => some (.bool true)) := by
  intro args r h
  obtain ⟨a, x, y, rfl, ⟨⟩⟩ := f3_inv h
  clear h
  have hE := (((((((((EnvOk.nil (P := Try.prog) (eq := fun _ => false) (own := fun _ => false) (mem := fun _ => false) EqOk.none).addf ok_rRight).addf ok_rVarsS).addf ok_rHas).addf ok_variable).addf ok_Put).addf ok_rLike).addf ok_rBound).addf ok_Each)
  refine ⟨⟨Try.f7, Try.func7, by decide, rfl⟩, pure_of_T Try.func7 rfl (by simp [Try.ntmps7]) fun q => ?_⟩
  have hr2 : List.range 2 = [0, 1] := rfl
  by_cases v1 : rightE a = 0
  rotate_left
  · repeat' (first
      | (with_reducible refine T.sq fun K hK => ?_)
      | ((first | ((with_reducible refine T.reg hE ?hd ?_); (case hd => kernel_rfl)) | ((with_reducible refine T.any hE mixed ?hd ?hok ?_); (case hd => kernel_rfl); (case hok => kernel_rfl))); simp [*]; (repeat' (split; all_goals (rename_i hc; try simp [*]))))
      | ((with_reducible refine T.ret ?_); refine fin_pure ?_; simp [*]; try (change Hold _))
      | (with_reducible refine T.block ?_)
      | ((with_reducible refine T.skip ?_); simp [*])
      | ((with_reducible refine T.exit ?_); simp [*])
      | ((with_reducible refine T.br fun K1 K2 hK1 hK2 => ?_); simp [*]; try ((refine Br.intro (fun hc => ?_) (fun hc => ?_)) <;> (try simp at hc)))
      | (with_reducible refine Cont.go (by assumption) _ ?_)
      | (with_reducible refine Cnt.go (by assumption) ?_))
    all_goals (unfold Hold; first | rfl | (simp [*]; done))
  by_cases c1 : x < 0
  · repeat' (first
      | (with_reducible refine T.sq fun K hK => ?_)
      | ((first | ((with_reducible refine T.reg hE ?hd ?_); (case hd => kernel_rfl)) | ((with_reducible refine T.any hE mixed ?hd ?hok ?_); (case hd => kernel_rfl); (case hok => kernel_rfl))); simp [*]; (repeat' (split; all_goals (rename_i hc; try simp [*]))))
      | ((with_reducible refine T.ret ?_); refine fin_pure ?_; simp [*]; try (change Hold _))
      | (with_reducible refine T.block ?_)
      | ((with_reducible refine T.skip ?_); simp [*])
      | ((with_reducible refine T.exit ?_); simp [*])
      | ((with_reducible refine T.br fun K1 K2 hK1 hK2 => ?_); simp [*]; try ((refine Br.intro (fun hc => ?_) (fun hc => ?_)) <;> (try simp at hc)))
      | (with_reducible refine Cont.go (by assumption) _ ?_)
      | (with_reducible refine Cnt.go (by assumption) ?_))
    all_goals (unfold Hold; first | rfl | (simp [*]; done))
  by_cases c2 : 63 < x
  · repeat' (first
      | (with_reducible refine T.sq fun K hK => ?_)
      | ((first | ((with_reducible refine T.reg hE ?hd ?_); (case hd => kernel_rfl)) | ((with_reducible refine T.any hE mixed ?hd ?hok ?_); (case hd => kernel_rfl); (case hok => kernel_rfl))); simp [*]; (repeat' (split; all_goals (rename_i hc; try simp [*]))))
      | ((with_reducible refine T.ret ?_); refine fin_pure ?_; simp [*]; try (change Hold _))
      | (with_reducible refine T.block ?_)
      | ((with_reducible refine T.skip ?_); simp [*])
      | ((with_reducible refine T.exit ?_); simp [*])
      | ((with_reducible refine T.br fun K1 K2 hK1 hK2 => ?_); simp [*]; try ((refine Br.intro (fun hc => ?_) (fun hc => ?_)) <;> (try simp at hc)))
      | (with_reducible refine Cont.go (by assumption) _ ?_)
      | (with_reducible refine Cnt.go (by assumption) ?_))
    all_goals (unfold Hold; first | rfl | (simp [*]; done))
  by_cases c3 : y < 0
  · repeat' (first
      | (with_reducible refine T.sq fun K hK => ?_)
      | ((first | ((with_reducible refine T.reg hE ?hd ?_); (case hd => kernel_rfl)) | ((with_reducible refine T.any hE mixed ?hd ?hok ?_); (case hd => kernel_rfl); (case hok => kernel_rfl))); simp [*]; (repeat' (split; all_goals (rename_i hc; try simp [*]))))
      | ((with_reducible refine T.ret ?_); refine fin_pure ?_; simp [*]; try (change Hold _))
      | (with_reducible refine T.block ?_)
      | ((with_reducible refine T.skip ?_); simp [*])
      | ((with_reducible refine T.exit ?_); simp [*])
      | ((with_reducible refine T.br fun K1 K2 hK1 hK2 => ?_); simp [*]; try ((refine Br.intro (fun hc => ?_) (fun hc => ?_)) <;> (try simp at hc)))
      | (with_reducible refine Cont.go (by assumption) _ ?_)
      | (with_reducible refine Cnt.go (by assumption) ?_))
    all_goals (unfold Hold; first | rfl | (simp [*]; done))
  by_cases c4 : 63 < y
  · repeat' (first
      | (with_reducible refine T.sq fun K hK => ?_)
      | ((first | ((with_reducible refine T.reg hE ?hd ?_); (case hd => kernel_rfl)) | ((with_reducible refine T.any hE mixed ?hd ?hok ?_); (case hd => kernel_rfl); (case hok => kernel_rfl))); simp [*]; (repeat' (split; all_goals (rename_i hc; try simp [*]))))
      | ((with_reducible refine T.ret ?_); refine fin_pure ?_; simp [*]; try (change Hold _))
      | (with_reducible refine T.block ?_)
      | ((with_reducible refine T.skip ?_); simp [*])
      | ((with_reducible refine T.exit ?_); simp [*])
      | ((with_reducible refine T.br fun K1 K2 hK1 hK2 => ?_); simp [*]; try ((refine Br.intro (fun hc => ?_) (fun hc => ?_)) <;> (try simp at hc)))
      | (with_reducible refine Cont.go (by assumption) _ ?_)
      | (with_reducible refine Cnt.go (by assumption) ?_))
    all_goals (unfold Hold; first | rfl | (simp [*]; done))
  have hx : 0 ≤ x ∧ x ≤ 63 := by omega
  have hy : 0 ≤ y ∧ y ≤ 63 := by omega
  have hoa : okX a := (right_zero v1).2.2
  have hua := u64_nat (vaE_lt (right_zero v1).2.2)
  have o1 := ordE_self a
  have hdl : rPair.decL [[.int .i64 x, .int .i64 1, .int .i64 y, .sl [] .no], [.int .i64 y, .int .i64 1, .int .i64 x, .sl [] .no]] = some [(x, .mk 1 y []), (y, .mk 1 x [])] := by simp [Rw.decL]
  have hfirst : (hasB (vaE a) y = true) ∨ (hasB (vaE a) y = false ∧ putErr a x (.mk 1 y []) = 0 ∧ putErr (putX a x (.mk 1 y [])) y (.mk 1 x []) = 0 ∧ putX (putX a x (.mk 1 y [])) y (.mk 1 x []) = a) := by
    cases hv : hasB (vaE a) y with
    | true => exact .inl rfl
    | false => exact .inr ⟨rfl, turn_once hx hy v1 hv⟩
  by_cases c5 : x = y
  · clear hdl hx hy
    subst c5
    rcases hfirst with f1 | ⟨f1, f2, f3, f4⟩
    all_goals (
      repeat' (first
        | (with_reducible refine T.sq fun K hK => ?_)
        | ((first | ((with_reducible refine T.reg hE ?hd ?_); (case hd => kernel_rfl)) | ((with_reducible refine T.any hE mixed ?hd ?hok ?_); (case hd => kernel_rfl); (case hok => kernel_rfl))); simp [*]; (repeat' (split; all_goals (rename_i hc; try simp [*]))))
        | ((with_reducible refine T.ret ?_); refine fin_pure ?_; simp [*]; try (change Hold _))
        | (with_reducible refine T.block ?_)
        | ((with_reducible refine T.skip ?_); simp [*])
        | ((with_reducible refine T.exit ?_); simp [*])
        | ((with_reducible refine T.br fun K1 K2 hK1 hK2 => ?_); simp [*]; try ((refine Br.intro (fun hc => ?_) (fun hc => ?_)) <;> (try simp at hc)))
        | (with_reducible refine Cont.go (by assumption) _ ?_)
        | (with_reducible refine Cnt.go (by assumption) ?_))
      all_goals (unfold Hold; first | rfl | (simp [*]; done)))
  by_cases c6 : boE a = 0
  · obtain ⟨w1, w2⟩ := each_tw hx hy c5 v1 c6
    have hb2 : boE (psF (twF x y) a) = 0 := by rw [bo_tw (tw_term hx hy).2 a (right_zero v1).2.2]; exact c6
    obtain ⟨w3, w4⟩ := each_tw hx hy c5 w2 hb2
    rw [tw_back c5 a (right_zero v1).2.2 c6] at w3
    clear hx hy w2 w4 hb2
    rcases hfirst with f1 | ⟨f1, f2, f3, f4⟩
    all_goals (
      repeat' (first
        | (with_reducible refine T.sq fun K hK => ?_)
        | ((first | ((with_reducible refine T.reg hE ?hd ?_); (case hd => kernel_rfl)) | ((with_reducible refine T.any hE mixed ?hd ?hok ?_); (case hd => kernel_rfl); (case hok => kernel_rfl))); simp [*]; (repeat' (split; all_goals (rename_i hc; try simp [*]))))
        | ((with_reducible refine T.ret ?_); refine fin_pure ?_; simp [*]; try (change Hold _))
        | (with_reducible refine T.block ?_)
        | ((with_reducible refine T.skip ?_); simp [*])
        | ((with_reducible refine T.exit ?_); simp [*])
        | ((with_reducible refine T.br fun K1 K2 hK1 hK2 => ?_); simp [*]; try ((refine Br.intro (fun hc => ?_) (fun hc => ?_)) <;> (try simp at hc)))
        | (with_reducible refine Cont.go (by assumption) _ ?_)
        | (with_reducible refine Cnt.go (by assumption) ?_))
      all_goals (unfold Hold; first | rfl | (simp [*]; done)))
  · clear hx hy
    rcases hfirst with f1 | ⟨f1, f2, f3, f4⟩
    all_goals (
      repeat' (first
        | (with_reducible refine T.sq fun K hK => ?_)
        | ((first | ((with_reducible refine T.reg hE ?hd ?_); (case hd => kernel_rfl)) | ((with_reducible refine T.any hE mixed ?hd ?hok ?_); (case hd => kernel_rfl); (case hok => kernel_rfl))); simp [*]; (repeat' (split; all_goals (rename_i hc; try simp [*]))))
        | ((with_reducible refine T.ret ?_); refine fin_pure ?_; simp [*]; try (change Hold _))
        | (with_reducible refine T.block ?_)
        | ((with_reducible refine T.skip ?_); simp [*])
        | ((with_reducible refine T.exit ?_); simp [*])
        | ((with_reducible refine T.br fun K1 K2 hK1 hK2 => ?_); simp [*]; try ((refine Br.intro (fun hc => ?_) (fun hc => ?_)) <;> (try simp at hc)))
        | (with_reducible refine Cont.go (by assumption) _ ?_)
        | (with_reducible refine Cnt.go (by assumption) ?_))
      all_goals (unfold Hold; first | rfl | (simp [*]; done)))
end Go.Proofs.Ytdnhgabopdcjoaa.Ax
