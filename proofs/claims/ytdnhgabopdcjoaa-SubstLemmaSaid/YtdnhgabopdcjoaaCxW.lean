/- The law SubstLemma, walked. -/
import Derived.Test.YtdnhgabopdcjoaaCxV
set_option linter.unusedVariables false
set_option linter.unusedSimpArgs false
namespace Go.Proofs.Ytdnhgabopdcjoaa.Ax
open Go Go.Proofs

theorem put_cat {a t : Ex} {x : Int} (hx : 0 ≤ x ∧ x ≤ 63) (h1 : rightE a = 0) (h2 : rightE t = 0) (h3 : isT t = true) (h : putErr a x t = 0) : catE (vaE t) x a = 0 := by
  rw [put_err hx h1 h2 h3] at h
  split at h
  · rename_i c; exact c
  · cases h
theorem put_term {a t : Ex} {x : Int} (hx : 0 ≤ x ∧ x ≤ 63) (h1 : rightE a = 0) (h2 : rightE t = 0) (h3 : isT t = true) (ha : isT a = true) : putErr a x t = 0 ∨ putErr a x t = 20 ∨ putErr a x t = 21 := by
  have hoa := (right_zero h1).2.2
  rw [put_err hx h1 h2 h3, if_pos (cat_term _ _ a hoa ha)]
  exact psF_err hoa (termF_sg (right_zero h2).2.2 h3)
theorem put_sort {a t : Ex} {x : Int} (hx : 0 ≤ x ∧ x ≤ 63) (h1 : rightE a = 0) (h2 : rightE t = 0) (h3 : isT t = true) (h : putErr a x t = 0) : isT (putX a x t) = isT a := by
  rw [put_good h]
  exact (psF_shape a (right_zero h1).2.2 (termF_sg (right_zero h2).2.2 h3)).2
theorem lemma_put {a t u : Ex} {x y : Int} (hx : 0 ≤ x ∧ x ≤ 63) (hy : 0 ≤ y ∧ y ≤ 63) (hxy : ¬ x = y) (h1 : rightE a = 0) (h2 : rightE t = 0) (h3 : isT t = true) (h4 : rightE u = 0) (h5 : isT u = true) (hu : hasB (vaE u) x = false)
    (e1 : putErr a x t = 0) (e2 : putErr (putX a x t) y u = 0) (e3 : putErr a y u = 0) (e4 : putErr t y u = 0) (e5 : putErr (putX a y u) x (putX t y u) = 0) :
    putX (putX a x t) y u = putX (putX a y u) x (putX t y u) := by
  have hau := (right_zero h4).2.2
  rw [put_good e2, put_good e5, put_good e1, put_good e3, put_good e4]
  rw [term_va hau h5] at hu
  exact sub_lem hxy (right_zero h2).2.2 h3 hau h5 hu a (right_zero h1).2.2 (put_cat hx h1 h2 h3 e1)
set_option maxHeartbeats 4000000 in
theorem ok_SubstLemma : PureOk Try.prog 5 (f3 kE kE kE fun _ _ _ => some (.bool true)) := by
  intro args r h
  obtain ⟨a, t, u, rfl, ⟨⟩⟩ := f3_inv h
  clear h
  have hE := ((((((((EnvOk.nil (P := Try.prog) (eq := fun _ => false) (own := fun _ => false) (mem := fun _ => false) EqOk.none).addf ok_rRight).addf ok_rIsTerm).addf ok_variable).addf ok_Put).addf ok_rLike).addf ok_rVarsS).addf ok_rHas)
  refine ⟨⟨Try.f5, Try.func5, by decide, rfl⟩, pure_of_T Try.func5 rfl (by simp [Try.ntmps5]) fun q => ?_⟩
  by_cases v1 : rightE a = 0
  rotate_left
  · repeat' (first
      | (with_reducible refine T.sq fun K hK => ?_)
      | ((first | ((with_reducible refine T.reg hE ?hd ?_); (case hd => kernel_rfl)) | ((with_reducible refine T.any hE mixed ?hd ?hok ?_); (case hd => kernel_rfl); (case hok => kernel_rfl))); simp [*]; (repeat' (split; all_goals (rename_i hc; try simp [*]))))
      | ((with_reducible refine T.ret ?_); refine fin_pure ?_; simp [*]; try (change Hold _))
      | (with_reducible refine T.block ?_)
      | ((with_reducible refine T.skip ?_); simp [*])
      | ((with_reducible refine T.exit ?_); simp [*])
      | ((with_reducible refine T.br fun K1 K2 hK1 hK2 => ?_); simp [*]; try ((refine Br.intro (fun hc => ?_) (fun hc => ?_)) <;> (try simp at hc)))
      | (with_reducible refine Cont.go (by assumption) _ ?_)
      | (with_reducible refine Cnt.go (by assumption) ?_))
    all_goals (unfold Hold; first | rfl | (simp [*]; done))
  by_cases v2 : (rightE t == 0 && isT t) = true
  rotate_left
  · repeat' (first
      | (with_reducible refine T.sq fun K hK => ?_)
      | ((first | ((with_reducible refine T.reg hE ?hd ?_); (case hd => kernel_rfl)) | ((with_reducible refine T.any hE mixed ?hd ?hok ?_); (case hd => kernel_rfl); (case hok => kernel_rfl))); simp [*]; (repeat' (split; all_goals (rename_i hc; try simp [*]))))
      | ((with_reducible refine T.ret ?_); refine fin_pure ?_; simp [*]; try (change Hold _))
      | (with_reducible refine T.block ?_)
      | ((with_reducible refine T.skip ?_); simp [*])
      | ((with_reducible refine T.exit ?_); simp [*])
      | ((with_reducible refine T.br fun K1 K2 hK1 hK2 => ?_); simp [*]; try ((refine Br.intro (fun hc => ?_) (fun hc => ?_)) <;> (try simp at hc)))
      | (with_reducible refine Cont.go (by assumption) _ ?_)
      | (with_reducible refine Cnt.go (by assumption) ?_))
    all_goals (unfold Hold; first | rfl | (simp [*]; done))
  by_cases v3 : (rightE u == 0 && isT u) = true
  rotate_left
  · repeat' (first
      | (with_reducible refine T.sq fun K hK => ?_)
      | ((first | ((with_reducible refine T.reg hE ?hd ?_); (case hd => kernel_rfl)) | ((with_reducible refine T.any hE mixed ?hd ?hok ?_); (case hd => kernel_rfl); (case hok => kernel_rfl))); simp [*]; (repeat' (split; all_goals (rename_i hc; try simp [*]))))
      | ((with_reducible refine T.ret ?_); refine fin_pure ?_; simp [*]; try (change Hold _))
      | (with_reducible refine T.block ?_)
      | ((with_reducible refine T.skip ?_); simp [*])
      | ((with_reducible refine T.exit ?_); simp [*])
      | ((with_reducible refine T.br fun K1 K2 hK1 hK2 => ?_); simp [*]; try ((refine Br.intro (fun hc => ?_) (fun hc => ?_)) <;> (try simp at hc)))
      | (with_reducible refine Cont.go (by assumption) _ ?_)
      | (with_reducible refine Cnt.go (by assumption) ?_))
    all_goals (unfold Hold; first | rfl | (simp [*]; done))
  obtain ⟨w1, w2⟩ : rightE t = 0 ∧ isT t = true := by simpa using v2
  obtain ⟨w3, w4⟩ : rightE u = 0 ∧ isT u = true := by simpa using v3
  have hou : okX u := (right_zero w3).2.2
  have hul := u64_nat (vaE_lt (right_zero w3).2.2)
  repeat' (first
    | (with_reducible refine T.sq fun K hK => ?_)
    | ((first | ((with_reducible refine T.reg hE ?hd ?_); (case hd => kernel_rfl)) | ((with_reducible refine T.any hE mixed ?hd ?hok ?_); (case hd => kernel_rfl); (case hok => kernel_rfl))); simp [*]; (repeat' (split; all_goals (rename_i hc; try simp [*]))))
    | ((with_reducible refine T.ret ?_); refine fin_pure ?_; simp [*]; try (change Hold _))
    | (with_reducible refine T.block ?_)
    | ((with_reducible refine T.skip ?_); simp [*])
    | ((with_reducible refine T.exit ?_); simp [*])
    | ((with_reducible refine T.br fun K1 K2 hK1 hK2 => ?_); simp [*]; try ((refine Br.intro (fun hc => ?_) (fun hc => ?_)) <;> (try simp at hc)))
    | (with_reducible refine Cont.go (by assumption) _ ?_)
    | (with_reducible refine Cnt.go (by assumption) ?_))
  refine T.loop (fun n σ => ∃ X : Nat, n = 4 - X ∧ σ.get 3 = .ptr (0 :: 5 :: q) 0 ∧ σ.get 4 = .ptr (0 :: 6 :: q) 0 ∧ σ.get 5 = .ptr (0 :: 7 :: q) 0 ∧ σ.M (0 :: 5 :: q) = some (.cells (encC a)) ∧ σ.M (0 :: 6 :: q) = some (.cells (encC t)) ∧ σ.M (0 :: 7 :: q) = some (.cells (encC u)) ∧ σ.get 7 = .int .i64 X ∧ X ≤ 4) 4 ⟨0, by simp [*, encC_eq]⟩ ?_
  rintro n σ ⟨X, rfl, g1, g2, g3, m1, m2, m3, g4, g5⟩
  rw [encC_eq] at m1 m2 m3
  by_cases hX : X < 4
  · have hXi : (X : Int) < 4 := by omega
    have hwX : IntKind.i64.wrap ((X : Int) + 1) = (X : Int) + 1 := wrap64 (by omega) (by omega)
    repeat' (first
      | (with_reducible refine T.sq fun K hK => ?_)
      | ((first | ((with_reducible refine T.reg hE ?hd ?_); (case hd => kernel_rfl)) | ((with_reducible refine T.any hE mixed ?hd ?hok ?_); (case hd => kernel_rfl); (case hok => kernel_rfl))); simp [*]; (repeat' (split; all_goals (rename_i hc; try simp [*]))))
      | ((with_reducible refine T.ret ?_); refine fin_pure ?_; simp [*]; try (change Hold _))
      | (with_reducible refine T.block ?_)
      | ((with_reducible refine T.skip ?_); simp [*])
      | ((with_reducible refine T.exit ?_); simp [*])
      | ((with_reducible refine T.br fun K1 K2 hK1 hK2 => ?_); simp [*]; try ((refine Br.intro (fun hc => ?_) (fun hc => ?_)) <;> (try simp at hc)))
      | (with_reducible refine Cont.go (by assumption) _ ?_)
      | (with_reducible refine Cnt.go (by assumption) ?_))
    refine T.loop (fun n σ => ∃ Y : Nat, n = 4 - Y ∧ σ.get 3 = .ptr (0 :: 5 :: q) 0 ∧ σ.get 4 = .ptr (0 :: 6 :: q) 0 ∧ σ.get 5 = .ptr (0 :: 7 :: q) 0 ∧ σ.M (0 :: 5 :: q) = some (.cells (encC a)) ∧ σ.M (0 :: 6 :: q) = some (.cells (encC t)) ∧ σ.M (0 :: 7 :: q) = some (.cells (encC u)) ∧ σ.get 7 = .int .i64 X ∧ σ.get 8 = .int .i64 Y ∧ Y ≤ 4) 4 ⟨0, by simp [*, encC_eq]⟩ ?_
    clear g1 g2 g3 m1 m2 m3 g4
    rintro n σ ⟨Y, rfl, g1, g2, g3, m1, m2, m3, g4, g6, g7⟩
    rw [encC_eq] at m1 m2 m3
    by_cases hY : Y < 4
    · have hYi : (Y : Int) < 4 := by omega
      have hwY : IntKind.i64.wrap ((Y : Int) + 1) = (Y : Int) + 1 := wrap64 (by omega) (by omega)
      by_cases hxy : X = Y
      · repeat' (first
          | (with_reducible refine T.sq fun K hK => ?_)
          | ((first | ((with_reducible refine T.reg hE ?hd ?_); (case hd => kernel_rfl)) | ((with_reducible refine T.any hE mixed ?hd ?hok ?_); (case hd => kernel_rfl); (case hok => kernel_rfl))); simp [*]; (repeat' (split; all_goals (rename_i hc; try simp [*]))))
          | ((with_reducible refine T.ret ?_); refine fin_pure ?_; simp [*]; try (change Hold _))
          | (with_reducible refine T.block ?_)
          | ((with_reducible refine T.skip ?_); simp [*])
          | ((with_reducible refine T.exit ?_); simp [*])
          | ((with_reducible refine T.br fun K1 K2 hK1 hK2 => ?_); simp [*]; try ((refine Br.intro (fun hc => ?_) (fun hc => ?_)) <;> (try simp at hc)))
          | (with_reducible refine Cont.go (by assumption) _ ?_)
          | (with_reducible refine Cnt.go (by assumption) ?_))
        all_goals exact ⟨_, by omega, Y + 1, rfl, by simp [encC_eq], by simp [encC_eq], by simp [encC_eq], by omega, by omega⟩
      have hxyi : ¬ (X : Int) = (Y : Int) := by omega
      by_cases hb : hasB (vaE u) (X : Int) = true
      · repeat' (first
          | (with_reducible refine T.sq fun K hK => ?_)
          | ((first | ((with_reducible refine T.reg hE ?hd ?_); (case hd => kernel_rfl)) | ((with_reducible refine T.any hE mixed ?hd ?hok ?_); (case hd => kernel_rfl); (case hok => kernel_rfl))); simp [*]; (repeat' (split; all_goals (rename_i hc; try simp [*]))))
          | ((with_reducible refine T.ret ?_); refine fin_pure ?_; simp [*]; try (change Hold _))
          | (with_reducible refine T.block ?_)
          | ((with_reducible refine T.skip ?_); simp [*])
          | ((with_reducible refine T.exit ?_); simp [*])
          | ((with_reducible refine T.br fun K1 K2 hK1 hK2 => ?_); simp [*]; try ((refine Br.intro (fun hc => ?_) (fun hc => ?_)) <;> (try simp at hc)))
          | (with_reducible refine Cont.go (by assumption) _ ?_)
          | (with_reducible refine Cnt.go (by assumption) ?_))
        all_goals exact ⟨_, by omega, Y + 1, rfl, by simp [encC_eq], by simp [encC_eq], by simp [encC_eq], by omega, by omega⟩
      rw [Bool.not_eq_true] at hb
      have hlem := lemma_put (x := (X : Int)) (y := (Y : Int)) (a := a) ⟨by omega, by omega⟩ ⟨by omega, by omega⟩ hxyi v1 w1 w2 w3 w4 hb
      have hh := put_term (a := t) (x := (Y : Int)) ⟨by omega, by omega⟩ w1 w3 w4 w2
      have hcase : (putErr t (Y : Int) u = 0 ∧ ((¬ putErr a (X : Int) t = 0) ∨ (putErr a (X : Int) t = 0 ∧ ¬ putErr (putX a (X : Int) t) (Y : Int) u = 0) ∨ (putErr a (X : Int) t = 0 ∧ putErr (putX a (X : Int) t) (Y : Int) u = 0 ∧ ¬ putErr a (Y : Int) u = 0) ∨
          (putErr a (X : Int) t = 0 ∧ putErr (putX a (X : Int) t) (Y : Int) u = 0 ∧ putErr a (Y : Int) u = 0 ∧ ¬ putErr (putX a (Y : Int) u) (X : Int) (putX t (Y : Int) u) = 0) ∨
          (putErr a (X : Int) t = 0 ∧ putErr (putX a (X : Int) t) (Y : Int) u = 0 ∧ putErr a (Y : Int) u = 0 ∧ putErr (putX a (Y : Int) u) (X : Int) (putX t (Y : Int) u) = 0 ∧ ordE (putX (putX a (X : Int) t) (Y : Int) u) (putX (putX a (Y : Int) u) (X : Int) (putX t (Y : Int) u)) = 0))) ∨
          ((putErr t (Y : Int) u = 20 ∨ putErr t (Y : Int) u = 21) ∧ ((¬ putErr a (X : Int) t = 0) ∨ (putErr a (X : Int) t = 0 ∧ ¬ putErr (putX a (X : Int) t) (Y : Int) u = 0) ∨ (putErr a (X : Int) t = 0 ∧ putErr (putX a (X : Int) t) (Y : Int) u = 0 ∧ ¬ putErr a (Y : Int) u = 0) ∨ (putErr a (X : Int) t = 0 ∧ putErr (putX a (X : Int) t) (Y : Int) u = 0 ∧ putErr a (Y : Int) u = 0))) := by
        by_cases e4 : putErr t (Y : Int) u = 0
        · refine .inl ⟨e4, ?_⟩
          by_cases e1 : putErr a (X : Int) t = 0
          rotate_left
          · exact .inl e1
          by_cases e2 : putErr (putX a (X : Int) t) (Y : Int) u = 0
          rotate_left
          · exact .inr (.inl ⟨e1, e2⟩)
          by_cases e3 : putErr a (Y : Int) u = 0
          rotate_left
          · exact .inr (.inr (.inl ⟨e1, e2, e3⟩))
          by_cases e5 : putErr (putX a (Y : Int) u) (X : Int) (putX t (Y : Int) u) = 0
          rotate_left
          · exact .inr (.inr (.inr (.inl ⟨e1, e2, e3, e5⟩)))
          exact .inr (.inr (.inr (.inr ⟨e1, e2, e3, e5, by rw [hlem e1 e2 e3 e4 e5]; exact ordE_self _⟩)))
        · refine .inr ⟨by omega, ?_⟩
          by_cases e1 : putErr a (X : Int) t = 0
          rotate_left
          · exact .inl e1
          by_cases e2 : putErr (putX a (X : Int) t) (Y : Int) u = 0
          rotate_left
          · exact .inr (.inl ⟨e1, e2⟩)
          by_cases e3 : putErr a (Y : Int) u = 0
          rotate_left
          · exact .inr (.inr (.inl ⟨e1, e2, e3⟩))
          exact .inr (.inr (.inr ⟨e1, e2, e3⟩))
      clear hlem hh
      rcases hcase with ⟨e4, e1 | ⟨e1, e2⟩ | ⟨e1, e2, e3⟩ | ⟨e1, e2, e3, e5⟩ | ⟨e1, e2, e3, e5, e6⟩⟩ | ⟨e4 | e4, e1 | ⟨e1, e2⟩ | ⟨e1, e2, e3⟩ | ⟨e1, e2, e3⟩⟩
      all_goals (
        repeat' (first
          | (with_reducible refine T.sq fun K hK => ?_)
          | ((first | ((with_reducible refine T.reg hE ?hd ?_); (case hd => kernel_rfl)) | ((with_reducible refine T.any hE mixed ?hd ?hok ?_); (case hd => kernel_rfl); (case hok => kernel_rfl))); simp [*]; (repeat' (split; all_goals (rename_i hc; try simp [*]))))
          | ((with_reducible refine T.ret ?_); refine fin_pure ?_; simp [*]; try (change Hold _))
          | (with_reducible refine T.block ?_)
          | ((with_reducible refine T.skip ?_); simp [*])
          | ((with_reducible refine T.exit ?_); simp [*])
          | ((with_reducible refine T.br fun K1 K2 hK1 hK2 => ?_); simp [*]; try ((refine Br.intro (fun hc => ?_) (fun hc => ?_)) <;> (try simp at hc)))
          | (with_reducible refine Cont.go (by assumption) _ ?_)
          | (with_reducible refine Cnt.go (by assumption) ?_))
        all_goals exact ⟨_, by omega, Y + 1, rfl, by simp [encC_eq], by simp [encC_eq], by simp [encC_eq], by omega, by omega⟩)
    · have hYi : ¬ (Y : Int) < 4 := by omega
      repeat' (first
        | (with_reducible refine T.sq fun K hK => ?_)
        | ((first | ((with_reducible refine T.reg hE ?hd ?_); (case hd => kernel_rfl)) | ((with_reducible refine T.any hE mixed ?hd ?hok ?_); (case hd => kernel_rfl); (case hok => kernel_rfl))); simp [*]; (repeat' (split; all_goals (rename_i hc; try simp [*]))))
        | ((with_reducible refine T.ret ?_); refine fin_pure ?_; simp [*]; try (change Hold _))
        | (with_reducible refine T.block ?_)
        | ((with_reducible refine T.skip ?_); simp [*])
        | ((with_reducible refine T.exit ?_); simp [*])
        | ((with_reducible refine T.br fun K1 K2 hK1 hK2 => ?_); simp [*]; try ((refine Br.intro (fun hc => ?_) (fun hc => ?_)) <;> (try simp at hc)))
        | (with_reducible refine Cont.go (by assumption) _ ?_)
        | (with_reducible refine Cnt.go (by assumption) ?_))
      all_goals exact ⟨_, by omega, X + 1, rfl, by simp [encC_eq], by simp [encC_eq], by simp [encC_eq], by omega, by omega⟩
  · have hXi : ¬ (X : Int) < 4 := by omega
    obtain ⟨o1, o2⟩ := put_own (a := a) (x := 0) ⟨by omega, by omega⟩ v1
    have hl := ordE_self a
    repeat' (first
      | (with_reducible refine T.sq fun K hK => ?_)
      | ((first | ((with_reducible refine T.reg hE ?hd ?_); (case hd => kernel_rfl)) | ((with_reducible refine T.any hE mixed ?hd ?hok ?_); (case hd => kernel_rfl); (case hok => kernel_rfl))); simp [*]; (repeat' (split; all_goals (rename_i hc; try simp [*]))))
      | ((with_reducible refine T.ret ?_); refine fin_pure ?_; simp [*]; try (change Hold _))
      | (with_reducible refine T.block ?_)
      | ((with_reducible refine T.skip ?_); simp [*])
      | ((with_reducible refine T.exit ?_); simp [*])
      | ((with_reducible refine T.br fun K1 K2 hK1 hK2 => ?_); simp [*]; try ((refine Br.intro (fun hc => ?_) (fun hc => ?_)) <;> (try simp at hc)))
      | (with_reducible refine Cont.go (by assumption) _ ?_)
      | (with_reducible refine Cnt.go (by assumption) ?_))
    all_goals (unfold Hold; first | rfl | (simp [*]; done))
end Go.Proofs.Ytdnhgabopdcjoaa.Ax
