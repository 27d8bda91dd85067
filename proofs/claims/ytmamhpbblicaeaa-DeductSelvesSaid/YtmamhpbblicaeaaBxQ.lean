/- Contracts: unfolded forms. -/
import Derived.Test.YtmamhpbblicaeaaBxP
set_option linter.unusedVariables false
set_option linter.unusedSimpArgs false
namespace Go.Proofs.Ytmamhpbblicaeaa.Ax
open Go Go.Proofs

@[simp] def gUnf : List V → Option V := f1 kE fun e => if allX e = true then some (enc (unfE e)) else none
set_option maxHeartbeats 2000000 in
theorem ok_unfold : PureOk Try.prog 35 gUnf := by
  refine rec1 fun e ih r hr => ?_
  split at hr
  · rename_i hm
    cases hr
    have hE := (((((EnvOk.nil (P := Try.prog) (eq := fun _ => false) (own := fun _ => false) (mem := fun _ => false) EqOk.none).addf ok_pNot).addf ok_pImp).addf ok_shortOf).addf ih)
    refine ⟨⟨Try.f35, Try.func35, by decide, rfl⟩, pure_of_T Try.func35 rfl (by simp [Try.ntmps35]) fun q => ?_⟩
    have k4 := kids_four hm
    repeat' (first | (with_reducible refine T.sq fun K hK => ?_) | ((first | ((with_reducible refine T.reg hE ?hd ?_); (case hd => kernel_rfl)) | ((with_reducible refine T.any hE mixed ?hd ?hok ?_); (case hd => kernel_rfl); (case hok => kernel_rfl))); simp [*]; (repeat' (split; all_goals (rename_i hc; try simp [*])))) | ((with_reducible refine T.ret ?_); refine fin_pure ?_; simp [*]; try (change Hold _)) | (with_reducible refine T.block ?_) | ((with_reducible refine T.skip ?_); simp [*]) | ((with_reducible refine T.exit ?_); simp [*]) | ((with_reducible refine T.br fun K1 K2 hK1 hK2 => ?_); simp [*]; try ((refine Br.intro (fun hc => ?_) (fun hc => ?_)) <;> (try simp at hc))) | (with_reducible refine Cont.go (by assumption) _ ?_) | (with_reducible refine Cnt.go (by assumption) ?_))
    refine T.len (t := 10) (els := encL e.kids) (tk := .no) (by simp [*]) fun hlen => ?_
    rw [encL_length] at hlen
    refine T.loop (fun n σ => ∃ (j : Nat) (w : V), n = e.kids.length - j ∧ σ.get 10 = .sl (encL e.kids) .no ∧ σ.get 11 = .int .i64 e.kids.length ∧ σ.get 12 = .int .i64 j ∧ σ.get 3 = w ∧ σ.get 1 = .ptr (0 :: 3 :: q) 0 ∧ σ.get 2 = .ptr (0 :: 4 :: q) 0 ∧ σ.M (0 :: 3 :: q) = some (.cells (encC e)) ∧ (∃ x, σ.M (0 :: 4 :: q) = some (.cells [.int .i64 0, .int .i64 0, x])) ∧ j ≤ e.kids.length ∧ Hold ((j = 0 ∧ w = .nils) ∨ (0 < j ∧ ∃ c d, w = .sl (encL ((e.kids.map (unfE)).take j)) (.own (c :: d :: q) 3) ∧ σ.K (c :: d :: q) = true))) e.kids.length ⟨0, .nils, by simp [*, encC_eq, Hold]⟩ ?_
    rintro n σ ⟨j, w, rfl, g1, g2, g3, g4, q0, q1, q2, ⟨z3, q3⟩, g5, g6⟩
    try simp only [encC_eq] at *
    by_cases hj : j < e.kids.length
    · have hw := wrap_succ hlen hj
      have hs := ex_kid_lt e j hj
      have u1 : (j + 1) * 40 ≤ 140737488355328 := by omega
      have c3 : Hold (encL ((e.kids.map (unfE)).take (j + 1)) = encL ((e.kids.map (unfE)).take j) ++ [encC ((unfE) e.kids[j])]) := encL_mapsucc (unfE) e.kids j hj
      have k1 := allX_kid hm j hj
      rcases g6 with ⟨rfl, rfl⟩ | ⟨hj0, c, d, rfl, hK⟩
      · have hw1 : IntKind.i64.wrap 1 = 1 := wrap64 (by omega) (by omega)
        clear hw
        repeat' (first | (with_reducible refine T.sq fun K hK => ?_) | ((first | ((with_reducible refine T.reg hE ?hd ?_); (case hd => kernel_rfl)) | ((with_reducible refine T.any hE mixed ?hd ?hok ?_); (case hd => kernel_rfl); (case hok => kernel_rfl))); simp [*]; (repeat' (split; all_goals (rename_i hc; try simp [*])))) | ((with_reducible refine T.ret ?_); refine fin_pure ?_; simp [*]; try (change Hold _)) | (with_reducible refine T.block ?_) | ((with_reducible refine T.skip ?_); simp [*]) | ((with_reducible refine T.exit ?_); simp [*]) | ((with_reducible refine T.br fun K1 K2 hK1 hK2 => ?_); simp [*]; try ((refine Br.intro (fun hc => ?_) (fun hc => ?_)) <;> (try simp at hc))) | (with_reducible refine Cont.go (by assumption) _ ?_) | (with_reducible refine Cnt.go (by assumption) ?_))
        refine ⟨e.kids.length - 1, by omega, 1, rfl, by omega, by omega, ?_⟩
        unfold Hold at *
        exact ⟨by omega, _, _, ⟨by rw [c3, List.take_zero]; simp [encC_eq], rfl, rfl⟩, .inl ⟨rfl, rfl⟩⟩
      · repeat' (first | (with_reducible refine T.sq fun K hK => ?_) | ((first | ((with_reducible refine T.reg hE ?hd ?_); (case hd => kernel_rfl)) | ((with_reducible refine T.any hE mixed ?hd ?hok ?_); (case hd => kernel_rfl); (case hok => kernel_rfl))); simp [*]; (repeat' (split; all_goals (rename_i hc; try simp [*])))) | ((with_reducible refine T.ret ?_); refine fin_pure ?_; simp [*]; try (change Hold _)) | (with_reducible refine T.block ?_) | ((with_reducible refine T.skip ?_); simp [*]) | ((with_reducible refine T.exit ?_); simp [*]) | ((with_reducible refine T.br fun K1 K2 hK1 hK2 => ?_); simp [*]; try ((refine Br.intro (fun hc => ?_) (fun hc => ?_)) <;> (try simp at hc))) | (with_reducible refine Cont.go (by assumption) _ ?_) | (with_reducible refine Cnt.go (by assumption) ?_))
        refine ⟨e.kids.length - (j + 1), by omega, j + 1, rfl, by omega, by omega, ?_⟩
        unfold Hold at *
        exact ⟨by omega, _, _, ⟨by rw [c3]; simp [encC_eq], rfl, rfl⟩, .inl ⟨rfl, rfl⟩⟩
    · have w8 : j = e.kids.length := by omega
      subst w8
      rw [List.take_of_length_le (by simp)] at g6
      have hu := unfE_eq e
      clear ih hj g5
      obtain ⟨k, i, l⟩ := e
      simp only [Ex.k_mk, Ex.i_mk, Ex.kids_mk] at *
      by_cases c1 : k = 8
      · subst c1
        obtain ⟨a, b, hab⟩ := kids_two hm (.inr (.inl rfl))
        simp only [Ex.kids_mk] at hab
        subst hab
        rcases g6 with ⟨h0, rfl⟩ | ⟨hj0, c, d, rfl, hK⟩
        · cases h0
        · have hok : okShort (.mk 8 i [a, b]) [unfE a, unfE b] := ⟨fun _ => ⟨_, _, rfl⟩, fun h => by simp at h⟩
          have hv := short8 i [a, b] (unfE a) (unfE b)
          repeat' (first | (with_reducible refine T.sq fun K hK => ?_) | ((first | ((with_reducible refine T.reg hE ?hd ?_); (case hd => kernel_rfl)) | ((with_reducible refine T.any hE mixed ?hd ?hok ?_); (case hd => kernel_rfl); (case hok => kernel_rfl))); simp [*]; (repeat' (split; all_goals (rename_i hc; try simp [*])))) | ((with_reducible refine T.ret ?_); refine fin_pure ?_; simp [*]; try (change Hold _)) | (with_reducible refine T.block ?_) | ((with_reducible refine T.skip ?_); simp [*]) | ((with_reducible refine T.exit ?_); simp [*]) | ((with_reducible refine T.br fun K1 K2 hK1 hK2 => ?_); simp [*]; try ((refine Br.intro (fun hc => ?_) (fun hc => ?_)) <;> (try simp at hc))) | (with_reducible refine Cont.go (by assumption) _ ?_) | (with_reducible refine Cnt.go (by assumption) ?_))
          all_goals (unfold Hold; simp [unf0, notX, impX, encC_eq])
      by_cases c2 : k = 9
      · subst c2
        obtain ⟨a, b, hab⟩ := kids_two hm (.inr (.inr rfl))
        simp only [Ex.kids_mk] at hab
        subst hab
        rcases g6 with ⟨h0, rfl⟩ | ⟨hj0, c, d, rfl, hK⟩
        · cases h0
        · have hok : okShort (.mk 9 i [a, b]) [unfE a, unfE b] := ⟨fun _ => ⟨_, _, rfl⟩, fun h => by simp at h⟩
          have hv := short9 i [a, b] (unfE a) (unfE b)
          repeat' (first | (with_reducible refine T.sq fun K hK => ?_) | ((first | ((with_reducible refine T.reg hE ?hd ?_); (case hd => kernel_rfl)) | ((with_reducible refine T.any hE mixed ?hd ?hok ?_); (case hd => kernel_rfl); (case hok => kernel_rfl))); simp [*]; (repeat' (split; all_goals (rename_i hc; try simp [*])))) | ((with_reducible refine T.ret ?_); refine fin_pure ?_; simp [*]; try (change Hold _)) | (with_reducible refine T.block ?_) | ((with_reducible refine T.skip ?_); simp [*]) | ((with_reducible refine T.exit ?_); simp [*]) | ((with_reducible refine T.br fun K1 K2 hK1 hK2 => ?_); simp [*]; try ((refine Br.intro (fun hc => ?_) (fun hc => ?_)) <;> (try simp at hc))) | (with_reducible refine Cont.go (by assumption) _ ?_) | (with_reducible refine Cnt.go (by assumption) ?_))
          all_goals (unfold Hold; simp [unf0, notX, impX, encC_eq])
      by_cases c3 : k = 10
      · subst c3
        obtain ⟨a, hab⟩ := kids_one hm (.inr (.inr rfl))
        simp only [Ex.kids_mk] at hab
        subst hab
        rcases g6 with ⟨h0, rfl⟩ | ⟨hj0, c, d, rfl, hK⟩
        · cases h0
        · have hok : okShort (.mk 10 i [a]) [unfE a] := ⟨fun h => by simp at h, fun _ => ⟨_, rfl⟩⟩
          have hv := short10 i [a] (unfE a)
          repeat' (first | (with_reducible refine T.sq fun K hK => ?_) | ((first | ((with_reducible refine T.reg hE ?hd ?_); (case hd => kernel_rfl)) | ((with_reducible refine T.any hE mixed ?hd ?hok ?_); (case hd => kernel_rfl); (case hok => kernel_rfl))); simp [*]; (repeat' (split; all_goals (rename_i hc; try simp [*])))) | ((with_reducible refine T.ret ?_); refine fin_pure ?_; simp [*]; try (change Hold _)) | (with_reducible refine T.block ?_) | ((with_reducible refine T.skip ?_); simp [*]) | ((with_reducible refine T.exit ?_); simp [*]) | ((with_reducible refine T.br fun K1 K2 hK1 hK2 => ?_); simp [*]; try ((refine Br.intro (fun hc => ?_) (fun hc => ?_)) <;> (try simp at hc))) | (with_reducible refine Cont.go (by assumption) _ ?_) | (with_reducible refine Cnt.go (by assumption) ?_))
          all_goals (unfold Hold; simp [unf0, notX, allQ, encC_eq])
      have hok : ∀ m, okShort (.mk k i l) m := fun m => ⟨fun h => by simp at h; omega, fun h => by simp at h; omega⟩
      have hv := fun m => short_no i l m c1 c2 c3
      have hx : Hold (unf0 k i (l.map unfE) = .mk k i (l.map unfE)) := by unfold Hold unf0; rw [if_neg c1, if_neg c2, if_neg c3]
      rcases g6 with ⟨h0, rfl⟩ | ⟨hj0, c, d, rfl, hK⟩
      · have hl : l = [] := List.eq_nil_of_length_eq_zero h0
        subst hl
        repeat' (first | (with_reducible refine T.sq fun K hK => ?_) | ((first | ((with_reducible refine T.reg hE ?hd ?_); (case hd => kernel_rfl)) | ((with_reducible refine T.any hE mixed ?hd ?hok ?_); (case hd => kernel_rfl); (case hok => kernel_rfl))); simp [*]; (repeat' (split; all_goals (rename_i hc; try simp [*])))) | ((with_reducible refine T.ret ?_); refine fin_pure ?_; simp [*]; try (change Hold _)) | (with_reducible refine T.block ?_) | ((with_reducible refine T.skip ?_); simp [*]) | ((with_reducible refine T.exit ?_); simp [*]) | ((with_reducible refine T.br fun K1 K2 hK1 hK2 => ?_); simp [*]; try ((refine Br.intro (fun hc => ?_) (fun hc => ?_)) <;> (try simp at hc))) | (with_reducible refine Cont.go (by assumption) _ ?_) | (with_reducible refine Cnt.go (by assumption) ?_))
        all_goals (unfold Hold; simp [unf0, c1, c2, c3, encC_eq])
      · repeat' (first | (with_reducible refine T.sq fun K hK => ?_) | ((first | ((with_reducible refine T.reg hE ?hd ?_); (case hd => kernel_rfl)) | ((with_reducible refine T.any hE mixed ?hd ?hok ?_); (case hd => kernel_rfl); (case hok => kernel_rfl))); simp [*]; (repeat' (split; all_goals (rename_i hc; try simp [*])))) | ((with_reducible refine T.ret ?_); refine fin_pure ?_; simp [*]; try (change Hold _)) | (with_reducible refine T.block ?_) | ((with_reducible refine T.skip ?_); simp [*]) | ((with_reducible refine T.exit ?_); simp [*]) | ((with_reducible refine T.br fun K1 K2 hK1 hK2 => ?_); simp [*]; try ((refine Br.intro (fun hc => ?_) (fun hc => ?_)) <;> (try simp at hc))) | (with_reducible refine Cont.go (by assumption) _ ?_) | (with_reducible refine Cnt.go (by assumption) ?_))
        all_goals (unfold Hold; simp [unf0, c1, c2, c3, encC_eq])
  · cases hr
set_option maxHeartbeats 2000000 in
theorem ok_rUnfolded : PureOk Try.prog 23 gUnf := by
  refine rec1 fun e ih r hr => ?_
  split at hr
  · rename_i hm
    cases hr
    have hE := (((((EnvOk.nil (P := Try.prog) (eq := fun _ => false) (own := fun _ => false) (mem := fun _ => false) EqOk.none).addf ok_rNot).addf ok_rImp).addf ok_rAll).addf ih)
    refine ⟨⟨Try.f23, Try.func23, by decide, rfl⟩, pure_of_T Try.func23 rfl (by simp [Try.ntmps23]) fun q => ?_⟩
    have k4 := kids_four hm
    repeat' (first | (with_reducible refine T.sq fun K hK => ?_) | ((first | ((with_reducible refine T.reg hE ?hd ?_); (case hd => kernel_rfl)) | ((with_reducible refine T.any hE mixed ?hd ?hok ?_); (case hd => kernel_rfl); (case hok => kernel_rfl))); simp [*]; (repeat' (split; all_goals (rename_i hc; try simp [*])))) | ((with_reducible refine T.ret ?_); refine fin_pure ?_; simp [*]; try (change Hold _)) | (with_reducible refine T.block ?_) | ((with_reducible refine T.skip ?_); simp [*]) | ((with_reducible refine T.exit ?_); simp [*]) | ((with_reducible refine T.br fun K1 K2 hK1 hK2 => ?_); simp [*]; try ((refine Br.intro (fun hc => ?_) (fun hc => ?_)) <;> (try simp at hc))) | (with_reducible refine Cont.go (by assumption) _ ?_) | (with_reducible refine Cnt.go (by assumption) ?_))
    refine T.len (t := 13) (els := encL e.kids) (tk := .no) (by simp [*]) fun hlen => ?_
    rw [encL_length] at hlen
    refine T.loop (fun n σ => ∃ (j : Nat) (w : V), n = e.kids.length - j ∧ σ.get 13 = .sl (encL e.kids) .no ∧ σ.get 14 = .int .i64 e.kids.length ∧ σ.get 15 = .int .i64 j ∧ σ.M (0 :: 5 :: q) = some (.cells [.int .i64 e.k, .int .i64 e.i, w]) ∧ σ.get 1 = .ptr (0 :: 3 :: q) 0 ∧ σ.get 2 = .ptr (0 :: 4 :: q) 0 ∧ σ.get 3 = .ptr (0 :: 5 :: q) 0 ∧ σ.M (0 :: 3 :: q) = some (.cells (encC e)) ∧ (∃ x, σ.M (0 :: 4 :: q) = some (.cells [.int .i64 0, .int .i64 0, x])) ∧ j ≤ e.kids.length ∧ Hold ((j = 0 ∧ w = .nils) ∨ (0 < j ∧ ∃ c d, w = .sl (encL ((e.kids.map (unfE)).take j)) (.own (c :: d :: q) 3) ∧ σ.K (c :: d :: q) = true))) e.kids.length ⟨0, .nils, by simp [*, encC_eq, Hold]⟩ ?_
    rintro n σ ⟨j, w, rfl, g1, g2, g3, g4, q0, q1, q2, q3, ⟨z4, q4⟩, g5, g6⟩
    try simp only [encC_eq] at *
    by_cases hj : j < e.kids.length
    · have hw := wrap_succ hlen hj
      have hs := ex_kid_lt e j hj
      have u1 : (j + 1) * 40 ≤ 140737488355328 := by omega
      have c3 : Hold (encL ((e.kids.map (unfE)).take (j + 1)) = encL ((e.kids.map (unfE)).take j) ++ [encC ((unfE) e.kids[j])]) := encL_mapsucc (unfE) e.kids j hj
      have k1 := allX_kid hm j hj
      rcases g6 with ⟨rfl, rfl⟩ | ⟨hj0, c, d, rfl, hK⟩
      · have hw1 : IntKind.i64.wrap 1 = 1 := wrap64 (by omega) (by omega)
        clear hw
        repeat' (first | (with_reducible refine T.sq fun K hK => ?_) | ((first | ((with_reducible refine T.reg hE ?hd ?_); (case hd => kernel_rfl)) | ((with_reducible refine T.any hE mixed ?hd ?hok ?_); (case hd => kernel_rfl); (case hok => kernel_rfl))); simp [*]; (repeat' (split; all_goals (rename_i hc; try simp [*])))) | ((with_reducible refine T.ret ?_); refine fin_pure ?_; simp [*]; try (change Hold _)) | (with_reducible refine T.block ?_) | ((with_reducible refine T.skip ?_); simp [*]) | ((with_reducible refine T.exit ?_); simp [*]) | ((with_reducible refine T.br fun K1 K2 hK1 hK2 => ?_); simp [*]; try ((refine Br.intro (fun hc => ?_) (fun hc => ?_)) <;> (try simp at hc))) | (with_reducible refine Cont.go (by assumption) _ ?_) | (with_reducible refine Cnt.go (by assumption) ?_))
        refine ⟨e.kids.length - 1, by omega, 1, rfl, by omega, by omega, ?_⟩
        unfold Hold at *
        exact ⟨by omega, _, _, ⟨by rw [c3, List.take_zero]; simp [encC_eq], rfl, rfl⟩, .inl ⟨rfl, rfl⟩⟩
      · repeat' (first | (with_reducible refine T.sq fun K hK => ?_) | ((first | ((with_reducible refine T.reg hE ?hd ?_); (case hd => kernel_rfl)) | ((with_reducible refine T.any hE mixed ?hd ?hok ?_); (case hd => kernel_rfl); (case hok => kernel_rfl))); simp [*]; (repeat' (split; all_goals (rename_i hc; try simp [*])))) | ((with_reducible refine T.ret ?_); refine fin_pure ?_; simp [*]; try (change Hold _)) | (with_reducible refine T.block ?_) | ((with_reducible refine T.skip ?_); simp [*]) | ((with_reducible refine T.exit ?_); simp [*]) | ((with_reducible refine T.br fun K1 K2 hK1 hK2 => ?_); simp [*]; try ((refine Br.intro (fun hc => ?_) (fun hc => ?_)) <;> (try simp at hc))) | (with_reducible refine Cont.go (by assumption) _ ?_) | (with_reducible refine Cnt.go (by assumption) ?_))
        refine ⟨e.kids.length - (j + 1), by omega, j + 1, rfl, by omega, by omega, ?_⟩
        unfold Hold at *
        exact ⟨by omega, _, _, ⟨by rw [c3]; simp [encC_eq], rfl, rfl⟩, .inl ⟨rfl, rfl⟩⟩
    · have w8 : j = e.kids.length := by omega
      subst w8
      rw [List.take_of_length_le (by simp)] at g6
      have hu := unfE_eq e
      clear ih hj g5
      obtain ⟨k, i, l⟩ := e
      simp only [Ex.k_mk, Ex.i_mk, Ex.kids_mk] at *
      by_cases c1 : k = 8
      · subst c1
        obtain ⟨a, b, hab⟩ := kids_two hm (.inr (.inl rfl))
        simp only [Ex.kids_mk] at hab
        subst hab
        rcases g6 with ⟨h0, rfl⟩ | ⟨hj0, c, d, rfl, hK⟩
        · cases h0
        · repeat' (first | (with_reducible refine T.sq fun K hK => ?_) | ((first | ((with_reducible refine T.reg hE ?hd ?_); (case hd => kernel_rfl)) | ((with_reducible refine T.any hE mixed ?hd ?hok ?_); (case hd => kernel_rfl); (case hok => kernel_rfl))); simp [*]; (repeat' (split; all_goals (rename_i hc; try simp [*])))) | ((with_reducible refine T.ret ?_); refine fin_pure ?_; simp [*]; try (change Hold _)) | (with_reducible refine T.block ?_) | ((with_reducible refine T.skip ?_); simp [*]) | ((with_reducible refine T.exit ?_); simp [*]) | ((with_reducible refine T.br fun K1 K2 hK1 hK2 => ?_); simp [*]; try ((refine Br.intro (fun hc => ?_) (fun hc => ?_)) <;> (try simp at hc))) | (with_reducible refine Cont.go (by assumption) _ ?_) | (with_reducible refine Cnt.go (by assumption) ?_))
          all_goals (unfold Hold; simp [unf0, notX, impX, encC_eq])
      by_cases c2 : k = 9
      · subst c2
        obtain ⟨a, b, hab⟩ := kids_two hm (.inr (.inr rfl))
        simp only [Ex.kids_mk] at hab
        subst hab
        rcases g6 with ⟨h0, rfl⟩ | ⟨hj0, c, d, rfl, hK⟩
        · cases h0
        · repeat' (first | (with_reducible refine T.sq fun K hK => ?_) | ((first | ((with_reducible refine T.reg hE ?hd ?_); (case hd => kernel_rfl)) | ((with_reducible refine T.any hE mixed ?hd ?hok ?_); (case hd => kernel_rfl); (case hok => kernel_rfl))); simp [*]; (repeat' (split; all_goals (rename_i hc; try simp [*])))) | ((with_reducible refine T.ret ?_); refine fin_pure ?_; simp [*]; try (change Hold _)) | (with_reducible refine T.block ?_) | ((with_reducible refine T.skip ?_); simp [*]) | ((with_reducible refine T.exit ?_); simp [*]) | ((with_reducible refine T.br fun K1 K2 hK1 hK2 => ?_); simp [*]; try ((refine Br.intro (fun hc => ?_) (fun hc => ?_)) <;> (try simp at hc))) | (with_reducible refine Cont.go (by assumption) _ ?_) | (with_reducible refine Cnt.go (by assumption) ?_))
          all_goals (unfold Hold; simp [unf0, notX, impX, encC_eq])
      by_cases c3 : k = 10
      · subst c3
        obtain ⟨a, hab⟩ := kids_one hm (.inr (.inr rfl))
        simp only [Ex.kids_mk] at hab
        subst hab
        rcases g6 with ⟨h0, rfl⟩ | ⟨hj0, c, d, rfl, hK⟩
        · cases h0
        · repeat' (first | (with_reducible refine T.sq fun K hK => ?_) | ((first | ((with_reducible refine T.reg hE ?hd ?_); (case hd => kernel_rfl)) | ((with_reducible refine T.any hE mixed ?hd ?hok ?_); (case hd => kernel_rfl); (case hok => kernel_rfl))); simp [*]; (repeat' (split; all_goals (rename_i hc; try simp [*])))) | ((with_reducible refine T.ret ?_); refine fin_pure ?_; simp [*]; try (change Hold _)) | (with_reducible refine T.block ?_) | ((with_reducible refine T.skip ?_); simp [*]) | ((with_reducible refine T.exit ?_); simp [*]) | ((with_reducible refine T.br fun K1 K2 hK1 hK2 => ?_); simp [*]; try ((refine Br.intro (fun hc => ?_) (fun hc => ?_)) <;> (try simp at hc))) | (with_reducible refine Cont.go (by assumption) _ ?_) | (with_reducible refine Cnt.go (by assumption) ?_))
          all_goals (unfold Hold; simp [unf0, notX, allQ, encC_eq])
      rcases g6 with ⟨h0, rfl⟩ | ⟨hj0, c, d, rfl, hK⟩
      · have hl : l = [] := List.eq_nil_of_length_eq_zero h0
        subst hl
        repeat' (first | (with_reducible refine T.sq fun K hK => ?_) | ((first | ((with_reducible refine T.reg hE ?hd ?_); (case hd => kernel_rfl)) | ((with_reducible refine T.any hE mixed ?hd ?hok ?_); (case hd => kernel_rfl); (case hok => kernel_rfl))); simp [*]; (repeat' (split; all_goals (rename_i hc; try simp [*])))) | ((with_reducible refine T.ret ?_); refine fin_pure ?_; simp [*]; try (change Hold _)) | (with_reducible refine T.block ?_) | ((with_reducible refine T.skip ?_); simp [*]) | ((with_reducible refine T.exit ?_); simp [*]) | ((with_reducible refine T.br fun K1 K2 hK1 hK2 => ?_); simp [*]; try ((refine Br.intro (fun hc => ?_) (fun hc => ?_)) <;> (try simp at hc))) | (with_reducible refine Cont.go (by assumption) _ ?_) | (with_reducible refine Cnt.go (by assumption) ?_))
        all_goals (unfold Hold; simp [unf0, c1, c2, c3, encC_eq])
      · repeat' (first | (with_reducible refine T.sq fun K hK => ?_) | ((first | ((with_reducible refine T.reg hE ?hd ?_); (case hd => kernel_rfl)) | ((with_reducible refine T.any hE mixed ?hd ?hok ?_); (case hd => kernel_rfl); (case hok => kernel_rfl))); simp [*]; (repeat' (split; all_goals (rename_i hc; try simp [*])))) | ((with_reducible refine T.ret ?_); refine fin_pure ?_; simp [*]; try (change Hold _)) | (with_reducible refine T.block ?_) | ((with_reducible refine T.skip ?_); simp [*]) | ((with_reducible refine T.exit ?_); simp [*]) | ((with_reducible refine T.br fun K1 K2 hK1 hK2 => ?_); simp [*]; try ((refine Br.intro (fun hc => ?_) (fun hc => ?_)) <;> (try simp at hc))) | (with_reducible refine Cont.go (by assumption) _ ?_) | (with_reducible refine Cnt.go (by assumption) ?_))
        all_goals (unfold Hold; simp [unf0, c1, c2, c3, encC_eq])
  · cases hr
def plainErr (e : Ex) : Int := if rightE e ≠ 0 then rightE e else rightE (unfE e)
def plainX (e : Ex) : Ex := if plainErr e = 0 then unfE e else ex0
def rightX (e : Ex) : Ex := if rightE e = 0 then e else ex0
@[simp] def gRight2 : List V → Option V := f1 kE fun e => some (.tup [enc (rightX e), .int .i64 (rightE e)])
theorem ok_pRight : PureOk Try.prog 34 gRight2 := by
  intro args r h
  obtain ⟨e, rfl, ⟨⟩⟩ := f1_inv h
  clear h
  have hE := ((EnvOk.nil (P := Try.prog) (eq := fun _ => false) (own := fun _ => false) (mem := fun _ => false) EqOk.none).addf ok_Right)
  refine ⟨⟨Try.f34, Try.func34, by decide, rfl⟩, pure_of_T Try.func34 rfl (by simp [Try.ntmps34]) fun q => ?_⟩
  by_cases v : rightE e = 0
  · repeat' (first | (with_reducible refine T.sq fun K hK => ?_) | ((first | ((with_reducible refine T.reg hE ?hd ?_); (case hd => kernel_rfl)) | ((with_reducible refine T.any hE mixed ?hd ?hok ?_); (case hd => kernel_rfl); (case hok => kernel_rfl))); simp [*]; (repeat' (split; all_goals (rename_i hc; try simp [*])))) | ((with_reducible refine T.ret ?_); refine fin_pure ?_; simp [*]; try (change Hold _)) | (with_reducible refine T.block ?_) | ((with_reducible refine T.skip ?_); simp [*]) | ((with_reducible refine T.exit ?_); simp [*]) | ((with_reducible refine T.br fun K1 K2 hK1 hK2 => ?_); simp [*]; try ((refine Br.intro (fun hc => ?_) (fun hc => ?_)) <;> (try simp at hc))) | (with_reducible refine Cont.go (by assumption) _ ?_) | (with_reducible refine Cnt.go (by assumption) ?_))
    all_goals (unfold Hold; simp [rightX, v, encC_eq])
  · repeat' (first | (with_reducible refine T.sq fun K hK => ?_) | ((first | ((with_reducible refine T.reg hE ?hd ?_); (case hd => kernel_rfl)) | ((with_reducible refine T.any hE mixed ?hd ?hok ?_); (case hd => kernel_rfl); (case hok => kernel_rfl))); simp [*]; (repeat' (split; all_goals (rename_i hc; try simp [*])))) | ((with_reducible refine T.ret ?_); refine fin_pure ?_; simp [*]; try (change Hold _)) | (with_reducible refine T.block ?_) | ((with_reducible refine T.skip ?_); simp [*]) | ((with_reducible refine T.exit ?_); simp [*]) | ((with_reducible refine T.br fun K1 K2 hK1 hK2 => ?_); simp [*]; try ((refine Br.intro (fun hc => ?_) (fun hc => ?_)) <;> (try simp at hc))) | (with_reducible refine Cont.go (by assumption) _ ?_) | (with_reducible refine Cnt.go (by assumption) ?_))
    all_goals (unfold Hold; simp [rightX, v, encC_eq, ex0])
@[simp] def gPlain : List V → Option V := f1 kE fun e => some (.tup [enc (plainX e), .int .i64 (plainErr e)])
theorem ok_Plain : PureOk Try.prog 16 gPlain := by
  intro args r h
  obtain ⟨e, rfl, ⟨⟩⟩ := f1_inv h
  clear h
  have hE := (((EnvOk.nil (P := Try.prog) (eq := fun _ => false) (own := fun _ => false) (mem := fun _ => false) EqOk.none).addf ok_pRight).addf ok_unfold)
  refine ⟨⟨Try.f16, Try.func16, by decide, rfl⟩, pure_of_T Try.func16 rfl (by simp [Try.ntmps16]) fun q => ?_⟩
  by_cases v : rightE e = 0
  · obtain ⟨z1, z2, z3⟩ := right_zero v
    have hp : plainErr e = rightE (unfE e) := by unfold plainErr; rw [if_neg (by omega)]
    have hx : Hold (plainX e = rightX (unfE e)) := by unfold Hold plainX rightX; rw [hp]
    repeat' (first | (with_reducible refine T.sq fun K hK => ?_) | ((first | ((with_reducible refine T.reg hE ?hd ?_); (case hd => kernel_rfl)) | ((with_reducible refine T.any hE mixed ?hd ?hok ?_); (case hd => kernel_rfl); (case hok => kernel_rfl))); simp [*]; (repeat' (split; all_goals (rename_i hc; try simp [*])))) | ((with_reducible refine T.ret ?_); refine fin_pure ?_; simp [*]; try (change Hold _)) | (with_reducible refine T.block ?_) | ((with_reducible refine T.skip ?_); simp [*]) | ((with_reducible refine T.exit ?_); simp [*]) | ((with_reducible refine T.br fun K1 K2 hK1 hK2 => ?_); simp [*]; try ((refine Br.intro (fun hc => ?_) (fun hc => ?_)) <;> (try simp at hc))) | (with_reducible refine Cont.go (by assumption) _ ?_) | (with_reducible refine Cnt.go (by assumption) ?_))
    all_goals (unfold Hold at *; rw [hx]; simp [encC_eq])
  · have hp : plainErr e = rightE e := by unfold plainErr; rw [if_pos v]
    have hx : Hold (plainX e = ex0) := by unfold Hold plainX; rw [hp, if_neg v]
    repeat' (first | (with_reducible refine T.sq fun K hK => ?_) | ((first | ((with_reducible refine T.reg hE ?hd ?_); (case hd => kernel_rfl)) | ((with_reducible refine T.any hE mixed ?hd ?hok ?_); (case hd => kernel_rfl); (case hok => kernel_rfl))); simp [*]; (repeat' (split; all_goals (rename_i hc; try simp [*])))) | ((with_reducible refine T.ret ?_); refine fin_pure ?_; simp [*]; try (change Hold _)) | (with_reducible refine T.block ?_) | ((with_reducible refine T.skip ?_); simp [*]) | ((with_reducible refine T.exit ?_); simp [*]) | ((with_reducible refine T.br fun K1 K2 hK1 hK2 => ?_); simp [*]; try ((refine Br.intro (fun hc => ?_) (fun hc => ?_)) <;> (try simp at hc))) | (with_reducible refine Cont.go (by assumption) _ ?_) | (with_reducible refine Cnt.go (by assumption) ?_))
    all_goals (unfold Hold at *; rw [hx]; simp [encC_eq, ex0])
end Go.Proofs.Ytmamhpbblicaeaa.Ax
