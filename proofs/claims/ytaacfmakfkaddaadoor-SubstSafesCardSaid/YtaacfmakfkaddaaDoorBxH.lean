/- Contracts: copies. -/
import Derived.Test.YtaacfmakfkaddaaDoorBxF
set_option linter.unusedVariables false
set_option linter.unusedSimpArgs false
namespace Go.Proofs.YtaacfmakfkaddaaDoor.Ax
open Go Go.Proofs

/- Its slices are no longer than a slice can be. -/
mutual
def smE : Ex → Bool
  | .mk _ _ l => decide (l.length * 40 ≤ 140737488355328) && smL l
def smL : List Ex → Bool
  | [] => true
  | e :: l => smE e && smL l
end
theorem smE_eq (e : Ex) : smE e = (decide (e.kids.length * 40 ≤ 140737488355328) && smL e.kids) := by cases e; rw [smE]; rfl
theorem smL_get : ∀ (l : List Ex) (j : Nat) (h : j < l.length), smL l = true → smE l[j] = true
  | e :: l, 0, h, hs => by rw [smL, Bool.and_eq_true] at hs; exact hs.1
  | e :: l, j + 1, h, hs => by rw [smL, Bool.and_eq_true] at hs; exact smL_get l j (by simpa using h) hs.2
theorem encL_take_succ (l : List Ex) (j : Nat) (h : j < l.length) : encL (l.take (j + 1)) = encL (l.take j) ++ [[.int .i64 l[j].k, .int .i64 l[j].i, .sl (encL l[j].kids) .no]] := by
  rw [List.take_add_one, encL_append]; simp [h]
@[simp] def gCopy : List V → Option V := f1 kE fun e => if smE e = true then some (enc e) else none
set_option maxHeartbeats 1000000 in
theorem ok_Copy : PureOk Tryd.prog 15 gCopy := by
  refine rec1 fun e ih r hr => ?_
  split at hr
  · rename_i hm
    cases hr
    rw [smE_eq, Bool.and_eq_true, decide_eq_true_eq] at hm
    obtain ⟨hm1, hm2⟩ := hm
    have hE := ((EnvOk.nil (P := Tryd.prog) (eq := fun _ => false) (own := fun _ => false) (mem := fun _ => false) EqOk.none).addf ih)
    refine ⟨⟨Tryd.f15, Tryd.func15, by decide, rfl⟩, pure_of_T Tryd.func15 rfl (by simp [Tryd.ntmps15]) fun q => ?_⟩
    repeat' (first | (with_reducible refine T.sq fun K hK => ?_) | ((first | ((with_reducible refine T.reg hE ?hd ?_); (case hd => kernel_rfl)) | ((with_reducible refine T.any hE mixed ?hd ?hok ?_); (case hd => kernel_rfl); (case hok => kernel_rfl))); simp [*]; (repeat' (split; all_goals (rename_i hc; try simp [*])))) | ((with_reducible refine T.ret ?_); refine fin_pure ?_; simp [*]; try (change Hold _)) | (with_reducible refine T.block ?_) | ((with_reducible refine T.skip ?_); simp [*]) | ((with_reducible refine T.exit ?_); simp [*]) | ((with_reducible refine T.br fun K1 K2 hK1 hK2 => ?_); simp [*]; try ((refine Br.intro (fun hc => ?_) (fun hc => ?_)) <;> (try simp at hc))) | (with_reducible refine Cont.go (by assumption) _ ?_) | (with_reducible refine Cnt.go (by assumption) ?_))
    refine T.len (t := 13) (els := encL e.kids) (tk := .no) (by simp [*]) fun hlen => ?_
    rw [encL_length] at hlen
    refine T.loop (fun n σ => ∃ (j : Nat) (w : V), n = e.kids.length - j ∧ σ.get 13 = .sl (encL e.kids) .no ∧ σ.get 14 = .int .i64 e.kids.length ∧ σ.get 15 = .int .i64 j ∧ j ≤ e.kids.length ∧ σ.get 2 = .ptr (0 :: 4 :: q) 0 ∧ σ.get 3 = .ptr (0 :: 5 :: q) 0 ∧ (∃ cs, σ.M (0 :: 4 :: q) = some (.cells [.int .i64 0, .int .i64 0, cs])) ∧ σ.M (0 :: 5 :: q) = some (.cells [.int .i64 e.k, .int .i64 e.i, w]) ∧ Hold ((j = 0 ∧ w = .nils) ∨ (0 < j ∧ ∃ id, w = .sl (encL (e.kids.take j)) (.own id 3) ∧ σ.K id = true))) e.kids.length ⟨0, .nils, by simp [*], by simp [*], by simp [*], by simp [*], by omega, by simp [*], by simp [*], ⟨.nils, by simp [*]⟩, by simp [*], .inl ⟨rfl, rfl⟩⟩ ?_
    rintro n σ ⟨j, w, rfl, g1, g2, g3, g4, g5, g6, ⟨cs, g7⟩, g8, g9⟩
    by_cases hj : j < e.kids.length
    · have hw := wrap_succ hlen hj
      have hs := ex_kid_lt e j hj
      have hsm := smL_get e.kids j hj hm2
      have u1 : (j + 1) * 40 ≤ 140737488355328 := by omega
      have c3 := encL_take_succ e.kids j hj
      rcases g9 with ⟨rfl, rfl⟩ | ⟨hj0, id, rfl, hK⟩
      · have hw1 : IntKind.i64.wrap 1 = 1 := wrap64 (by omega) (by omega)
        rw [List.take_zero, encL_nil, List.nil_append] at c3
        have c4 : Hold (encL (e.kids.take (0 + 1)) = [[.int .i64 e.kids[0].k, .int .i64 e.kids[0].i, .sl (encL e.kids[0].kids) .no]]) := c3
        clear c3 hw
        repeat' (first | (with_reducible refine T.sq fun K hK => ?_) | ((first | ((with_reducible refine T.reg hE ?hd ?_); (case hd => kernel_rfl)) | ((with_reducible refine T.any hE mixed ?hd ?hok ?_); (case hd => kernel_rfl); (case hok => kernel_rfl))); simp [*]; (repeat' (split; all_goals (rename_i hc; try simp [*])))) | ((with_reducible refine T.ret ?_); refine fin_pure ?_; simp [*]; try (change Hold _)) | (with_reducible refine T.block ?_) | ((with_reducible refine T.skip ?_); simp [*]) | ((with_reducible refine T.exit ?_); simp [*]) | ((with_reducible refine T.br fun K1 K2 hK1 hK2 => ?_); simp [*]; try ((refine Br.intro (fun hc => ?_) (fun hc => ?_)) <;> (try simp at hc))) | (with_reducible refine Cont.go (by assumption) _ ?_) | (with_reducible refine Cnt.go (by assumption) ?_))
        refine ⟨e.kids.length - 1, by omega, 1, rfl, by omega, by omega, ?_⟩
        unfold Hold at *
        exact ⟨by omega, _, ⟨c4.symm, rfl⟩, .inl rfl⟩
      · have hl3 : (∀ el : List V, el ∈ encL (e.kids.take j) → el.length = 3) = True := eq_true (encL_len3 (e.kids.take j))
        have c4 : Hold (encL (e.kids.take (j + 1)) = encL (e.kids.take j) ++ [[.int .i64 e.kids[j].k, .int .i64 e.kids[j].i, .sl (encL e.kids[j].kids) .no]]) := c3
        clear c3
        repeat' (first | (with_reducible refine T.sq fun K hK => ?_) | ((first | ((with_reducible refine T.reg hE ?hd ?_); (case hd => kernel_rfl)) | ((with_reducible refine T.any hE mixed ?hd ?hok ?_); (case hd => kernel_rfl); (case hok => kernel_rfl))); simp [*]; (repeat' (split; all_goals (rename_i hc; try simp [*])))) | ((with_reducible refine T.ret ?_); refine fin_pure ?_; simp [*]; try (change Hold _)) | (with_reducible refine T.block ?_) | ((with_reducible refine T.skip ?_); simp [*]) | ((with_reducible refine T.exit ?_); simp [*]) | ((with_reducible refine T.br fun K1 K2 hK1 hK2 => ?_); simp [*]; try ((refine Br.intro (fun hc => ?_) (fun hc => ?_)) <;> (try simp at hc))) | (with_reducible refine Cont.go (by assumption) _ ?_) | (with_reducible refine Cnt.go (by assumption) ?_))
        refine ⟨e.kids.length - (j + 1), by omega, j + 1, rfl, by omega, by omega, ?_⟩
        unfold Hold at *
        exact ⟨by omega, _, ⟨c4.symm, rfl⟩, .inl rfl⟩
    · have w8 : j = e.kids.length := by omega
      subst w8
      rcases g9 with ⟨h0, rfl⟩ | ⟨hj0, id, rfl, hK⟩
      · have hn : e.kids = [] := List.eq_nil_of_length_eq_zero h0
        repeat' (first | (with_reducible refine T.sq fun K hK => ?_) | ((first | ((with_reducible refine T.reg hE ?hd ?_); (case hd => kernel_rfl)) | ((with_reducible refine T.any hE mixed ?hd ?hok ?_); (case hd => kernel_rfl); (case hok => kernel_rfl))); simp [*]; (repeat' (split; all_goals (rename_i hc; try simp [*])))) | ((with_reducible refine T.ret ?_); refine fin_pure ?_; simp [*]; try (change Hold _)) | (with_reducible refine T.block ?_) | ((with_reducible refine T.skip ?_); simp [*]) | ((with_reducible refine T.exit ?_); simp [*]) | ((with_reducible refine T.br fun K1 K2 hK1 hK2 => ?_); simp [*]; try ((refine Br.intro (fun hc => ?_) (fun hc => ?_)) <;> (try simp at hc))) | (with_reducible refine Cont.go (by assumption) _ ?_) | (with_reducible refine Cnt.go (by assumption) ?_))
      · rw [List.take_length] at g8
        repeat' (first | (with_reducible refine T.sq fun K hK => ?_) | ((first | ((with_reducible refine T.reg hE ?hd ?_); (case hd => kernel_rfl)) | ((with_reducible refine T.any hE mixed ?hd ?hok ?_); (case hd => kernel_rfl); (case hok => kernel_rfl))); simp [*]; (repeat' (split; all_goals (rename_i hc; try simp [*])))) | ((with_reducible refine T.ret ?_); refine fin_pure ?_; simp [*]; try (change Hold _)) | (with_reducible refine T.block ?_) | ((with_reducible refine T.skip ?_); simp [*]) | ((with_reducible refine T.exit ?_); simp [*]) | ((with_reducible refine T.br fun K1 K2 hK1 hK2 => ?_); simp [*]; try ((refine Br.intro (fun hc => ?_) (fun hc => ?_)) <;> (try simp at hc))) | (with_reducible refine Cont.go (by assumption) _ ?_) | (with_reducible refine Cnt.go (by assumption) ?_))
  · cases hr
end Go.Proofs.YtaacfmakfkaddaaDoor.Ax
