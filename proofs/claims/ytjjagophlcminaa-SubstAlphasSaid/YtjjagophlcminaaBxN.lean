/- Contracts: alike, by the reference. -/
import Derived.Test.YtjjagophlcminaaBxM
set_option linter.unusedVariables false
set_option linter.unusedSimpArgs false
namespace Go.Proofs.Ytjjagophlcminaa.Ax
open Go Go.Proofs

def okAk (a b : Ex) (p q : List Int) : Prop := p.length = q.length ∧ p.length + depE a ≤ 1000000
noncomputable instance (a b : Ex) (p q : List Int) : Decidable (okAk a b p q) := Classical.propDecidable _
@[simp] noncomputable def gAlk : List V → Option V := f4 kE kE (kIs .i64) (kIs .i64) fun a b p q => if okAk a b p q then some (.bool (alkE a b p q)) else none
set_option maxHeartbeats 4000000 in
theorem ok_rAlike : PureOk Try.prog 69 gAlk := by
  refine rec4 fun a ih b p q r hr => ?_
  split at hr
  · rename_i hm
    obtain ⟨m1, m2⟩ := hm
    cases hr
    have hE := ((((EnvOk.nil (P := Try.prog) (eq := fun _ => false) (own := fun _ => false) (mem := fun _ => false) EqOk.none).addf ok_rQuant).addf ok_rPlace).addf ih)
    refine ⟨⟨Try.f69, Try.func69, by decide, rfl⟩, pure_of_T Try.func69 rfl (by simp [Try.ntmps69]) fun q0 => ?_⟩
    have he := alkE_eq a b p q
    by_cases c1 : b.k = a.k
    rotate_left
    · have c1' : ¬ a.k = b.k := fun h => c1 h.symm
      have he' : Hold (alkE a b p q = false) := by unfold Hold; rw [he]; simp [c1']
      clear he
      repeat' (first
        | (with_reducible refine T.sq fun K hK => ?_)
        | ((first | ((with_reducible refine T.reg hE ?hd ?_); (case hd => kernel_rfl)) | ((with_reducible refine T.any hE mixed ?hd ?hok ?_); (case hd => kernel_rfl); (case hok => kernel_rfl))); simp [*]; (repeat' (split; all_goals (rename_i hc; try simp [*]))))
        | ((with_reducible refine T.ret ?_); refine fin_pure ?_; simp [*]; try (change Hold _))
        | (with_reducible refine T.block ?_)
        | ((with_reducible refine T.skip ?_); simp [*])
        | ((with_reducible refine T.exit ?_); simp [*])
        | ((with_reducible refine T.br fun K1 K2 hK1 hK2 => ?_); simp [*]; try ((refine Br.intro (fun hc => ?_) (fun hc => ?_)) <;> (try simp at hc)))
        | (with_reducible refine Cont.go (by assumption) _ ?_)
        | (with_reducible refine Cnt.go (by assumption) ?_))
      all_goals exact he'
    by_cases c2 : b.kids.length = a.kids.length
    rotate_left
    · have c2' : ¬ (a.kids.length : Int) = (b.kids.length : Int) := by omega
      have he' : Hold (alkE a b p q = false) := by unfold Hold; rw [he, decide_eq_false (show ¬ a.kids.length = b.kids.length by omega)]; simp
      clear he
      repeat' (first
        | (with_reducible refine T.sq fun K hK => ?_)
        | ((first | ((with_reducible refine T.reg hE ?hd ?_); (case hd => kernel_rfl)) | ((with_reducible refine T.any hE mixed ?hd ?hok ?_); (case hd => kernel_rfl); (case hok => kernel_rfl))); simp [*]; (repeat' (split; all_goals (rename_i hc; try simp [*]))))
        | ((with_reducible refine T.ret ?_); refine fin_pure ?_; simp [*]; try (change Hold _))
        | (with_reducible refine T.block ?_)
        | ((with_reducible refine T.skip ?_); simp [*])
        | ((with_reducible refine T.exit ?_); simp [*])
        | ((with_reducible refine T.br fun K1 K2 hK1 hK2 => ?_); simp [*]; try ((refine Br.intro (fun hc => ?_) (fun hc => ?_)) <;> (try simp at hc)))
        | (with_reducible refine Cont.go (by assumption) _ ?_)
        | (with_reducible refine Cnt.go (by assumption) ?_))
      all_goals exact he'
    have dk := depE_eq a
    have hd0 : 1 ≤ depE a := by omega
    by_cases c3 : a.k = 1
    · have he' : Hold (alkE a b p q = (decide (pl p a.i = pl q b.i) && (decide (0 ≤ pl p a.i) || decide (a.i = b.i)))) := by unfold Hold; rw [he, decide_eq_true c1.symm, decide_eq_true c2.symm, if_pos c3]; rfl
      clear he
      by_cases d1 : pl p a.i = pl q b.i
      · by_cases d2 : 0 ≤ pl q b.i
        · have he2 : Hold (alkE a b p q = true) := by unfold Hold at *; rw [he', d1]; simp [d2]
          clear he'
          repeat' (first
            | (with_reducible refine T.sq fun K hK => ?_)
            | ((first | ((with_reducible refine T.reg hE ?hd ?_); (case hd => kernel_rfl)) | ((with_reducible refine T.any hE mixed ?hd ?hok ?_); (case hd => kernel_rfl); (case hok => kernel_rfl))); simp [*]; (repeat' (split; all_goals (rename_i hc; try simp [*]))))
            | ((with_reducible refine T.ret ?_); refine fin_pure ?_; simp [*]; try (change Hold _))
            | (with_reducible refine T.block ?_)
            | ((with_reducible refine T.skip ?_); simp [*])
            | ((with_reducible refine T.exit ?_); simp [*])
            | ((with_reducible refine T.br fun K1 K2 hK1 hK2 => ?_); simp [*]; try ((refine Br.intro (fun hc => ?_) (fun hc => ?_)) <;> (try simp at hc)))
            | (with_reducible refine Cont.go (by assumption) _ ?_)
            | (with_reducible refine Cnt.go (by assumption) ?_))
          all_goals exact he2
        · have he2 : Hold (alkE a b p q = decide (a.i = b.i)) := by unfold Hold at *; rw [he', d1]; simp [d2]
          clear he'
          repeat' (first
            | (with_reducible refine T.sq fun K hK => ?_)
            | ((first | ((with_reducible refine T.reg hE ?hd ?_); (case hd => kernel_rfl)) | ((with_reducible refine T.any hE mixed ?hd ?hok ?_); (case hd => kernel_rfl); (case hok => kernel_rfl))); simp [*]; (repeat' (split; all_goals (rename_i hc; try simp [*]))))
            | ((with_reducible refine T.ret ?_); refine fin_pure ?_; simp [*]; try (change Hold _))
            | (with_reducible refine T.block ?_)
            | ((with_reducible refine T.skip ?_); simp [*])
            | ((with_reducible refine T.exit ?_); simp [*])
            | ((with_reducible refine T.br fun K1 K2 hK1 hK2 => ?_); simp [*]; try ((refine Br.intro (fun hc => ?_) (fun hc => ?_)) <;> (try simp at hc)))
            | (with_reducible refine Cont.go (by assumption) _ ?_)
            | (with_reducible refine Cnt.go (by assumption) ?_))
          all_goals (unfold Hold at *; exact he2.symm)
      · have he2 : Hold (alkE a b p q = false) := by unfold Hold at *; rw [he']; simp [d1]
        clear he'
        repeat' (first
          | (with_reducible refine T.sq fun K hK => ?_)
          | ((first | ((with_reducible refine T.reg hE ?hd ?_); (case hd => kernel_rfl)) | ((with_reducible refine T.any hE mixed ?hd ?hok ?_); (case hd => kernel_rfl); (case hok => kernel_rfl))); simp [*]; (repeat' (split; all_goals (rename_i hc; try simp [*]))))
          | ((with_reducible refine T.ret ?_); refine fin_pure ?_; simp [*]; try (change Hold _))
          | (with_reducible refine T.block ?_)
          | ((with_reducible refine T.skip ?_); simp [*])
          | ((with_reducible refine T.exit ?_); simp [*])
          | ((with_reducible refine T.br fun K1 K2 hK1 hK2 => ?_); simp [*]; try ((refine Br.intro (fun hc => ?_) (fun hc => ?_)) <;> (try simp at hc)))
          | (with_reducible refine Cont.go (by assumption) _ ?_)
          | (with_reducible refine Cnt.go (by assumption) ?_))
        all_goals exact he2
    by_cases c4 : isQ a = true
    · have c4' : a.k = 7 ∨ a.k = 10 := by simpa [isQ] using c4
      have he' : Hold (alkE a b p q = all2 (fun u v => alkE u v (p ++ [a.i]) (q ++ [b.i])) a.kids b.kids) := by
        unfold Hold; rw [he, decide_eq_true c1.symm, decide_eq_true c2.symm, if_neg c3, if_pos c4', alkL_eq]; rfl
      clear he
      cases p with
      | nil =>
        obtain rfl : q = [] := List.eq_nil_of_length_eq_zero m1.symm
        repeat' (first
          | (with_reducible refine T.sq fun K hK => ?_)
          | ((first | ((with_reducible refine T.reg hE ?hd ?_); (case hd => kernel_rfl)) | ((with_reducible refine T.any hE mixed ?hd ?hok ?_); (case hd => kernel_rfl); (case hok => kernel_rfl))); simp [*]; (repeat' (split; all_goals (rename_i hc; try simp [*]))))
          | ((with_reducible refine T.ret ?_); refine fin_pure ?_; simp [*]; try (change Hold _))
          | (with_reducible refine T.block ?_)
          | ((with_reducible refine T.skip ?_); simp [*])
          | ((with_reducible refine T.exit ?_); simp [*])
          | ((with_reducible refine T.br fun K1 K2 hK1 hK2 => ?_); simp [*]; try ((refine Br.intro (fun hc => ?_) (fun hc => ?_)) <;> (try simp at hc)))
          | (with_reducible refine Cont.go (by assumption) _ ?_)
          | (with_reducible refine Cnt.go (by assumption) ?_))
        refine T.len (t := 77) (els := encL a.kids) (tk := .no) (by simp [*]) fun hlen => ?_
        rw [encL_length] at hlen
        obtain ⟨P, hP⟩ : ∃ P : List Int, P = [] ++ [a.i] := ⟨_, rfl⟩
        obtain ⟨Q, hQ⟩ : ∃ Q : List Int, Q = [] ++ [b.i] := ⟨_, rfl⟩
        have hl1 : P.length = Q.length := by rw [hP, hQ] <;> simp
        have hl2 : P.length + depE a ≤ 1000001 := by rw [hP]; simp at m2 ⊢ <;> omega
        have he2 : Hold (alkE a b ([]) ([]) = all2 (fun u v => alkE u v P Q) a.kids b.kids) := by rw [hP, hQ]; exact he'
        clear he'
        have he' := he2
        clear he2
        refine T.loop (fun n σ => ∃ (j : Nat) (k1 k2 : Tk), n = a.kids.length - j ∧ σ.get 78 = .int .i64 a.kids.length ∧ σ.get 79 = .int .i64 j ∧ σ.get 4 = .ptr (0 :: 6 :: q0) 0 ∧ σ.get 5 = .ptr (0 :: 7 :: q0) 0 ∧ σ.get 11 = .sl (encI .i64 P) k1 ∧ σ.get 12 = .sl (encI .i64 Q) k2 ∧ σ.M (0 :: 6 :: q0) = some (.cells (encC a)) ∧ σ.M (0 :: 7 :: q0) = some (.cells (encC b)) ∧ j ≤ a.kids.length ∧ Hold (all2 (fun u v => alkE u v P Q) (a.kids.take j) (b.kids.take j) = true)) a.kids.length ⟨0, by simp [*, encC_eq, Hold, all2]⟩ ?_
        clear hP hQ
        rintro n σ ⟨j, k1, k2, rfl, g1, g2, g3, g4, g5, g6, g7, g8, g9, g10⟩
        rw [encC_eq] at g7 g8
        by_cases hj : j < a.kids.length
        · have hj2 : j < b.kids.length := by omega
          have hw := wrap_succ hlen hj
          have hs := ex_kid_lt a j hj
          have hdk := depE_kid (e := a) j hj
          have hok : okAk a.kids[j] b.kids[j] P Q := ⟨hl1, by omega⟩
          have c5 := all2_take (fun u v => alkE u v P Q) a.kids b.kids j hj hj2
          by_cases v : alkE a.kids[j] b.kids[j] P Q = true
          · have c6 : Hold (all2 (fun u v => alkE u v P Q) (a.kids.take (j + 1)) (b.kids.take (j + 1)) = true) := by unfold Hold at *; rw [c5, g10, v]; rfl
            clear c5
            repeat' (first
              | (with_reducible refine T.sq fun K hK => ?_)
              | ((first | ((with_reducible refine T.reg hE ?hd ?_); (case hd => kernel_rfl)) | ((with_reducible refine T.any hE mixed ?hd ?hok ?_); (case hd => kernel_rfl); (case hok => kernel_rfl))); simp [*]; (repeat' (split; all_goals (rename_i hc; try simp [*]))))
              | ((with_reducible refine T.ret ?_); refine fin_pure ?_; simp [*]; try (change Hold _))
              | (with_reducible refine T.block ?_)
              | ((with_reducible refine T.skip ?_); simp [*])
              | ((with_reducible refine T.exit ?_); simp [*])
              | ((with_reducible refine T.br fun K1 K2 hK1 hK2 => ?_); simp [*]; try ((refine Br.intro (fun hc => ?_) (fun hc => ?_)) <;> (try simp at hc)))
              | (with_reducible refine Cont.go (by assumption) _ ?_)
              | (with_reducible refine Cnt.go (by assumption) ?_))
            exact ⟨_, by omega, j + 1, rfl, by omega, by simp [encC_eq, *], by simp [encC_eq, *], by omega, c6⟩
          · rw [Bool.not_eq_true] at v
            have c6 : Hold (alkE a b ([]) ([]) = false) := by unfold Hold at *; rw [he']; exact all2_false _ _ _ j hj hj2 v
            clear c5
            repeat' (first
              | (with_reducible refine T.sq fun K hK => ?_)
              | ((first | ((with_reducible refine T.reg hE ?hd ?_); (case hd => kernel_rfl)) | ((with_reducible refine T.any hE mixed ?hd ?hok ?_); (case hd => kernel_rfl); (case hok => kernel_rfl))); simp [*]; (repeat' (split; all_goals (rename_i hc; try simp [*]))))
              | ((with_reducible refine T.ret ?_); refine fin_pure ?_; simp [*]; try (change Hold _))
              | (with_reducible refine T.block ?_)
              | ((with_reducible refine T.skip ?_); simp [*])
              | ((with_reducible refine T.exit ?_); simp [*])
              | ((with_reducible refine T.br fun K1 K2 hK1 hK2 => ?_); simp [*]; try ((refine Br.intro (fun hc => ?_) (fun hc => ?_)) <;> (try simp at hc)))
              | (with_reducible refine Cont.go (by assumption) _ ?_)
              | (with_reducible refine Cnt.go (by assumption) ?_))
            exact c6
        · have w8 : j = a.kids.length := by omega
          have w9 : a.kids.take j = a.kids := by rw [w8, List.take_length]
          have w10 : b.kids.take j = b.kids := by rw [w8, ← c2, List.take_length]
          rw [w9, w10] at g10
          have c6 : Hold (alkE a b ([]) ([]) = true) := by unfold Hold at *; rw [he', g10]
          clear w9 w10
          repeat' (first
            | (with_reducible refine T.sq fun K hK => ?_)
            | ((first | ((with_reducible refine T.reg hE ?hd ?_); (case hd => kernel_rfl)) | ((with_reducible refine T.any hE mixed ?hd ?hok ?_); (case hd => kernel_rfl); (case hok => kernel_rfl))); simp [*]; (repeat' (split; all_goals (rename_i hc; try simp [*]))))
            | ((with_reducible refine T.ret ?_); refine fin_pure ?_; simp [*]; try (change Hold _))
            | (with_reducible refine T.block ?_)
            | ((with_reducible refine T.skip ?_); simp [*])
            | ((with_reducible refine T.exit ?_); simp [*])
            | ((with_reducible refine T.br fun K1 K2 hK1 hK2 => ?_); simp [*]; try ((refine Br.intro (fun hc => ?_) (fun hc => ?_)) <;> (try simp at hc)))
            | (with_reducible refine Cont.go (by assumption) _ ?_)
            | (with_reducible refine Cnt.go (by assumption) ?_))
          exact c6
      | cons p1 ps =>
        obtain ⟨q1, qs, rfl⟩ : ∃ q1 qs, q = q1 :: qs := by cases q with | nil => simp at m1 | cons x l => exact ⟨x, l, rfl⟩
        have l1 : qs.length = ps.length := by simpa using m1.symm
        have b1 : (ps.length + 1) * 8 ≤ 140737488355328 := by simp at m2; omega
        have b2 : (ps.length + 1 + 1) * 8 ≤ 140737488355328 := by simp at m2; omega
        have a1 : encI .i64 (ps ++ [a.i]) = encI .i64 ps ++ [[V.int .i64 a.i]] := encI_append _ _ _
        have a2 : encI .i64 (qs ++ [b.i]) = encI .i64 qs ++ [[V.int .i64 b.i]] := encI_append _ _ _
        repeat' (first
          | (with_reducible refine T.sq fun K hK => ?_)
          | ((first | ((with_reducible refine T.reg hE ?hd ?_); (case hd => kernel_rfl)) | ((with_reducible refine T.any hE mixed ?hd ?hok ?_); (case hd => kernel_rfl); (case hok => kernel_rfl))); simp [*]; (repeat' (split; all_goals (rename_i hc; try simp [*]))))
          | ((with_reducible refine T.ret ?_); refine fin_pure ?_; simp [*]; try (change Hold _))
          | (with_reducible refine T.block ?_)
          | ((with_reducible refine T.skip ?_); simp [*])
          | ((with_reducible refine T.exit ?_); simp [*])
          | ((with_reducible refine T.br fun K1 K2 hK1 hK2 => ?_); simp [*]; try ((refine Br.intro (fun hc => ?_) (fun hc => ?_)) <;> (try simp at hc)))
          | (with_reducible refine Cont.go (by assumption) _ ?_)
          | (with_reducible refine Cnt.go (by assumption) ?_))
        refine T.len (t := 77) (els := encL a.kids) (tk := .no) (by simp [*]) fun hlen => ?_
        rw [encL_length] at hlen
        obtain ⟨P, hP⟩ : ∃ P : List Int, P = p1 :: ps ++ [a.i] := ⟨_, rfl⟩
        obtain ⟨Q, hQ⟩ : ∃ Q : List Int, Q = q1 :: qs ++ [b.i] := ⟨_, rfl⟩
        have hl1 : P.length = Q.length := by rw [hP, hQ]; simp [l1]
        have hl2 : P.length + depE a ≤ 1000001 := by rw [hP]; simp at m2 ⊢ <;> omega
        have he2 : Hold (alkE a b (p1 :: ps) (q1 :: qs) = all2 (fun u v => alkE u v P Q) a.kids b.kids) := by rw [hP, hQ]; exact he'
        clear he'
        have he' := he2
        clear he2
        refine T.loop (fun n σ => ∃ (j : Nat) (k1 k2 : Tk), n = a.kids.length - j ∧ σ.get 78 = .int .i64 a.kids.length ∧ σ.get 79 = .int .i64 j ∧ σ.get 4 = .ptr (0 :: 6 :: q0) 0 ∧ σ.get 5 = .ptr (0 :: 7 :: q0) 0 ∧ σ.get 11 = .sl (encI .i64 P) k1 ∧ σ.get 12 = .sl (encI .i64 Q) k2 ∧ σ.M (0 :: 6 :: q0) = some (.cells (encC a)) ∧ σ.M (0 :: 7 :: q0) = some (.cells (encC b)) ∧ j ≤ a.kids.length ∧ Hold (all2 (fun u v => alkE u v P Q) (a.kids.take j) (b.kids.take j) = true)) a.kids.length ⟨0, by simp [*, encC_eq, Hold, all2]⟩ ?_
        clear hP hQ
        rintro n σ ⟨j, k1, k2, rfl, g1, g2, g3, g4, g5, g6, g7, g8, g9, g10⟩
        rw [encC_eq] at g7 g8
        by_cases hj : j < a.kids.length
        · have hj2 : j < b.kids.length := by omega
          have hw := wrap_succ hlen hj
          have hs := ex_kid_lt a j hj
          have hdk := depE_kid (e := a) j hj
          have hok : okAk a.kids[j] b.kids[j] P Q := ⟨hl1, by omega⟩
          have c5 := all2_take (fun u v => alkE u v P Q) a.kids b.kids j hj hj2
          by_cases v : alkE a.kids[j] b.kids[j] P Q = true
          · have c6 : Hold (all2 (fun u v => alkE u v P Q) (a.kids.take (j + 1)) (b.kids.take (j + 1)) = true) := by unfold Hold at *; rw [c5, g10, v]; rfl
            clear c5
            repeat' (first
              | (with_reducible refine T.sq fun K hK => ?_)
              | ((first | ((with_reducible refine T.reg hE ?hd ?_); (case hd => kernel_rfl)) | ((with_reducible refine T.any hE mixed ?hd ?hok ?_); (case hd => kernel_rfl); (case hok => kernel_rfl))); simp [*]; (repeat' (split; all_goals (rename_i hc; try simp [*]))))
              | ((with_reducible refine T.ret ?_); refine fin_pure ?_; simp [*]; try (change Hold _))
              | (with_reducible refine T.block ?_)
              | ((with_reducible refine T.skip ?_); simp [*])
              | ((with_reducible refine T.exit ?_); simp [*])
              | ((with_reducible refine T.br fun K1 K2 hK1 hK2 => ?_); simp [*]; try ((refine Br.intro (fun hc => ?_) (fun hc => ?_)) <;> (try simp at hc)))
              | (with_reducible refine Cont.go (by assumption) _ ?_)
              | (with_reducible refine Cnt.go (by assumption) ?_))
            exact ⟨_, by omega, j + 1, rfl, by omega, by simp [encC_eq, *], by simp [encC_eq, *], by omega, c6⟩
          · rw [Bool.not_eq_true] at v
            have c6 : Hold (alkE a b (p1 :: ps) (q1 :: qs) = false) := by unfold Hold at *; rw [he']; exact all2_false _ _ _ j hj hj2 v
            clear c5
            repeat' (first
              | (with_reducible refine T.sq fun K hK => ?_)
              | ((first | ((with_reducible refine T.reg hE ?hd ?_); (case hd => kernel_rfl)) | ((with_reducible refine T.any hE mixed ?hd ?hok ?_); (case hd => kernel_rfl); (case hok => kernel_rfl))); simp [*]; (repeat' (split; all_goals (rename_i hc; try simp [*]))))
              | ((with_reducible refine T.ret ?_); refine fin_pure ?_; simp [*]; try (change Hold _))
              | (with_reducible refine T.block ?_)
              | ((with_reducible refine T.skip ?_); simp [*])
              | ((with_reducible refine T.exit ?_); simp [*])
              | ((with_reducible refine T.br fun K1 K2 hK1 hK2 => ?_); simp [*]; try ((refine Br.intro (fun hc => ?_) (fun hc => ?_)) <;> (try simp at hc)))
              | (with_reducible refine Cont.go (by assumption) _ ?_)
              | (with_reducible refine Cnt.go (by assumption) ?_))
            exact c6
        · have w8 : j = a.kids.length := by omega
          have w9 : a.kids.take j = a.kids := by rw [w8, List.take_length]
          have w10 : b.kids.take j = b.kids := by rw [w8, ← c2, List.take_length]
          rw [w9, w10] at g10
          have c6 : Hold (alkE a b (p1 :: ps) (q1 :: qs) = true) := by unfold Hold at *; rw [he', g10]
          clear w9 w10
          repeat' (first
            | (with_reducible refine T.sq fun K hK => ?_)
            | ((first | ((with_reducible refine T.reg hE ?hd ?_); (case hd => kernel_rfl)) | ((with_reducible refine T.any hE mixed ?hd ?hok ?_); (case hd => kernel_rfl); (case hok => kernel_rfl))); simp [*]; (repeat' (split; all_goals (rename_i hc; try simp [*]))))
            | ((with_reducible refine T.ret ?_); refine fin_pure ?_; simp [*]; try (change Hold _))
            | (with_reducible refine T.block ?_)
            | ((with_reducible refine T.skip ?_); simp [*])
            | ((with_reducible refine T.exit ?_); simp [*])
            | ((with_reducible refine T.br fun K1 K2 hK1 hK2 => ?_); simp [*]; try ((refine Br.intro (fun hc => ?_) (fun hc => ?_)) <;> (try simp at hc)))
            | (with_reducible refine Cont.go (by assumption) _ ?_)
            | (with_reducible refine Cnt.go (by assumption) ?_))
          exact c6
    · have c4' : ¬ (a.k = 7 ∨ a.k = 10) := by simpa [isQ] using c4
      by_cases c5 : b.i = a.i
      rotate_left
      · have c5' : ¬ a.i = b.i := fun h => c5 h.symm
        have he' : Hold (alkE a b p q = false) := by unfold Hold; rw [he, if_neg c3, if_neg c4']; simp [c5']
        clear he
        cases p with
        | nil =>
          obtain rfl : q = [] := List.eq_nil_of_length_eq_zero m1.symm
          repeat' (first
            | (with_reducible refine T.sq fun K hK => ?_)
            | ((first | ((with_reducible refine T.reg hE ?hd ?_); (case hd => kernel_rfl)) | ((with_reducible refine T.any hE mixed ?hd ?hok ?_); (case hd => kernel_rfl); (case hok => kernel_rfl))); simp [*]; (repeat' (split; all_goals (rename_i hc; try simp [*]))))
            | ((with_reducible refine T.ret ?_); refine fin_pure ?_; simp [*]; try (change Hold _))
            | (with_reducible refine T.block ?_)
            | ((with_reducible refine T.skip ?_); simp [*])
            | ((with_reducible refine T.exit ?_); simp [*])
            | ((with_reducible refine T.br fun K1 K2 hK1 hK2 => ?_); simp [*]; try ((refine Br.intro (fun hc => ?_) (fun hc => ?_)) <;> (try simp at hc)))
            | (with_reducible refine Cont.go (by assumption) _ ?_)
            | (with_reducible refine Cnt.go (by assumption) ?_))
          all_goals exact he'
        | cons p1 ps =>
          obtain ⟨q1, qs, rfl⟩ : ∃ q1 qs, q = q1 :: qs := by cases q with | nil => simp at m1 | cons x l => exact ⟨x, l, rfl⟩
          have l1 : qs.length = ps.length := by simpa using m1.symm
          have b1 : (ps.length + 1) * 8 ≤ 140737488355328 := by simp at m2; omega
          repeat' (first
            | (with_reducible refine T.sq fun K hK => ?_)
            | ((first | ((with_reducible refine T.reg hE ?hd ?_); (case hd => kernel_rfl)) | ((with_reducible refine T.any hE mixed ?hd ?hok ?_); (case hd => kernel_rfl); (case hok => kernel_rfl))); simp [*]; (repeat' (split; all_goals (rename_i hc; try simp [*]))))
            | ((with_reducible refine T.ret ?_); refine fin_pure ?_; simp [*]; try (change Hold _))
            | (with_reducible refine T.block ?_)
            | ((with_reducible refine T.skip ?_); simp [*])
            | ((with_reducible refine T.exit ?_); simp [*])
            | ((with_reducible refine T.br fun K1 K2 hK1 hK2 => ?_); simp [*]; try ((refine Br.intro (fun hc => ?_) (fun hc => ?_)) <;> (try simp at hc)))
            | (with_reducible refine Cont.go (by assumption) _ ?_)
            | (with_reducible refine Cnt.go (by assumption) ?_))
          all_goals exact he'
      have he' : Hold (alkE a b p q = all2 (fun u v => alkE u v p q) a.kids b.kids) := by
        unfold Hold; rw [he, decide_eq_true c1.symm, decide_eq_true c2.symm, if_neg c3, if_neg c4', alkL_eq, decide_eq_true c5.symm]; rfl
      clear he
      cases p with
      | nil =>
        obtain rfl : q = [] := List.eq_nil_of_length_eq_zero m1.symm
        repeat' (first
          | (with_reducible refine T.sq fun K hK => ?_)
          | ((first | ((with_reducible refine T.reg hE ?hd ?_); (case hd => kernel_rfl)) | ((with_reducible refine T.any hE mixed ?hd ?hok ?_); (case hd => kernel_rfl); (case hok => kernel_rfl))); simp [*]; (repeat' (split; all_goals (rename_i hc; try simp [*]))))
          | ((with_reducible refine T.ret ?_); refine fin_pure ?_; simp [*]; try (change Hold _))
          | (with_reducible refine T.block ?_)
          | ((with_reducible refine T.skip ?_); simp [*])
          | ((with_reducible refine T.exit ?_); simp [*])
          | ((with_reducible refine T.br fun K1 K2 hK1 hK2 => ?_); simp [*]; try ((refine Br.intro (fun hc => ?_) (fun hc => ?_)) <;> (try simp at hc)))
          | (with_reducible refine Cont.go (by assumption) _ ?_)
          | (with_reducible refine Cnt.go (by assumption) ?_))
        refine T.len (t := 77) (els := encL a.kids) (tk := .no) (by simp [*]) fun hlen => ?_
        rw [encL_length] at hlen
        obtain ⟨P, hP⟩ : ∃ P : List Int, P = [] := ⟨_, rfl⟩
        obtain ⟨Q, hQ⟩ : ∃ Q : List Int, Q = [] := ⟨_, rfl⟩
        have hl1 : P.length = Q.length := by rw [hP, hQ] <;> simp
        have hl2 : P.length + depE a ≤ 1000001 := by rw [hP]; simp at m2 ⊢ <;> omega
        have he2 : Hold (alkE a b ([]) ([]) = all2 (fun u v => alkE u v P Q) a.kids b.kids) := by rw [hP, hQ]; exact he'
        clear he'
        have he' := he2
        clear he2
        refine T.loop (fun n σ => ∃ (j : Nat) (k1 k2 : Tk), n = a.kids.length - j ∧ σ.get 78 = .int .i64 a.kids.length ∧ σ.get 79 = .int .i64 j ∧ σ.get 4 = .ptr (0 :: 6 :: q0) 0 ∧ σ.get 5 = .ptr (0 :: 7 :: q0) 0 ∧ σ.get 11 = .sl (encI .i64 P) k1 ∧ σ.get 12 = .sl (encI .i64 Q) k2 ∧ σ.M (0 :: 6 :: q0) = some (.cells (encC a)) ∧ σ.M (0 :: 7 :: q0) = some (.cells (encC b)) ∧ j ≤ a.kids.length ∧ Hold (all2 (fun u v => alkE u v P Q) (a.kids.take j) (b.kids.take j) = true)) a.kids.length ⟨0, by simp [*, encC_eq, Hold, all2]⟩ ?_
        clear hP hQ
        rintro n σ ⟨j, k1, k2, rfl, g1, g2, g3, g4, g5, g6, g7, g8, g9, g10⟩
        rw [encC_eq] at g7 g8
        by_cases hj : j < a.kids.length
        · have hj2 : j < b.kids.length := by omega
          have hw := wrap_succ hlen hj
          have hs := ex_kid_lt a j hj
          have hdk := depE_kid (e := a) j hj
          have hok : okAk a.kids[j] b.kids[j] P Q := ⟨hl1, by omega⟩
          have c5 := all2_take (fun u v => alkE u v P Q) a.kids b.kids j hj hj2
          by_cases v : alkE a.kids[j] b.kids[j] P Q = true
          · have c6 : Hold (all2 (fun u v => alkE u v P Q) (a.kids.take (j + 1)) (b.kids.take (j + 1)) = true) := by unfold Hold at *; rw [c5, g10, v]; rfl
            clear c5
            repeat' (first
              | (with_reducible refine T.sq fun K hK => ?_)
              | ((first | ((with_reducible refine T.reg hE ?hd ?_); (case hd => kernel_rfl)) | ((with_reducible refine T.any hE mixed ?hd ?hok ?_); (case hd => kernel_rfl); (case hok => kernel_rfl))); simp [*]; (repeat' (split; all_goals (rename_i hc; try simp [*]))))
              | ((with_reducible refine T.ret ?_); refine fin_pure ?_; simp [*]; try (change Hold _))
              | (with_reducible refine T.block ?_)
              | ((with_reducible refine T.skip ?_); simp [*])
              | ((with_reducible refine T.exit ?_); simp [*])
              | ((with_reducible refine T.br fun K1 K2 hK1 hK2 => ?_); simp [*]; try ((refine Br.intro (fun hc => ?_) (fun hc => ?_)) <;> (try simp at hc)))
              | (with_reducible refine Cont.go (by assumption) _ ?_)
              | (with_reducible refine Cnt.go (by assumption) ?_))
            exact ⟨_, by omega, j + 1, rfl, by omega, by simp [encC_eq, *], by simp [encC_eq, *], by omega, c6⟩
          · rw [Bool.not_eq_true] at v
            have c6 : Hold (alkE a b ([]) ([]) = false) := by unfold Hold at *; rw [he']; exact all2_false _ _ _ j hj hj2 v
            clear c5
            repeat' (first
              | (with_reducible refine T.sq fun K hK => ?_)
              | ((first | ((with_reducible refine T.reg hE ?hd ?_); (case hd => kernel_rfl)) | ((with_reducible refine T.any hE mixed ?hd ?hok ?_); (case hd => kernel_rfl); (case hok => kernel_rfl))); simp [*]; (repeat' (split; all_goals (rename_i hc; try simp [*]))))
              | ((with_reducible refine T.ret ?_); refine fin_pure ?_; simp [*]; try (change Hold _))
              | (with_reducible refine T.block ?_)
              | ((with_reducible refine T.skip ?_); simp [*])
              | ((with_reducible refine T.exit ?_); simp [*])
              | ((with_reducible refine T.br fun K1 K2 hK1 hK2 => ?_); simp [*]; try ((refine Br.intro (fun hc => ?_) (fun hc => ?_)) <;> (try simp at hc)))
              | (with_reducible refine Cont.go (by assumption) _ ?_)
              | (with_reducible refine Cnt.go (by assumption) ?_))
            exact c6
        · have w8 : j = a.kids.length := by omega
          have w9 : a.kids.take j = a.kids := by rw [w8, List.take_length]
          have w10 : b.kids.take j = b.kids := by rw [w8, ← c2, List.take_length]
          rw [w9, w10] at g10
          have c6 : Hold (alkE a b ([]) ([]) = true) := by unfold Hold at *; rw [he', g10]
          clear w9 w10
          repeat' (first
            | (with_reducible refine T.sq fun K hK => ?_)
            | ((first | ((with_reducible refine T.reg hE ?hd ?_); (case hd => kernel_rfl)) | ((with_reducible refine T.any hE mixed ?hd ?hok ?_); (case hd => kernel_rfl); (case hok => kernel_rfl))); simp [*]; (repeat' (split; all_goals (rename_i hc; try simp [*]))))
            | ((with_reducible refine T.ret ?_); refine fin_pure ?_; simp [*]; try (change Hold _))
            | (with_reducible refine T.block ?_)
            | ((with_reducible refine T.skip ?_); simp [*])
            | ((with_reducible refine T.exit ?_); simp [*])
            | ((with_reducible refine T.br fun K1 K2 hK1 hK2 => ?_); simp [*]; try ((refine Br.intro (fun hc => ?_) (fun hc => ?_)) <;> (try simp at hc)))
            | (with_reducible refine Cont.go (by assumption) _ ?_)
            | (with_reducible refine Cnt.go (by assumption) ?_))
          exact c6
      | cons p1 ps =>
        obtain ⟨q1, qs, rfl⟩ : ∃ q1 qs, q = q1 :: qs := by cases q with | nil => simp at m1 | cons x l => exact ⟨x, l, rfl⟩
        have l1 : qs.length = ps.length := by simpa using m1.symm
        have b1 : (ps.length + 1) * 8 ≤ 140737488355328 := by simp at m2; omega
        repeat' (first
          | (with_reducible refine T.sq fun K hK => ?_)
          | ((first | ((with_reducible refine T.reg hE ?hd ?_); (case hd => kernel_rfl)) | ((with_reducible refine T.any hE mixed ?hd ?hok ?_); (case hd => kernel_rfl); (case hok => kernel_rfl))); simp [*]; (repeat' (split; all_goals (rename_i hc; try simp [*]))))
          | ((with_reducible refine T.ret ?_); refine fin_pure ?_; simp [*]; try (change Hold _))
          | (with_reducible refine T.block ?_)
          | ((with_reducible refine T.skip ?_); simp [*])
          | ((with_reducible refine T.exit ?_); simp [*])
          | ((with_reducible refine T.br fun K1 K2 hK1 hK2 => ?_); simp [*]; try ((refine Br.intro (fun hc => ?_) (fun hc => ?_)) <;> (try simp at hc)))
          | (with_reducible refine Cont.go (by assumption) _ ?_)
          | (with_reducible refine Cnt.go (by assumption) ?_))
        refine T.len (t := 77) (els := encL a.kids) (tk := .no) (by simp [*]) fun hlen => ?_
        rw [encL_length] at hlen
        obtain ⟨P, hP⟩ : ∃ P : List Int, P = p1 :: ps := ⟨_, rfl⟩
        obtain ⟨Q, hQ⟩ : ∃ Q : List Int, Q = q1 :: qs := ⟨_, rfl⟩
        have hl1 : P.length = Q.length := by rw [hP, hQ]; simp [l1]
        have hl2 : P.length + depE a ≤ 1000001 := by rw [hP]; simp at m2 ⊢ <;> omega
        have he2 : Hold (alkE a b (p1 :: ps) (q1 :: qs) = all2 (fun u v => alkE u v P Q) a.kids b.kids) := by rw [hP, hQ]; exact he'
        clear he'
        have he' := he2
        clear he2
        refine T.loop (fun n σ => ∃ (j : Nat) (k1 k2 : Tk), n = a.kids.length - j ∧ σ.get 78 = .int .i64 a.kids.length ∧ σ.get 79 = .int .i64 j ∧ σ.get 4 = .ptr (0 :: 6 :: q0) 0 ∧ σ.get 5 = .ptr (0 :: 7 :: q0) 0 ∧ σ.get 11 = .sl (encI .i64 P) k1 ∧ σ.get 12 = .sl (encI .i64 Q) k2 ∧ σ.M (0 :: 6 :: q0) = some (.cells (encC a)) ∧ σ.M (0 :: 7 :: q0) = some (.cells (encC b)) ∧ j ≤ a.kids.length ∧ Hold (all2 (fun u v => alkE u v P Q) (a.kids.take j) (b.kids.take j) = true)) a.kids.length ⟨0, by simp [*, encC_eq, Hold, all2]⟩ ?_
        clear hP hQ
        rintro n σ ⟨j, k1, k2, rfl, g1, g2, g3, g4, g5, g6, g7, g8, g9, g10⟩
        rw [encC_eq] at g7 g8
        by_cases hj : j < a.kids.length
        · have hj2 : j < b.kids.length := by omega
          have hw := wrap_succ hlen hj
          have hs := ex_kid_lt a j hj
          have hdk := depE_kid (e := a) j hj
          have hok : okAk a.kids[j] b.kids[j] P Q := ⟨hl1, by omega⟩
          have c5 := all2_take (fun u v => alkE u v P Q) a.kids b.kids j hj hj2
          by_cases v : alkE a.kids[j] b.kids[j] P Q = true
          · have c6 : Hold (all2 (fun u v => alkE u v P Q) (a.kids.take (j + 1)) (b.kids.take (j + 1)) = true) := by unfold Hold at *; rw [c5, g10, v]; rfl
            clear c5
            repeat' (first
              | (with_reducible refine T.sq fun K hK => ?_)
              | ((first | ((with_reducible refine T.reg hE ?hd ?_); (case hd => kernel_rfl)) | ((with_reducible refine T.any hE mixed ?hd ?hok ?_); (case hd => kernel_rfl); (case hok => kernel_rfl))); simp [*]; (repeat' (split; all_goals (rename_i hc; try simp [*]))))
              | ((with_reducible refine T.ret ?_); refine fin_pure ?_; simp [*]; try (change Hold _))
              | (with_reducible refine T.block ?_)
              | ((with_reducible refine T.skip ?_); simp [*])
              | ((with_reducible refine T.exit ?_); simp [*])
              | ((with_reducible refine T.br fun K1 K2 hK1 hK2 => ?_); simp [*]; try ((refine Br.intro (fun hc => ?_) (fun hc => ?_)) <;> (try simp at hc)))
              | (with_reducible refine Cont.go (by assumption) _ ?_)
              | (with_reducible refine Cnt.go (by assumption) ?_))
            exact ⟨_, by omega, j + 1, rfl, by omega, by simp [encC_eq, *], by simp [encC_eq, *], by omega, c6⟩
          · rw [Bool.not_eq_true] at v
            have c6 : Hold (alkE a b (p1 :: ps) (q1 :: qs) = false) := by unfold Hold at *; rw [he']; exact all2_false _ _ _ j hj hj2 v
            clear c5
            repeat' (first
              | (with_reducible refine T.sq fun K hK => ?_)
              | ((first | ((with_reducible refine T.reg hE ?hd ?_); (case hd => kernel_rfl)) | ((with_reducible refine T.any hE mixed ?hd ?hok ?_); (case hd => kernel_rfl); (case hok => kernel_rfl))); simp [*]; (repeat' (split; all_goals (rename_i hc; try simp [*]))))
              | ((with_reducible refine T.ret ?_); refine fin_pure ?_; simp [*]; try (change Hold _))
              | (with_reducible refine T.block ?_)
              | ((with_reducible refine T.skip ?_); simp [*])
              | ((with_reducible refine T.exit ?_); simp [*])
              | ((with_reducible refine T.br fun K1 K2 hK1 hK2 => ?_); simp [*]; try ((refine Br.intro (fun hc => ?_) (fun hc => ?_)) <;> (try simp at hc)))
              | (with_reducible refine Cont.go (by assumption) _ ?_)
              | (with_reducible refine Cnt.go (by assumption) ?_))
            exact c6
        · have w8 : j = a.kids.length := by omega
          have w9 : a.kids.take j = a.kids := by rw [w8, List.take_length]
          have w10 : b.kids.take j = b.kids := by rw [w8, ← c2, List.take_length]
          rw [w9, w10] at g10
          have c6 : Hold (alkE a b (p1 :: ps) (q1 :: qs) = true) := by unfold Hold at *; rw [he', g10]
          clear w9 w10
          repeat' (first
            | (with_reducible refine T.sq fun K hK => ?_)
            | ((first | ((with_reducible refine T.reg hE ?hd ?_); (case hd => kernel_rfl)) | ((with_reducible refine T.any hE mixed ?hd ?hok ?_); (case hd => kernel_rfl); (case hok => kernel_rfl))); simp [*]; (repeat' (split; all_goals (rename_i hc; try simp [*]))))
            | ((with_reducible refine T.ret ?_); refine fin_pure ?_; simp [*]; try (change Hold _))
            | (with_reducible refine T.block ?_)
            | ((with_reducible refine T.skip ?_); simp [*])
            | ((with_reducible refine T.exit ?_); simp [*])
            | ((with_reducible refine T.br fun K1 K2 hK1 hK2 => ?_); simp [*]; try ((refine Br.intro (fun hc => ?_) (fun hc => ?_)) <;> (try simp at hc)))
            | (with_reducible refine Cont.go (by assumption) _ ?_)
            | (with_reducible refine Cnt.go (by assumption) ?_))
          exact c6
  · cases hr
end Go.Proofs.Ytjjagophlcminaa.Ax
