/- Contracts: what is asked of formulas; RuleGens, walked. -/
import Derived.Test.YtiippmhlkcbjmaaBxY
import Derived.Test.YtiippmhlkcbjmaaBxQ
set_option linter.unusedVariables false
set_option linter.unusedSimpArgs false
namespace Go.Proofs.Ytiippmhlkcbjmaa.Ax
open Go Go.Proofs

def firstBad : List Ex → Int
  | [] => 0
  | e :: l => if rightE e ≠ 0 then rightE e else firstBad l
theorem firstBad_drop (l : List Ex) (j : Nat) (h : j < l.length) : firstBad (l.drop j) = if rightE l[j] ≠ 0 then rightE l[j] else firstBad (l.drop (j + 1)) := by
  rw [List.drop_eq_getElem_cons h, firstBad]
theorem firstBad_all : ∀ l : List Ex, firstBad l = 0 → ∀ e ∈ l, rightE e = 0
  | [], _, e, he => by cases he
  | x :: l, h, e, he => by
    rw [firstBad] at h
    split at h
    · rename_i hx; exact absurd h hx
    · rename_i hx
      rcases List.mem_cons.1 he with rfl | hm
      · omega
      · exact firstBad_all l h e hm
def anyT (l : List Ex) : Bool := l.any isT
def formsE (l : List Ex) : Int := if firstBad l ≠ 0 then firstBad l else if anyT l = true then 40 else 0
def wantF (e : Ex) : Int := if rightE e ≠ 0 then rightE e else if isT e then 40 else 0
theorem formsE_one (e : Ex) : formsE [e] = wantF e := by
  unfold formsE wantF firstBad firstBad
  by_cases h : rightE e = 0 <;> simp [h, anyT]
@[simp] def gForms : List V → Option V := f1 kL fun l => some (.int .i64 (formsE l))
theorem any_take_succ {α : Type} (l : List α) (f : α → Bool) (j : Nat) (h : j < l.length) : (l.take (j + 1)).any f = ((l.take j).any f || f l[j]) := by
  rw [List.take_add_one, List.any_append]; simp [h]
set_option maxHeartbeats 1000000 in
theorem ok_pForms : PureOk Try.prog 83 gForms := by
  intro args r h
  obtain ⟨l, rfl, ⟨⟩⟩ := f1_inv h
  clear h
  have hE := (((EnvOk.nil (P := Try.prog) (eq := fun _ => false) (own := fun _ => false) (mem := fun _ => false) EqOk.none).addf ok_Right).addf ok_IsTerm)
  refine ⟨⟨Try.f83, Try.func83, by decide, rfl⟩, pure_of_T Try.func83 rfl (by simp [Try.ntmps83]) fun q => ?_⟩
  repeat' (first
    | (with_reducible refine T.sq fun K hK => ?_)
    | ((first | ((with_reducible refine T.reg hE ?hd ?_); (case hd => kernel_rfl)) | ((with_reducible refine T.any hE mixed ?hd ?hok ?_); (case hd => kernel_rfl); (case hok => kernel_rfl))); simp [*]; (repeat' (split; all_goals (rename_i hc; try simp [*]))))
    | ((with_reducible refine T.ret ?_); refine fin_pure ?_; simp [*]; try (change Hold _))
    | (with_reducible refine T.block ?_)
    | ((with_reducible refine T.skip ?_); simp [*])
    | ((with_reducible refine T.exit ?_); simp [*])
    | ((with_reducible refine T.br fun K1 K2 hK1 hK2 => ?_); simp [*]; try ((refine Br.intro (fun hc => ?_) (fun hc => ?_)) <;> (try simp at hc)))
    | (with_reducible refine Cont.go (by assumption) _ ?_)
    | (with_reducible refine Cnt.go (by assumption) ?_))
  refine T.len (t := 8) (els := encL l) (tk := .no) (by simp [*]) fun hlen => ?_
  rw [encL_length] at hlen
  refine T.loop (fun n σ => ∃ j : Nat, n = l.length - j ∧ σ.get 0 = .sl (encL l) .no ∧ σ.get 8 = .sl (encL l) .no ∧ σ.get 9 = .int .i64 l.length ∧ σ.get 10 = .int .i64 j ∧ j ≤ l.length ∧ Hold (firstBad l = firstBad (l.drop j))) l.length ⟨0, by simp [Hold]⟩ ?_
  rintro n σ ⟨j, rfl, g1, g2, g3, g4, g5, g6⟩
  by_cases hj : j < l.length
  · have hw := wrap_succ hlen hj
    have hd := firstBad_drop l j hj
    by_cases v : rightE l[j] = 0
    · rw [if_neg (by omega)] at hd
      have hn : Hold (firstBad l = firstBad (l.drop (j + 1))) := by unfold Hold at *; rw [g6, hd]
      clear g6 hd
      repeat' (first
        | (with_reducible refine T.sq fun K hK => ?_)
        | ((first | ((with_reducible refine T.reg hE ?hd ?_); (case hd => kernel_rfl)) | ((with_reducible refine T.any hE mixed ?hd ?hok ?_); (case hd => kernel_rfl); (case hok => kernel_rfl))); simp [*]; (repeat' (split; all_goals (rename_i hc; try simp [*]))))
        | ((with_reducible refine T.ret ?_); refine fin_pure ?_; simp [*]; try (change Hold _))
        | (with_reducible refine T.block ?_)
        | ((with_reducible refine T.skip ?_); simp [*])
        | ((with_reducible refine T.exit ?_); simp [*])
        | ((with_reducible refine T.br fun K1 K2 hK1 hK2 => ?_); simp [*]; try ((refine Br.intro (fun hc => ?_) (fun hc => ?_)) <;> (try simp at hc)))
        | (with_reducible refine Cont.go (by assumption) _ ?_)
        | (with_reducible refine Cnt.go (by assumption) ?_))
      exact ⟨l.length - (j + 1), by omega, j + 1, rfl, by omega, by omega, hn⟩
    · rw [if_pos v] at hd
      have hn : Hold (formsE l = rightE l[j]) := by unfold Hold at *; unfold formsE; rw [g6, hd, if_pos v]
      clear g6 hd
      repeat' (first
        | (with_reducible refine T.sq fun K hK => ?_)
        | ((first | ((with_reducible refine T.reg hE ?hd ?_); (case hd => kernel_rfl)) | ((with_reducible refine T.any hE mixed ?hd ?hok ?_); (case hd => kernel_rfl); (case hok => kernel_rfl))); simp [*]; (repeat' (split; all_goals (rename_i hc; try simp [*]))))
        | ((with_reducible refine T.ret ?_); refine fin_pure ?_; simp [*]; try (change Hold _))
        | (with_reducible refine T.block ?_)
        | ((with_reducible refine T.skip ?_); simp [*])
        | ((with_reducible refine T.exit ?_); simp [*])
        | ((with_reducible refine T.br fun K1 K2 hK1 hK2 => ?_); simp [*]; try ((refine Br.intro (fun hc => ?_) (fun hc => ?_)) <;> (try simp at hc)))
        | (with_reducible refine Cont.go (by assumption) _ ?_)
        | (with_reducible refine Cnt.go (by assumption) ?_))
      all_goals (unfold Hold at *; rw [hn])
  · have w8 : j = l.length := by omega
    have h0 : firstBad l = 0 := by unfold Hold at g6; rw [g6, w8, List.drop_length]; rfl
    have hall := firstBad_all l h0
    have hf : Hold (formsE l = if anyT l = true then 40 else 0) := by unfold Hold formsE; rw [if_neg (by omega)]
    clear g6 w8 g5 h0
    repeat' (first
      | (with_reducible refine T.sq fun K hK => ?_)
      | ((first | ((with_reducible refine T.reg hE ?hd ?_); (case hd => kernel_rfl)) | ((with_reducible refine T.any hE mixed ?hd ?hok ?_); (case hd => kernel_rfl); (case hok => kernel_rfl))); simp [*]; (repeat' (split; all_goals (rename_i hc; try simp [*]))))
      | ((with_reducible refine T.ret ?_); refine fin_pure ?_; simp [*]; try (change Hold _))
      | (with_reducible refine T.block ?_)
      | ((with_reducible refine T.skip ?_); simp [*])
      | ((with_reducible refine T.exit ?_); simp [*])
      | ((with_reducible refine T.br fun K1 K2 hK1 hK2 => ?_); simp [*]; try ((refine Br.intro (fun hc => ?_) (fun hc => ?_)) <;> (try simp at hc)))
      | (with_reducible refine Cont.go (by assumption) _ ?_)
      | (with_reducible refine Cnt.go (by assumption) ?_))
    refine T.loop (fun n σ => ∃ j : Nat, n = l.length - j ∧ σ.get 20 = .sl (encL l) .no ∧ σ.get 21 = .int .i64 l.length ∧ σ.get 22 = .int .i64 j ∧ j ≤ l.length ∧ Hold (anyT (l.take j) = false)) l.length ⟨0, by simp [*, Hold, anyT]⟩ ?_
    clear g1 g2 g3 g4 hj
    rintro n σ ⟨j, rfl, g1, g2, g3, g4, g5⟩
    by_cases hj : j < l.length
    · have hw := wrap_succ hlen hj
      have hr := hall l[j] (List.getElem_mem hj)
      have ha : anyT (l.take (j + 1)) = (anyT (l.take j) || isT l[j]) := any_take_succ l isT j hj
      by_cases v : isT l[j] = true
      · have hy : Hold (formsE l = 40) := by unfold Hold at *; rw [hf, if_pos (show anyT l = true from List.any_eq_true.2 ⟨l[j], List.getElem_mem hj, v⟩)]
        clear hall ha hf
        repeat' (first
          | (with_reducible refine T.sq fun K hK => ?_)
          | ((first | ((with_reducible refine T.reg hE ?hd ?_); (case hd => kernel_rfl)) | ((with_reducible refine T.any hE mixed ?hd ?hok ?_); (case hd => kernel_rfl); (case hok => kernel_rfl))); simp [*]; (repeat' (split; all_goals (rename_i hc; try simp [*]))))
          | ((with_reducible refine T.ret ?_); refine fin_pure ?_; simp [*]; try (change Hold _))
          | (with_reducible refine T.block ?_)
          | ((with_reducible refine T.skip ?_); simp [*])
          | ((with_reducible refine T.exit ?_); simp [*])
          | ((with_reducible refine T.br fun K1 K2 hK1 hK2 => ?_); simp [*]; try ((refine Br.intro (fun hc => ?_) (fun hc => ?_)) <;> (try simp at hc)))
          | (with_reducible refine Cont.go (by assumption) _ ?_)
          | (with_reducible refine Cnt.go (by assumption) ?_))
        all_goals (unfold Hold at *; rw [hy])
      · rw [Bool.not_eq_true] at v
        have hn : Hold (anyT (l.take (j + 1)) = false) := by unfold Hold at *; rw [ha, g5, v]; rfl
        clear hall ha hf
        repeat' (first
          | (with_reducible refine T.sq fun K hK => ?_)
          | ((first | ((with_reducible refine T.reg hE ?hd ?_); (case hd => kernel_rfl)) | ((with_reducible refine T.any hE mixed ?hd ?hok ?_); (case hd => kernel_rfl); (case hok => kernel_rfl))); simp [*]; (repeat' (split; all_goals (rename_i hc; try simp [*]))))
          | ((with_reducible refine T.ret ?_); refine fin_pure ?_; simp [*]; try (change Hold _))
          | (with_reducible refine T.block ?_)
          | ((with_reducible refine T.skip ?_); simp [*])
          | ((with_reducible refine T.exit ?_); simp [*])
          | ((with_reducible refine T.br fun K1 K2 hK1 hK2 => ?_); simp [*]; try ((refine Br.intro (fun hc => ?_) (fun hc => ?_)) <;> (try simp at hc)))
          | (with_reducible refine Cont.go (by assumption) _ ?_)
          | (with_reducible refine Cnt.go (by assumption) ?_))
        exact ⟨l.length - (j + 1), by omega, j + 1, rfl, by omega, by omega, hn⟩
    · have w8 : j = l.length := by omega
      have hy : Hold (formsE l = 0) := by
        unfold Hold at *
        rw [w8, List.take_length] at g5
        rw [hf, g5]; rfl
      clear hall hf g5
      repeat' (first
        | (with_reducible refine T.sq fun K hK => ?_)
        | ((first | ((with_reducible refine T.reg hE ?hd ?_); (case hd => kernel_rfl)) | ((with_reducible refine T.any hE mixed ?hd ?hok ?_); (case hd => kernel_rfl); (case hok => kernel_rfl))); simp [*]; (repeat' (split; all_goals (rename_i hc; try simp [*]))))
        | ((with_reducible refine T.ret ?_); refine fin_pure ?_; simp [*]; try (change Hold _))
        | (with_reducible refine T.block ?_)
        | ((with_reducible refine T.skip ?_); simp [*])
        | ((with_reducible refine T.exit ?_); simp [*])
        | ((with_reducible refine T.br fun K1 K2 hK1 hK2 => ?_); simp [*]; try ((refine Br.intro (fun hc => ?_) (fun hc => ?_)) <;> (try simp at hc)))
        | (with_reducible refine Cont.go (by assumption) _ ?_)
        | (with_reducible refine Cnt.go (by assumption) ?_))
      all_goals (unfold Hold at *; rw [hy])
@[simp] def gWantF : List V → Option V := f1 kE fun e => some (.int .i64 (wantF e))
theorem ok_rWantF : PureOk Try.prog 107 gWantF := by
  intro args r h
  obtain ⟨e, rfl, ⟨⟩⟩ := f1_inv h
  clear h
  have hE := (((EnvOk.nil (P := Try.prog) (eq := fun _ => false) (own := fun _ => false) (mem := fun _ => false) EqOk.none).addf ok_rRight).addf ok_rTerm)
  refine ⟨⟨Try.f107, Try.func107, by decide, rfl⟩, pure_of_T Try.func107 rfl (by simp [Try.ntmps107]) fun q => ?_⟩
  by_cases v : rightE e = 0
  · by_cases u : isT e = true
    · repeat' (first
        | (with_reducible refine T.sq fun K hK => ?_)
        | ((first | ((with_reducible refine T.reg hE ?hd ?_); (case hd => kernel_rfl)) | ((with_reducible refine T.any hE mixed ?hd ?hok ?_); (case hd => kernel_rfl); (case hok => kernel_rfl))); simp [*]; (repeat' (split; all_goals (rename_i hc; try simp [*]))))
        | ((with_reducible refine T.ret ?_); refine fin_pure ?_; simp [*]; try (change Hold _))
        | (with_reducible refine T.block ?_)
        | ((with_reducible refine T.skip ?_); simp [*])
        | ((with_reducible refine T.exit ?_); simp [*])
        | ((with_reducible refine T.br fun K1 K2 hK1 hK2 => ?_); simp [*]; try ((refine Br.intro (fun hc => ?_) (fun hc => ?_)) <;> (try simp at hc)))
        | (with_reducible refine Cont.go (by assumption) _ ?_)
        | (with_reducible refine Cnt.go (by assumption) ?_))
      all_goals (unfold Hold wantF; simp [v, u])
    · repeat' (first
        | (with_reducible refine T.sq fun K hK => ?_)
        | ((first | ((with_reducible refine T.reg hE ?hd ?_); (case hd => kernel_rfl)) | ((with_reducible refine T.any hE mixed ?hd ?hok ?_); (case hd => kernel_rfl); (case hok => kernel_rfl))); simp [*]; (repeat' (split; all_goals (rename_i hc; try simp [*]))))
        | ((with_reducible refine T.ret ?_); refine fin_pure ?_; simp [*]; try (change Hold _))
        | (with_reducible refine T.block ?_)
        | ((with_reducible refine T.skip ?_); simp [*])
        | ((with_reducible refine T.exit ?_); simp [*])
        | ((with_reducible refine T.br fun K1 K2 hK1 hK2 => ?_); simp [*]; try ((refine Br.intro (fun hc => ?_) (fun hc => ?_)) <;> (try simp at hc)))
        | (with_reducible refine Cont.go (by assumption) _ ?_)
        | (with_reducible refine Cnt.go (by assumption) ?_))
      all_goals (unfold Hold wantF; simp [v, u])
  · repeat' (first
      | (with_reducible refine T.sq fun K hK => ?_)
      | ((first | ((with_reducible refine T.reg hE ?hd ?_); (case hd => kernel_rfl)) | ((with_reducible refine T.any hE mixed ?hd ?hok ?_); (case hd => kernel_rfl); (case hok => kernel_rfl))); simp [*]; (repeat' (split; all_goals (rename_i hc; try simp [*]))))
      | ((with_reducible refine T.ret ?_); refine fin_pure ?_; simp [*]; try (change Hold _))
      | (with_reducible refine T.block ?_)
      | ((with_reducible refine T.skip ?_); simp [*])
      | ((with_reducible refine T.exit ?_); simp [*])
      | ((with_reducible refine T.br fun K1 K2 hK1 hK2 => ?_); simp [*]; try ((refine Br.intro (fun hc => ?_) (fun hc => ?_)) <;> (try simp at hc)))
      | (with_reducible refine Cont.go (by assumption) _ ?_)
      | (with_reducible refine Cnt.go (by assumption) ?_))
    all_goals (unfold Hold wantF; simp [v])
def genErr (a : Ex) (x : Int) : Int := if 0 ≤ x ∧ x ≤ 63 then if wantF a ≠ 0 then wantF a else rightE (allQ x a) else 1
def genX (a : Ex) (x : Int) : Ex := if genErr a x = 0 then allQ x a else ex0
@[simp] def gGen : List V → Option V := f2 kE (kI .i64) fun a x => some (.tup [enc (genX a x), .int .i64 (genErr a x)])
theorem wantF_zero {e : Ex} (h : wantF e = 0) : rightE e = 0 ∧ isT e = false := by
  unfold wantF at h
  split at h
  · rename_i h1; exact absurd h h1
  · rename_i h1
    split at h
    · cases h
    · rename_i h2; exact ⟨by omega, by simpa using h2⟩
theorem partV_nil {a : Ex} (h : rightE a = 0) : partV a [] = .tup [enc a, .int .i64 0] := by unfold partV; rw [if_pos h, atX_nil]
set_option maxHeartbeats 1000000 in
theorem ok_Gen : PureOk Try.prog 55 gGen := by
  intro args r h
  obtain ⟨a, x, rfl, ⟨⟩⟩ := f2_inv h
  clear h
  have hE := ((((EnvOk.nil (P := Try.prog) (eq := fun _ => false) (own := fun _ => false) (mem := fun _ => false) EqOk.none).addf ok_pForms).addf ok_At).addf ok_pRight)
  refine ⟨⟨Try.f55, Try.func55, by decide, rfl⟩, pure_of_T Try.func55 rfl (by simp [Try.ntmps55]) fun q => ?_⟩
  by_cases c : 0 ≤ x ∧ x ≤ 63
  · have c1 : ¬ x < 0 := by omega
    have c2 : ¬ 63 < x := by omega
    have hf := formsE_one a
    by_cases v : wantF a = 0
    · obtain ⟨v1, v2⟩ := wantF_zero v
      have hp := partV_nil v1
      have hd0 : decI .i64 [] = some [] := rfl
      have he : genErr a x = rightE (allQ x a) := by unfold genErr; rw [if_pos c, if_neg (by omega)]
      have hx : Hold (genX a x = rightX (allQ x a)) := by unfold Hold genX rightX; rw [he]
      have hq : (Ex.mk 7 x [a]) = allQ x a := rfl
      clear c
      repeat' (first
        | (with_reducible refine T.sq fun K hK => ?_)
        | ((first | ((with_reducible refine T.reg hE ?hd ?_); (case hd => kernel_rfl)) | ((with_reducible refine T.any hE mixed ?hd ?hok ?_); (case hd => kernel_rfl); (case hok => kernel_rfl))); simp [*]; (repeat' (split; all_goals (rename_i hc; try simp [*]))))
        | ((with_reducible refine T.ret ?_); refine fin_pure ?_; simp [*]; try (change Hold _))
        | (with_reducible refine T.block ?_)
        | ((with_reducible refine T.skip ?_); simp [*])
        | ((with_reducible refine T.exit ?_); simp [*])
        | ((with_reducible refine T.br fun K1 K2 hK1 hK2 => ?_); simp [*]; try ((refine Br.intro (fun hc => ?_) (fun hc => ?_)) <;> (try simp at hc)))
        | (with_reducible refine Cont.go (by assumption) _ ?_)
        | (with_reducible refine Cnt.go (by assumption) ?_))
      all_goals (unfold Hold at *; rw [hx]; simp)
    · have he : genErr a x = wantF a := by unfold genErr; rw [if_pos c, if_pos v]
      have hx : Hold (genX a x = ex0) := by unfold Hold genX; rw [he, if_neg v]
      clear c
      repeat' (first
        | (with_reducible refine T.sq fun K hK => ?_)
        | ((first | ((with_reducible refine T.reg hE ?hd ?_); (case hd => kernel_rfl)) | ((with_reducible refine T.any hE mixed ?hd ?hok ?_); (case hd => kernel_rfl); (case hok => kernel_rfl))); simp [*]; (repeat' (split; all_goals (rename_i hc; try simp [*]))))
        | ((with_reducible refine T.ret ?_); refine fin_pure ?_; simp [*]; try (change Hold _))
        | (with_reducible refine T.block ?_)
        | ((with_reducible refine T.skip ?_); simp [*])
        | ((with_reducible refine T.exit ?_); simp [*])
        | ((with_reducible refine T.br fun K1 K2 hK1 hK2 => ?_); simp [*]; try ((refine Br.intro (fun hc => ?_) (fun hc => ?_)) <;> (try simp at hc)))
        | (with_reducible refine Cont.go (by assumption) _ ?_)
        | (with_reducible refine Cnt.go (by assumption) ?_))
      all_goals (unfold Hold at *; rw [hx]; simp [ex0])
  · have he : genErr a x = 1 := by unfold genErr; rw [if_neg c]
    have hx : Hold (genX a x = ex0) := by unfold Hold genX; rw [he]; rfl
    by_cases c1 : x < 0
    · clear c
      repeat' (first
        | (with_reducible refine T.sq fun K hK => ?_)
        | ((first | ((with_reducible refine T.reg hE ?hd ?_); (case hd => kernel_rfl)) | ((with_reducible refine T.any hE mixed ?hd ?hok ?_); (case hd => kernel_rfl); (case hok => kernel_rfl))); simp [*]; (repeat' (split; all_goals (rename_i hc; try simp [*]))))
        | ((with_reducible refine T.ret ?_); refine fin_pure ?_; simp [*]; try (change Hold _))
        | (with_reducible refine T.block ?_)
        | ((with_reducible refine T.skip ?_); simp [*])
        | ((with_reducible refine T.exit ?_); simp [*])
        | ((with_reducible refine T.br fun K1 K2 hK1 hK2 => ?_); simp [*]; try ((refine Br.intro (fun hc => ?_) (fun hc => ?_)) <;> (try simp at hc)))
        | (with_reducible refine Cont.go (by assumption) _ ?_)
        | (with_reducible refine Cnt.go (by assumption) ?_))
      all_goals (unfold Hold at *; rw [hx]; simp [ex0])
    · have c2 : 63 < x := by omega
      clear c
      repeat' (first
        | (with_reducible refine T.sq fun K hK => ?_)
        | ((first | ((with_reducible refine T.reg hE ?hd ?_); (case hd => kernel_rfl)) | ((with_reducible refine T.any hE mixed ?hd ?hok ?_); (case hd => kernel_rfl); (case hok => kernel_rfl))); simp [*]; (repeat' (split; all_goals (rename_i hc; try simp [*]))))
        | ((with_reducible refine T.ret ?_); refine fin_pure ?_; simp [*]; try (change Hold _))
        | (with_reducible refine T.block ?_)
        | ((with_reducible refine T.skip ?_); simp [*])
        | ((with_reducible refine T.exit ?_); simp [*])
        | ((with_reducible refine T.br fun K1 K2 hK1 hK2 => ?_); simp [*]; try ((refine Br.intro (fun hc => ?_) (fun hc => ?_)) <;> (try simp at hc)))
        | (with_reducible refine Cont.go (by assumption) _ ?_)
        | (with_reducible refine Cnt.go (by assumption) ?_))
      all_goals (unfold Hold at *; rw [hx]; simp [ex0])
end Go.Proofs.Ytiippmhlkcbjmaa.Ax
