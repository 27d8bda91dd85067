/- Plain law: unfolded forms. -/
import Derived.Test.YtmamhpbblicaeaaBxD
import Derived.Test.YtmamhpbblicaeaaBxH
set_option linter.unusedVariables false
set_option linter.unusedSimpArgs false
namespace Go.Proofs.Ytmamhpbblicaeaa.Ax
open Go Go.Proofs

theorem encL_mapsucc (F : Ex → Ex) (l : List Ex) (j : Nat) (h : j < l.length) : encL ((l.map F).take (j + 1)) = encL ((l.map F).take j) ++ [encC (F l[j])] := by
  rw [List.take_add_one, encL_append]; simp [h, encC_eq]
def ex0 : Ex := .mk 0 0 []
def notX (a : Ex) : Ex := .mk 5 0 [a]
def impX (a b : Ex) : Ex := .mk 6 0 [a, b]
def allQ (x : Int) (a : Ex) : Ex := .mk 7 x [a]
def unf0 (k i : Int) (l : List Ex) : Ex :=
  if k = 8 then notX (impX (l.getD 0 ex0) (notX (l.getD 1 ex0))) else if k = 9 then impX (notX (l.getD 0 ex0)) (l.getD 1 ex0) else if k = 10 then notX (allQ i (notX (l.getD 0 ex0))) else .mk k i l
mutual
def unfE : Ex → Ex
  | .mk k i l => unf0 k i (unfL l)
def unfL : List Ex → List Ex
  | [] => []
  | e :: l => unfE e :: unfL l
end
theorem unfL_map (l : List Ex) : unfL l = l.map unfE := by
  induction l with
  | nil => rw [unfL]; rfl
  | cons e l ih => rw [unfL, ih]; rfl
theorem unfE_eq (e : Ex) : unfE e = unf0 e.k e.i (e.kids.map unfE) := by cases e; rw [unfE, unfL_map]; rfl
/-- What an expression that may be has for kids. -/
theorem kids_two {e : Ex} (h : allX e = true) (hk : e.k = 6 ∨ e.k = 8 ∨ e.k = 9) : ∃ a b, e.kids = [a, b] := by
  rw [allX_eq, Bool.and_eq_true] at h
  have h1 := h.1
  unfold shapedX kidsAre at h1
  rw [Bool.and_eq_true] at h1
  have h2 := h1.2
  rw [if_neg (by omega), if_neg (by omega), if_neg (by omega), if_neg (by omega), if_pos hk] at h2
  simp only [Bool.and_eq_true, decide_eq_true_eq] at h2
  match hl : e.kids, h2 with
  | [a, b], _ => exact ⟨a, b, rfl⟩
  | [], h2 => simp at h2
  | [a], h2 => simp at h2
  | a :: b :: c :: l, h2 => simp at h2; omega
theorem kids_one {e : Ex} (h : allX e = true) (hk : e.k = 5 ∨ e.k = 7 ∨ e.k = 10) : ∃ a, e.kids = [a] := by
  rw [allX_eq, Bool.and_eq_true] at h
  have h1 := h.1
  unfold shapedX kidsAre at h1
  rw [Bool.and_eq_true] at h1
  have h2 := h1.2
  rw [if_neg (by omega), if_neg (by omega), if_neg (by omega), if_pos hk] at h2
  simp only [Bool.and_eq_true, decide_eq_true_eq] at h2
  match hl : e.kids, h2 with
  | [a], _ => exact ⟨a, rfl⟩
  | [], h2 => simp at h2
  | a :: b :: l, h2 => simp at h2; omega
theorem kids_four {e : Ex} (h : allX e = true) : e.kids.length ≤ 4 := by
  rw [allX_eq, Bool.and_eq_true] at h
  have h1 := h.1
  unfold shapedX kidsAre at h1
  rw [Bool.and_eq_true] at h1
  have h2 := h1.2
  repeat' split at h2
  all_goals first | (cases h2; done) | (simp only [Bool.and_eq_true, decide_eq_true_eq] at h2; omega)
@[simp] def gNotok_pNot : List V → Option V := f1 kE fun e => some (enc (notX e))
theorem ok_pNot : PureOk Try.prog 50 gNotok_pNot := by
  intro args r h
  obtain ⟨e, rfl, ⟨⟩⟩ := f1_inv h
  clear h
  have hE := (EnvOk.nil (P := Try.prog) (eq := fun _ => false) (own := fun _ => false) (mem := fun _ => false) EqOk.none)
  refine ⟨⟨Try.f50, Try.func50, by decide, rfl⟩, pure_of_T Try.func50 rfl (by simp [Try.ntmps50]) fun q => ?_⟩
  repeat' (first | (with_reducible refine T.sq fun K hK => ?_) | ((first | ((with_reducible refine T.reg hE ?hd ?_); (case hd => kernel_rfl)) | ((with_reducible refine T.any hE mixed ?hd ?hok ?_); (case hd => kernel_rfl); (case hok => kernel_rfl))); simp [*]; (repeat' (split; all_goals (rename_i hc; try simp [*])))) | ((with_reducible refine T.ret ?_); refine fin_pure ?_; simp [*]; try (change Hold _)) | (with_reducible refine T.block ?_) | ((with_reducible refine T.skip ?_); simp [*]) | ((with_reducible refine T.exit ?_); simp [*]) | ((with_reducible refine T.br fun K1 K2 hK1 hK2 => ?_); simp [*]; try ((refine Br.intro (fun hc => ?_) (fun hc => ?_)) <;> (try simp at hc))) | (with_reducible refine Cont.go (by assumption) _ ?_) | (with_reducible refine Cnt.go (by assumption) ?_))
  all_goals (unfold Hold; simp [notX, encC_eq, *])
@[simp] def gNotok_rNot : List V → Option V := f1 kE fun e => some (enc (notX e))
theorem ok_rNot : PureOk Try.prog 42 gNotok_rNot := by
  intro args r h
  obtain ⟨e, rfl, ⟨⟩⟩ := f1_inv h
  clear h
  have hE := (EnvOk.nil (P := Try.prog) (eq := fun _ => false) (own := fun _ => false) (mem := fun _ => false) EqOk.none)
  refine ⟨⟨Try.f42, Try.func42, by decide, rfl⟩, pure_of_T Try.func42 rfl (by simp [Try.ntmps42]) fun q => ?_⟩
  repeat' (first | (with_reducible refine T.sq fun K hK => ?_) | ((first | ((with_reducible refine T.reg hE ?hd ?_); (case hd => kernel_rfl)) | ((with_reducible refine T.any hE mixed ?hd ?hok ?_); (case hd => kernel_rfl); (case hok => kernel_rfl))); simp [*]; (repeat' (split; all_goals (rename_i hc; try simp [*])))) | ((with_reducible refine T.ret ?_); refine fin_pure ?_; simp [*]; try (change Hold _)) | (with_reducible refine T.block ?_) | ((with_reducible refine T.skip ?_); simp [*]) | ((with_reducible refine T.exit ?_); simp [*]) | ((with_reducible refine T.br fun K1 K2 hK1 hK2 => ?_); simp [*]; try ((refine Br.intro (fun hc => ?_) (fun hc => ?_)) <;> (try simp at hc))) | (with_reducible refine Cont.go (by assumption) _ ?_) | (with_reducible refine Cnt.go (by assumption) ?_))
  all_goals (unfold Hold; simp [notX, encC_eq, *])
@[simp] def gImpok_pImp : List V → Option V := f2 kE kE fun a b => some (enc (impX a b))
theorem ok_pImp : PureOk Try.prog 51 gImpok_pImp := by
  intro args r h
  obtain ⟨a, b, rfl, ⟨⟩⟩ := f2_inv h
  clear h
  have hE := (EnvOk.nil (P := Try.prog) (eq := fun _ => false) (own := fun _ => false) (mem := fun _ => false) EqOk.none)
  have hr2 : List.range 2 = [0, 1] := rfl
  refine ⟨⟨Try.f51, Try.func51, by decide, rfl⟩, pure_of_T Try.func51 rfl (by simp [Try.ntmps51]) fun q => ?_⟩
  repeat' (first | (with_reducible refine T.sq fun K hK => ?_) | ((first | ((with_reducible refine T.reg hE ?hd ?_); (case hd => kernel_rfl)) | ((with_reducible refine T.any hE mixed ?hd ?hok ?_); (case hd => kernel_rfl); (case hok => kernel_rfl))); simp [*]; (repeat' (split; all_goals (rename_i hc; try simp [*])))) | ((with_reducible refine T.ret ?_); refine fin_pure ?_; simp [*]; try (change Hold _)) | (with_reducible refine T.block ?_) | ((with_reducible refine T.skip ?_); simp [*]) | ((with_reducible refine T.exit ?_); simp [*]) | ((with_reducible refine T.br fun K1 K2 hK1 hK2 => ?_); simp [*]; try ((refine Br.intro (fun hc => ?_) (fun hc => ?_)) <;> (try simp at hc))) | (with_reducible refine Cont.go (by assumption) _ ?_) | (with_reducible refine Cnt.go (by assumption) ?_))
  all_goals (unfold Hold; simp [impX, encC_eq, *])
@[simp] def gImpok_rImp : List V → Option V := f2 kE kE fun a b => some (enc (impX a b))
theorem ok_rImp : PureOk Try.prog 24 gImpok_rImp := by
  intro args r h
  obtain ⟨a, b, rfl, ⟨⟩⟩ := f2_inv h
  clear h
  have hE := (EnvOk.nil (P := Try.prog) (eq := fun _ => false) (own := fun _ => false) (mem := fun _ => false) EqOk.none)
  have hr2 : List.range 2 = [0, 1] := rfl
  refine ⟨⟨Try.f24, Try.func24, by decide, rfl⟩, pure_of_T Try.func24 rfl (by simp [Try.ntmps24]) fun q => ?_⟩
  repeat' (first | (with_reducible refine T.sq fun K hK => ?_) | ((first | ((with_reducible refine T.reg hE ?hd ?_); (case hd => kernel_rfl)) | ((with_reducible refine T.any hE mixed ?hd ?hok ?_); (case hd => kernel_rfl); (case hok => kernel_rfl))); simp [*]; (repeat' (split; all_goals (rename_i hc; try simp [*])))) | ((with_reducible refine T.ret ?_); refine fin_pure ?_; simp [*]; try (change Hold _)) | (with_reducible refine T.block ?_) | ((with_reducible refine T.skip ?_); simp [*]) | ((with_reducible refine T.exit ?_); simp [*]) | ((with_reducible refine T.br fun K1 K2 hK1 hK2 => ?_); simp [*]; try ((refine Br.intro (fun hc => ?_) (fun hc => ?_)) <;> (try simp at hc))) | (with_reducible refine Cont.go (by assumption) _ ?_) | (with_reducible refine Cnt.go (by assumption) ?_))
  all_goals (unfold Hold; simp [impX, encC_eq, *])
@[simp] def gAllok_rAll : List V → Option V := f2 (kI .i64) kE fun x a => some (enc (allQ x a))
theorem ok_rAll : PureOk Try.prog 43 gAllok_rAll := by
  intro args r h
  obtain ⟨x, a, rfl, ⟨⟩⟩ := f2_inv h
  clear h
  have hE := (EnvOk.nil (P := Try.prog) (eq := fun _ => false) (own := fun _ => false) (mem := fun _ => false) EqOk.none)
  refine ⟨⟨Try.f43, Try.func43, by decide, rfl⟩, pure_of_T Try.func43 rfl (by simp [Try.ntmps43]) fun q => ?_⟩
  repeat' (first | (with_reducible refine T.sq fun K hK => ?_) | ((first | ((with_reducible refine T.reg hE ?hd ?_); (case hd => kernel_rfl)) | ((with_reducible refine T.any hE mixed ?hd ?hok ?_); (case hd => kernel_rfl); (case hok => kernel_rfl))); simp [*]; (repeat' (split; all_goals (rename_i hc; try simp [*])))) | ((with_reducible refine T.ret ?_); refine fin_pure ?_; simp [*]; try (change Hold _)) | (with_reducible refine T.block ?_) | ((with_reducible refine T.skip ?_); simp [*]) | ((with_reducible refine T.exit ?_); simp [*]) | ((with_reducible refine T.br fun K1 K2 hK1 hK2 => ?_); simp [*]; try ((refine Br.intro (fun hc => ?_) (fun hc => ?_)) <;> (try simp at hc))) | (with_reducible refine Cont.go (by assumption) _ ?_) | (with_reducible refine Cnt.go (by assumption) ?_))
  all_goals (unfold Hold; simp [allQ, encC_eq, *])
def shortV (e : Ex) (l : List Ex) : V := if e.k = 8 then .ifc 69 (.agg (encC (l.getD 0 ex0) ++ encC (l.getD 1 ex0))) else if e.k = 9 then .ifc 70 (.agg (encC (l.getD 0 ex0) ++ encC (l.getD 1 ex0))) else if e.k = 10 then .ifc 72 (.agg (.int .i64 e.i :: encC (l.getD 0 ex0))) else .nilif
def okShort (e : Ex) (l : List Ex) : Prop := (e.k = 8 ∨ e.k = 9 → ∃ a b, l = [a, b]) ∧ (e.k = 10 → ∃ a, l = [a])
noncomputable instance (e : Ex) (l : List Ex) : Decidable (okShort e l) := Classical.propDecidable _
@[simp] noncomputable def gShort : List V → Option V := f2 kE kL fun e l => if okShort e l then some (shortV e l) else none
theorem ok_shortOf : PureOk Try.prog 49 gShort := by
  intro args r h
  obtain ⟨e, l, rfl, hr⟩ := f2_inv h
  clear h
  split at hr
  · rename_i hm
    obtain ⟨m1, m2⟩ := hm
    cases hr
    have hE := (EnvOk.nil (P := Try.prog) (eq := fun _ => false) (own := fun _ => false) (mem := fun _ => false) EqOk.none)
    refine ⟨⟨Try.f49, Try.func49, by decide, rfl⟩, pure_of_T Try.func49 rfl (by simp [Try.ntmps49]) fun q => ?_⟩
    by_cases c1 : e.k = 8
    · obtain ⟨a, b, rfl⟩ := m1 (.inl c1)
      clear m1 m2
      repeat' (first | (with_reducible refine T.sq fun K hK => ?_) | ((first | ((with_reducible refine T.reg hE ?hd ?_); (case hd => kernel_rfl)) | ((with_reducible refine T.any hE mixed ?hd ?hok ?_); (case hd => kernel_rfl); (case hok => kernel_rfl))); simp [*]; (repeat' (split; all_goals (rename_i hc; try simp [*])))) | ((with_reducible refine T.ret ?_); refine fin_pure ?_; simp [*]; try (change Hold _)) | (with_reducible refine T.block ?_) | ((with_reducible refine T.skip ?_); simp [*]) | ((with_reducible refine T.exit ?_); simp [*]) | ((with_reducible refine T.br fun K1 K2 hK1 hK2 => ?_); simp [*]; try ((refine Br.intro (fun hc => ?_) (fun hc => ?_)) <;> (try simp at hc))) | (with_reducible refine Cont.go (by assumption) _ ?_) | (with_reducible refine Cnt.go (by assumption) ?_))
      all_goals (unfold Hold shortV; simp [encC_eq, *])
    by_cases c2 : e.k = 9
    · obtain ⟨a, b, rfl⟩ := m1 (.inr c2)
      clear m1 m2
      repeat' (first | (with_reducible refine T.sq fun K hK => ?_) | ((first | ((with_reducible refine T.reg hE ?hd ?_); (case hd => kernel_rfl)) | ((with_reducible refine T.any hE mixed ?hd ?hok ?_); (case hd => kernel_rfl); (case hok => kernel_rfl))); simp [*]; (repeat' (split; all_goals (rename_i hc; try simp [*])))) | ((with_reducible refine T.ret ?_); refine fin_pure ?_; simp [*]; try (change Hold _)) | (with_reducible refine T.block ?_) | ((with_reducible refine T.skip ?_); simp [*]) | ((with_reducible refine T.exit ?_); simp [*]) | ((with_reducible refine T.br fun K1 K2 hK1 hK2 => ?_); simp [*]; try ((refine Br.intro (fun hc => ?_) (fun hc => ?_)) <;> (try simp at hc))) | (with_reducible refine Cont.go (by assumption) _ ?_) | (with_reducible refine Cnt.go (by assumption) ?_))
      all_goals (unfold Hold shortV; simp [encC_eq, *])
    by_cases c3 : e.k = 10
    · obtain ⟨a, rfl⟩ := m2 c3
      clear m1 m2
      repeat' (first | (with_reducible refine T.sq fun K hK => ?_) | ((first | ((with_reducible refine T.reg hE ?hd ?_); (case hd => kernel_rfl)) | ((with_reducible refine T.any hE mixed ?hd ?hok ?_); (case hd => kernel_rfl); (case hok => kernel_rfl))); simp [*]; (repeat' (split; all_goals (rename_i hc; try simp [*])))) | ((with_reducible refine T.ret ?_); refine fin_pure ?_; simp [*]; try (change Hold _)) | (with_reducible refine T.block ?_) | ((with_reducible refine T.skip ?_); simp [*]) | ((with_reducible refine T.exit ?_); simp [*]) | ((with_reducible refine T.br fun K1 K2 hK1 hK2 => ?_); simp [*]; try ((refine Br.intro (fun hc => ?_) (fun hc => ?_)) <;> (try simp at hc))) | (with_reducible refine Cont.go (by assumption) _ ?_) | (with_reducible refine Cnt.go (by assumption) ?_))
      all_goals (unfold Hold shortV; simp [encC_eq, *])
    clear m1 m2
    repeat' (first | (with_reducible refine T.sq fun K hK => ?_) | ((first | ((with_reducible refine T.reg hE ?hd ?_); (case hd => kernel_rfl)) | ((with_reducible refine T.any hE mixed ?hd ?hok ?_); (case hd => kernel_rfl); (case hok => kernel_rfl))); simp [*]; (repeat' (split; all_goals (rename_i hc; try simp [*])))) | ((with_reducible refine T.ret ?_); refine fin_pure ?_; simp [*]; try (change Hold _)) | (with_reducible refine T.block ?_) | ((with_reducible refine T.skip ?_); simp [*]) | ((with_reducible refine T.exit ?_); simp [*]) | ((with_reducible refine T.br fun K1 K2 hK1 hK2 => ?_); simp [*]; try ((refine Br.intro (fun hc => ?_) (fun hc => ?_)) <;> (try simp at hc))) | (with_reducible refine Cont.go (by assumption) _ ?_) | (with_reducible refine Cnt.go (by assumption) ?_))
    all_goals (unfold Hold shortV; simp [*])
  · cases hr
theorem short8 (i : Int) (l : List Ex) (x y : Ex) : shortV (.mk 8 i l) [x, y] = .ifc 69 (.agg [.int .i64 x.k, .int .i64 x.i, .sl (encL x.kids) .no, .int .i64 y.k, .int .i64 y.i, .sl (encL y.kids) .no]) := by simp [shortV, encC_eq]
theorem short9 (i : Int) (l : List Ex) (x y : Ex) : shortV (.mk 9 i l) [x, y] = .ifc 70 (.agg [.int .i64 x.k, .int .i64 x.i, .sl (encL x.kids) .no, .int .i64 y.k, .int .i64 y.i, .sl (encL y.kids) .no]) := by simp [shortV, encC_eq]
theorem short10 (i : Int) (l : List Ex) (x : Ex) : shortV (.mk 10 i l) [x] = .ifc 72 (.agg [.int .i64 i, .int .i64 x.k, .int .i64 x.i, .sl (encL x.kids) .no]) := by simp [shortV, encC_eq]
theorem short_no {k : Int} (i : Int) (l m : List Ex) (h1 : ¬ k = 8) (h2 : ¬ k = 9) (h3 : ¬ k = 10) : shortV (.mk k i l) m = .nilif := by simp [shortV, h1, h2, h3]
end Go.Proofs.Ytmamhpbblicaeaa.Ax
