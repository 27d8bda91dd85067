/- Plain law: unfolded forms. -/
import Derived.Test.YtibfdebhbibfpaaGreatBxD
import Derived.Test.YtibfdebhbibfpaaGreatBxH
set_option linter.unusedVariables false
set_option linter.unusedSimpArgs false
namespace Go.Proofs.YtibfdebhbibfpaaGreat.Ax
open Go Go.Proofs

theorem encL_mapsucc (F : Ex → Ex) (l : List Ex) (j : Nat) (h : j < l.length) : encL ((l.map F).take (j + 1)) = encL ((l.map F).take j) ++ [encC (F l[j])] := by
  rw [List.take_add_one, encL_append]; simp [h, encC_eq]
def ex0 : Ex := .mk 0 0 []
def notX (a : Ex) : Ex := .mk 5 0 [a]
def impX (a b : Ex) : Ex := .mk 6 0 [a, b]
def allQ (x : Int) (a : Ex) : Ex := .mk 7 x [a]
def unf0 (k i : Int) (l : List Ex) : Ex :=
  if k = 8 then notX (impX (l.getD 0 ex0) (notX (l.getD 1 ex0))) else if k = 9 then impX (notX (l.getD 0 ex0)) (l.getD 1 ex0) else if k = 10 then notX (allQ i (notX (l.getD 0 ex0))) else .mk k i l
mutual
def unfE : Ex → Ex
  | .mk k i l => unf0 k i (unfL l)
def unfL : List Ex → List Ex
  | [] => []
  | e :: l => unfE e :: unfL l
end
/-- What an expression that may be has for kids. -/
theorem kids_two {e : Ex} (h : allX e = true) (hk : e.k = 6 ∨ e.k = 8 ∨ e.k = 9) : ∃ a b, e.kids = [a, b] := by
  rw [allX_eq, Bool.and_eq_true] at h
  have h1 := h.1
  unfold shapedX kidsAre at h1
  rw [Bool.and_eq_true] at h1
  have h2 := h1.2
  rw [if_neg (by omega), if_neg (by omega), if_neg (by omega), if_neg (by omega), if_pos hk] at h2
  simp only [Bool.and_eq_true, decide_eq_true_eq] at h2
  match hl : e.kids, h2 with
  | [a, b], _ => exact ⟨a, b, rfl⟩
  | [], h2 => simp at h2
  | [a], h2 => simp at h2
  | a :: b :: c :: l, h2 => simp at h2; omega
theorem kids_one {e : Ex} (h : allX e = true) (hk : e.k = 5 ∨ e.k = 7 ∨ e.k = 10) : ∃ a, e.kids = [a] := by
  rw [allX_eq, Bool.and_eq_true] at h
  have h1 := h.1
  unfold shapedX kidsAre at h1
  rw [Bool.and_eq_true] at h1
  have h2 := h1.2
  rw [if_neg (by omega), if_neg (by omega), if_neg (by omega), if_pos hk] at h2
  simp only [Bool.and_eq_true, decide_eq_true_eq] at h2
  match hl : e.kids, h2 with
  | [a], _ => exact ⟨a, rfl⟩
  | [], h2 => simp at h2
  | a :: b :: l, h2 => simp at h2; omega
theorem kids_four {e : Ex} (h : allX e = true) : e.kids.length ≤ 4 := by
  rw [allX_eq, Bool.and_eq_true] at h
  have h1 := h.1
  unfold shapedX kidsAre at h1
  rw [Bool.and_eq_true] at h1
  have h2 := h1.2
  repeat' split at h2
  all_goals first | (cases h2; done) | (simp only [Bool.and_eq_true, decide_eq_true_eq] at h2; omega)
@[simp] def gNotok_pNot : List V → Option V := f1 kE fun e => some (enc (notX e))
@[simp] def gNotok_rNot : List V → Option V := f1 kE fun e => some (enc (notX e))
theorem ok_rNot : PureOk Tryz.prog 103 gNotok_rNot := by
  intro args r h
  obtain ⟨e, rfl, ⟨⟩⟩ := f1_inv h
  clear h
  have hE := (EnvOk.nil (P := Tryz.prog) (eq := fun _ => false) (own := fun _ => false) (mem := fun _ => false) EqOk.none)
  refine ⟨⟨Tryz.f103, Tryz.func103, by decide, rfl⟩, pure_of_T Tryz.func103 rfl (by simp [Tryz.ntmps103]) fun q => ?_⟩
  repeat' (first | (with_reducible refine T.sq fun K hK => ?_) | ((first | ((with_reducible refine T.reg hE ?hd ?_); (case hd => kernel_rfl)) | ((with_reducible refine T.any hE mixed ?hd ?hok ?_); (case hd => kernel_rfl); (case hok => kernel_rfl))); simp [*]; (repeat' (split; all_goals (rename_i hc; try simp [*])))) | ((with_reducible refine T.ret ?_); refine fin_pure ?_; simp [*]; try (change Hold _)) | (with_reducible refine T.block ?_) | ((with_reducible refine T.skip ?_); simp [*]) | ((with_reducible refine T.exit ?_); simp [*]) | ((with_reducible refine T.br fun K1 K2 hK1 hK2 => ?_); simp [*]; try ((refine Br.intro (fun hc => ?_) (fun hc => ?_)) <;> (try simp at hc))) | (with_reducible refine Cont.go (by assumption) _ ?_) | (with_reducible refine Cnt.go (by assumption) ?_))
  all_goals (unfold Hold; simp [notX, encC_eq, *])
@[simp] def gImpok_pImp : List V → Option V := f2 kE kE fun a b => some (enc (impX a b))
@[simp] def gImpok_rImp : List V → Option V := f2 kE kE fun a b => some (enc (impX a b))
theorem ok_rImp : PureOk Tryz.prog 35 gImpok_rImp := by
  intro args r h
  obtain ⟨a, b, rfl, ⟨⟩⟩ := f2_inv h
  clear h
  have hE := (EnvOk.nil (P := Tryz.prog) (eq := fun _ => false) (own := fun _ => false) (mem := fun _ => false) EqOk.none)
  have hr2 : List.range 2 = [0, 1] := rfl
  refine ⟨⟨Tryz.f35, Tryz.func35, by decide, rfl⟩, pure_of_T Tryz.func35 rfl (by simp [Tryz.ntmps35]) fun q => ?_⟩
  repeat' (first | (with_reducible refine T.sq fun K hK => ?_) | ((first | ((with_reducible refine T.reg hE ?hd ?_); (case hd => kernel_rfl)) | ((with_reducible refine T.any hE mixed ?hd ?hok ?_); (case hd => kernel_rfl); (case hok => kernel_rfl))); simp [*]; (repeat' (split; all_goals (rename_i hc; try simp [*])))) | ((with_reducible refine T.ret ?_); refine fin_pure ?_; simp [*]; try (change Hold _)) | (with_reducible refine T.block ?_) | ((with_reducible refine T.skip ?_); simp [*]) | ((with_reducible refine T.exit ?_); simp [*]) | ((with_reducible refine T.br fun K1 K2 hK1 hK2 => ?_); simp [*]; try ((refine Br.intro (fun hc => ?_) (fun hc => ?_)) <;> (try simp at hc))) | (with_reducible refine Cont.go (by assumption) _ ?_) | (with_reducible refine Cnt.go (by assumption) ?_))
  all_goals (unfold Hold; simp [impX, encC_eq, *])
@[simp] def gAllok_rAll : List V → Option V := f2 (kI .i64) kE fun x a => some (enc (allQ x a))
theorem ok_rAll : PureOk Tryz.prog 105 gAllok_rAll := by
  intro args r h
  obtain ⟨x, a, rfl, ⟨⟩⟩ := f2_inv h
  clear h
  have hE := (EnvOk.nil (P := Tryz.prog) (eq := fun _ => false) (own := fun _ => false) (mem := fun _ => false) EqOk.none)
  refine ⟨⟨Tryz.f105, Tryz.func105, by decide, rfl⟩, pure_of_T Tryz.func105 rfl (by simp [Tryz.ntmps105]) fun q => ?_⟩
  repeat' (first | (with_reducible refine T.sq fun K hK => ?_) | ((first | ((with_reducible refine T.reg hE ?hd ?_); (case hd => kernel_rfl)) | ((with_reducible refine T.any hE mixed ?hd ?hok ?_); (case hd => kernel_rfl); (case hok => kernel_rfl))); simp [*]; (repeat' (split; all_goals (rename_i hc; try simp [*])))) | ((with_reducible refine T.ret ?_); refine fin_pure ?_; simp [*]; try (change Hold _)) | (with_reducible refine T.block ?_) | ((with_reducible refine T.skip ?_); simp [*]) | ((with_reducible refine T.exit ?_); simp [*]) | ((with_reducible refine T.br fun K1 K2 hK1 hK2 => ?_); simp [*]; try ((refine Br.intro (fun hc => ?_) (fun hc => ?_)) <;> (try simp at hc))) | (with_reducible refine Cont.go (by assumption) _ ?_) | (with_reducible refine Cnt.go (by assumption) ?_))
  all_goals (unfold Hold; simp [allQ, encC_eq, *])
def shortV (e : Ex) (l : List Ex) : V := if e.k = 8 then .ifc 198 (.agg (encC (l.getD 0 ex0) ++ encC (l.getD 1 ex0))) else if e.k = 9 then .ifc 199 (.agg (encC (l.getD 0 ex0) ++ encC (l.getD 1 ex0))) else if e.k = 10 then .ifc 201 (.agg (.int .i64 e.i :: encC (l.getD 0 ex0))) else .nilif
def okShort (e : Ex) (l : List Ex) : Prop := (e.k = 8 ∨ e.k = 9 → ∃ a b, l = [a, b]) ∧ (e.k = 10 → ∃ a, l = [a])
noncomputable instance (e : Ex) (l : List Ex) : Decidable (okShort e l) := Classical.propDecidable _
@[simp] noncomputable def gShort : List V → Option V := f2 kE kL fun e l => if okShort e l then some (shortV e l) else none
section
set_option linter.unusedVariables false
set_option linter.unusedSimpArgs false
open Go Go.Proofs

@[simp] def gUnf : List V → Option V := f1 kE fun e => if allX e = true then some (enc (unfE e)) else none
def plainErr (e : Ex) : Int := if rightE e ≠ 0 then rightE e else rightE (unfE e)
def plainX (e : Ex) : Ex := if plainErr e = 0 then unfE e else ex0
def rightX (e : Ex) : Ex := if rightE e = 0 then e else ex0
@[simp] def gRight2 : List V → Option V := f1 kE fun e => some (.tup [enc (rightX e), .int .i64 (rightE e)])
@[simp] def gPlain : List V → Option V := f1 kE fun e => some (.tup [enc (plainX e), .int .i64 (plainErr e)])
end
end Go.Proofs.YtibfdebhbibfpaaGreat.Ax
