/- The nodes of an expression, told one behind the other. -/
import Derived.Test.YtaacfmakfkaddaaDoorAxR
import Derived.Test.YtaacfmakfkaddaaDoorAxT
set_option linter.unusedVariables false
set_option linter.unusedSimpArgs false
namespace Go.Proofs.YtaacfmakfkaddaaDoor.Ax
open Go Go.Proofs

mutual
def preE : Ex → Int → List (Int × Ex)
  | .mk k i l, d => (d, .mk k i l) :: preL l (IntKind.i64.wrap (d + 1))
def preL : List Ex → Int → List (Int × Ex)
  | [], _ => []
  | e :: l, d => preE e d ++ preL l d
end
theorem preE_eq (e : Ex) (d : Int) : preE e d = (d, e) :: preL e.kids (IntKind.i64.wrap (d + 1)) := by cases e; rw [preE]; rfl
theorem preL_take (l : List Ex) (d : Int) (j : Nat) (h : j < l.length) : preL (l.take (j + 1)) d = preL (l.take j) d ++ preE l[j] d := by
  induction l generalizing j with
  | nil => simp at h
  | cons e l ih =>
    cases j with
    | zero => simp [preL]
    | succ j =>
      simp only [List.take_succ_cons, preL, List.getElem_cons_succ]
      rw [ih j (by simpa using h), List.append_assoc]
theorem preL_split (l : List Ex) (d : Int) (j : Nat) (h : j < l.length) : preL l d = preL (l.take j) d ++ (preE l[j] d ++ preL (l.drop (j + 1)) d) := by
  induction l generalizing j with
  | nil => simp at h
  | cons e l ih =>
    cases j with
    | zero => simp [preL]
    | succ j =>
      simp only [List.take_succ_cons, preL, List.getElem_cons_succ, List.drop_succ_cons, List.append_assoc]
      rw [ih j (by simpa using h)]
theorem preE_at (e : Ex) (d : Int) (j : Nat) (h : j < e.kids.length) (i : Nat) (x : Int × Ex) (hi : (preE e.kids[j] (IntKind.i64.wrap (d + 1)))[i]? = some x) : (preE e d)[1 + (preL (e.kids.take j) (IntKind.i64.wrap (d + 1))).length + i]? = some x := by
  have hlt := (List.getElem?_eq_some_iff.1 hi).1
  rw [preE_eq, preL_split e.kids _ j h]
  rw [show 1 + (preL (e.kids.take j) (IntKind.i64.wrap (d + 1))).length + i = ((preL (e.kids.take j) (IntKind.i64.wrap (d + 1))).length + i) + 1 by omega]
  rw [List.getElem?_cons_succ, List.getElem?_append_right (by omega), Nat.add_sub_cancel_left, List.getElem?_append_left hlt]
  exact hi
def encP (x : Int × Ex) : List V := [.int .i64 x.1, enc x.2]

theorem ex_kid_lt (e : Ex) (j : Nat) (h : j < e.kids.length) : SizeOf.sizeOf e.kids[j] < SizeOf.sizeOf e := by
  have h1 := List.sizeOf_lt_of_mem (List.getElem_mem h)
  cases e with
  | mk a b l => simp at h1 ⊢; omega
theorem tell_ok {J : JW} (hJo : JOk J) {l : Nat} {xs : List (List V)} (hy : YlOk Tryd.prog J l xs) (e : Ex) (d : Int) (k : Nat) (hxs : ∀ i x, (preE e d)[i]? = some x → xs[k + i]? = some (encP x)) : HpOk Tryd.prog J 111 [enc e, .int .i64 d, .yl l] k (preE e d).length := by
  have hE := EnvOk.nil (P := Tryd.prog) (eq := fun _ => false) (own := fun _ => false) (mem := fun _ => false) EqOk.none
  have hx0 : xs[k]? = some [.int .i64 d, enc e] := by simpa [encP] using hxs 0 (d, e) (by simp [preE_eq])
  refine hp_of_TJ hJo Tryd.func111 rfl (by simp [Tryd.ntmps111]) ?_
  refine TJ.sq fun K hK => ?_
  refine TJ.reg hE hJo [3] rfl (by decide) ?_
  simp [frzs, fin0, frz]
  refine hK.go _ _ ?_
  refine TJ.sq fun K2 hK2 => ?_
  refine TJ.sq fun K3 hK3 => ?_
  refine TJ.yield hE hJo [] [_, _, _] [_] _ rfl rfl (by decide) hy hx0 (repL_plain (by intro y hy; simp only [List.mem_cons, List.not_mem_nil, or_false] at hy; rcases hy with rfl | rfl <;> first | exact plain_int _ _ | exact plain_enc e)) rfl ?_
  simp [frzs, fin0]
  refine ⟨hK3.go _ _ ?_, hK3.go _ _ ?_⟩
  · refine TJ.br fun K1 K2 h1 h2 => ?_
    simp
    refine h1.go ?_
    refine TJ.sq fun K4 hK4 => ?_
    refine TJ.reg hE hJo [] rfl (by decide) ?_
    simp [frzs, fin0]
    refine hK4.go _ _ (TJ.ret ?_)
    simp [finJ]
  · refine TJ.br fun K1 K2' h1 h2 => ?_
    simp
    refine h2.go (TJ.skip ?_)
    simp
    refine hK2.go _ _ ?_
    refine TJ.sq fun K5 hK5 => ?_
    refine TJ.sq fun K6 hK6 => ?_
    refine TJ.reg hE hJo [] rfl (by decide) ?_
    simp [frzs, fin0]
    refine hK6.go _ _ ?_
    refine TJ.len (t := 15) (els := encL e.kids) (tk := .no) (by simp) fun hlen => ?_
    rw [encL_length] at hlen
    refine TJ.block ?_
    refine TJ.loop (fun n k' σ => ∃ j, n = e.kids.length - j ∧ k' = some (k + 1 + (preL (e.kids.take j) (IntKind.i64.wrap (d + 1))).length) ∧ j ≤ e.kids.length ∧ σ.get 15 = .sl (encL e.kids) .no ∧ σ.get 16 = .int .i64 e.kids.length ∧ σ.get 17 = .int .i64 j ∧ σ.get 1 = .int .i64 d ∧ σ.get 2 = .yl l) e.kids.length ⟨0, by simp [preL]⟩ ?_
    rintro n k' σ ⟨j, rfl, rfl, hj, g15, g16, g17, g1, g2⟩
    refine TJ.sq fun K7 hK7 => ?_
    refine TJ.reg hE hJo [] rfl (by decide) ?_
    simp [frzs, fin0, *]
    refine hK7.go _ _ ?_
    refine TJ.sq fun K8 hK8 => ?_
    refine TJ.br fun K1 K2' h1 h2 => ?_
    simp
    by_cases hjl : j < e.kids.length
    · simp [hjl]
      refine h1.go (TJ.skip ?_)
      simp
      refine hK8.go _ _ ?_
      refine TJ.sq fun K9 hK9 => ?_
      refine TJ.block ?_
      refine TJ.sq fun K10 hK10 => ?_
      refine TJ.reg hE hJo [8] rfl (by decide) ?_
      have hw := wrap_succ hlen hjl
      simp [frzs, fin0, frz, *]
      refine hK10.go _ _ ?_
      refine TJ.sq fun K11 hK11 => ?_
      refine TJ.help hE hJo [] [_, _, _, _] [_] _ rfl rfl (by decide) ⟨Tryd.f111, Tryd.func111, by decide, rfl⟩ (tell_ok hJo hy e.kids[j] (IntKind.i64.wrap (d + 1)) (k + 1 + (preL (e.kids.take j) (IntKind.i64.wrap (d + 1))).length) fun i x hi => by
        have := hxs _ x (preE_at e d j hjl i x hi)
        rwa [show k + (1 + (preL (e.kids.take j) (IntKind.i64.wrap (d + 1))).length + i) = k + 1 + (preL (e.kids.take j) (IntKind.i64.wrap (d + 1))).length + i by omega] at this) (repL_plain (by intro y hy; simp only [List.mem_cons, List.not_mem_nil, or_false] at hy; rcases hy with rfl | rfl | rfl <;> first | exact plain_int _ _ | exact plain_yl _ | exact plain_enc _)) rfl ?_
      simp [frzs, fin0, frz, *]
      refine ⟨hK11.go _ _ ?_, hK11.go _ _ ?_⟩
      · refine TJ.br fun K1 K2' h1 h2 => ?_
        simp
        refine h1.go ?_
        refine TJ.sq fun K4 hK4 => ?_
        refine TJ.reg hE hJo [] rfl (by decide) ?_
        simp [frzs, fin0]
        refine hK4.go _ _ (TJ.ret ?_)
        simp [finJ]
      · refine TJ.br fun K1 K2' h1 h2 => ?_
        simp
        refine h2.go (TJ.skip ?_)
        simp
        refine hK9.go _ _ ?_
        refine TJ.reg hE hJo [] rfl (by decide) ?_
        simp [frzs, fin0, *]
        refine ⟨e.kids.length - (j + 1), by omega, j + 1, rfl, ?_, by omega, by omega⟩
        rw [preL_take _ _ _ hjl, List.length_append]; omega
    · have : j = e.kids.length := by omega
      subst this
      simp
      refine h2.go (TJ.exit ?_)
      simp
      refine hK5.go _ _ ?_
      refine TJ.sq fun K9 hK9 => ?_
      refine TJ.reg hE hJo [] rfl (by decide) ?_
      simp [frzs, fin0, *]
      refine hK9.go _ _ (TJ.ret ?_)
      simp [finJ, preE_eq]
      omega
termination_by SizeOf.sizeOf e
decreasing_by exact ex_kid_lt e j hjl
theorem iter_nodes (e : Ex) : IterOk Tryd.prog 110 [.cptr (encC e) 0] ((preE e 1).map encP) := by
  have hE := EnvOk.nil (P := Tryd.prog) (eq := fun _ => false) (own := fun _ => false) (mem := fun _ => false) EqOk.none
  refine iter_of_TJ Tryd.func110 rfl ⟨Tryd.f110, Tryd.func110, by decide, rfl⟩ (by simp [Tryd.ntmps110]) fun J l hJo hy => ?_
  refine TJ.help hE hJo [] [_, _] [] _ rfl rfl (by decide) ⟨Tryd.f111, Tryd.func111, by decide, rfl⟩ (tell_ok hJo hy e 1 0 fun i x hi => by simp [hi]) (repL_plain (by intro y hy; simp only [List.mem_cons, List.not_mem_nil, or_false] at hy; rcases hy with rfl | rfl | rfl <;> first | exact plain_int _ _ | exact plain_yl _ | exact plain_enc _)) rfl ?_
  simp [frzs, fin0, finJ, encC_eq, entry]
theorem plain_caps (e : Ex) (G : Ghost) (c : List Value) (h : RepL G c [.cptr (encC e) 0]) : RepL (gh G.fx) c [.cptr (encC e) 0] :=
  repL_plain (fun y hy => by simp only [List.mem_cons, List.not_mem_nil, or_false] at hy; subst hy; exact plain_cptr (plain_encC e)) G c h
@[simp] def gNodes : List V → Option V := f1 kE fun e => some (.fn 110 [.cptr (encC e) 0])
theorem ok_nodes : PureOk Tryd.prog 75 gNodes := by
  intro args r h
  obtain ⟨e, rfl, ⟨⟩⟩ := f1_inv h
  clear h
  have hE := (EnvOk.nil (P := Tryd.prog) (eq := fun _ => false) (own := fun _ => false) (mem := fun _ => false) EqOk.none)
  refine ⟨⟨Tryd.f75, Tryd.func75, by decide, rfl⟩, pure_of_T Tryd.func75 rfl (by simp [Tryd.ntmps75]) fun q => ?_⟩
  refine T.sq fun K hK => ?_
  refine T.reg hE rfl ?_
  simp
  refine hK.go _ ?_
  refine T.frz 1 (by decide) ?_
  simp [frz]
  repeat' (first | (with_reducible refine T.sq fun K hK => ?_) | ((first | ((with_reducible refine T.reg hE ?hd ?_); (case hd => kernel_rfl)) | ((with_reducible refine T.any hE mixed ?hd ?hok ?_); (case hd => kernel_rfl); (case hok => kernel_rfl))); simp [*]; (repeat' (split; all_goals (rename_i hc; try simp [*])))) | ((with_reducible refine T.ret ?_); refine fin_pure ?_; simp [*]; try (change Hold _)) | (with_reducible refine T.block ?_) | ((with_reducible refine T.skip ?_); simp [*]) | ((with_reducible refine T.exit ?_); simp [*]) | ((with_reducible refine T.br fun K1 K2 hK1 hK2 => ?_); simp [*]; try ((refine Br.intro (fun hc => ?_) (fun hc => ?_)) <;> (try simp at hc))) | (with_reducible refine Cont.go (by assumption) _ ?_) | (with_reducible refine Cnt.go (by assumption) ?_))
  all_goals (unfold Hold; simp [encC_eq, *])
end Go.Proofs.YtaacfmakfkaddaaDoor.Ax
