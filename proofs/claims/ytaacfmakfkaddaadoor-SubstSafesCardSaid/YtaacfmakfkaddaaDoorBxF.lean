/- Contracts: which expression stands ahead. -/
import Derived.Test.YtaacfmakfkaddaaDoorBxD
import Derived.Laws.StructEq
set_option linter.unusedVariables false
set_option linter.unusedSimpArgs false
namespace Go.Proofs.YtaacfmakfkaddaaDoor.Ax
section
open Go Go.Proofs

def ordI (a b : Int) : Int := if a < b then -1 else if b < a then 1 else 0
mutual
def ordE : Ex → Ex → Int
  | .mk k i l, .mk k' i' l' => if k ≠ k' then ordI k k' else if i ≠ i' then ordI i i' else if l.length ≠ l'.length then ordI l.length l'.length else ordL l l'
def ordL : List Ex → List Ex → Int
  | a :: l, b :: m => if ordE a b ≠ 0 then ordE a b else ordL l m
  | _, _ => 0
end
theorem ordE_eq (a b : Ex) : ordE a b = if a.k ≠ b.k then ordI a.k b.k else if a.i ≠ b.i then ordI a.i b.i else if a.kids.length ≠ b.kids.length then ordI a.kids.length b.kids.length else ordL a.kids b.kids := by
  cases a; cases b; rw [ordE]; rfl
@[simp] def gBy : List V → Option V := f2 (kI .i64) (kI .i64) fun a b => some (.int .i64 (ordI a b))
theorem ok_by : PureOk Tryd.prog 72 gBy := by
  intro args r h
  obtain ⟨a, b, rfl, ⟨⟩⟩ := f2_inv h
  clear h
  have hE := (EnvOk.nil (P := Tryd.prog) (eq := fun _ => false) (own := fun _ => false) (mem := fun _ => false) EqOk.none)
  refine ⟨⟨Tryd.f72, Tryd.func72, by decide, rfl⟩, pure_of_T Tryd.func72 rfl (by simp [Tryd.ntmps72]) fun q => ?_⟩
  repeat' (first | (with_reducible refine T.sq fun K hK => ?_) | ((first | ((with_reducible refine T.reg hE ?hd ?_); (case hd => kernel_rfl)) | ((with_reducible refine T.any hE mixed ?hd ?hok ?_); (case hd => kernel_rfl); (case hok => kernel_rfl))); simp [*]; (repeat' (split; all_goals (rename_i hc; try simp [*])))) | ((with_reducible refine T.ret ?_); refine fin_pure ?_; simp [*]; try (change Hold _)) | (with_reducible refine T.block ?_) | ((with_reducible refine T.skip ?_); simp [*]) | ((with_reducible refine T.exit ?_); simp [*]) | ((with_reducible refine T.br fun K1 K2 hK1 hK2 => ?_); simp [*]; try ((refine Br.intro (fun hc => ?_) (fun hc => ?_)) <;> (try simp at hc))) | (with_reducible refine Cont.go (by assumption) _ ?_) | (with_reducible refine Cnt.go (by assumption) ?_))
  all_goals (unfold Hold ordI; repeat' split)
  all_goals first | rfl | omega
@[simp] def gSign : List V → Option V := f1 kB fun b => some (.int .i64 (if b then -1 else 1))
@[simp] def gHead : List V → Option V := f1 kE fun e => some (.agg [.int .i64 e.k, .int .i64 e.i, .int .i64 e.kids.length])
theorem ordL_take : ∀ (l m : List Ex) (j : Nat) (h : j < l.length) (h' : j < m.length), ordL (l.take j) (m.take j) = 0 → ordL (l.take (j + 1)) (m.take (j + 1)) = ordE l[j] m[j] ∧ (ordE l[j] m[j] ≠ 0 → ordL l m = ordE l[j] m[j])
  | a :: l, b :: m, 0, _, _, _ => by
    simp only [List.take_succ_cons, List.take_zero, ordL, List.getElem_cons_zero]
    constructor
    · split
      · rfl
      · rename_i h; exact (Decidable.of_not_not h).symm
    · intro h; rw [if_pos h]
  | a :: l, b :: m, j + 1, h, h', h0 => by
    simp only [List.take_succ_cons, ordL, List.getElem_cons_succ] at h0 ⊢
    by_cases hz : ordE a b ≠ 0
    · rw [if_pos hz] at h0; exact absurd h0 hz
    · rw [if_neg hz] at h0
      rw [if_neg hz, if_neg hz]
      exact ordL_take l m j (by simpa using h) (by simpa using h') h0
@[simp] def gOrder : List V → Option V := f2 kE kE fun a b => some (.int .i64 (ordE a b))
@[simp] def gSame : List V → Option V := f2 kE kE fun a b => some (.bool (rightE a == 0 && rightE b == 0 && decide (ordE a b = 0)))
def bothE (a b : Ex) : Int := if rightE a ≠ 0 then rightE a else rightE b
@[simp] def gBoth : List V → Option V := f2 kE kE fun a b => some (.int .i64 (bothE a b))
theorem ok_rFirst : PureOk Tryd.prog 84 gBoth := by
  intro args r h
  obtain ⟨a, b, rfl, ⟨⟩⟩ := f2_inv h
  clear h
  have hE := ((EnvOk.nil (P := Tryd.prog) (eq := fun _ => false) (own := fun _ => false) (mem := fun _ => false) EqOk.none).addf ok_rRight)
  refine ⟨⟨Tryd.f84, Tryd.func84, by decide, rfl⟩, pure_of_T Tryd.func84 rfl (by simp [Tryd.ntmps84]) fun q => ?_⟩
  repeat' (first | (with_reducible refine T.sq fun K hK => ?_) | ((first | ((with_reducible refine T.reg hE ?hd ?_); (case hd => kernel_rfl)) | ((with_reducible refine T.any hE mixed ?hd ?hok ?_); (case hd => kernel_rfl); (case hok => kernel_rfl))); simp [*]; (repeat' (split; all_goals (rename_i hc; try simp [*])))) | ((with_reducible refine T.ret ?_); refine fin_pure ?_; simp [*]; try (change Hold _)) | (with_reducible refine T.block ?_) | ((with_reducible refine T.skip ?_); simp [*]) | ((with_reducible refine T.exit ?_); simp [*]) | ((with_reducible refine T.br fun K1 K2 hK1 hK2 => ?_); simp [*]; try ((refine Br.intro (fun hc => ?_) (fun hc => ?_)) <;> (try simp at hc))) | (with_reducible refine Cont.go (by assumption) _ ?_) | (with_reducible refine Cnt.go (by assumption) ?_))
  all_goals (unfold Hold; simp [bothE, *])
@[simp] def gCompare : List V → Option V := f2 kE kE fun a b => some (.tup [.int .i64 (if bothE a b = 0 then ordE a b else 0), .int .i64 (bothE a b)])
end
section
open Go Go.Proofs

/-- What lies in a box has the length that a slice can have. -/
theorem T.lenBox {P : Program} {ro : Option Nat} {N : Nat} {p : Path} {σ : St} {Q : Post} {c : Code} {id : Path} {cs : List V} {els : List (List V)} {tk : Tk} (h : σ.M id = some (.cells cs)) (hm : V.sl els tk ∈ cs) (k : els.length ≤ 9223372036854775807 → T P ro N p c σ Q) : T P ro N p c σ Q := fun ds G a w hR =>
  k (by
    obtain ⟨b, arr, T, _, _, hr, _⟩ := hR.sim.box id cs h
    obtain ⟨i, hi⟩ := List.mem_iff_getElem?.1 hm
    obtain ⟨v, _, hv⟩ := hr.get hi
    exact hv.len) ds G a w hR
theorem ordL_done : ∀ (l m : List Ex) (j : Nat), ordL (l.take j) (m.take j) ≠ 0 → ordL l m = ordL (l.take j) (m.take j)
  | [], m, j, h => by simp [ordL] at h
  | a :: l, [], j, h => by cases j <;> simp [ordL] at h
  | a :: l, b :: m, 0, h => by simp [ordL] at h
  | a :: l, b :: m, j + 1, h => by
    simp only [List.take_succ_cons, ordL] at h ⊢
    by_cases hz : ordE a b ≠ 0
    · rw [if_pos hz, if_pos hz]
    · rw [if_neg hz] at h ⊢; rw [if_neg hz]; exact ordL_done l m j h
def hd3 (a b : Ex) : Int := if ordI a.k b.k ≠ 0 then ordI a.k b.k else if ordI a.i b.i ≠ 0 then ordI a.i b.i else ordI a.kids.length b.kids.length
theorem ordI_zero (a b : Int) : ordI a b = 0 ↔ a = b := by unfold ordI; repeat' split
                                                           all_goals omega
theorem ordE_hd (a b : Ex) : ordE a b = if hd3 a b ≠ 0 then hd3 a b else ordL a.kids b.kids := by
  rw [ordE_eq]
  unfold hd3
  have h1 := ordI_zero a.k b.k
  have h2 := ordI_zero a.i b.i
  have h3 := ordI_zero a.kids.length b.kids.length
  by_cases e1 : a.k = b.k <;> by_cases e2 : a.i = b.i <;> by_cases e3 : a.kids.length = b.kids.length <;> simp [e1, e2, e3, h1, h2, h3] <;> simp_all <;> omega
theorem hd3_len {a b : Ex} (h : hd3 a b = 0) : a.kids.length = b.kids.length := by
  unfold hd3 at h
  have h3 := ordI_zero a.kids.length b.kids.length
  split at h
  · rename_i h'; exact absurd h h'
  · split at h
    · rename_i h'; exact absurd h h'
    · have := h3.1 h; omega
@[simp] def gLike : List V → Option V := f2 kE kE fun a b => some (.bool (decide (ordE a b = 0)))
set_option maxHeartbeats 1000000 in
theorem ok_rOrder : PureOk Tryd.prog 35 gOrder := by
  refine rec2 fun a ih b r hr => ?_
  cases hr
  have hE := (((EnvOk.nil (P := Tryd.prog) (eq := fun _ => false) (own := fun _ => false) (mem := fun _ => false) EqOk.none).addf ok_by).addf ih)
  refine ⟨⟨Tryd.f35, Tryd.func35, by decide, rfl⟩, pure_of_T Tryd.func35 rfl (by simp [Tryd.ntmps35]) fun q => ?_⟩
  repeat' (first | (with_reducible refine T.sq fun K hK => ?_) | ((first | ((with_reducible refine T.reg hE ?hd ?_); (case hd => kernel_rfl)) | ((with_reducible refine T.any hE mixed ?hd ?hok ?_); (case hd => kernel_rfl); (case hok => kernel_rfl))); simp [*]; (repeat' (split; all_goals (rename_i hc; try simp [*])))) | ((with_reducible refine T.ret ?_); refine fin_pure ?_; simp [*]; try (change Hold _)) | (with_reducible refine T.block ?_) | ((with_reducible refine T.skip ?_); simp [*]) | ((with_reducible refine T.exit ?_); simp [*]) | ((with_reducible refine T.br fun K1 K2 hK1 hK2 => ?_); simp [*]; try ((refine Br.intro (fun hc => ?_) (fun hc => ?_)) <;> (try simp at hc))) | (with_reducible refine Cont.go (by assumption) _ ?_) | (with_reducible refine Cnt.go (by assumption) ?_))
  all_goals
    refine T.loop (fun n σ => ∃ (j : Nat) (c : Int), n = a.kids.length - j ∧ σ.get 6 = .int .i64 j ∧ σ.get 2 = .ptr (0 :: 4 :: q) 0 ∧ σ.get 3 = .ptr (0 :: 5 :: q) 0 ∧ σ.M (0 :: 4 :: q) = some (.cells (encC a)) ∧ σ.M (0 :: 5 :: q) = some (.cells (encC b)) ∧ j ≤ a.kids.length ∧ j ≤ b.kids.length ∧ σ.get 5 = .int .i64 c ∧ Hold (c = if hd3 a b ≠ 0 then hd3 a b else ordL (a.kids.take j) (b.kids.take j))) a.kids.length
      ⟨0, hd3 a b, by simp [*], by simp [*], by simp [*], by simp [*], by simp [*, encC_eq], by simp [*, encC_eq], by omega, by omega, by simp [hd3, *], by unfold Hold; simp [ordL]⟩ ?_
    rintro n σ ⟨j, c, rfl, g1, g2, g3, g4, g5, g6, g7, g8, g9⟩
    rw [encC_eq] at g4 g5
    refine T.lenBox g4 (els := encL a.kids) (tk := .no) (by simp) fun hlen => ?_
    rw [encL_length] at hlen
    have ho := ordE_hd a b
    by_cases v0 : c = 0
    · subst v0
      have v1 : hd3 a b = 0 := by
        unfold Hold at g9
        split at g9
        · rename_i h; exact absurd g9.symm h
        · rename_i h; exact Decidable.of_not_not h
      have v2 : ordL (a.kids.take j) (b.kids.take j) = 0 := by unfold Hold at g9; rw [if_neg (by simp [v1])] at g9; exact g9.symm
      have v3 := hd3_len v1
      rw [if_neg (by simp [v1])] at ho
      by_cases hj : j < a.kids.length
      · have hj' : j < b.kids.length := by omega
        have hw := wrap_succ hlen hj
        have hs := ex_kid_lt a j hj
        have c3 := (ordL_take a.kids b.kids j hj hj' v2).1
        have g10 : Hold (ordE a.kids[j] b.kids[j] = ordL (a.kids.take (j + 1)) (b.kids.take (j + 1))) := by unfold Hold; rw [c3]
        clear ho c3 v2 v3 g9
        repeat' (first | (with_reducible refine T.sq fun K hK => ?_) | ((first | ((with_reducible refine T.reg hE ?hd ?_); (case hd => kernel_rfl)) | ((with_reducible refine T.any hE mixed ?hd ?hok ?_); (case hd => kernel_rfl); (case hok => kernel_rfl))); simp [*]; (repeat' (split; all_goals (rename_i hc; try simp [*])))) | ((with_reducible refine T.ret ?_); refine fin_pure ?_; simp [*]; try (change Hold _)) | (with_reducible refine T.block ?_) | ((with_reducible refine T.skip ?_); simp [*]) | ((with_reducible refine T.exit ?_); simp [*]) | ((with_reducible refine T.br fun K1 K2 hK1 hK2 => ?_); simp [*]; try ((refine Br.intro (fun hc => ?_) (fun hc => ?_)) <;> (try simp at hc))) | (with_reducible refine Cont.go (by assumption) _ ?_) | (with_reducible refine Cnt.go (by assumption) ?_))
        exact ⟨a.kids.length - (j + 1), by omega, j + 1, rfl, by omega, (encC_eq a).symm, (encC_eq b).symm, by omega, by omega, g10⟩
      · have w8 : j = a.kids.length := by omega
        have w9 : a.kids.take j = a.kids := by rw [w8, List.take_length]
        have w10 : b.kids.take j = b.kids := by rw [w8, v3, List.take_length]
        rw [w9, w10] at v2
        have g10 : Hold (ordE a b = 0) := by unfold Hold; rw [ho, v2]
        have hj' : ¬ j < b.kids.length := by omega
        clear ho v1 v2 v3 g9 w8 w9 w10
        repeat' (first | (with_reducible refine T.sq fun K hK => ?_) | ((first | ((with_reducible refine T.reg hE ?hd ?_); (case hd => kernel_rfl)) | ((with_reducible refine T.any hE mixed ?hd ?hok ?_); (case hd => kernel_rfl); (case hok => kernel_rfl))); simp [*]; (repeat' (split; all_goals (rename_i hc; try simp [*])))) | ((with_reducible refine T.ret ?_); refine fin_pure ?_; simp [*]; try (change Hold _)) | (with_reducible refine T.block ?_) | ((with_reducible refine T.skip ?_); simp [*]) | ((with_reducible refine T.exit ?_); simp [*]) | ((with_reducible refine T.br fun K1 K2 hK1 hK2 => ?_); simp [*]; try ((refine Br.intro (fun hc => ?_) (fun hc => ?_)) <;> (try simp at hc))) | (with_reducible refine Cont.go (by assumption) _ ?_) | (with_reducible refine Cnt.go (by assumption) ?_))
        all_goals (unfold Hold at *; omega)
    · have g10 : Hold (ordE a b = c) := by
        unfold Hold at *
        split at g9
        · rename_i h; rw [if_pos h] at ho; omega
        · rename_i h
          rw [if_neg h] at ho
          rw [ho, g9]
          exact ordL_done _ _ j (by rw [← g9]; exact v0)
      clear ho g9
      repeat' (first | (with_reducible refine T.sq fun K hK => ?_) | ((first | ((with_reducible refine T.reg hE ?hd ?_); (case hd => kernel_rfl)) | ((with_reducible refine T.any hE mixed ?hd ?hok ?_); (case hd => kernel_rfl); (case hok => kernel_rfl))); simp [*]; (repeat' (split; all_goals (rename_i hc; try simp [*])))) | ((with_reducible refine T.ret ?_); refine fin_pure ?_; simp [*]; try (change Hold _)) | (with_reducible refine T.block ?_) | ((with_reducible refine T.skip ?_); simp [*]) | ((with_reducible refine T.exit ?_); simp [*]) | ((with_reducible refine T.br fun K1 K2 hK1 hK2 => ?_); simp [*]; try ((refine Br.intro (fun hc => ?_) (fun hc => ?_)) <;> (try simp at hc))) | (with_reducible refine Cont.go (by assumption) _ ?_) | (with_reducible refine Cnt.go (by assumption) ?_))
      all_goals (unfold Hold at *; omega)
theorem ok_rLike : PureOk Tryd.prog 11 gLike := by
  intro args r h
  obtain ⟨a, b, rfl, ⟨⟩⟩ := f2_inv h
  clear h
  have hE := ((EnvOk.nil (P := Tryd.prog) (eq := fun _ => false) (own := fun _ => false) (mem := fun _ => false) EqOk.none).addf ok_rOrder)
  refine ⟨⟨Tryd.f11, Tryd.func11, by decide, rfl⟩, pure_of_T Tryd.func11 rfl (by simp [Tryd.ntmps11]) fun q => ?_⟩
  repeat' (first | (with_reducible refine T.sq fun K hK => ?_) | ((first | ((with_reducible refine T.reg hE ?hd ?_); (case hd => kernel_rfl)) | ((with_reducible refine T.any hE mixed ?hd ?hok ?_); (case hd => kernel_rfl); (case hok => kernel_rfl))); simp [*]; (repeat' (split; all_goals (rename_i hc; try simp [*])))) | ((with_reducible refine T.ret ?_); refine fin_pure ?_; simp [*]; try (change Hold _)) | (with_reducible refine T.block ?_) | ((with_reducible refine T.skip ?_); simp [*]) | ((with_reducible refine T.exit ?_); simp [*]) | ((with_reducible refine T.br fun K1 K2 hK1 hK2 => ?_); simp [*]; try ((refine Br.intro (fun hc => ?_) (fun hc => ?_)) <;> (try simp at hc))) | (with_reducible refine Cont.go (by assumption) _ ?_) | (with_reducible refine Cnt.go (by assumption) ?_))
  all_goals (unfold Hold; first | rfl | (simp [*]; done))
end
section
set_option linter.unusedVariables false
set_option linter.unusedSimpArgs false
open Go Go.Proofs

theorem ordI_flip (a b : Int) : ordI b a = - ordI a b := by unfold ordI; repeat' split
                                                            all_goals omega
theorem hd3_flip (a b : Ex) : hd3 b a = - hd3 a b := by
  unfold hd3
  rw [ordI_flip a.k b.k, ordI_flip a.i b.i, ordI_flip a.kids.length b.kids.length]
  repeat' split
  all_goals omega
mutual
theorem ordE_flip : ∀ (a b : Ex), ordE b a = - ordE a b
  | .mk k i l, .mk k' i' l' => by
    have h := ordL_flip l l'
    rw [ordE_hd, ordE_hd, hd3_flip]
    simp only [Ex.kids_mk]
    rw [h]
    repeat' split
    all_goals omega
theorem ordL_flip : ∀ (l m : List Ex), ordL m l = - ordL l m
  | [], [] => by simp [ordL]
  | [], b :: m => by simp [ordL]
  | a :: l, [] => by simp [ordL]
  | a :: l, b :: m => by
    have h1 := ordE_flip a b
    have h2 := ordL_flip l m
    rw [ordL, ordL, h1, h2]
    repeat' split
    all_goals omega
end
end
end Go.Proofs.YtaacfmakfkaddaaDoor.Ax
