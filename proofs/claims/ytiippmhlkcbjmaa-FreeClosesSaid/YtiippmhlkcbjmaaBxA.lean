/- Contracts: sorts, shapes, sizes of expressions. -/
import Derived.Test.YtiippmhlkcbjmaaPlA
set_option linter.unusedVariables false
set_option linter.unusedSimpArgs false
namespace Go.Proofs.Ytiippmhlkcbjmaa.Ax
open Go Go.Proofs

def isT (e : Ex) : Bool := decide (e.k = 1) || decide (e.k = 2)
@[simp] def gTerm : List V → Option V := f1 kE fun e => some (.bool (isT e))
theorem ok_isTerm : PureOk Try.prog 68 gTerm := by
  intro args r h
  obtain ⟨e, rfl, ⟨⟩⟩ := f1_inv h
  clear h
  have hE := (EnvOk.nil (P := Try.prog) (eq := fun _ => false) (own := fun _ => false) (mem := fun _ => false) EqOk.none)
  refine ⟨⟨Try.f68, Try.func68, by decide, rfl⟩, pure_of_T Try.func68 rfl (by simp [Try.ntmps68]) fun q => ?_⟩
  repeat' (first
    | (with_reducible refine T.sq fun K hK => ?_)
    | ((first | ((with_reducible refine T.reg hE ?hd ?_); (case hd => kernel_rfl)) | ((with_reducible refine T.any hE mixed ?hd ?hok ?_); (case hd => kernel_rfl); (case hok => kernel_rfl))); simp [*]; (repeat' (split; all_goals (rename_i hc; try simp [*]))))
    | ((with_reducible refine T.ret ?_); refine fin_pure ?_; simp [*]; try (change Hold _))
    | (with_reducible refine T.block ?_)
    | ((with_reducible refine T.skip ?_); simp [*])
    | ((with_reducible refine T.exit ?_); simp [*])
    | ((with_reducible refine T.br fun K1 K2 hK1 hK2 => ?_); simp [*]; try ((refine Br.intro (fun hc => ?_) (fun hc => ?_)) <;> (try simp at hc)))
    | (with_reducible refine Cont.go (by assumption) _ ?_)
    | (with_reducible refine Cnt.go (by assumption) ?_))
  all_goals (unfold Hold; simp [isT, *])
theorem ok_rTerm : PureOk Try.prog 59 gTerm := by
  intro args r h
  obtain ⟨e, rfl, ⟨⟩⟩ := f1_inv h
  clear h
  have hE := (EnvOk.nil (P := Try.prog) (eq := fun _ => false) (own := fun _ => false) (mem := fun _ => false) EqOk.none)
  refine ⟨⟨Try.f59, Try.func59, by decide, rfl⟩, pure_of_T Try.func59 rfl (by simp [Try.ntmps59]) fun q => ?_⟩
  repeat' (first
    | (with_reducible refine T.sq fun K hK => ?_)
    | ((first | ((with_reducible refine T.reg hE ?hd ?_); (case hd => kernel_rfl)) | ((with_reducible refine T.any hE mixed ?hd ?hok ?_); (case hd => kernel_rfl); (case hok => kernel_rfl))); simp [*]; (repeat' (split; all_goals (rename_i hc; try simp [*]))))
    | ((with_reducible refine T.ret ?_); refine fin_pure ?_; simp [*]; try (change Hold _))
    | (with_reducible refine T.block ?_)
    | ((with_reducible refine T.skip ?_); simp [*])
    | ((with_reducible refine T.exit ?_); simp [*])
    | ((with_reducible refine T.br fun K1 K2 hK1 hK2 => ?_); simp [*]; try ((refine Br.intro (fun hc => ?_) (fun hc => ?_)) <;> (try simp at hc)))
    | (with_reducible refine Cont.go (by assumption) _ ?_)
    | (with_reducible refine Cnt.go (by assumption) ?_))
  all_goals (unfold Hold; simp [isT, *])

def kidsAre (e : Ex) (least most : Int) (terms : Bool) : Bool := decide (least ≤ e.kids.length) && decide ((e.kids.length : Int) ≤ most) && e.kids.all fun k => isT k == terms
@[simp] def gKidsAre : List V → Option V := f4 kE (kI .i64) (kI .i64) kB fun e a b t => some (.bool (kidsAre e a b t))
set_option maxHeartbeats 400000 in
theorem ok_kidsAre : PureOk Try.prog 129 gKidsAre := by
  intro args r h
  obtain ⟨e, a, b, t, rfl, ⟨⟩⟩ := f4_inv h
  clear h
  have hE := ((EnvOk.nil (P := Try.prog) (eq := fun _ => false) (own := fun _ => false) (mem := fun _ => false) EqOk.none).addf ok_isTerm)
  refine ⟨⟨Try.f129, Try.func129, by decide, rfl⟩, pure_of_T Try.func129 rfl (by simp [Try.ntmps129]) fun q => ?_⟩
  repeat' (first
    | (with_reducible refine T.sq fun K hK => ?_)
    | ((first | ((with_reducible refine T.reg hE ?hd ?_); (case hd => kernel_rfl)) | ((with_reducible refine T.any hE mixed ?hd ?hok ?_); (case hd => kernel_rfl); (case hok => kernel_rfl))); simp [*]; (repeat' (split; all_goals (rename_i hc; try simp [*]))))
    | ((with_reducible refine T.ret ?_); refine fin_pure ?_; simp [*]; try (change Hold _))
    | (with_reducible refine T.block ?_)
    | ((with_reducible refine T.skip ?_); simp [*])
    | ((with_reducible refine T.exit ?_); simp [*])
    | ((with_reducible refine T.br fun K1 K2 hK1 hK2 => ?_); simp [*]; try ((refine Br.intro (fun hc => ?_) (fun hc => ?_)) <;> (try simp at hc)))
    | (with_reducible refine Cont.go (by assumption) _ ?_)
    | (with_reducible refine Cnt.go (by assumption) ?_))
  all_goals first | omega | (unfold Hold; simp [kidsAre, *]; done) | (unfold Hold; simp [kidsAre, *]; omega) | skip
  refine T.len (t := 24) (els := encL e.kids) (tk := .no) (by simp [*]) fun hlen => ?_
  rw [encL_length] at hlen
  refine T.loop (fun n σ => ∃ j : Nat, n = e.kids.length - j ∧ σ.get 24 = .sl (encL e.kids) .no ∧ σ.get 25 = .int .i64 e.kids.length ∧ σ.get 26 = .int .i64 j ∧ σ.get 3 = .bool t ∧ j ≤ e.kids.length ∧ (e.kids.take j).all (fun k => isT k == t) = true) e.kids.length ⟨0, by simp [*]⟩ ?_
  rintro n σ ⟨j, rfl, g1, g2, g3, g4, g5, g6⟩
  by_cases hj : j < e.kids.length
  · have hw := wrap_succ hlen hj
    repeat' (first
      | (with_reducible refine T.sq fun K hK => ?_)
      | ((first | ((with_reducible refine T.reg hE ?hd ?_); (case hd => kernel_rfl)) | ((with_reducible refine T.any hE mixed ?hd ?hok ?_); (case hd => kernel_rfl); (case hok => kernel_rfl))); simp [*]; (repeat' (split; all_goals (rename_i hc; try simp [*]))))
      | ((with_reducible refine T.ret ?_); refine fin_pure ?_; simp [*]; try (change Hold _))
      | (with_reducible refine T.block ?_)
      | ((with_reducible refine T.skip ?_); simp [*])
      | ((with_reducible refine T.exit ?_); simp [*])
      | ((with_reducible refine T.br fun K1 K2 hK1 hK2 => ?_); simp [*]; try ((refine Br.intro (fun hc => ?_) (fun hc => ?_)) <;> (try simp at hc)))
      | (with_reducible refine Cont.go (by assumption) _ ?_)
      | (with_reducible refine Cnt.go (by assumption) ?_))
    · have h2 : ¬ isT e.kids[j] = t := by assumption
      unfold Hold
      have : (e.kids.all fun k => isT k == t) = false := by
        rw [List.all_eq_false]
        exact ⟨e.kids[j], by simp, by simpa using h2⟩
      simp [kidsAre, this]
    · have h2 : isT e.kids[j] = t := by assumption
      refine ⟨e.kids.length - (j + 1), by omega, j + 1, rfl, by omega, by omega, ?_⟩
      have := all_take_succ e.kids (fun k => isT k == t) j hj
      rw [g6] at this
      simpa [h2] using this
  · repeat' (first
      | (with_reducible refine T.sq fun K hK => ?_)
      | ((first | ((with_reducible refine T.reg hE ?hd ?_); (case hd => kernel_rfl)) | ((with_reducible refine T.any hE mixed ?hd ?hok ?_); (case hd => kernel_rfl); (case hok => kernel_rfl))); simp [*]; (repeat' (split; all_goals (rename_i hc; try simp [*]))))
      | ((with_reducible refine T.ret ?_); refine fin_pure ?_; simp [*]; try (change Hold _))
      | (with_reducible refine T.block ?_)
      | ((with_reducible refine T.skip ?_); simp [*])
      | ((with_reducible refine T.exit ?_); simp [*])
      | ((with_reducible refine T.br fun K1 K2 hK1 hK2 => ?_); simp [*]; try ((refine Br.intro (fun hc => ?_) (fun hc => ?_)) <;> (try simp at hc)))
      | (with_reducible refine Cont.go (by assumption) _ ?_)
      | (with_reducible refine Cnt.go (by assumption) ?_))
    have : j = e.kids.length := by omega
    subst this
    rw [List.take_length] at g6
    unfold Hold; simp [kidsAre, g6]; omega

/-- How many nodes there are, up to 1001. -/
def nodesN (e : Ex) : Nat := (preE e 1).length
@[simp] def gSize : List V → Option V := f1 kE fun e => some (.int .i64 (min (nodesN e) 1001 : Nat))
set_option maxHeartbeats 400000 in
theorem ok_Size : PureOk Try.prog 98 gSize := by
  intro args r h
  obtain ⟨e, rfl, ⟨⟩⟩ := f1_inv h
  clear h
  have hE := ((EnvOk.nil (P := Try.prog) (eq := fun _ => false) (own := fun _ => false) (mem := fun _ => false) EqOk.none).addf ok_nodes)
  refine ⟨⟨Try.f98, Try.func98, by decide, rfl⟩, pure_of_T Try.func98 rfl (by simp [Try.ntmps98]) fun q => ?_⟩
  repeat' (first
    | (with_reducible refine T.sq fun K hK => ?_)
    | ((first | ((with_reducible refine T.reg hE ?hd ?_); (case hd => kernel_rfl)) | ((with_reducible refine T.any hE mixed ?hd ?hok ?_); (case hd => kernel_rfl); (case hok => kernel_rfl))); simp [*]; (repeat' (split; all_goals (rename_i hc; try simp [*]))))
    | ((with_reducible refine T.ret ?_); refine fin_pure ?_; simp [*]; try (change Hold _))
    | (with_reducible refine T.block ?_)
    | ((with_reducible refine T.skip ?_); simp [*])
    | ((with_reducible refine T.exit ?_); simp [*])
    | ((with_reducible refine T.br fun K1 K2 hK1 hK2 => ?_); simp [*]; try ((refine Br.intro (fun hc => ?_) (fun hc => ?_)) <;> (try simp at hc)))
    | (with_reducible refine Cont.go (by assumption) _ ?_)
    | (with_reducible refine Cnt.go (by assumption) ?_))
  refine T.range (gf := 114) (caps := [.cptr (encC e) 0]) (by simp) (iter_nodes e) (plain_caps e) (fun x hx => by obtain ⟨y, _, rfl⟩ := List.mem_map.1 hx; rfl) (fun n σ' => σ'.M (0 :: 5 :: q) = some (.cells [.int .i64 n]) ∧ n ≤ 1000) (by simp) ?_ ?_
  · rintro l n x σ' hx ⟨hM, hn⟩ hg
    have hw : IntKind.i64.wrap (↑n + 1) = (n : Int) + 1 := wrap64 (by omega) (by omega)
    have hnn : n < nodesN e := by have := (List.getElem?_eq_some_iff.1 hx).1; simpa [nodesN] using this
    obtain ⟨y, _, rfl⟩ := List.mem_map.1 (List.mem_of_getElem? hx)
    simp only [encP]
    repeat' (first
      | (with_reducible refine T.sq fun K hK => ?_)
      | ((first | ((with_reducible refine T.reg hE ?hd ?_); (case hd => kernel_rfl)) | ((with_reducible refine T.any hE mixed ?hd ?hok ?_); (case hd => kernel_rfl); (case hok => kernel_rfl))); simp [*]; (repeat' (split; all_goals (rename_i hc; try simp [*]))))
      | ((with_reducible refine T.ret ?_); refine fin_pure ?_; simp [*]; try (change Hold _))
      | (with_reducible refine T.block ?_)
      | ((with_reducible refine T.skip ?_); simp [*])
      | ((with_reducible refine T.exit ?_); simp [*])
      | ((with_reducible refine T.br fun K1 K2 hK1 hK2 => ?_); simp [*]; try ((refine Br.intro (fun hc => ?_) (fun hc => ?_)) <;> (try simp at hc)))
      | (with_reducible refine Cont.go (by assumption) _ ?_)
      | (with_reducible refine Cnt.go (by assumption) ?_))
    all_goals first | omega | (unfold Hold; omega)
  · rintro σ' ⟨hM, hn⟩ hg
    simp
    repeat' (first
      | (with_reducible refine T.sq fun K hK => ?_)
      | ((first | ((with_reducible refine T.reg hE ?hd ?_); (case hd => kernel_rfl)) | ((with_reducible refine T.any hE mixed ?hd ?hok ?_); (case hd => kernel_rfl); (case hok => kernel_rfl))); simp [*]; (repeat' (split; all_goals (rename_i hc; try simp [*]))))
      | ((with_reducible refine T.ret ?_); refine fin_pure ?_; simp [*]; try (change Hold _))
      | (with_reducible refine T.block ?_)
      | ((with_reducible refine T.skip ?_); simp [*])
      | ((with_reducible refine T.exit ?_); simp [*])
      | ((with_reducible refine T.br fun K1 K2 hK1 hK2 => ?_); simp [*]; try ((refine Br.intro (fun hc => ?_) (fun hc => ?_)) <;> (try simp at hc)))
      | (with_reducible refine Cont.go (by assumption) _ ?_)
      | (with_reducible refine Cnt.go (by assumption) ?_))
    all_goals (unfold Hold; simp [nodesN] at *; omega)

@[simp] def gDepth : List V → Option V := f1 kE fun e => some (.int .i64 (min (depE e) 101 : Nat))
set_option maxHeartbeats 400000 in
theorem ok_Depth : PureOk Try.prog 99 gDepth := by
  intro args r h
  obtain ⟨e, rfl, ⟨⟩⟩ := f1_inv h
  clear h
  have hE := ((EnvOk.nil (P := Try.prog) (eq := fun _ => false) (own := fun _ => false) (mem := fun _ => false) EqOk.none).addf ok_nodes)
  refine ⟨⟨Try.f99, Try.func99, by decide, rfl⟩, pure_of_T Try.func99 rfl (by simp [Try.ntmps99]) fun q => ?_⟩
  repeat' (first
    | (with_reducible refine T.sq fun K hK => ?_)
    | ((first | ((with_reducible refine T.reg hE ?hd ?_); (case hd => kernel_rfl)) | ((with_reducible refine T.any hE mixed ?hd ?hok ?_); (case hd => kernel_rfl); (case hok => kernel_rfl))); simp [*]; (repeat' (split; all_goals (rename_i hc; try simp [*]))))
    | ((with_reducible refine T.ret ?_); refine fin_pure ?_; simp [*]; try (change Hold _))
    | (with_reducible refine T.block ?_)
    | ((with_reducible refine T.skip ?_); simp [*])
    | ((with_reducible refine T.exit ?_); simp [*])
    | ((with_reducible refine T.br fun K1 K2 hK1 hK2 => ?_); simp [*]; try ((refine Br.intro (fun hc => ?_) (fun hc => ?_)) <;> (try simp at hc)))
    | (with_reducible refine Cont.go (by assumption) _ ?_)
    | (with_reducible refine Cnt.go (by assumption) ?_))
  refine T.range (gf := 114) (caps := [.cptr (encC e) 0]) (by simp) (iter_nodes e) (plain_caps e) (fun x hx => by obtain ⟨y, _, rfl⟩ := List.mem_map.1 hx; rfl) (fun n σ' => ∃ m : Nat, σ'.M (0 :: 5 :: q) = some (.cells [.int .i64 m]) ∧ m = maxl 0 ((preN e 1).take n) ∧ m ≤ 100) ⟨0, by simp [maxl]⟩ ?_ ?_
  · rintro l n x σ' hx ⟨m, hM, hm, hn⟩ hg
    rw [List.getElem?_map] at hx
    obtain ⟨⟨y1, y⟩, hy, rfl⟩ := Option.map_eq_some_iff.1 hx
    obtain ⟨d, h1, h2, h3, h4⟩ := dep_at e n _ hy (by omega)
    simp only at h1
    subst h1
    rw [← hm] at h3 h4
    simp only [encP]
    repeat' (first
      | (with_reducible refine T.sq fun K hK => ?_)
      | ((first | ((with_reducible refine T.reg hE ?hd ?_); (case hd => kernel_rfl)) | ((with_reducible refine T.any hE mixed ?hd ?hok ?_); (case hd => kernel_rfl); (case hok => kernel_rfl))); simp [*]; (repeat' (split; all_goals (rename_i hc; try simp [*]))))
      | ((with_reducible refine T.ret ?_); refine fin_pure ?_; simp [*]; try (change Hold _))
      | (with_reducible refine T.block ?_)
      | ((with_reducible refine T.skip ?_); simp [*])
      | ((with_reducible refine T.exit ?_); simp [*])
      | ((with_reducible refine T.br fun K1 K2 hK1 hK2 => ?_); simp [*]; try ((refine Br.intro (fun hc => ?_) (fun hc => ?_)) <;> (try simp at hc)))
      | (with_reducible refine Cont.go (by assumption) _ ?_)
      | (with_reducible refine Cnt.go (by assumption) ?_))
    all_goals first | (unfold Hold; omega) | exact ⟨d, rfl, by omega, by omega⟩ | exact ⟨_, rfl, by omega, by omega⟩ | exact ⟨m, by simpa using hM, by omega, by omega⟩
  · rintro σ' ⟨m, hM, hm, hn⟩ hg
    have h1 := dep_done e
    simp at hm
    rw [← hm] at h1
    simp
    repeat' (first
      | (with_reducible refine T.sq fun K hK => ?_)
      | ((first | ((with_reducible refine T.reg hE ?hd ?_); (case hd => kernel_rfl)) | ((with_reducible refine T.any hE mixed ?hd ?hok ?_); (case hd => kernel_rfl); (case hok => kernel_rfl))); simp [*]; (repeat' (split; all_goals (rename_i hc; try simp [*]))))
      | ((with_reducible refine T.ret ?_); refine fin_pure ?_; simp [*]; try (change Hold _))
      | (with_reducible refine T.block ?_)
      | ((with_reducible refine T.skip ?_); simp [*])
      | ((with_reducible refine T.exit ?_); simp [*])
      | ((with_reducible refine T.br fun K1 K2 hK1 hK2 => ?_); simp [*]; try ((refine Br.intro (fun hc => ?_) (fun hc => ?_)) <;> (try simp at hc)))
      | (with_reducible refine Cont.go (by assumption) _ ?_)
      | (with_reducible refine Cnt.go (by assumption) ?_))
    all_goals (unfold Hold; omega)

end Go.Proofs.Ytiippmhlkcbjmaa.Ax
