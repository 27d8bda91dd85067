/- Contracts: shapes of expressions; which may be. -/
import Derived.Test.YtiippmhlkcbjmaaBxA
set_option linter.unusedVariables false
set_option linter.unusedSimpArgs false
namespace Go.Proofs.Ytiippmhlkcbjmaa.Ax
open Go Go.Proofs

def mostOf (k : Int) : Int := if k = 1 ∨ k = 7 ∨ k = 10 then 63 else if k = 2 ∨ k = 3 then 99 else 0
def shapedX (e : Ex) : Bool := decide (0 ≤ e.i) && decide (e.i ≤ mostOf e.k) &&
  if e.k = 1 then decide (e.kids.length = 0) else if e.k = 2 ∨ e.k = 3 then kidsAre e 0 4 true else if e.k = 4 then kidsAre e 2 2 true else if e.k = 5 ∨ e.k = 7 ∨ e.k = 10 then kidsAre e 1 1 false
  else if e.k = 6 ∨ e.k = 8 ∨ e.k = 9 then kidsAre e 2 2 false else false
theorem kidsAre_mk (k i : Int) (e : Ex) (a b : Int) (t : Bool) : kidsAre (.mk k i e.kids) a b t = kidsAre e a b t := rfl
@[simp] def gShaped : List V → Option V := f1 kE fun e => some (.bool (shapedX e))
set_option maxHeartbeats 1000000 in
theorem ok_shaped : PureOk Try.prog 100 gShaped := by
  intro args r h
  obtain ⟨e, rfl, ⟨⟩⟩ := f1_inv h
  clear h
  have hE := ((EnvOk.nil (P := Try.prog) (eq := fun _ => false) (own := fun _ => false) (mem := fun _ => false) EqOk.none).addf ok_kidsAre)
  refine ⟨⟨Try.f100, Try.func100, by decide, rfl⟩, pure_of_T Try.func100 rfl (by simp [Try.ntmps100]) fun q => ?_⟩
  repeat' (first
    | (with_reducible refine T.sq fun K hK => ?_)
    | ((first | ((with_reducible refine T.reg hE ?hd ?_); (case hd => kernel_rfl)) | ((with_reducible refine T.any hE mixed ?hd ?hok ?_); (case hd => kernel_rfl); (case hok => kernel_rfl))); simp [*]; (repeat' (split; all_goals (rename_i hc; try simp [*]))))
    | ((with_reducible refine T.ret ?_); refine fin_pure ?_; simp [*]; try (change Hold _))
    | (with_reducible refine T.block ?_)
    | ((with_reducible refine T.skip ?_); simp [*])
    | ((with_reducible refine T.exit ?_); simp [*])
    | ((with_reducible refine T.br fun K1 K2 hK1 hK2 => ?_); simp [*]; try ((refine Br.intro (fun hc => ?_) (fun hc => ?_)) <;> (try simp at hc)))
    | (with_reducible refine Cont.go (by assumption) _ ?_)
    | (with_reducible refine Cnt.go (by assumption) ?_))
  all_goals first | (exfalso; omega) | (unfold Hold; simp [shapedX, mostOf, *]; done) | (unfold Hold; simp [shapedX, mostOf, kidsAre_mk, *]; done) | (unfold Hold; simp [shapedX, mostOf, kidsAre_mk, *]; omega) | (unfold Hold; simp [shapedX, mostOf, kidsAre_mk, *]; intros; omega)

/-- Which error, if any. -/
def rightE (e : Ex) : Int := if nodesN e > 1000 then 20 else if depE e > 100 then 21 else if (preE e 1).all fun x => shapedX x.2 then 0 else 22
@[simp] def gRight : List V → Option V := f1 kE fun e => some (.int .i64 (rightE e))
set_option maxHeartbeats 1000000 in
theorem ok_Right : PureOk Try.prog 44 gRight := by
  intro args r h
  obtain ⟨e, rfl, ⟨⟩⟩ := f1_inv h
  clear h
  have hE := (((((EnvOk.nil (P := Try.prog) (eq := fun _ => false) (own := fun _ => false) (mem := fun _ => false) EqOk.none).addf ok_nodes).addf ok_Size).addf ok_Depth).addf ok_shaped)
  refine ⟨⟨Try.f44, Try.func44, by decide, rfl⟩, pure_of_T Try.func44 rfl (by simp [Try.ntmps44]) fun q => ?_⟩
  repeat' (first
    | (with_reducible refine T.sq fun K hK => ?_)
    | ((first | ((with_reducible refine T.reg hE ?hd ?_); (case hd => kernel_rfl)) | ((with_reducible refine T.any hE mixed ?hd ?hok ?_); (case hd => kernel_rfl); (case hok => kernel_rfl))); simp [*]; (repeat' (split; all_goals (rename_i hc; try simp [*]))))
    | ((with_reducible refine T.ret ?_); refine fin_pure ?_; simp [*]; try (change Hold _))
    | (with_reducible refine T.block ?_)
    | ((with_reducible refine T.skip ?_); simp [*])
    | ((with_reducible refine T.exit ?_); simp [*])
    | ((with_reducible refine T.br fun K1 K2 hK1 hK2 => ?_); simp [*]; try ((refine Br.intro (fun hc => ?_) (fun hc => ?_)) <;> (try simp at hc)))
    | (with_reducible refine Cont.go (by assumption) _ ?_)
    | (with_reducible refine Cnt.go (by assumption) ?_))
  all_goals first | (exfalso; omega) | (unfold Hold; simp [rightE, *]; done) | (unfold Hold; simp [rightE, *]; omega) | skip
  refine T.range (gf := 114) (caps := [.cptr (encC e) 0]) (by simp) (iter_nodes e) (plain_caps e) (fun x hx => by obtain ⟨y, _, rfl⟩ := List.mem_map.1 hx; rfl) (fun n σ' => σ'.M (0 :: 4 :: q) = some (.cells [.int .i64 0]) ∧ ((preE e 1).take n).all (fun x => shapedX x.2) = true) (by simp) ?_ ?_
  · rintro l n x σ' hx ⟨hM, hn⟩ hg
    rw [List.getElem?_map] at hx
    obtain ⟨⟨y1, y⟩, hy, rfl⟩ := Option.map_eq_some_iff.1 hx
    simp only [encP]
    repeat' (first
      | (with_reducible refine T.sq fun K hK => ?_)
      | ((first | ((with_reducible refine T.reg hE ?hd ?_); (case hd => kernel_rfl)) | ((with_reducible refine T.any hE mixed ?hd ?hok ?_); (case hd => kernel_rfl); (case hok => kernel_rfl))); simp [*]; (repeat' (split; all_goals (rename_i hc; try simp [*]))))
      | ((with_reducible refine T.ret ?_); refine fin_pure ?_; simp [*]; try (change Hold _))
      | (with_reducible refine T.block ?_)
      | ((with_reducible refine T.skip ?_); simp [*])
      | ((with_reducible refine T.exit ?_); simp [*])
      | ((with_reducible refine T.br fun K1 K2 hK1 hK2 => ?_); simp [*]; try ((refine Br.intro (fun hc => ?_) (fun hc => ?_)) <;> (try simp at hc)))
      | (with_reducible refine Cont.go (by assumption) _ ?_)
      | (with_reducible refine Cnt.go (by assumption) ?_))
    · have hs : shapedX y = false := by assumption
      have ha : ((preE e 1).all fun x => shapedX x.2) = false := List.all_eq_false.2 ⟨(y1, y), List.mem_of_getElem? hy, by simp [hs]⟩
      unfold Hold rightE
      rw [if_neg (by omega), if_neg (by omega), ha]; rfl
    · have hs : shapedX y = true := by assumption
      have := all_take_succ (preE e 1) (fun x => shapedX x.2) n (List.getElem?_eq_some_iff.1 hy).1
      rw [hn, (List.getElem?_eq_some_iff.1 hy).2] at this
      simpa [hs] using this
  · rintro σ' ⟨hM, hn⟩ hg
    rw [List.length_map, List.take_length] at hn
    simp
    repeat' (first
      | (with_reducible refine T.sq fun K hK => ?_)
      | ((first | ((with_reducible refine T.reg hE ?hd ?_); (case hd => kernel_rfl)) | ((with_reducible refine T.any hE mixed ?hd ?hok ?_); (case hd => kernel_rfl); (case hok => kernel_rfl))); simp [*]; (repeat' (split; all_goals (rename_i hc; try simp [*]))))
      | ((with_reducible refine T.ret ?_); refine fin_pure ?_; simp [*]; try (change Hold _))
      | (with_reducible refine T.block ?_)
      | ((with_reducible refine T.skip ?_); simp [*])
      | ((with_reducible refine T.exit ?_); simp [*])
      | ((with_reducible refine T.br fun K1 K2 hK1 hK2 => ?_); simp [*]; try ((refine Br.intro (fun hc => ?_) (fun hc => ?_)) <;> (try simp at hc)))
      | (with_reducible refine Cont.go (by assumption) _ ?_)
      | (with_reducible refine Cnt.go (by assumption) ?_))
    unfold Hold rightE
    rw [if_neg (by omega), if_neg (by omega), hn]; rfl
end Go.Proofs.Ytiippmhlkcbjmaa.Ax
