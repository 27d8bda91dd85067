/- Contracts: all parts; the law RuleSettles, walked. -/
import Derived.Test.YtiippmhlkcbjmaaCxA
import Derived.Test.YtiippmhlkcbjmaaCxC
import Derived.Test.YtiippmhlkcbjmaaPlG
set_option linter.unusedVariables false
set_option linter.unusedSimpArgs false
namespace Go.Proofs.Ytiippmhlkcbjmaa.Ax
open Go Go.Proofs

def okFew (e : Ex) : Prop := cntE e ≤ 1000
noncomputable instance (e : Ex) : Decidable (okFew e) := Classical.propDecidable _
@[simp] noncomputable def gParts : List V → Option V := f1 kE fun e => if okFew e then some (.sl (encL (partE e)) .no) else none
set_option maxHeartbeats 1000000 in
theorem ok_rParts : PureOk Try.prog 50 gParts := by
  refine rec1 fun e ih r hr => ?_
  split at hr
  · rename_i hm
    cases hr
    have hcn : cntE e ≤ 1000 := hm
    have hE := ((EnvOk.nil (P := Try.prog) (eq := fun _ => false) (own := fun _ => false) (mem := fun _ => false) EqOk.none).addf ih)
    have hr1 : List.range 1 = [0] := rfl
    refine ⟨⟨Try.f50, Try.func50, by decide, rfl⟩, pure_of_T Try.func50 rfl (by simp [Try.ntmps50]) fun q => ?_⟩
    repeat' (first
      | (with_reducible refine T.sq fun K hK => ?_)
      | ((first | ((with_reducible refine T.reg hE ?hd ?_); (case hd => kernel_rfl)) | ((with_reducible refine T.any hE mixed ?hd ?hok ?_); (case hd => kernel_rfl); (case hok => kernel_rfl))); simp [*]; (repeat' (split; all_goals (rename_i hc; try simp [*]))))
      | ((with_reducible refine T.ret ?_); refine fin_pure ?_; simp [*]; try (change Hold _))
      | (with_reducible refine T.block ?_)
      | ((with_reducible refine T.skip ?_); simp [*])
      | ((with_reducible refine T.exit ?_); simp [*])
      | ((with_reducible refine T.br fun K1 K2 hK1 hK2 => ?_); simp [*]; try ((refine Br.intro (fun hc => ?_) (fun hc => ?_)) <;> (try simp at hc)))
      | (with_reducible refine Cont.go (by assumption) _ ?_)
      | (with_reducible refine Cnt.go (by assumption) ?_))
    refine T.len (t := 10) (els := encL e.kids) (tk := .no) (by simp [*]) fun hlen => ?_
    rw [encL_length] at hlen
    refine T.loop (fun n σ => ∃ (j : Nat) (tk : Tk), n = e.kids.length - j ∧ σ.get 10 = .sl (encL e.kids) .no ∧ σ.get 11 = .int .i64 e.kids.length ∧ σ.get 12 = .int .i64 j ∧ j ≤ e.kids.length ∧ σ.get 3 = .sl (encL (e :: partL (e.kids.take j))) tk ∧ Hold ((j = 0 ∧ tk = .ex) ∨ ∃ c d, tk = .own (c :: d :: q) 3 ∧ σ.K (c :: d :: q) = true)) e.kids.length ⟨0, .ex, by simp [*, partL, Hold, encC_eq, encL]⟩ ?_
    rintro n σ ⟨j, tk, rfl, g1, g2, g3, g4, g5, g6⟩
    by_cases hj : j < e.kids.length
    · have hw := wrap_succ hlen hj
      have hs := ex_kid_lt e j hj
      have k2 := cntE_kid j hj
      have hok : okFew e.kids[j] := by unfold okFew; omega
      have l1 := partE_len e.kids[j]
      have l2 := partL_len (e.kids.take j)
      have c3 : Hold (partL (e.kids.take (j + 1)) = partL (e.kids.take j) ++ partE e.kids[j]) := partL_take e.kids j hj
      obtain ⟨x, xs, hx⟩ : ∃ x xs, partE e.kids[j] = x :: xs := ⟨_, _, partE_eq _⟩
      have hcap : ((partL (e.kids.take j)).length + 1 + (xs.length + 1)) * 40 ≤ 140737488355328 := by
        rw [hx] at l1; simp at l1; omega
      have hc3 : Hold (encL (partL (e.kids.take j)) ++ (encC x :: encL xs) = encL (partL (e.kids.take (j + 1)))) := by
        unfold Hold at *
        rw [c3, hx, encL_append]; rfl
      clear l1 l2 k2 c3
      generalize partL (e.kids.take j) = acc at *
      rcases g6 with ⟨rfl, rfl⟩ | ⟨c, d, rfl, hK⟩
      · repeat' (first
          | (with_reducible refine T.sq fun K hK => ?_)
          | ((first | ((with_reducible refine T.reg hE ?hd ?_); (case hd => kernel_rfl)) | ((with_reducible refine T.any hE mixed ?hd ?hok ?_); (case hd => kernel_rfl); (case hok => kernel_rfl))); simp [*]; (repeat' (split; all_goals (rename_i hc; try simp [*]))))
          | ((with_reducible refine T.ret ?_); refine fin_pure ?_; simp [*]; try (change Hold _))
          | (with_reducible refine T.block ?_)
          | ((with_reducible refine T.skip ?_); simp [*])
          | ((with_reducible refine T.exit ?_); simp [*])
          | ((with_reducible refine T.br fun K1 K2 hK1 hK2 => ?_); simp [*]; try ((refine Br.intro (fun hc => ?_) (fun hc => ?_)) <;> (try simp at hc)))
          | (with_reducible refine Cont.go (by assumption) _ ?_)
          | (with_reducible refine Cnt.go (by assumption) ?_))
        exact ⟨e.kids.length - 1, by omega, 1, rfl, by simpa using hw, by omega, _, ⟨by rw [encC_eq] at hc3; exact hc3, rfl⟩, .inr ⟨_, _, rfl, .inl ⟨rfl, rfl⟩⟩⟩
      · repeat' (first
          | (with_reducible refine T.sq fun K hK => ?_)
          | ((first | ((with_reducible refine T.reg hE ?hd ?_); (case hd => kernel_rfl)) | ((with_reducible refine T.any hE mixed ?hd ?hok ?_); (case hd => kernel_rfl); (case hok => kernel_rfl))); simp [*]; (repeat' (split; all_goals (rename_i hc; try simp [*]))))
          | ((with_reducible refine T.ret ?_); refine fin_pure ?_; simp [*]; try (change Hold _))
          | (with_reducible refine T.block ?_)
          | ((with_reducible refine T.skip ?_); simp [*])
          | ((with_reducible refine T.exit ?_); simp [*])
          | ((with_reducible refine T.br fun K1 K2 hK1 hK2 => ?_); simp [*]; try ((refine Br.intro (fun hc => ?_) (fun hc => ?_)) <;> (try simp at hc)))
          | (with_reducible refine Cont.go (by assumption) _ ?_)
          | (with_reducible refine Cnt.go (by assumption) ?_))
        exact ⟨e.kids.length - (j + 1), by omega, j + 1, rfl, by omega, by omega, _, ⟨by rw [encC_eq] at hc3; exact hc3, rfl⟩, .inr ⟨_, _, rfl, .inl ⟨rfl, rfl⟩⟩⟩
    · have w8 : j = e.kids.length := by omega
      subst w8
      rw [List.take_length, ← partE_eq] at g5
      repeat' (first
        | (with_reducible refine T.sq fun K hK => ?_)
        | ((first | ((with_reducible refine T.reg hE ?hd ?_); (case hd => kernel_rfl)) | ((with_reducible refine T.any hE mixed ?hd ?hok ?_); (case hd => kernel_rfl); (case hok => kernel_rfl))); simp [*]; (repeat' (split; all_goals (rename_i hc; try simp [*]))))
        | ((with_reducible refine T.ret ?_); refine fin_pure ?_; simp [*]; try (change Hold _))
        | (with_reducible refine T.block ?_)
        | ((with_reducible refine T.skip ?_); simp [*])
        | ((with_reducible refine T.exit ?_); simp [*])
        | ((with_reducible refine T.br fun K1 K2 hK1 hK2 => ?_); simp [*]; try ((refine Br.intro (fun hc => ?_) (fun hc => ?_)) <;> (try simp at hc)))
        | (with_reducible refine Cont.go (by assumption) _ ?_)
        | (with_reducible refine Cnt.go (by assumption) ?_))
  · cases hr
def anySh (l : List Ex) : Bool := l.any fun x => sh0 x.k
theorem anySh_take (l : List Ex) (j : Nat) (h : j < l.length) : anySh (l.take (j + 1)) = (anySh (l.take j) || sh0 l[j].k) := by
  unfold anySh
  rw [List.take_add_one, List.any_append]; simp [h]
@[simp] noncomputable def gShortE : List V → Option V := f1 kE fun e => if okFew e then some (.bool (shE e)) else none
set_option maxHeartbeats 1000000 in
theorem ok_lShort : PureOk Try.prog 37 gShortE := by
  intro args r h
  obtain ⟨e, rfl, hr⟩ := f1_inv h; clear h
  split at hr
  · rename_i hm
    cases hr
    have hE := ((EnvOk.nil (P := Try.prog) (eq := fun _ => false) (own := fun _ => false) (mem := fun _ => false) EqOk.none).addf ok_rParts)
    refine ⟨⟨Try.f37, Try.func37, by decide, rfl⟩, pure_of_T Try.func37 rfl (by simp [Try.ntmps37]) fun q => ?_⟩
    have hsh : Hold (shE e = anySh (partE e)) := (part_short e).symm
    repeat' (first
      | (with_reducible refine T.sq fun K hK => ?_)
      | ((first | ((with_reducible refine T.reg hE ?hd ?_); (case hd => kernel_rfl)) | ((with_reducible refine T.any hE mixed ?hd ?hok ?_); (case hd => kernel_rfl); (case hok => kernel_rfl))); simp [*]; (repeat' (split; all_goals (rename_i hc; try simp [*]))))
      | ((with_reducible refine T.ret ?_); refine fin_pure ?_; simp [*]; try (change Hold _))
      | (with_reducible refine T.block ?_)
      | ((with_reducible refine T.skip ?_); simp [*])
      | ((with_reducible refine T.exit ?_); simp [*])
      | ((with_reducible refine T.br fun K1 K2 hK1 hK2 => ?_); simp [*]; try ((refine Br.intro (fun hc => ?_) (fun hc => ?_)) <;> (try simp at hc)))
      | (with_reducible refine Cont.go (by assumption) _ ?_)
      | (with_reducible refine Cnt.go (by assumption) ?_))
    refine T.len (t := 6) (els := encL (partE e)) (tk := .no) (by simp [*]) fun hlen => ?_
    rw [encL_length] at hlen
    generalize partE e = l at *
    refine T.loop (fun n σ => ∃ j : Nat, n = l.length - j ∧ σ.get 6 = .sl (encL l) .no ∧ σ.get 7 = .int .i64 l.length ∧ σ.get 8 = .int .i64 j ∧ j ≤ l.length ∧ Hold (anySh (l.take j) = false)) l.length ⟨0, by simp [*, Hold, anySh]⟩ ?_
    rintro n σ ⟨j, rfl, g1, g2, g3, g4, g5⟩
    by_cases hj : j < l.length
    · have hw := wrap_succ hlen hj
      have ha := anySh_take l j hj
      by_cases v : sh0 l[j].k = true
      · have hy : Hold (shE e = true) := by
          unfold Hold at *
          rw [hsh]
          exact List.any_eq_true.2 ⟨l[j], List.getElem_mem hj, v⟩
        unfold sh0 at v
        simp only [Bool.or_eq_true, decide_eq_true_eq] at v
        clear ha g5 hsh
        rcases v with (v | v) | v
        · repeat' (first
            | (with_reducible refine T.sq fun K hK => ?_)
            | ((first | ((with_reducible refine T.reg hE ?hd ?_); (case hd => kernel_rfl)) | ((with_reducible refine T.any hE mixed ?hd ?hok ?_); (case hd => kernel_rfl); (case hok => kernel_rfl))); simp [*]; (repeat' (split; all_goals (rename_i hc; try simp [*]))))
            | ((with_reducible refine T.ret ?_); refine fin_pure ?_; simp [*]; try (change Hold _))
            | (with_reducible refine T.block ?_)
            | ((with_reducible refine T.skip ?_); simp [*])
            | ((with_reducible refine T.exit ?_); simp [*])
            | ((with_reducible refine T.br fun K1 K2 hK1 hK2 => ?_); simp [*]; try ((refine Br.intro (fun hc => ?_) (fun hc => ?_)) <;> (try simp at hc)))
            | (with_reducible refine Cont.go (by assumption) _ ?_)
            | (with_reducible refine Cnt.go (by assumption) ?_))
          all_goals (unfold Hold at *; rw [hy])
        · repeat' (first
            | (with_reducible refine T.sq fun K hK => ?_)
            | ((first | ((with_reducible refine T.reg hE ?hd ?_); (case hd => kernel_rfl)) | ((with_reducible refine T.any hE mixed ?hd ?hok ?_); (case hd => kernel_rfl); (case hok => kernel_rfl))); simp [*]; (repeat' (split; all_goals (rename_i hc; try simp [*]))))
            | ((with_reducible refine T.ret ?_); refine fin_pure ?_; simp [*]; try (change Hold _))
            | (with_reducible refine T.block ?_)
            | ((with_reducible refine T.skip ?_); simp [*])
            | ((with_reducible refine T.exit ?_); simp [*])
            | ((with_reducible refine T.br fun K1 K2 hK1 hK2 => ?_); simp [*]; try ((refine Br.intro (fun hc => ?_) (fun hc => ?_)) <;> (try simp at hc)))
            | (with_reducible refine Cont.go (by assumption) _ ?_)
            | (with_reducible refine Cnt.go (by assumption) ?_))
          all_goals (unfold Hold at *; rw [hy])
        · repeat' (first
            | (with_reducible refine T.sq fun K hK => ?_)
            | ((first | ((with_reducible refine T.reg hE ?hd ?_); (case hd => kernel_rfl)) | ((with_reducible refine T.any hE mixed ?hd ?hok ?_); (case hd => kernel_rfl); (case hok => kernel_rfl))); simp [*]; (repeat' (split; all_goals (rename_i hc; try simp [*]))))
            | ((with_reducible refine T.ret ?_); refine fin_pure ?_; simp [*]; try (change Hold _))
            | (with_reducible refine T.block ?_)
            | ((with_reducible refine T.skip ?_); simp [*])
            | ((with_reducible refine T.exit ?_); simp [*])
            | ((with_reducible refine T.br fun K1 K2 hK1 hK2 => ?_); simp [*]; try ((refine Br.intro (fun hc => ?_) (fun hc => ?_)) <;> (try simp at hc)))
            | (with_reducible refine Cont.go (by assumption) _ ?_)
            | (with_reducible refine Cnt.go (by assumption) ?_))
          all_goals (unfold Hold at *; rw [hy])
      · rw [Bool.not_eq_true] at v
        have hn : Hold (anySh (l.take (j + 1)) = false) := by unfold Hold at *; rw [ha, g5, v]; rfl
        unfold sh0 at v
        simp only [Bool.or_eq_false_iff, decide_eq_false_iff_not] at v
        obtain ⟨⟨v1, v2⟩, v3⟩ := v
        clear ha g5 hsh
        repeat' (first
          | (with_reducible refine T.sq fun K hK => ?_)
          | ((first | ((with_reducible refine T.reg hE ?hd ?_); (case hd => kernel_rfl)) | ((with_reducible refine T.any hE mixed ?hd ?hok ?_); (case hd => kernel_rfl); (case hok => kernel_rfl))); simp [*]; (repeat' (split; all_goals (rename_i hc; try simp [*]))))
          | ((with_reducible refine T.ret ?_); refine fin_pure ?_; simp [*]; try (change Hold _))
          | (with_reducible refine T.block ?_)
          | ((with_reducible refine T.skip ?_); simp [*])
          | ((with_reducible refine T.exit ?_); simp [*])
          | ((with_reducible refine T.br fun K1 K2 hK1 hK2 => ?_); simp [*]; try ((refine Br.intro (fun hc => ?_) (fun hc => ?_)) <;> (try simp at hc)))
          | (with_reducible refine Cont.go (by assumption) _ ?_)
          | (with_reducible refine Cnt.go (by assumption) ?_))
        exact ⟨l.length - (j + 1), by omega, j + 1, rfl, by omega, by omega, hn⟩
    · have w8 : j = l.length := by omega
      have hy : Hold (shE e = false) := by
        unfold Hold at *
        rw [w8, List.take_length] at g5
        rw [hsh, g5]
      clear hsh g5
      repeat' (first
        | (with_reducible refine T.sq fun K hK => ?_)
        | ((first | ((with_reducible refine T.reg hE ?hd ?_); (case hd => kernel_rfl)) | ((with_reducible refine T.any hE mixed ?hd ?hok ?_); (case hd => kernel_rfl); (case hok => kernel_rfl))); simp [*]; (repeat' (split; all_goals (rename_i hc; try simp [*]))))
        | ((with_reducible refine T.ret ?_); refine fin_pure ?_; simp [*]; try (change Hold _))
        | (with_reducible refine T.block ?_)
        | ((with_reducible refine T.skip ?_); simp [*])
        | ((with_reducible refine T.exit ?_); simp [*])
        | ((with_reducible refine T.br fun K1 K2 hK1 hK2 => ?_); simp [*]; try ((refine Br.intro (fun hc => ?_) (fun hc => ?_)) <;> (try simp at hc)))
        | (with_reducible refine Cont.go (by assumption) _ ?_)
        | (with_reducible refine Cnt.go (by assumption) ?_))
      all_goals (unfold Hold at *; rw [hy])
  · cases hr
set_option maxHeartbeats 2000000 in
theorem ok_RuleSettles : PureOk Try.prog 8 (f1 kE fun _ => some (.bool true)) := by
  intro args r h
  obtain ⟨e, rfl, ⟨⟩⟩ := f1_inv h
  clear h
  have hE := (((((((((EnvOk.nil (P := Try.prog) (eq := fun _ => false) (own := fun _ => false) (mem := fun _ => false) EqOk.none).addf ok_rRight).addf ok_Plain).addf ok_lShort).addf ok_rSize).addf ok_rDepth).addf ok_Equal).addf ok_rLike).addf ok_rFreeS)
  refine ⟨⟨Try.f8, Try.func8, by decide, rfl⟩, pure_of_T Try.func8 rfl (by simp [Try.ntmps8]) fun q => ?_⟩
  by_cases v : rightE e = 0
  · obtain ⟨z1, z2, z3⟩ := right_zero v
    have U := unf_law _ e (Nat.lt_succ_self _) z3
    have uc := U.c; have ud := U.d; have ua := U.a; have uf := U.f
    have us := unf_short e
    have usame := unf_same e
    have hf : okFew e := by unfold okFew; rw [← nodesN_eq]; exact z1
    have hpe : plainErr e = rightE (unfE e) := by unfold plainErr; rw [if_neg (by omega)]
    have hpx : plainErr e = 0 → plainX e = unfE e := fun h => by unfold plainX; rw [if_pos h]
    have hpx2 : ¬ plainErr e = 0 → plainX e = ex0 := fun h => by unfold plainX; rw [if_neg h]
    clear U
    generalize unfE e = p at *
    by_cases w : plainErr e = 0
    · have hx := hpx w
      have rp : rightE p = 0 := by rw [← hpe]; exact w
      obtain ⟨p1, p2, p3⟩ := right_zero rp
      have hfp : okFew p := by unfold okFew; rw [← nodesN_eq]; exact p1
      have up := unf_same p us
      have we : plainErr p = 0 := by unfold plainErr; rw [if_neg (by omega), up]; exact rp
      have wx : plainX p = p := by unfold plainX; rw [if_pos we, up]
      have he : eqErr e p = 0 := by
        have hb : bothE e p = 0 := by unfold bothE; rw [if_neg (by omega)]; exact rp
        unfold eqErr; rw [if_neg (by omega), if_neg (by omega)]; exact we
      have hq : eqB e p = true := by rw [eq_good he, hx, wx, ordE_self]; rfl
      have op := ordE_self p
      have hkp : okX p := p3
      have hke : okX e := z3
      clear hpe hpx hpx2
      cases c : shE e
      · have hpp := usame c
        subst hpp
        clear usame
        repeat' (first
          | (with_reducible refine T.sq fun K hK => ?_)
          | ((first | ((with_reducible refine T.reg hE ?hd ?_); (case hd => kernel_rfl)) | ((with_reducible refine T.any hE mixed ?hd ?hok ?_); (case hd => kernel_rfl); (case hok => kernel_rfl))); simp [*]; (repeat' (split; all_goals (rename_i hc; try simp [*]))))
          | ((with_reducible refine T.ret ?_); refine fin_pure ?_; simp [*]; try (change Hold _))
          | (with_reducible refine T.block ?_)
          | ((with_reducible refine T.skip ?_); simp [*])
          | ((with_reducible refine T.exit ?_); simp [*])
          | ((with_reducible refine T.br fun K1 K2 hK1 hK2 => ?_); simp [*]; try ((refine Br.intro (fun hc => ?_) (fun hc => ?_)) <;> (try simp at hc)))
          | (with_reducible refine Cont.go (by assumption) _ ?_)
          | (with_reducible refine Cnt.go (by assumption) ?_))
        all_goals (unfold Hold; first | rfl | (simp [*]; done))
      · clear usame
        repeat' (first
          | (with_reducible refine T.sq fun K hK => ?_)
          | ((first | ((with_reducible refine T.reg hE ?hd ?_); (case hd => kernel_rfl)) | ((with_reducible refine T.any hE mixed ?hd ?hok ?_); (case hd => kernel_rfl); (case hok => kernel_rfl))); simp [*]; (repeat' (split; all_goals (rename_i hc; try simp [*]))))
          | ((with_reducible refine T.ret ?_); refine fin_pure ?_; simp [*]; try (change Hold _))
          | (with_reducible refine T.block ?_)
          | ((with_reducible refine T.skip ?_); simp [*])
          | ((with_reducible refine T.exit ?_); simp [*])
          | ((with_reducible refine T.br fun K1 K2 hK1 hK2 => ?_); simp [*]; try ((refine Br.intro (fun hc => ?_) (fun hc => ?_)) <;> (try simp at hc)))
          | (with_reducible refine Cont.go (by assumption) _ ?_)
          | (with_reducible refine Cnt.go (by assumption) ?_))
        all_goals (unfold Hold; first | rfl | (simp [*]; done))
    · have hx := hpx2 w
      have c : shE e = true := by
        cases c : shE e
        · have := usame c
          rw [hpe, this] at w
          exact absurd v w
        · rfl
      have hr : rightE p = if nodesN p > 1000 then 20 else if depE p > 100 then 21 else 0 := by rw [rightE_eq, if_pos ua]
      have n1 : nodesN p ≤ 3 * nodesN e := by rw [nodesN_eq, nodesN_eq]; exact uc
      clear usame hpx hpx2
      by_cases k1 : nodesN p > 1000
      · rw [if_pos k1] at hr
        rw [hr] at hpe
        have m1 : 300 < nodesN e := by omega
        clear hr k1 n1 uc ud
        repeat' (first
          | (with_reducible refine T.sq fun K hK => ?_)
          | ((first | ((with_reducible refine T.reg hE ?hd ?_); (case hd => kernel_rfl)) | ((with_reducible refine T.any hE mixed ?hd ?hok ?_); (case hd => kernel_rfl); (case hok => kernel_rfl))); simp [*]; (repeat' (split; all_goals (rename_i hc; try simp [*]))))
          | ((with_reducible refine T.ret ?_); refine fin_pure ?_; simp [*]; try (change Hold _))
          | (with_reducible refine T.block ?_)
          | ((with_reducible refine T.skip ?_); simp [*])
          | ((with_reducible refine T.exit ?_); simp [*])
          | ((with_reducible refine T.br fun K1 K2 hK1 hK2 => ?_); simp [*]; try ((refine Br.intro (fun hc => ?_) (fun hc => ?_)) <;> (try simp at hc)))
          | (with_reducible refine Cont.go (by assumption) _ ?_)
          | (with_reducible refine Cnt.go (by assumption) ?_))
        all_goals (first | omega | (unfold Hold; first | rfl | omega))
      · rw [if_neg k1] at hr
        by_cases k2 : depE p > 100
        · rw [if_pos k2] at hr
          rw [hr] at hpe
          have m1 : 30 < depE e := by omega
          clear hr k1 k2 n1 uc ud
          by_cases m2 : 300 < nodesN e
          · repeat' (first
              | (with_reducible refine T.sq fun K hK => ?_)
              | ((first | ((with_reducible refine T.reg hE ?hd ?_); (case hd => kernel_rfl)) | ((with_reducible refine T.any hE mixed ?hd ?hok ?_); (case hd => kernel_rfl); (case hok => kernel_rfl))); simp [*]; (repeat' (split; all_goals (rename_i hc; try simp [*]))))
              | ((with_reducible refine T.ret ?_); refine fin_pure ?_; simp [*]; try (change Hold _))
              | (with_reducible refine T.block ?_)
              | ((with_reducible refine T.skip ?_); simp [*])
              | ((with_reducible refine T.exit ?_); simp [*])
              | ((with_reducible refine T.br fun K1 K2 hK1 hK2 => ?_); simp [*]; try ((refine Br.intro (fun hc => ?_) (fun hc => ?_)) <;> (try simp at hc)))
              | (with_reducible refine Cont.go (by assumption) _ ?_)
              | (with_reducible refine Cnt.go (by assumption) ?_))
            all_goals (first | omega | (unfold Hold; first | rfl | omega))
          · repeat' (first
              | (with_reducible refine T.sq fun K hK => ?_)
              | ((first | ((with_reducible refine T.reg hE ?hd ?_); (case hd => kernel_rfl)) | ((with_reducible refine T.any hE mixed ?hd ?hok ?_); (case hd => kernel_rfl); (case hok => kernel_rfl))); simp [*]; (repeat' (split; all_goals (rename_i hc; try simp [*]))))
              | ((with_reducible refine T.ret ?_); refine fin_pure ?_; simp [*]; try (change Hold _))
              | (with_reducible refine T.block ?_)
              | ((with_reducible refine T.skip ?_); simp [*])
              | ((with_reducible refine T.exit ?_); simp [*])
              | ((with_reducible refine T.br fun K1 K2 hK1 hK2 => ?_); simp [*]; try ((refine Br.intro (fun hc => ?_) (fun hc => ?_)) <;> (try simp at hc)))
              | (with_reducible refine Cont.go (by assumption) _ ?_)
              | (with_reducible refine Cnt.go (by assumption) ?_))
            all_goals (first | omega | (unfold Hold; first | rfl | omega))
        · rw [if_neg k2] at hr
          rw [hr] at hpe
          exact absurd hpe w
  · repeat' (first
      | (with_reducible refine T.sq fun K hK => ?_)
      | ((first | ((with_reducible refine T.reg hE ?hd ?_); (case hd => kernel_rfl)) | ((with_reducible refine T.any hE mixed ?hd ?hok ?_); (case hd => kernel_rfl); (case hok => kernel_rfl))); simp [*]; (repeat' (split; all_goals (rename_i hc; try simp [*]))))
      | ((with_reducible refine T.ret ?_); refine fin_pure ?_; simp [*]; try (change Hold _))
      | (with_reducible refine T.block ?_)
      | ((with_reducible refine T.skip ?_); simp [*])
      | ((with_reducible refine T.exit ?_); simp [*])
      | ((with_reducible refine T.br fun K1 K2 hK1 hK2 => ?_); simp [*]; try ((refine Br.intro (fun hc => ?_) (fun hc => ?_)) <;> (try simp at hc)))
      | (with_reducible refine Cont.go (by assumption) _ ?_)
      | (with_reducible refine Cnt.go (by assumption) ?_))
    all_goals (unfold Hold; rfl)
end Go.Proofs.Ytiippmhlkcbjmaa.Ax
