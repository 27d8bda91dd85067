/- Contracts: the reference's sizes, depths, shapes. -/
import Derived.Test.YtaacfmakfkaddaaDoorBxB
set_option linter.unusedVariables false
set_option linter.unusedSimpArgs false
namespace Go.Proofs.YtaacfmakfkaddaaDoor.Ax
section
open Go Go.Proofs

mutual
def cntE : Ex → Nat
  | .mk _ _ l => cntL l + 1
def cntL : List Ex → Nat
  | [] => 0
  | e :: l => cntE e + cntL l
end
theorem cntE_eq (e : Ex) : cntE e = cntL e.kids + 1 := by cases e; rw [cntE]; rfl
mutual
theorem preE_cnt : ∀ (e : Ex) (d : Int), (preE e d).length = cntE e
  | .mk k i l, d => by rw [preE, cntE, List.length_cons, preL_cnt]
theorem preL_cnt : ∀ (l : List Ex) (d : Int), (preL l d).length = cntL l
  | [], d => by rw [preL, cntL]; rfl
  | e :: l, d => by rw [preL, cntL, List.length_append, preE_cnt, preL_cnt]
end
theorem nodesN_eq (e : Ex) : nodesN e = cntE e := preE_cnt e 1
theorem cntL_take : ∀ (l : List Ex) (j : Nat) (h : j < l.length), cntL (l.take (j + 1)) = cntL (l.take j) + cntE l[j]
  | e :: l, 0, h => by simp [cntL]
  | e :: l, j + 1, h => by simp only [List.take_succ_cons, cntL, List.getElem_cons_succ]; rw [cntL_take l j (by simpa using h)]; omega
theorem cntL_le : ∀ (l : List Ex) (j : Nat), cntL (l.take j) ≤ cntL l
  | [], j => by simp
  | e :: l, 0 => by simp [cntL]
  | e :: l, j + 1 => by simp only [List.take_succ_cons, cntL]; have := cntL_le l j; omega
theorem depL_take : ∀ (l : List Ex) (j : Nat) (h : j < l.length), depL (l.take (j + 1)) = max (depL (l.take j)) (depE l[j])
  | e :: l, 0, h => by simp [depL]
  | e :: l, j + 1, h => by simp only [List.take_succ_cons, depL, List.getElem_cons_succ]; rw [depL_take l j (by simpa using h)]; omega
theorem depL_le : ∀ (l : List Ex) (j : Nat), depL (l.take j) ≤ depL l
  | [], j => by simp
  | e :: l, 0 => by simp [depL]
  | e :: l, j + 1 => by simp only [List.take_succ_cons, depL]; have := depL_le l j; omega

@[simp] def gSizeUpTo : List V → Option V := f2 kE (kI .i64) fun e m => if 1 ≤ m ∧ m ≤ 1000000 then some (.int .i64 (min (cntE e : Int) m)) else none
set_option maxHeartbeats 400000 in
theorem ok_sizeUpTo : PureOk Tryd.prog 86 gSizeUpTo := by
  refine rec2 fun e ih m r hr => ?_
  split at hr
  · rename_i hm
    obtain ⟨hm1, hm2⟩ := hm
    cases hr
    have hE := ((EnvOk.nil (P := Tryd.prog) (eq := fun _ => false) (own := fun _ => false) (mem := fun _ => false) EqOk.none).addf ih)
    refine ⟨⟨Tryd.f86, Tryd.func86, by decide, rfl⟩, pure_of_T Tryd.func86 rfl (by simp [Tryd.ntmps86]) fun q => ?_⟩
    repeat' (first | (with_reducible refine T.sq fun K hK => ?_) | ((first | ((with_reducible refine T.reg hE ?hd ?_); (case hd => kernel_rfl)) | ((with_reducible refine T.any hE mixed ?hd ?hok ?_); (case hd => kernel_rfl); (case hok => kernel_rfl))); simp [*]; (repeat' (split; all_goals (rename_i hc; try simp [*])))) | ((with_reducible refine T.ret ?_); refine fin_pure ?_; simp [*]; try (change Hold _)) | (with_reducible refine T.block ?_) | ((with_reducible refine T.skip ?_); simp [*]) | ((with_reducible refine T.exit ?_); simp [*]) | ((with_reducible refine T.br fun K1 K2 hK1 hK2 => ?_); simp [*]; try ((refine Br.intro (fun hc => ?_) (fun hc => ?_)) <;> (try simp at hc))) | (with_reducible refine Cont.go (by assumption) _ ?_) | (with_reducible refine Cnt.go (by assumption) ?_))
    refine T.len (t := 9) (els := encL e.kids) (tk := .no) (by simp [*]) fun hlen => ?_
    rw [encL_length] at hlen
    refine T.loop (fun n σ => ∃ (j : Nat) (n0 : Int), n = e.kids.length - j ∧ σ.get 9 = .sl (encL e.kids) .no ∧ σ.get 10 = .int .i64 e.kids.length ∧ σ.get 11 = .int .i64 j ∧ σ.get 1 = .int .i64 m ∧ j ≤ e.kids.length ∧ σ.get 5 = .int .i64 n0 ∧ n0 = min ((1 + cntL (e.kids.take j) : Nat) : Int) m) e.kids.length ⟨0, 1, by simp [*], by simp [*], by simp [*], by simp [*], by simp [*], by omega, by simp [*], by simp [cntL]; omega⟩ ?_
    rintro n σ ⟨j, n0, rfl, g1, g2, g3, g4, g5, g6, g7⟩
    have c1 := cntE_eq e
    have c2 := cntL_le e.kids j
    by_cases hj : j < e.kids.length
    · have hw := wrap_succ hlen hj
      have hs := ex_kid_lt e j hj
      have c3 := cntL_take e.kids j hj
      have c4 := cntL_le e.kids (j + 1)
      have g8 : Hold (n0 = min ((1 + cntL (e.kids.take j) : Nat) : Int) m) := g7
      have w1 : IntKind.i64.wrap (m - n0) = m - n0 := wrap64 (by omega) (by omega)
      have w2 : IntKind.i64.wrap (n0 + min (cntE e.kids[j] : Int) (m - n0)) = n0 + min (cntE e.kids[j] : Int) (m - n0) := wrap64 (by omega) (by omega)
      have w3 : n0 ≤ m := by omega
      have w4 : 1 ≤ n0 := by omega
      have w5 : m - n0 ≤ 1000000 := by omega
      clear g7
      by_cases hn : n0 < m
      · have w6 : 1 ≤ m - n0 := by omega
        have w7 : ¬ m ≤ n0 := by omega
        repeat' (first | (with_reducible refine T.sq fun K hK => ?_) | ((first | ((with_reducible refine T.reg hE ?hd ?_); (case hd => kernel_rfl)) | ((with_reducible refine T.any hE mixed ?hd ?hok ?_); (case hd => kernel_rfl); (case hok => kernel_rfl))); simp [*]; (repeat' (split; all_goals (rename_i hc; try simp [*])))) | ((with_reducible refine T.ret ?_); refine fin_pure ?_; simp [*]; try (change Hold _)) | (with_reducible refine T.block ?_) | ((with_reducible refine T.skip ?_); simp [*]) | ((with_reducible refine T.exit ?_); simp [*]) | ((with_reducible refine T.br fun K1 K2 hK1 hK2 => ?_); simp [*]; try ((refine Br.intro (fun hc => ?_) (fun hc => ?_)) <;> (try simp at hc))) | (with_reducible refine Cont.go (by assumption) _ ?_) | (with_reducible refine Cnt.go (by assumption) ?_))
        unfold Hold at g8
        exact ⟨_, by omega, j + 1, rfl, by omega, by omega, by rw [c3]; omega⟩
      · have w7 : m ≤ n0 := by omega
        repeat' (first | (with_reducible refine T.sq fun K hK => ?_) | ((first | ((with_reducible refine T.reg hE ?hd ?_); (case hd => kernel_rfl)) | ((with_reducible refine T.any hE mixed ?hd ?hok ?_); (case hd => kernel_rfl); (case hok => kernel_rfl))); simp [*]; (repeat' (split; all_goals (rename_i hc; try simp [*])))) | ((with_reducible refine T.ret ?_); refine fin_pure ?_; simp [*]; try (change Hold _)) | (with_reducible refine T.block ?_) | ((with_reducible refine T.skip ?_); simp [*]) | ((with_reducible refine T.exit ?_); simp [*]) | ((with_reducible refine T.br fun K1 K2 hK1 hK2 => ?_); simp [*]; try ((refine Br.intro (fun hc => ?_) (fun hc => ?_)) <;> (try simp at hc))) | (with_reducible refine Cont.go (by assumption) _ ?_) | (with_reducible refine Cnt.go (by assumption) ?_))
        all_goals (unfold Hold at *; omega)
    · have w3 : n0 ≤ m := by omega
      have w7 : ¬ m < n0 := by omega
      have w8 : j = e.kids.length := by omega
      have g8 : Hold (n0 = min ((1 + cntL (e.kids.take j) : Nat) : Int) m) := g7
      clear g7
      repeat' (first | (with_reducible refine T.sq fun K hK => ?_) | ((first | ((with_reducible refine T.reg hE ?hd ?_); (case hd => kernel_rfl)) | ((with_reducible refine T.any hE mixed ?hd ?hok ?_); (case hd => kernel_rfl); (case hok => kernel_rfl))); simp [*]; (repeat' (split; all_goals (rename_i hc; try simp [*])))) | ((with_reducible refine T.ret ?_); refine fin_pure ?_; simp [*]; try (change Hold _)) | (with_reducible refine T.block ?_) | ((with_reducible refine T.skip ?_); simp [*]) | ((with_reducible refine T.exit ?_); simp [*]) | ((with_reducible refine T.br fun K1 K2 hK1 hK2 => ?_); simp [*]; try ((refine Br.intro (fun hc => ?_) (fun hc => ?_)) <;> (try simp at hc))) | (with_reducible refine Cont.go (by assumption) _ ?_) | (with_reducible refine Cnt.go (by assumption) ?_))
      unfold Hold at *
      subst w8
      rw [List.take_length] at g8
      omega
  · cases hr

@[simp] def gDepthUpTo : List V → Option V := f2 kE (kI .i64) fun e m => if 1 ≤ m ∧ m ≤ 1000000 then some (.int .i64 (min (depE e : Int) m)) else none
set_option maxHeartbeats 400000 in
theorem ok_depthUpTo : PureOk Tryd.prog 87 gDepthUpTo := by
  refine rec2 fun e ih m r hr => ?_
  split at hr
  · rename_i hm
    obtain ⟨hm1, hm2⟩ := hm
    cases hr
    have hE := ((EnvOk.nil (P := Tryd.prog) (eq := fun _ => false) (own := fun _ => false) (mem := fun _ => false) EqOk.none).addf ih)
    refine ⟨⟨Tryd.f87, Tryd.func87, by decide, rfl⟩, pure_of_T Tryd.func87 rfl (by simp [Tryd.ntmps87]) fun q => ?_⟩
    have d1 := depE_eq e
    have u1 : IntKind.i64.wrap (m - 1) = m - 1 := wrap64 (by omega) (by omega)
    by_cases hm0 : m ≤ 1
    · repeat' (first | (with_reducible refine T.sq fun K hK => ?_) | ((first | ((with_reducible refine T.reg hE ?hd ?_); (case hd => kernel_rfl)) | ((with_reducible refine T.any hE mixed ?hd ?hok ?_); (case hd => kernel_rfl); (case hok => kernel_rfl))); simp [*]; (repeat' (split; all_goals (rename_i hc; try simp [*])))) | ((with_reducible refine T.ret ?_); refine fin_pure ?_; simp [*]; try (change Hold _)) | (with_reducible refine T.block ?_) | ((with_reducible refine T.skip ?_); simp [*]) | ((with_reducible refine T.exit ?_); simp [*]) | ((with_reducible refine T.br fun K1 K2 hK1 hK2 => ?_); simp [*]; try ((refine Br.intro (fun hc => ?_) (fun hc => ?_)) <;> (try simp at hc))) | (with_reducible refine Cont.go (by assumption) _ ?_) | (with_reducible refine Cnt.go (by assumption) ?_))
      all_goals (unfold Hold; omega)
    repeat' (first | (with_reducible refine T.sq fun K hK => ?_) | ((first | ((with_reducible refine T.reg hE ?hd ?_); (case hd => kernel_rfl)) | ((with_reducible refine T.any hE mixed ?hd ?hok ?_); (case hd => kernel_rfl); (case hok => kernel_rfl))); simp [*]; (repeat' (split; all_goals (rename_i hc; try simp [*])))) | ((with_reducible refine T.ret ?_); refine fin_pure ?_; simp [*]; try (change Hold _)) | (with_reducible refine T.block ?_) | ((with_reducible refine T.skip ?_); simp [*]) | ((with_reducible refine T.exit ?_); simp [*]) | ((with_reducible refine T.br fun K1 K2 hK1 hK2 => ?_); simp [*]; try ((refine Br.intro (fun hc => ?_) (fun hc => ?_)) <;> (try simp at hc))) | (with_reducible refine Cont.go (by assumption) _ ?_) | (with_reducible refine Cnt.go (by assumption) ?_))
    refine T.len (t := 13) (els := encL e.kids) (tk := .no) (by simp [*]) fun hlen => ?_
    rw [encL_length] at hlen
    refine T.loop (fun n σ => ∃ (j : Nat) (n0 : Int), n = e.kids.length - j ∧ σ.get 13 = .sl (encL e.kids) .no ∧ σ.get 14 = .int .i64 e.kids.length ∧ σ.get 15 = .int .i64 j ∧ σ.get 1 = .int .i64 m ∧ j ≤ e.kids.length ∧ σ.get 5 = .int .i64 n0 ∧ n0 = depL (e.kids.take j) ∧ n0 < m - 1) e.kids.length ⟨0, 0, by simp [*], by simp [*], by simp [*], by simp [*], by simp [*], by omega, by simp [*], by simp [depL], by omega⟩ ?_
    rintro n σ ⟨j, n0, rfl, g1, g2, g3, g4, g5, g6, g7, g8⟩
    have c2 := depL_le e.kids j
    have w1 : IntKind.i64.wrap (n0 + 1) = n0 + 1 := wrap64 (by omega) (by omega)
    by_cases hj : j < e.kids.length
    · have hw := wrap_succ hlen hj
      have hs := ex_kid_lt e j hj
      have c3 := depL_take e.kids j hj
      have c4 := depL_le e.kids (j + 1)
      have g9 : Hold (n0 = depL (e.kids.take j)) := g7
      have u2 : 1 ≤ m - 1 := by omega
      have u3 : m - 1 ≤ 1000000 := by omega
      obtain ⟨dd, hdd⟩ : ∃ dd : Int, min (depE e.kids[j] : Int) (m - 1) = dd := ⟨_, rfl⟩
      have u4 : Hold (dd = min (depE e.kids[j] : Int) (m - 1)) := hdd.symm
      clear g7
      by_cases v1 : n0 < dd
      · by_cases v2 : m - 1 ≤ dd
        · repeat' (first | (with_reducible refine T.sq fun K hK => ?_) | ((first | ((with_reducible refine T.reg hE ?hd ?_); (case hd => kernel_rfl)) | ((with_reducible refine T.any hE mixed ?hd ?hok ?_); (case hd => kernel_rfl); (case hok => kernel_rfl))); simp [*]; (repeat' (split; all_goals (rename_i hc; try simp [*])))) | ((with_reducible refine T.ret ?_); refine fin_pure ?_; simp [*]; try (change Hold _)) | (with_reducible refine T.block ?_) | ((with_reducible refine T.skip ?_); simp [*]) | ((with_reducible refine T.exit ?_); simp [*]) | ((with_reducible refine T.br fun K1 K2 hK1 hK2 => ?_); simp [*]; try ((refine Br.intro (fun hc => ?_) (fun hc => ?_)) <;> (try simp at hc))) | (with_reducible refine Cont.go (by assumption) _ ?_) | (with_reducible refine Cnt.go (by assumption) ?_))
          all_goals (unfold Hold at *; omega)
        · repeat' (first | (with_reducible refine T.sq fun K hK => ?_) | ((first | ((with_reducible refine T.reg hE ?hd ?_); (case hd => kernel_rfl)) | ((with_reducible refine T.any hE mixed ?hd ?hok ?_); (case hd => kernel_rfl); (case hok => kernel_rfl))); simp [*]; (repeat' (split; all_goals (rename_i hc; try simp [*])))) | ((with_reducible refine T.ret ?_); refine fin_pure ?_; simp [*]; try (change Hold _)) | (with_reducible refine T.block ?_) | ((with_reducible refine T.skip ?_); simp [*]) | ((with_reducible refine T.exit ?_); simp [*]) | ((with_reducible refine T.br fun K1 K2 hK1 hK2 => ?_); simp [*]; try ((refine Br.intro (fun hc => ?_) (fun hc => ?_)) <;> (try simp at hc))) | (with_reducible refine Cont.go (by assumption) _ ?_) | (with_reducible refine Cnt.go (by assumption) ?_))
          unfold Hold at *
          exact ⟨_, by omega, j + 1, rfl, by omega, by omega, by rw [c3]; omega, by omega⟩
      · have v2 : ¬ m - 1 ≤ n0 := by omega
        repeat' (first | (with_reducible refine T.sq fun K hK => ?_) | ((first | ((with_reducible refine T.reg hE ?hd ?_); (case hd => kernel_rfl)) | ((with_reducible refine T.any hE mixed ?hd ?hok ?_); (case hd => kernel_rfl); (case hok => kernel_rfl))); simp [*]; (repeat' (split; all_goals (rename_i hc; try simp [*])))) | ((with_reducible refine T.ret ?_); refine fin_pure ?_; simp [*]; try (change Hold _)) | (with_reducible refine T.block ?_) | ((with_reducible refine T.skip ?_); simp [*]) | ((with_reducible refine T.exit ?_); simp [*]) | ((with_reducible refine T.br fun K1 K2 hK1 hK2 => ?_); simp [*]; try ((refine Br.intro (fun hc => ?_) (fun hc => ?_)) <;> (try simp at hc))) | (with_reducible refine Cont.go (by assumption) _ ?_) | (with_reducible refine Cnt.go (by assumption) ?_))
        unfold Hold at *
        exact ⟨_, by omega, j + 1, rfl, by omega, by omega, by rw [c3]; omega⟩
    · have w8 : j = e.kids.length := by omega
      have g9 : Hold (n0 = depL (e.kids.take j)) := g7
      clear g7
      repeat' (first | (with_reducible refine T.sq fun K hK => ?_) | ((first | ((with_reducible refine T.reg hE ?hd ?_); (case hd => kernel_rfl)) | ((with_reducible refine T.any hE mixed ?hd ?hok ?_); (case hd => kernel_rfl); (case hok => kernel_rfl))); simp [*]; (repeat' (split; all_goals (rename_i hc; try simp [*])))) | ((with_reducible refine T.ret ?_); refine fin_pure ?_; simp [*]; try (change Hold _)) | (with_reducible refine T.block ?_) | ((with_reducible refine T.skip ?_); simp [*]) | ((with_reducible refine T.exit ?_); simp [*]) | ((with_reducible refine T.br fun K1 K2 hK1 hK2 => ?_); simp [*]; try ((refine Br.intro (fun hc => ?_) (fun hc => ?_)) <;> (try simp at hc))) | (with_reducible refine Cont.go (by assumption) _ ?_) | (with_reducible refine Cnt.go (by assumption) ?_))
      unfold Hold at *
      subst w8
      rw [List.take_length] at g9
      omega
  · cases hr

theorem mem_lt {e : Ex} {x : Ex} (h : x ∈ e.kids) : SizeOf.sizeOf x < SizeOf.sizeOf e := by
  have h1 := List.sizeOf_lt_of_mem h
  cases e with
  | mk a b l => simp at h1 ⊢; omega
/-- All nodes are as their kinds ask. -/
def allX (e : Ex) : Bool := (preE e 1).all fun x => shapedX x.2
mutual
theorem preE_all : ∀ (e : Ex) (d d' : Int) (p : Ex → Bool), (preE e d).all (fun x => p x.2) = (preE e d').all fun x => p x.2
  | .mk k i l, d, d', p => by rw [preE, preE, List.all_cons, List.all_cons, preL_all l _ (IntKind.i64.wrap (d' + 1)) p]
theorem preL_all : ∀ (l : List Ex) (d d' : Int) (p : Ex → Bool), (preL l d).all (fun x => p x.2) = (preL l d').all fun x => p x.2
  | [], d, d', p => by rw [preL, preL]
  | e :: l, d, d', p => by rw [preL, preL, List.all_append, List.all_append, preE_all e d d' p, preL_all l d d' p]
end
theorem preL_kids : ∀ (l : List Ex) (d : Int) (p : Ex → Bool), (preL l d).all (fun x => p x.2) = l.all fun e => (preE e 1).all fun x => p x.2
  | [], d, p => by rw [preL]; rfl
  | e :: l, d, p => by rw [preL, List.all_append, List.all_cons, preL_kids l d p, preE_all e d 1 p]
theorem allX_eq (e : Ex) : allX e = (shapedX e && e.kids.all allX) := by
  unfold allX
  rw [preE_eq, List.all_cons, preL_kids]
def kidsR (e : Ex) (least most : Int) (terms : Bool) : Bool := decide (least ≤ e.kids.length) && decide ((e.kids.length : Int) ≤ most) && e.kids.all fun k => isT k == terms && allX k
theorem kidsR_eq (e : Ex) (a b : Int) (t : Bool) : kidsR e a b t = (kidsAre e a b t && e.kids.all allX) := by
  unfold kidsR kidsAre
  have : (e.kids.all fun k => isT k == t && allX k) = ((e.kids.all fun k => isT k == t) && e.kids.all allX) := by
    generalize e.kids = l
    induction l with
    | nil => rfl
    | cons x l ih => simp only [List.all_cons, ih]; cases (isT x == t) <;> cases allX x <;> simp
  rw [this]
  simp only [Bool.and_assoc]
set_option maxHeartbeats 400000 in
theorem at_kidsR (e : Ex) (ih : PureOk Tryd.prog 49 (f1 kE fun x => if SizeOf.sizeOf x < SizeOf.sizeOf e.kids then some (.bool (allX x)) else none)) (a b : Int) (t : Bool) : Okat Tryd.prog 88 [enc e, .int .i64 a, .int .i64 b, .bool t] (.bool (kidsR e a b t)) := by
  have hE := (((EnvOk.nil (P := Tryd.prog) (eq := fun _ => false) (own := fun _ => false) (mem := fun _ => false) EqOk.none).addf ok_rTerm).addf ih)
  refine ⟨⟨Tryd.f88, Tryd.func88, by decide, rfl⟩, pure_of_T Tryd.func88 rfl (by simp [Tryd.ntmps88]) fun q => ?_⟩
  repeat' (first | (with_reducible refine T.sq fun K hK => ?_) | ((first | ((with_reducible refine T.reg hE ?hd ?_); (case hd => kernel_rfl)) | ((with_reducible refine T.any hE mixed ?hd ?hok ?_); (case hd => kernel_rfl); (case hok => kernel_rfl))); simp [*]; (repeat' (split; all_goals (rename_i hc; try simp [*])))) | ((with_reducible refine T.ret ?_); refine fin_pure ?_; simp [*]; try (change Hold _)) | (with_reducible refine T.block ?_) | ((with_reducible refine T.skip ?_); simp [*]) | ((with_reducible refine T.exit ?_); simp [*]) | ((with_reducible refine T.br fun K1 K2 hK1 hK2 => ?_); simp [*]; try ((refine Br.intro (fun hc => ?_) (fun hc => ?_)) <;> (try simp at hc))) | (with_reducible refine Cont.go (by assumption) _ ?_) | (with_reducible refine Cnt.go (by assumption) ?_))
  all_goals first | omega | (unfold Hold; simp [kidsR, *]; done) | (unfold Hold; simp [kidsR, *]; omega) | skip
  refine T.len (t := 24) (els := encL e.kids) (tk := .no) (by simp [*]) fun hlen => ?_
  rw [encL_length] at hlen
  refine T.loop (fun n σ => ∃ j : Nat, n = e.kids.length - j ∧ σ.get 24 = .sl (encL e.kids) .no ∧ σ.get 25 = .int .i64 e.kids.length ∧ σ.get 26 = .int .i64 j ∧ σ.get 3 = .bool t ∧ j ≤ e.kids.length ∧ Hold ((e.kids.take j).all (fun k => isT k == t && allX k) = true)) e.kids.length ⟨0, by simp [*, Hold]⟩ ?_
  rintro n σ ⟨j, rfl, g1, g2, g3, g4, g5, g6⟩
  by_cases hj : j < e.kids.length
  · have hw := wrap_succ hlen hj
    have hs : SizeOf.sizeOf e.kids[j] < SizeOf.sizeOf e.kids := List.sizeOf_lt_of_mem (List.getElem_mem hj)
    have c3 := all_take_succ e.kids (fun k => isT k == t && allX k) j hj
    by_cases v1 : isT e.kids[j] = t
    · by_cases v2 : allX e.kids[j] = true
      · repeat' (first | (with_reducible refine T.sq fun K hK => ?_) | ((first | ((with_reducible refine T.reg hE ?hd ?_); (case hd => kernel_rfl)) | ((with_reducible refine T.any hE mixed ?hd ?hok ?_); (case hd => kernel_rfl); (case hok => kernel_rfl))); simp [*]; (repeat' (split; all_goals (rename_i hc; try simp [*])))) | ((with_reducible refine T.ret ?_); refine fin_pure ?_; simp [*]; try (change Hold _)) | (with_reducible refine T.block ?_) | ((with_reducible refine T.skip ?_); simp [*]) | ((with_reducible refine T.exit ?_); simp [*]) | ((with_reducible refine T.br fun K1 K2 hK1 hK2 => ?_); simp [*]; try ((refine Br.intro (fun hc => ?_) (fun hc => ?_)) <;> (try simp at hc))) | (with_reducible refine Cont.go (by assumption) _ ?_) | (with_reducible refine Cnt.go (by assumption) ?_))
        unfold Hold at *
        rw [g6] at c3
        exact ⟨_, by omega, j + 1, rfl, by omega, by omega, by simpa [v1, v2] using c3⟩
      · rw [Bool.not_eq_true] at v2
        repeat' (first | (with_reducible refine T.sq fun K hK => ?_) | ((first | ((with_reducible refine T.reg hE ?hd ?_); (case hd => kernel_rfl)) | ((with_reducible refine T.any hE mixed ?hd ?hok ?_); (case hd => kernel_rfl); (case hok => kernel_rfl))); simp [*]; (repeat' (split; all_goals (rename_i hc; try simp [*])))) | ((with_reducible refine T.ret ?_); refine fin_pure ?_; simp [*]; try (change Hold _)) | (with_reducible refine T.block ?_) | ((with_reducible refine T.skip ?_); simp [*]) | ((with_reducible refine T.exit ?_); simp [*]) | ((with_reducible refine T.br fun K1 K2 hK1 hK2 => ?_); simp [*]; try ((refine Br.intro (fun hc => ?_) (fun hc => ?_)) <;> (try simp at hc))) | (with_reducible refine Cont.go (by assumption) _ ?_) | (with_reducible refine Cnt.go (by assumption) ?_))
        have : (e.kids.all fun k => isT k == t && allX k) = false := List.all_eq_false.2 ⟨e.kids[j], by simp, by simp [v2]⟩
        unfold Hold; simp [kidsR, this]
    · repeat' (first | (with_reducible refine T.sq fun K hK => ?_) | ((first | ((with_reducible refine T.reg hE ?hd ?_); (case hd => kernel_rfl)) | ((with_reducible refine T.any hE mixed ?hd ?hok ?_); (case hd => kernel_rfl); (case hok => kernel_rfl))); simp [*]; (repeat' (split; all_goals (rename_i hc; try simp [*])))) | ((with_reducible refine T.ret ?_); refine fin_pure ?_; simp [*]; try (change Hold _)) | (with_reducible refine T.block ?_) | ((with_reducible refine T.skip ?_); simp [*]) | ((with_reducible refine T.exit ?_); simp [*]) | ((with_reducible refine T.br fun K1 K2 hK1 hK2 => ?_); simp [*]; try ((refine Br.intro (fun hc => ?_) (fun hc => ?_)) <;> (try simp at hc))) | (with_reducible refine Cont.go (by assumption) _ ?_) | (with_reducible refine Cnt.go (by assumption) ?_))
      have : (e.kids.all fun k => isT k == t && allX k) = false := List.all_eq_false.2 ⟨e.kids[j], by simp, by simp [v1]⟩
      unfold Hold; simp [kidsR, this]
  · have w8 : j = e.kids.length := by omega
    repeat' (first | (with_reducible refine T.sq fun K hK => ?_) | ((first | ((with_reducible refine T.reg hE ?hd ?_); (case hd => kernel_rfl)) | ((with_reducible refine T.any hE mixed ?hd ?hok ?_); (case hd => kernel_rfl); (case hok => kernel_rfl))); simp [*]; (repeat' (split; all_goals (rename_i hc; try simp [*])))) | ((with_reducible refine T.ret ?_); refine fin_pure ?_; simp [*]; try (change Hold _)) | (with_reducible refine T.block ?_) | ((with_reducible refine T.skip ?_); simp [*]) | ((with_reducible refine T.exit ?_); simp [*]) | ((with_reducible refine T.br fun K1 K2 hK1 hK2 => ?_); simp [*]; try ((refine Br.intro (fun hc => ?_) (fun hc => ?_)) <;> (try simp at hc))) | (with_reducible refine Cont.go (by assumption) _ ?_) | (with_reducible refine Cnt.go (by assumption) ?_))
    subst w8
    rw [List.take_length] at g6
    unfold Hold at *
    simp [kidsR, g6]; omega
theorem kidsR_mk (k i : Int) (e : Ex) (a b : Int) (t : Bool) : kidsR (.mk k i e.kids) a b t = kidsR e a b t := rfl
theorem allX_k (e : Ex) : allX e = (decide (0 ≤ e.i) && decide (e.i ≤ mostOf e.k) && if e.k = 1 then kidsR e 0 0 true else if e.k = 2 ∨ e.k = 3 then kidsR e 0 4 true else if e.k = 4 then kidsR e 2 2 true else if e.k = 5 ∨ e.k = 7 ∨ e.k = 10 then kidsR e 1 1 false
  else if e.k = 6 ∨ e.k = 8 ∨ e.k = 9 then kidsR e 2 2 false else false) := by
  rw [allX_eq]
  unfold shapedX
  simp only [kidsR_eq]
  have h0 : (decide (e.kids.length = 0)) = kidsAre e 0 0 true := by
    unfold kidsAre
    cases e.kids with
    | nil => rfl
    | cons x l => simp; omega
  rw [h0]
  repeat' split
  all_goals simp only [Bool.and_assoc, Bool.and_false, Bool.false_and]
@[simp] def gShapedR : List V → Option V := f1 kE fun e => some (.bool (allX e))
set_option maxHeartbeats 2000000 in
theorem ok_shapedR : PureOk Tryd.prog 49 gShapedR := by
  refine rec1 fun e ih r hr => ?_
  cases hr
  have hk : PureOk Tryd.prog 88 (f4 kE (kI .i64) (kI .i64) kB fun x a b t => if SizeOf.sizeOf x.kids ≤ SizeOf.sizeOf e.kids then some (.bool (kidsR x a b t)) else none) := by
    intro args r h
    obtain ⟨x, a, b, t, rfl, h2⟩ := f4_inv h
    split at h2
    · rename_i hx
      cases h2
      refine at_kidsR x (ih.less fun args r h => ?_) a b t
      obtain ⟨y, rfl, h3⟩ := f1_inv h
      split at h3
      · rename_i hy
        have : SizeOf.sizeOf y < SizeOf.sizeOf e := by
          have : SizeOf.sizeOf e.kids < SizeOf.sizeOf e := by cases e; simp; omega
          omega
        simp [dec_enc, this]; simpa using h3
      · cases h3
    · cases h2
  clear ih
  have hE := ((EnvOk.nil (P := Tryd.prog) (eq := fun _ => false) (own := fun _ => false) (mem := fun _ => false) EqOk.none).addf hk)
  refine ⟨⟨Tryd.f49, Tryd.func49, by decide, rfl⟩, pure_of_T Tryd.func49 rfl (by simp [Tryd.ntmps49]) fun q => ?_⟩
  repeat' (first | (with_reducible refine T.sq fun K hK => ?_) | ((first | ((with_reducible refine T.reg hE ?hd ?_); (case hd => kernel_rfl)) | ((with_reducible refine T.any hE mixed ?hd ?hok ?_); (case hd => kernel_rfl); (case hok => kernel_rfl))); simp [*]; (repeat' (split; all_goals (rename_i hc; try simp [*])))) | ((with_reducible refine T.ret ?_); refine fin_pure ?_; simp [*]; try (change Hold _)) | (with_reducible refine T.block ?_) | ((with_reducible refine T.skip ?_); simp [*]) | ((with_reducible refine T.exit ?_); simp [*]) | ((with_reducible refine T.br fun K1 K2 hK1 hK2 => ?_); simp [*]; try ((refine Br.intro (fun hc => ?_) (fun hc => ?_)) <;> (try simp at hc))) | (with_reducible refine Cont.go (by assumption) _ ?_) | (with_reducible refine Cnt.go (by assumption) ?_))
  all_goals first | (exfalso; omega) | (unfold Hold; rw [allX_k]; simp [mostOf, kidsR_mk, *]; done) | (unfold Hold; rw [allX_k]; simp [mostOf, kidsR_mk, *]; omega) | (unfold Hold; rw [allX_k]; simp [mostOf, kidsR_mk, *]; intros; omega)
end
section
open Go Go.Proofs

theorem rightE_eq (e : Ex) : rightE e = if nodesN e > 1000 then 20 else if depE e > 100 then 21 else if allX e then 0 else 22 := rfl
theorem ok_rSize : PureOk Tryd.prog 47 gSize := by
  intro args r h
  obtain ⟨e, rfl, ⟨⟩⟩ := f1_inv h
  clear h
  have hE := ((EnvOk.nil (P := Tryd.prog) (eq := fun _ => false) (own := fun _ => false) (mem := fun _ => false) EqOk.none).addf ok_sizeUpTo)
  refine ⟨⟨Tryd.f47, Tryd.func47, by decide, rfl⟩, pure_of_T Tryd.func47 rfl (by simp [Tryd.ntmps47]) fun q => ?_⟩
  repeat' (first | (with_reducible refine T.sq fun K hK => ?_) | ((first | ((with_reducible refine T.reg hE ?hd ?_); (case hd => kernel_rfl)) | ((with_reducible refine T.any hE mixed ?hd ?hok ?_); (case hd => kernel_rfl); (case hok => kernel_rfl))); simp [*]; (repeat' (split; all_goals (rename_i hc; try simp [*])))) | ((with_reducible refine T.ret ?_); refine fin_pure ?_; simp [*]; try (change Hold _)) | (with_reducible refine T.block ?_) | ((with_reducible refine T.skip ?_); simp [*]) | ((with_reducible refine T.exit ?_); simp [*]) | ((with_reducible refine T.br fun K1 K2 hK1 hK2 => ?_); simp [*]; try ((refine Br.intro (fun hc => ?_) (fun hc => ?_)) <;> (try simp at hc))) | (with_reducible refine Cont.go (by assumption) _ ?_) | (with_reducible refine Cnt.go (by assumption) ?_))
  all_goals (unfold Hold; rw [nodesN_eq]; omega)
theorem ok_rDepth : PureOk Tryd.prog 48 gDepth := by
  intro args r h
  obtain ⟨e, rfl, ⟨⟩⟩ := f1_inv h
  clear h
  have hE := ((EnvOk.nil (P := Tryd.prog) (eq := fun _ => false) (own := fun _ => false) (mem := fun _ => false) EqOk.none).addf ok_depthUpTo)
  refine ⟨⟨Tryd.f48, Tryd.func48, by decide, rfl⟩, pure_of_T Tryd.func48 rfl (by simp [Tryd.ntmps48]) fun q => ?_⟩
  repeat' (first | (with_reducible refine T.sq fun K hK => ?_) | ((first | ((with_reducible refine T.reg hE ?hd ?_); (case hd => kernel_rfl)) | ((with_reducible refine T.any hE mixed ?hd ?hok ?_); (case hd => kernel_rfl); (case hok => kernel_rfl))); simp [*]; (repeat' (split; all_goals (rename_i hc; try simp [*])))) | ((with_reducible refine T.ret ?_); refine fin_pure ?_; simp [*]; try (change Hold _)) | (with_reducible refine T.block ?_) | ((with_reducible refine T.skip ?_); simp [*]) | ((with_reducible refine T.exit ?_); simp [*]) | ((with_reducible refine T.br fun K1 K2 hK1 hK2 => ?_); simp [*]; try ((refine Br.intro (fun hc => ?_) (fun hc => ?_)) <;> (try simp at hc))) | (with_reducible refine Cont.go (by assumption) _ ?_) | (with_reducible refine Cnt.go (by assumption) ?_))
  all_goals (unfold Hold; omega)
theorem ok_rRight : PureOk Tryd.prog 17 gRight := by
  intro args r h
  obtain ⟨e, rfl, ⟨⟩⟩ := f1_inv h
  clear h
  have hE := ((((EnvOk.nil (P := Tryd.prog) (eq := fun _ => false) (own := fun _ => false) (mem := fun _ => false) EqOk.none).addf ok_rSize).addf ok_rDepth).addf ok_shapedR)
  refine ⟨⟨Tryd.f17, Tryd.func17, by decide, rfl⟩, pure_of_T Tryd.func17 rfl (by simp [Tryd.ntmps17]) fun q => ?_⟩
  repeat' (first | (with_reducible refine T.sq fun K hK => ?_) | ((first | ((with_reducible refine T.reg hE ?hd ?_); (case hd => kernel_rfl)) | ((with_reducible refine T.any hE mixed ?hd ?hok ?_); (case hd => kernel_rfl); (case hok => kernel_rfl))); simp [*]; (repeat' (split; all_goals (rename_i hc; try simp [*])))) | ((with_reducible refine T.ret ?_); refine fin_pure ?_; simp [*]; try (change Hold _)) | (with_reducible refine T.block ?_) | ((with_reducible refine T.skip ?_); simp [*]) | ((with_reducible refine T.exit ?_); simp [*]) | ((with_reducible refine T.br fun K1 K2 hK1 hK2 => ?_); simp [*]; try ((refine Br.intro (fun hc => ?_) (fun hc => ?_)) <;> (try simp at hc))) | (with_reducible refine Cont.go (by assumption) _ ?_) | (with_reducible refine Cnt.go (by assumption) ?_))
  all_goals (unfold Hold; rw [rightE_eq]; repeat' split)
  all_goals first | rfl | (exfalso; omega) | (simp_all; done)
@[simp] def gIsTerm : List V → Option V := f1 kE fun e => some (.bool (rightE e == 0 && isT e))
@[simp] def gIsForm : List V → Option V := f1 kE fun e => some (.bool (rightE e == 0 && !isT e))
theorem ok_IsTerm : PureOk Tryd.prog 78 gIsTerm := by
  intro args r h
  obtain ⟨e, rfl, ⟨⟩⟩ := f1_inv h
  clear h
  have hE := (((EnvOk.nil (P := Tryd.prog) (eq := fun _ => false) (own := fun _ => false) (mem := fun _ => false) EqOk.none).addf ok_Right).addf ok_isTerm)
  refine ⟨⟨Tryd.f78, Tryd.func78, by decide, rfl⟩, pure_of_T Tryd.func78 rfl (by simp [Tryd.ntmps78]) fun q => ?_⟩
  repeat' (first | (with_reducible refine T.sq fun K hK => ?_) | ((first | ((with_reducible refine T.reg hE ?hd ?_); (case hd => kernel_rfl)) | ((with_reducible refine T.any hE mixed ?hd ?hok ?_); (case hd => kernel_rfl); (case hok => kernel_rfl))); simp [*]; (repeat' (split; all_goals (rename_i hc; try simp [*])))) | ((with_reducible refine T.ret ?_); refine fin_pure ?_; simp [*]; try (change Hold _)) | (with_reducible refine T.block ?_) | ((with_reducible refine T.skip ?_); simp [*]) | ((with_reducible refine T.exit ?_); simp [*]) | ((with_reducible refine T.br fun K1 K2 hK1 hK2 => ?_); simp [*]; try ((refine Br.intro (fun hc => ?_) (fun hc => ?_)) <;> (try simp at hc))) | (with_reducible refine Cont.go (by assumption) _ ?_) | (with_reducible refine Cnt.go (by assumption) ?_))
  all_goals (unfold Hold; simp [*])
theorem allX_kid {e : Ex} (h : allX e = true) (j : Nat) (hj : j < e.kids.length) : allX e.kids[j] = true := by
  rw [allX_eq, Bool.and_eq_true, List.all_eq_true] at h
  exact h.2 _ (List.getElem_mem hj)
theorem cntE_kid {e : Ex} (j : Nat) (hj : j < e.kids.length) : cntL (e.kids.take j) + cntE e.kids[j] + 1 ≤ cntE e := by
  have h1 := cntL_take e.kids j hj
  have h2 := cntL_le e.kids (j + 1)
  have h3 := cntE_eq e
  omega
theorem right_zero {e : Ex} (h : rightE e = 0) : nodesN e ≤ 1000 ∧ depE e ≤ 100 ∧ allX e = true := by
  unfold rightE at h
  split at h
  · cases h
  · split at h
    · cases h
    · split at h
      · rename_i h1 h2 h3; exact ⟨by omega, by omega, h3⟩
      · cases h
theorem right_of {e : Ex} (h1 : nodesN e ≤ 1000) (h2 : depE e ≤ 100) (h3 : allX e = true) : rightE e = 0 := by
  rw [rightE_eq, if_neg (by omega), if_neg (by omega), if_pos h3]
theorem shaped_var {e : Ex} (h : allX e = true) (hk : e.k = 1 ∨ e.k = 7 ∨ e.k = 10) : 0 ≤ e.i ∧ e.i ≤ 63 := by
  rw [allX_eq, Bool.and_eq_true] at h
  have h1 := h.1
  unfold shapedX mostOf at h1
  rw [if_pos (show e.k = 1 ∨ e.k = 7 ∨ e.k = 10 from hk)] at h1
  simp only [Bool.and_eq_true, decide_eq_true_eq] at h1
  exact h1.1
theorem allX_kids {e : Ex} (h : allX e = true) : ∀ x ∈ e.kids, allX x = true := by
  rw [allX_eq, Bool.and_eq_true, List.all_eq_true] at h
  exact h.2
theorem depE_kid {e : Ex} (j : Nat) (hj : j < e.kids.length) : depE e.kids[j] + 1 ≤ depE e := by
  have h1 := depL_take e.kids j hj
  have h2 := depL_le e.kids (j + 1)
  have h3 := depE_eq e
  omega
end
end Go.Proofs.YtaacfmakfkaddaaDoor.Ax
