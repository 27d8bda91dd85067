/- Contracts: parts of expressions; copies. -/
import Derived.Test.YtaacfmakfkaddaaDoorBxP
import Derived.Test.YtaacfmakfkaddaaDoorBxL
import Derived.Test.YtaacfmakfkaddaaDoorBxJ
set_option linter.unusedVariables false
set_option linter.unusedSimpArgs false
namespace Go.Proofs.YtaacfmakfkaddaaDoor.Ax
section
open Go Go.Proofs

/-- The part at a path. -/
def atX : Ex → List Int → Option Ex
  | e, [] => some e
  | e, i :: p => if 0 ≤ i ∧ i < e.kids.length then atX (e.kids.getD i.toNat ex0) p else none
theorem atX_nil (e : Ex) : atX e [] = some e := rfl
theorem atX_cons (e : Ex) (i : Int) (p : List Int) : atX e (i :: p) = if 0 ≤ i ∧ i < e.kids.length then atX (e.kids.getD i.toNat ex0) p else none := rfl
theorem atX_drop (e : Ex) (p : List Int) (j : Nat) (h : j < p.length) : atX e (p.drop j) = if 0 ≤ p[j] ∧ p[j] < e.kids.length then atX (e.kids.getD p[j].toNat ex0) (p.drop (j + 1)) else none := by
  rw [List.drop_eq_getElem_cons h, atX_cons]
def atV (e : Ex) (p : List Int) : V := match atX e p with
  | some x => .tup [enc x, .bool true]
  | none => .tup [enc ex0, .bool false]
@[simp] def gAtI : List V → Option V := f2 kE (kIs .i64) fun e p => some (atV e p)
set_option maxHeartbeats 1000000 in
theorem ok_atI : PureOk Tryd.prog 125 gAtI := by
  intro args r h
  obtain ⟨e0, p, rfl, ⟨⟩⟩ := f2_inv h
  clear h
  have hE := (EnvOk.nil (P := Tryd.prog) (eq := fun _ => false) (own := fun _ => false) (mem := fun _ => false) EqOk.none)
  refine ⟨⟨Tryd.f125, Tryd.func125, by decide, rfl⟩, pure_of_T Tryd.func125 rfl (by simp [Tryd.ntmps125]) fun q => ?_⟩
  repeat' (first | (with_reducible refine T.sq fun K hK => ?_) | ((first | ((with_reducible refine T.reg hE ?hd ?_); (case hd => kernel_rfl)) | ((with_reducible refine T.any hE mixed ?hd ?hok ?_); (case hd => kernel_rfl); (case hok => kernel_rfl))); simp [*]; (repeat' (split; all_goals (rename_i hc; try simp [*])))) | ((with_reducible refine T.ret ?_); refine fin_pure ?_; simp [*]; try (change Hold _)) | (with_reducible refine T.block ?_) | ((with_reducible refine T.skip ?_); simp [*]) | ((with_reducible refine T.exit ?_); simp [*]) | ((with_reducible refine T.br fun K1 K2 hK1 hK2 => ?_); simp [*]; try ((refine Br.intro (fun hc => ?_) (fun hc => ?_)) <;> (try simp at hc))) | (with_reducible refine Cont.go (by assumption) _ ?_) | (with_reducible refine Cnt.go (by assumption) ?_))
  refine T.len (t := 8) (els := encI .i64 p) (tk := .no) (by simp [*]) fun hlen => ?_
  rw [encI_length] at hlen
  refine T.loop (fun n σ => ∃ (j : Nat) (e : Ex), n = p.length - j ∧ σ.get 8 = .sl (encI .i64 p) .no ∧ σ.get 9 = .int .i64 p.length ∧ σ.get 10 = .int .i64 j ∧ σ.get 2 = .ptr (0 :: 4 :: q) 0 ∧ σ.get 4 = .ptr (0 :: 6 :: q) 0 ∧ σ.M (0 :: 4 :: q) = some (.cells (encC e)) ∧ (∃ x, σ.M (0 :: 6 :: q) = some (.cells [.int .i64 0, .int .i64 0, x])) ∧ j ≤ p.length ∧ Hold (atX e0 p = atX e (p.drop j))) p.length ⟨0, e0, by simp [encC_eq, Hold]⟩ ?_
  rintro n σ ⟨j, e, rfl, g1, g2, g3, g4, g5, g6, ⟨z, g7⟩, g8, g9⟩
  rw [encC_eq] at g6
  by_cases hj : j < p.length
  · have hw := wrap_succ hlen hj
    have hd := atX_drop e p j hj
    by_cases c1 : p[j] < 0
    · have hv : Hold (atV e0 p = .tup [enc ex0, .bool false]) := by unfold Hold at *; unfold atV; rw [g9, hd, if_neg (by omega)]
      clear g9 hd
      repeat' (first | (with_reducible refine T.sq fun K hK => ?_) | ((first | ((with_reducible refine T.reg hE ?hd ?_); (case hd => kernel_rfl)) | ((with_reducible refine T.any hE mixed ?hd ?hok ?_); (case hd => kernel_rfl); (case hok => kernel_rfl))); simp [*]; (repeat' (split; all_goals (rename_i hc; try simp [*])))) | ((with_reducible refine T.ret ?_); refine fin_pure ?_; simp [*]; try (change Hold _)) | (with_reducible refine T.block ?_) | ((with_reducible refine T.skip ?_); simp [*]) | ((with_reducible refine T.exit ?_); simp [*]) | ((with_reducible refine T.br fun K1 K2 hK1 hK2 => ?_); simp [*]; try ((refine Br.intro (fun hc => ?_) (fun hc => ?_)) <;> (try simp at hc))) | (with_reducible refine Cont.go (by assumption) _ ?_) | (with_reducible refine Cnt.go (by assumption) ?_))
      all_goals (unfold Hold at *; rw [hv]; simp [ex0])
    by_cases c2 : (e.kids.length : Int) ≤ p[j]
    · have hv : Hold (atV e0 p = .tup [enc ex0, .bool false]) := by unfold Hold at *; unfold atV; rw [g9, hd, if_neg (by omega)]
      clear g9 hd
      repeat' (first | (with_reducible refine T.sq fun K hK => ?_) | ((first | ((with_reducible refine T.reg hE ?hd ?_); (case hd => kernel_rfl)) | ((with_reducible refine T.any hE mixed ?hd ?hok ?_); (case hd => kernel_rfl); (case hok => kernel_rfl))); simp [*]; (repeat' (split; all_goals (rename_i hc; try simp [*])))) | ((with_reducible refine T.ret ?_); refine fin_pure ?_; simp [*]; try (change Hold _)) | (with_reducible refine T.block ?_) | ((with_reducible refine T.skip ?_); simp [*]) | ((with_reducible refine T.exit ?_); simp [*]) | ((with_reducible refine T.br fun K1 K2 hK1 hK2 => ?_); simp [*]; try ((refine Br.intro (fun hc => ?_) (fun hc => ?_)) <;> (try simp at hc))) | (with_reducible refine Cont.go (by assumption) _ ?_) | (with_reducible refine Cnt.go (by assumption) ?_))
      all_goals (unfold Hold at *; rw [hv]; simp [ex0])
    have c3 : 0 ≤ p[j] := by omega
    have c4 : p[j] < (e.kids.length : Int) := by omega
    have c5 : p[j].toNat < e.kids.length := by omega
    rw [if_pos ⟨c3, c4⟩] at hd
    have hk : e.kids.getD p[j].toNat ex0 = e.kids[p[j].toNat] := by simp [List.getD, c5]
    have hn : Hold (atX e0 p = atX e.kids[p[j].toNat] (p.drop (j + 1))) := by unfold Hold at *; rw [g9, hd, hk]
    clear g9 hd hk
    repeat' (first | (with_reducible refine T.sq fun K hK => ?_) | ((first | ((with_reducible refine T.reg hE ?hd ?_); (case hd => kernel_rfl)) | ((with_reducible refine T.any hE mixed ?hd ?hok ?_); (case hd => kernel_rfl); (case hok => kernel_rfl))); simp [*]; (repeat' (split; all_goals (rename_i hc; try simp [*])))) | ((with_reducible refine T.ret ?_); refine fin_pure ?_; simp [*]; try (change Hold _)) | (with_reducible refine T.block ?_) | ((with_reducible refine T.skip ?_); simp [*]) | ((with_reducible refine T.exit ?_); simp [*]) | ((with_reducible refine T.br fun K1 K2 hK1 hK2 => ?_); simp [*]; try ((refine Br.intro (fun hc => ?_) (fun hc => ?_)) <;> (try simp at hc))) | (with_reducible refine Cont.go (by assumption) _ ?_) | (with_reducible refine Cnt.go (by assumption) ?_))
    exact ⟨p.length - (j + 1), by omega, j + 1, rfl, by omega, e.kids[p[j].toNat], by simp [encC_eq], by omega, hn⟩
  · have w8 : j = p.length := by omega
    have hv : Hold (atV e0 p = .tup [enc e, .bool true]) := by unfold Hold at *; unfold atV; rw [g9, w8, List.drop_length, atX_nil]
    clear g9
    repeat' (first | (with_reducible refine T.sq fun K hK => ?_) | ((first | ((with_reducible refine T.reg hE ?hd ?_); (case hd => kernel_rfl)) | ((with_reducible refine T.any hE mixed ?hd ?hok ?_); (case hd => kernel_rfl); (case hok => kernel_rfl))); simp [*]; (repeat' (split; all_goals (rename_i hc; try simp [*])))) | ((with_reducible refine T.ret ?_); refine fin_pure ?_; simp [*]; try (change Hold _)) | (with_reducible refine T.block ?_) | ((with_reducible refine T.skip ?_); simp [*]) | ((with_reducible refine T.exit ?_); simp [*]) | ((with_reducible refine T.br fun K1 K2 hK1 hK2 => ?_); simp [*]; try ((refine Br.intro (fun hc => ?_) (fun hc => ?_)) <;> (try simp at hc))) | (with_reducible refine Cont.go (by assumption) _ ?_) | (with_reducible refine Cnt.go (by assumption) ?_))
    all_goals (unfold Hold at *; rw [hv]; simp)
def cpE (e : Ex) : Ex := e
theorem cp_map (l : List Ex) : l.map cpE = l := List.map_id l
set_option maxHeartbeats 1000000 in
theorem ok_clone : PureOk Tryd.prog 126 gCopy := by
  refine rec1 fun e ih r hr => ?_
  split at hr
  · rename_i hm
    cases hr
    rw [smE_eq, Bool.and_eq_true, decide_eq_true_eq] at hm
    obtain ⟨hm1, hm2⟩ := hm
    have hE := ((EnvOk.nil (P := Tryd.prog) (eq := fun _ => false) (own := fun _ => false) (mem := fun _ => false) EqOk.none).addf ih)
    refine ⟨⟨Tryd.f126, Tryd.func126, by decide, rfl⟩, pure_of_T Tryd.func126 rfl (by simp [Tryd.ntmps126]) fun q => ?_⟩
    repeat' (first | (with_reducible refine T.sq fun K hK => ?_) | ((first | ((with_reducible refine T.reg hE ?hd ?_); (case hd => kernel_rfl)) | ((with_reducible refine T.any hE mixed ?hd ?hok ?_); (case hd => kernel_rfl); (case hok => kernel_rfl))); simp [*]; (repeat' (split; all_goals (rename_i hc; try simp [*])))) | ((with_reducible refine T.ret ?_); refine fin_pure ?_; simp [*]; try (change Hold _)) | (with_reducible refine T.block ?_) | ((with_reducible refine T.skip ?_); simp [*]) | ((with_reducible refine T.exit ?_); simp [*]) | ((with_reducible refine T.br fun K1 K2 hK1 hK2 => ?_); simp [*]; try ((refine Br.intro (fun hc => ?_) (fun hc => ?_)) <;> (try simp at hc))) | (with_reducible refine Cont.go (by assumption) _ ?_) | (with_reducible refine Cnt.go (by assumption) ?_))
    refine T.len (t := 7) (els := encL e.kids) (tk := .no) (by simp [*]) fun hlen => ?_
    rw [encL_length] at hlen
    refine T.loop (fun n σ => ∃ (j : Nat) (w : V), n = e.kids.length - j ∧ σ.get 7 = .sl (encL e.kids) .no ∧ σ.get 8 = .int .i64 e.kids.length ∧ σ.get 9 = .int .i64 j ∧ σ.get 3 = w ∧ σ.get 1 = .ptr (0 :: 3 :: q) 0 ∧ σ.get 2 = .ptr (0 :: 4 :: q) 0 ∧ σ.M (0 :: 3 :: q) = some (.cells (encC e)) ∧ (∃ x, σ.M (0 :: 4 :: q) = some (.cells [.int .i64 0, .int .i64 0, x])) ∧ j ≤ e.kids.length ∧ Hold ((j = 0 ∧ w = .nils) ∨ (0 < j ∧ ∃ c d, w = .sl (encL ((e.kids.map (cpE)).take j)) (.own (c :: d :: q) 3) ∧ σ.K (c :: d :: q) = true))) e.kids.length ⟨0, .nils, by simp [*, encC_eq, Hold]⟩ ?_
    rintro n σ ⟨j, w, rfl, g1, g2, g3, g4, q0, q1, q2, ⟨z3, q3⟩, g5, g6⟩
    try simp only [encC_eq] at *
    by_cases hj : j < e.kids.length
    · have hw := wrap_succ hlen hj
      have hs := ex_kid_lt e j hj
      have u1 : (j + 1) * 40 ≤ 140737488355328 := by omega
      have c3 : Hold (encL ((e.kids.map (cpE)).take (j + 1)) = encL ((e.kids.map (cpE)).take j) ++ [encC ((cpE) e.kids[j])]) := encL_mapsucc (cpE) e.kids j hj
      have hsm := smL_get e.kids j hj hm2
      rcases g6 with ⟨rfl, rfl⟩ | ⟨hj0, c, d, rfl, hK⟩
      · have hw1 : IntKind.i64.wrap 1 = 1 := wrap64 (by omega) (by omega)
        clear hw
        repeat' (first | (with_reducible refine T.sq fun K hK => ?_) | ((first | ((with_reducible refine T.reg hE ?hd ?_); (case hd => kernel_rfl)) | ((with_reducible refine T.any hE mixed ?hd ?hok ?_); (case hd => kernel_rfl); (case hok => kernel_rfl))); simp [*]; (repeat' (split; all_goals (rename_i hc; try simp [*])))) | ((with_reducible refine T.ret ?_); refine fin_pure ?_; simp [*]; try (change Hold _)) | (with_reducible refine T.block ?_) | ((with_reducible refine T.skip ?_); simp [*]) | ((with_reducible refine T.exit ?_); simp [*]) | ((with_reducible refine T.br fun K1 K2 hK1 hK2 => ?_); simp [*]; try ((refine Br.intro (fun hc => ?_) (fun hc => ?_)) <;> (try simp at hc))) | (with_reducible refine Cont.go (by assumption) _ ?_) | (with_reducible refine Cnt.go (by assumption) ?_))
        refine ⟨e.kids.length - 1, by omega, 1, rfl, by omega, by omega, ?_⟩
        unfold Hold at *
        exact ⟨by omega, _, _, ⟨by rw [c3, List.take_zero]; simp [encC_eq, cpE], rfl, rfl⟩, .inl ⟨rfl, rfl⟩⟩
      · repeat' (first | (with_reducible refine T.sq fun K hK => ?_) | ((first | ((with_reducible refine T.reg hE ?hd ?_); (case hd => kernel_rfl)) | ((with_reducible refine T.any hE mixed ?hd ?hok ?_); (case hd => kernel_rfl); (case hok => kernel_rfl))); simp [*]; (repeat' (split; all_goals (rename_i hc; try simp [*])))) | ((with_reducible refine T.ret ?_); refine fin_pure ?_; simp [*]; try (change Hold _)) | (with_reducible refine T.block ?_) | ((with_reducible refine T.skip ?_); simp [*]) | ((with_reducible refine T.exit ?_); simp [*]) | ((with_reducible refine T.br fun K1 K2 hK1 hK2 => ?_); simp [*]; try ((refine Br.intro (fun hc => ?_) (fun hc => ?_)) <;> (try simp at hc))) | (with_reducible refine Cont.go (by assumption) _ ?_) | (with_reducible refine Cnt.go (by assumption) ?_))
        refine ⟨e.kids.length - (j + 1), by omega, j + 1, rfl, by omega, by omega, ?_⟩
        unfold Hold at *
        exact ⟨by omega, _, _, ⟨by rw [c3]; simp [encC_eq, cpE], rfl, rfl⟩, .inl ⟨rfl, rfl⟩⟩
    · have w8 : j = e.kids.length := by omega
      subst w8
      rw [List.take_of_length_le (by simp)] at g6
      rw [cp_map] at g6
      rcases g6 with ⟨h0, rfl⟩ | ⟨hj0, c, d, rfl, hK⟩
      · have hl : e.kids = [] := List.eq_nil_of_length_eq_zero h0
        repeat' (first | (with_reducible refine T.sq fun K hK => ?_) | ((first | ((with_reducible refine T.reg hE ?hd ?_); (case hd => kernel_rfl)) | ((with_reducible refine T.any hE mixed ?hd ?hok ?_); (case hd => kernel_rfl); (case hok => kernel_rfl))); simp [*]; (repeat' (split; all_goals (rename_i hc; try simp [*])))) | ((with_reducible refine T.ret ?_); refine fin_pure ?_; simp [*]; try (change Hold _)) | (with_reducible refine T.block ?_) | ((with_reducible refine T.skip ?_); simp [*]) | ((with_reducible refine T.exit ?_); simp [*]) | ((with_reducible refine T.br fun K1 K2 hK1 hK2 => ?_); simp [*]; try ((refine Br.intro (fun hc => ?_) (fun hc => ?_)) <;> (try simp at hc))) | (with_reducible refine Cont.go (by assumption) _ ?_) | (with_reducible refine Cnt.go (by assumption) ?_))
        all_goals (unfold Hold; simp [encC_eq, *])
      · repeat' (first | (with_reducible refine T.sq fun K hK => ?_) | ((first | ((with_reducible refine T.reg hE ?hd ?_); (case hd => kernel_rfl)) | ((with_reducible refine T.any hE mixed ?hd ?hok ?_); (case hd => kernel_rfl); (case hok => kernel_rfl))); simp [*]; (repeat' (split; all_goals (rename_i hc; try simp [*])))) | ((with_reducible refine T.ret ?_); refine fin_pure ?_; simp [*]; try (change Hold _)) | (with_reducible refine T.block ?_) | ((with_reducible refine T.skip ?_); simp [*]) | ((with_reducible refine T.exit ?_); simp [*]) | ((with_reducible refine T.br fun K1 K2 hK1 hK2 => ?_); simp [*]; try ((refine Br.intro (fun hc => ?_) (fun hc => ?_)) <;> (try simp at hc))) | (with_reducible refine Cont.go (by assumption) _ ?_) | (with_reducible refine Cnt.go (by assumption) ?_))
        all_goals (unfold Hold; simp [encC_eq, *])
  · cases hr
theorem small_of (n : Nat) : ∀ e : Ex, SizeOf.sizeOf e < n → allX e = true → smE e = true := by
  induction n with
  | zero => intro e h; omega
  | succ n ih =>
    intro e he ha
    rw [smE_eq, Bool.and_eq_true, decide_eq_true_eq]
    refine ⟨by have := kids_four ha; omega, ?_⟩
    have : ∀ l : List Ex, (∀ x ∈ l, x ∈ e.kids) → smL l = true := by
      intro l hl
      induction l with
      | nil => rw [smL]
      | cons x l ihl =>
        rw [smL, ih x (by have := mem_lt (hl x (by simp)); omega) (allX_kids ha x (hl x (by simp))), ihl fun y hy => hl y (by simp [hy])]; rfl
    exact this e.kids fun _ h => h
theorem small_all {e : Ex} (h : allX e = true) : smE e = true := small_of _ e (Nat.lt_succ_self _) h
theorem atX_all : ∀ (p : List Int) (e x : Ex), allX e = true → atX e p = some x → allX x = true
  | [], e, x, h, hx => by rw [atX_nil] at hx; cases hx; exact h
  | i :: p, e, x, h, hx => by
    rw [atX_cons] at hx
    split at hx
    · rename_i hc
      have hlt : i.toNat < e.kids.length := by omega
      refine atX_all p _ x ?_ hx
      have : e.kids.getD i.toNat ex0 = e.kids[i.toNat] := by simp [List.getD, hlt]
      rw [this]; exact allX_kid h _ hlt
    · cases hx
/-- The part at a path of one that is right. -/
def partV (e : Ex) (p : List Int) : V := if rightE e = 0 then match atX e p with
  | some x => .tup [enc x, .int .i64 0]
  | none => .tup [enc ex0, .int .i64 24] else .tup [enc ex0, .int .i64 (rightE e)]
@[simp] def gAt : List V → Option V := f2 kE (kIs .i64) fun e p => some (partV e p)
theorem ok_At : PureOk Tryd.prog 116 gAt := by
  intro args r h
  obtain ⟨e, p, rfl, ⟨⟩⟩ := f2_inv h
  clear h
  have hE := ((((EnvOk.nil (P := Tryd.prog) (eq := fun _ => false) (own := fun _ => false) (mem := fun _ => false) EqOk.none).addf ok_Right).addf ok_atI).addf ok_clone)
  refine ⟨⟨Tryd.f116, Tryd.func116, by decide, rfl⟩, pure_of_T Tryd.func116 rfl (by simp [Tryd.ntmps116]) fun q => ?_⟩
  by_cases v : rightE e = 0
  · obtain ⟨z1, z2, z3⟩ := right_zero v
    cases hx : atX e p with
    | none =>
      have hv : atV e p = .tup [enc ex0, .bool false] := by unfold atV; rw [hx]
      have hr : Hold (partV e p = .tup [enc ex0, .int .i64 24]) := by unfold Hold partV; rw [if_pos v, hx]
      repeat' (first | (with_reducible refine T.sq fun K hK => ?_) | ((first | ((with_reducible refine T.reg hE ?hd ?_); (case hd => kernel_rfl)) | ((with_reducible refine T.any hE mixed ?hd ?hok ?_); (case hd => kernel_rfl); (case hok => kernel_rfl))); simp [*]; (repeat' (split; all_goals (rename_i hc; try simp [*])))) | ((with_reducible refine T.ret ?_); refine fin_pure ?_; simp [*]; try (change Hold _)) | (with_reducible refine T.block ?_) | ((with_reducible refine T.skip ?_); simp [*]) | ((with_reducible refine T.exit ?_); simp [*]) | ((with_reducible refine T.br fun K1 K2 hK1 hK2 => ?_); simp [*]; try ((refine Br.intro (fun hc => ?_) (fun hc => ?_)) <;> (try simp at hc))) | (with_reducible refine Cont.go (by assumption) _ ?_) | (with_reducible refine Cnt.go (by assumption) ?_))
      all_goals (unfold Hold at *; rw [hr]; simp [ex0])
    | some x =>
      have hv : atV e p = .tup [enc x, .bool true] := by unfold atV; rw [hx]
      have hr : Hold (partV e p = .tup [enc x, .int .i64 0]) := by unfold Hold partV; rw [if_pos v, hx]
      have hsm := small_all (atX_all p e x z3 hx)
      repeat' (first | (with_reducible refine T.sq fun K hK => ?_) | ((first | ((with_reducible refine T.reg hE ?hd ?_); (case hd => kernel_rfl)) | ((with_reducible refine T.any hE mixed ?hd ?hok ?_); (case hd => kernel_rfl); (case hok => kernel_rfl))); simp [*]; (repeat' (split; all_goals (rename_i hc; try simp [*])))) | ((with_reducible refine T.ret ?_); refine fin_pure ?_; simp [*]; try (change Hold _)) | (with_reducible refine T.block ?_) | ((with_reducible refine T.skip ?_); simp [*]) | ((with_reducible refine T.exit ?_); simp [*]) | ((with_reducible refine T.br fun K1 K2 hK1 hK2 => ?_); simp [*]; try ((refine Br.intro (fun hc => ?_) (fun hc => ?_)) <;> (try simp at hc))) | (with_reducible refine Cont.go (by assumption) _ ?_) | (with_reducible refine Cnt.go (by assumption) ?_))
      all_goals (unfold Hold at *; rw [hr]; simp)
  · have hr : Hold (partV e p = .tup [enc ex0, .int .i64 (rightE e)]) := by unfold Hold partV; rw [if_neg v]
    repeat' (first | (with_reducible refine T.sq fun K hK => ?_) | ((first | ((with_reducible refine T.reg hE ?hd ?_); (case hd => kernel_rfl)) | ((with_reducible refine T.any hE mixed ?hd ?hok ?_); (case hd => kernel_rfl); (case hok => kernel_rfl))); simp [*]; (repeat' (split; all_goals (rename_i hc; try simp [*])))) | ((with_reducible refine T.ret ?_); refine fin_pure ?_; simp [*]; try (change Hold _)) | (with_reducible refine T.block ?_) | ((with_reducible refine T.skip ?_); simp [*]) | ((with_reducible refine T.exit ?_); simp [*]) | ((with_reducible refine T.br fun K1 K2 hK1 hK2 => ?_); simp [*]; try ((refine Br.intro (fun hc => ?_) (fun hc => ?_)) <;> (try simp at hc))) | (with_reducible refine Cont.go (by assumption) _ ?_) | (with_reducible refine Cnt.go (by assumption) ?_))
    all_goals (unfold Hold at *; rw [hr]; simp [ex0])
end
section
open Go Go.Proofs

def firstBad : List Ex → Int
  | [] => 0
  | e :: l => if rightE e ≠ 0 then rightE e else firstBad l
def anyT (l : List Ex) : Bool := l.any isT
def formsE (l : List Ex) : Int := if firstBad l ≠ 0 then firstBad l else if anyT l = true then 40 else 0
def wantF (e : Ex) : Int := if rightE e ≠ 0 then rightE e else if isT e then 40 else 0
@[simp] def gForms : List V → Option V := f1 kL fun l => some (.int .i64 (formsE l))
@[simp] def gWantF : List V → Option V := f1 kE fun e => some (.int .i64 (wantF e))
def genErr (a : Ex) (x : Int) : Int := if 0 ≤ x ∧ x ≤ 63 then if wantF a ≠ 0 then wantF a else rightE (allQ x a) else 1
def genX (a : Ex) (x : Int) : Ex := if genErr a x = 0 then allQ x a else ex0
@[simp] def gGen : List V → Option V := f2 kE (kI .i64) fun a x => some (.tup [enc (genX a x), .int .i64 (genErr a x)])
theorem partV_nil {a : Ex} (h : rightE a = 0) : partV a [] = .tup [enc a, .int .i64 0] := by unfold partV; rw [if_pos h, atX_nil]
end
end Go.Proofs.YtaacfmakfkaddaaDoor.Ax
