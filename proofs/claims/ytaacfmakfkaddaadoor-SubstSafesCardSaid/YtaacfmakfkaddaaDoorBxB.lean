/- Plain law: how deep an expression is, as its nodes are told. -/
import Derived.Test.YtaacfmakfkaddaaDoorByA
set_option linter.unusedVariables false
set_option linter.unusedSimpArgs false
namespace Go.Proofs.YtaacfmakfkaddaaDoor.Ax
section
open Go Go.Proofs

mutual
def depE : Ex → Nat
  | .mk _ _ l => depL l + 1
def depL : List Ex → Nat
  | [] => 0
  | e :: l => max (depE e) (depL l)
end
theorem depE_eq (e : Ex) : depE e = depL e.kids + 1 := by cases e; rw [depE]; rfl
mutual
def preN : Ex → Nat → List Nat
  | .mk _ _ l, d => d :: preNL l (d + 1)
def preNL : List Ex → Nat → List Nat
  | [], _ => []
  | e :: l, d => preN e d ++ preNL l d
end
theorem wrap_wrap (n : Int) : IntKind.i64.wrap (IntKind.i64.wrap n + 1) = IntKind.i64.wrap (n + 1) := by
  simp only [IntKind.wrap, IntKind.bits, IntKind.signed]
  simp
  omega
mutual
theorem preE_fst : ∀ (e : Ex) (d : Int) (d' : Nat), d = IntKind.i64.wrap d' → (preE e d).map (·.1) = (preN e d').map fun r : Nat => IntKind.i64.wrap r
  | .mk k i l, d, d', h => by
    rw [preE, preN, List.map_cons, List.map_cons, h, preL_fst l _ (d' + 1) (by rw [wrap_wrap]; rfl)]
theorem preL_fst : ∀ (l : List Ex) (d : Int) (d' : Nat), d = IntKind.i64.wrap d' → (preL l d).map (·.1) = (preNL l d').map fun r : Nat => IntKind.i64.wrap r
  | [], d, d', h => by rw [preL, preNL]; rfl
  | e :: l, d, d', h => by rw [preL, preNL, List.map_append, List.map_append, preE_fst e d d' h, preL_fst l d d' h]
end
def maxl (m : Nat) (l : List Nat) : Nat := l.foldl max m
def Stairs : Nat → List Nat → Prop
  | _, [] => True
  | m, x :: l => x ≤ m + 1 ∧ Stairs (max m x) l
theorem stairs_append : ∀ (m : Nat) (l l' : List Nat), Stairs m l → Stairs (maxl m l) l' → Stairs m (l ++ l')
  | m, [], l', _, h => h
  | m, x :: l, l', ⟨h1, h2⟩, h => ⟨h1, stairs_append _ l l' h2 h⟩
theorem maxl_append (m : Nat) (l l' : List Nat) : maxl m (l ++ l') = maxl (maxl m l) l' := by simp [maxl]
mutual
theorem stairsE : ∀ (e : Ex) (d m : Nat), 1 ≤ d → d ≤ m + 1 → Stairs m (preN e d) ∧ maxl m (preN e d) = max m (d - 1 + depE e)
  | .mk k i l, d, m, h1, h2 => by
    obtain ⟨a, b⟩ := stairsL l d (max m d) (by omega)
    rw [preN, depE]
    refine ⟨⟨h2, a⟩, ?_⟩
    show maxl (max m d) _ = _
    rw [b]; omega
theorem stairsL : ∀ (l : List Ex) (d m : Nat), d ≤ m → Stairs m (preNL l (d + 1)) ∧ maxl m (preNL l (d + 1)) = max m (d + depL l)
  | [], d, m, h => by rw [preNL, depL]; exact ⟨trivial, by simp [maxl]; omega⟩
  | e :: l, d, m, h => by
    obtain ⟨a, b⟩ := stairsE e (d + 1) m (by omega) (by omega)
    rw [preNL, depL]
    obtain ⟨a', b'⟩ := stairsL l d (maxl m (preN e (d + 1))) (by rw [b]; omega)
    refine ⟨stairs_append _ _ _ a a', ?_⟩
    rw [maxl_append, b', b]; omega
end
theorem stairs_at : ∀ (l : List Nat) (m n x : Nat), Stairs m l → l[n]? = some x → x ≤ maxl m (l.take n) + 1 ∧ maxl m (l.take (n + 1)) = max (maxl m (l.take n)) x
  | [], m, n, x, _, h => by simp at h
  | y :: l, m, 0, x, hs, h => by simp at h; subst h; exact ⟨hs.1, by simp [maxl]⟩
  | y :: l, m, n + 1, x, hs, h => stairs_at l (max m y) n x hs.2 (by simpa using h)
theorem maxl_ge : ∀ (l : List Nat) (m : Nat), m ≤ maxl m l
  | [], m => Nat.le_refl _
  | x :: l, m => Nat.le_trans (Nat.le_max_left m x) (maxl_ge l _)
theorem maxl_take : ∀ (l : List Nat) (m n : Nat), maxl m (l.take n) ≤ maxl m l
  | [], m, n => by simp
  | x :: l, m, 0 => maxl_ge _ _
  | x :: l, m, n + 1 => maxl_take l (max m x) n
theorem dep_all (e : Ex) : maxl 0 (preN e 1) = depE e := by
  rw [(stairsE e 1 0 (by omega) (by omega)).2]; omega
/-- What is told at place n, where nothing deeper than 100 has been told. -/
theorem dep_at (e : Ex) (n : Nat) (x : Int × Ex) (hx : (preE e 1)[n]? = some x) (hm : maxl 0 ((preN e 1).take n) ≤ 100) :
    ∃ d : Nat, x.1 = d ∧ d ≤ 101 ∧ maxl 0 ((preN e 1).take (n + 1)) = max (maxl 0 ((preN e 1).take n)) d ∧ max (maxl 0 ((preN e 1).take n)) d ≤ depE e := by
  have h1 := congrArg (fun l => l[n]?) (preE_fst e 1 1 (by decide))
  simp only [List.getElem?_map, hx, Option.map_some] at h1
  obtain ⟨d, hd, he⟩ := Option.map_eq_some_iff.1 h1.symm
  obtain ⟨h2, h3⟩ := stairs_at _ 0 n d (stairsE e 1 0 (by omega) (by omega)).1 hd
  refine ⟨d, ?_, by omega, h3, ?_⟩
  · rw [← he]; exact wrap64 (by omega) (by omega)
  · rw [← h3, ← dep_all e]; exact maxl_take _ _ _
theorem preN_length (e : Ex) : (preN e 1).length = (preE e 1).length := by
  have h1 := congrArg List.length (preE_fst e 1 1 (by decide))
  simpa using h1.symm
theorem dep_done (e : Ex) : maxl 0 ((preN e 1).take (preE e 1).length) = depE e := by
  rw [← preN_length, List.take_length, dep_all]
end
section
open Go Go.Proofs

def isT (e : Ex) : Bool := decide (e.k = 1) || decide (e.k = 2)
@[simp] def gTerm : List V → Option V := f1 kE fun e => some (.bool (isT e))
theorem ok_isTerm : PureOk Tryd.prog 113 gTerm := by
  intro args r h
  obtain ⟨e, rfl, ⟨⟩⟩ := f1_inv h
  clear h
  have hE := (EnvOk.nil (P := Tryd.prog) (eq := fun _ => false) (own := fun _ => false) (mem := fun _ => false) EqOk.none)
  refine ⟨⟨Tryd.f113, Tryd.func113, by decide, rfl⟩, pure_of_T Tryd.func113 rfl (by simp [Tryd.ntmps113]) fun q => ?_⟩
  repeat' (first | (with_reducible refine T.sq fun K hK => ?_) | ((first | ((with_reducible refine T.reg hE ?hd ?_); (case hd => kernel_rfl)) | ((with_reducible refine T.any hE mixed ?hd ?hok ?_); (case hd => kernel_rfl); (case hok => kernel_rfl))); simp [*]; (repeat' (split; all_goals (rename_i hc; try simp [*])))) | ((with_reducible refine T.ret ?_); refine fin_pure ?_; simp [*]; try (change Hold _)) | (with_reducible refine T.block ?_) | ((with_reducible refine T.skip ?_); simp [*]) | ((with_reducible refine T.exit ?_); simp [*]) | ((with_reducible refine T.br fun K1 K2 hK1 hK2 => ?_); simp [*]; try ((refine Br.intro (fun hc => ?_) (fun hc => ?_)) <;> (try simp at hc))) | (with_reducible refine Cont.go (by assumption) _ ?_) | (with_reducible refine Cnt.go (by assumption) ?_))
  all_goals (unfold Hold; simp [isT, *])
theorem ok_rTerm : PureOk Tryd.prog 50 gTerm := by
  intro args r h
  obtain ⟨e, rfl, ⟨⟩⟩ := f1_inv h
  clear h
  have hE := (EnvOk.nil (P := Tryd.prog) (eq := fun _ => false) (own := fun _ => false) (mem := fun _ => false) EqOk.none)
  refine ⟨⟨Tryd.f50, Tryd.func50, by decide, rfl⟩, pure_of_T Tryd.func50 rfl (by simp [Tryd.ntmps50]) fun q => ?_⟩
  repeat' (first | (with_reducible refine T.sq fun K hK => ?_) | ((first | ((with_reducible refine T.reg hE ?hd ?_); (case hd => kernel_rfl)) | ((with_reducible refine T.any hE mixed ?hd ?hok ?_); (case hd => kernel_rfl); (case hok => kernel_rfl))); simp [*]; (repeat' (split; all_goals (rename_i hc; try simp [*])))) | ((with_reducible refine T.ret ?_); refine fin_pure ?_; simp [*]; try (change Hold _)) | (with_reducible refine T.block ?_) | ((with_reducible refine T.skip ?_); simp [*]) | ((with_reducible refine T.exit ?_); simp [*]) | ((with_reducible refine T.br fun K1 K2 hK1 hK2 => ?_); simp [*]; try ((refine Br.intro (fun hc => ?_) (fun hc => ?_)) <;> (try simp at hc))) | (with_reducible refine Cont.go (by assumption) _ ?_) | (with_reducible refine Cnt.go (by assumption) ?_))
  all_goals (unfold Hold; simp [isT, *])

def kidsAre (e : Ex) (least most : Int) (terms : Bool) : Bool := decide (least ≤ e.kids.length) && decide ((e.kids.length : Int) ≤ most) && e.kids.all fun k => isT k == terms
@[simp] def gKidsAre : List V → Option V := f4 kE (kI .i64) (kI .i64) kB fun e a b t => some (.bool (kidsAre e a b t))
set_option maxHeartbeats 400000 in
theorem ok_kidsAre : PureOk Tryd.prog 112 gKidsAre := by
  intro args r h
  obtain ⟨e, a, b, t, rfl, ⟨⟩⟩ := f4_inv h
  clear h
  have hE := ((EnvOk.nil (P := Tryd.prog) (eq := fun _ => false) (own := fun _ => false) (mem := fun _ => false) EqOk.none).addf ok_isTerm)
  refine ⟨⟨Tryd.f112, Tryd.func112, by decide, rfl⟩, pure_of_T Tryd.func112 rfl (by simp [Tryd.ntmps112]) fun q => ?_⟩
  repeat' (first | (with_reducible refine T.sq fun K hK => ?_) | ((first | ((with_reducible refine T.reg hE ?hd ?_); (case hd => kernel_rfl)) | ((with_reducible refine T.any hE mixed ?hd ?hok ?_); (case hd => kernel_rfl); (case hok => kernel_rfl))); simp [*]; (repeat' (split; all_goals (rename_i hc; try simp [*])))) | ((with_reducible refine T.ret ?_); refine fin_pure ?_; simp [*]; try (change Hold _)) | (with_reducible refine T.block ?_) | ((with_reducible refine T.skip ?_); simp [*]) | ((with_reducible refine T.exit ?_); simp [*]) | ((with_reducible refine T.br fun K1 K2 hK1 hK2 => ?_); simp [*]; try ((refine Br.intro (fun hc => ?_) (fun hc => ?_)) <;> (try simp at hc))) | (with_reducible refine Cont.go (by assumption) _ ?_) | (with_reducible refine Cnt.go (by assumption) ?_))
  all_goals first | omega | (unfold Hold; simp [kidsAre, *]; done) | (unfold Hold; simp [kidsAre, *]; omega) | skip
  refine T.len (t := 24) (els := encL e.kids) (tk := .no) (by simp [*]) fun hlen => ?_
  rw [encL_length] at hlen
  refine T.loop (fun n σ => ∃ j : Nat, n = e.kids.length - j ∧ σ.get 24 = .sl (encL e.kids) .no ∧ σ.get 25 = .int .i64 e.kids.length ∧ σ.get 26 = .int .i64 j ∧ σ.get 3 = .bool t ∧ j ≤ e.kids.length ∧ (e.kids.take j).all (fun k => isT k == t) = true) e.kids.length ⟨0, by simp [*]⟩ ?_
  rintro n σ ⟨j, rfl, g1, g2, g3, g4, g5, g6⟩
  by_cases hj : j < e.kids.length
  · have hw := wrap_succ hlen hj
    repeat' (first | (with_reducible refine T.sq fun K hK => ?_) | ((first | ((with_reducible refine T.reg hE ?hd ?_); (case hd => kernel_rfl)) | ((with_reducible refine T.any hE mixed ?hd ?hok ?_); (case hd => kernel_rfl); (case hok => kernel_rfl))); simp [*]; (repeat' (split; all_goals (rename_i hc; try simp [*])))) | ((with_reducible refine T.ret ?_); refine fin_pure ?_; simp [*]; try (change Hold _)) | (with_reducible refine T.block ?_) | ((with_reducible refine T.skip ?_); simp [*]) | ((with_reducible refine T.exit ?_); simp [*]) | ((with_reducible refine T.br fun K1 K2 hK1 hK2 => ?_); simp [*]; try ((refine Br.intro (fun hc => ?_) (fun hc => ?_)) <;> (try simp at hc))) | (with_reducible refine Cont.go (by assumption) _ ?_) | (with_reducible refine Cnt.go (by assumption) ?_))
    · have h2 : ¬ isT e.kids[j] = t := by assumption
      unfold Hold
      have : (e.kids.all fun k => isT k == t) = false := by
        rw [List.all_eq_false]
        exact ⟨e.kids[j], by simp, by simpa using h2⟩
      simp [kidsAre, this]
    · have h2 : isT e.kids[j] = t := by assumption
      refine ⟨e.kids.length - (j + 1), by omega, j + 1, rfl, by omega, by omega, ?_⟩
      have := all_take_succ e.kids (fun k => isT k == t) j hj
      rw [g6] at this
      simpa [h2] using this
  · repeat' (first | (with_reducible refine T.sq fun K hK => ?_) | ((first | ((with_reducible refine T.reg hE ?hd ?_); (case hd => kernel_rfl)) | ((with_reducible refine T.any hE mixed ?hd ?hok ?_); (case hd => kernel_rfl); (case hok => kernel_rfl))); simp [*]; (repeat' (split; all_goals (rename_i hc; try simp [*])))) | ((with_reducible refine T.ret ?_); refine fin_pure ?_; simp [*]; try (change Hold _)) | (with_reducible refine T.block ?_) | ((with_reducible refine T.skip ?_); simp [*]) | ((with_reducible refine T.exit ?_); simp [*]) | ((with_reducible refine T.br fun K1 K2 hK1 hK2 => ?_); simp [*]; try ((refine Br.intro (fun hc => ?_) (fun hc => ?_)) <;> (try simp at hc))) | (with_reducible refine Cont.go (by assumption) _ ?_) | (with_reducible refine Cnt.go (by assumption) ?_))
    have : j = e.kids.length := by omega
    subst this
    rw [List.take_length] at g6
    unfold Hold; simp [kidsAre, g6]; omega

/-- How many nodes there are, up to 1001. -/
def nodesN (e : Ex) : Nat := (preE e 1).length
@[simp] def gSize : List V → Option V := f1 kE fun e => some (.int .i64 (min (nodesN e) 1001 : Nat))
set_option maxHeartbeats 400000 in
theorem ok_Size : PureOk Tryd.prog 73 gSize := by
  intro args r h
  obtain ⟨e, rfl, ⟨⟩⟩ := f1_inv h
  clear h
  have hE := ((EnvOk.nil (P := Tryd.prog) (eq := fun _ => false) (own := fun _ => false) (mem := fun _ => false) EqOk.none).addf ok_nodes)
  refine ⟨⟨Tryd.f73, Tryd.func73, by decide, rfl⟩, pure_of_T Tryd.func73 rfl (by simp [Tryd.ntmps73]) fun q => ?_⟩
  repeat' (first | (with_reducible refine T.sq fun K hK => ?_) | ((first | ((with_reducible refine T.reg hE ?hd ?_); (case hd => kernel_rfl)) | ((with_reducible refine T.any hE mixed ?hd ?hok ?_); (case hd => kernel_rfl); (case hok => kernel_rfl))); simp [*]; (repeat' (split; all_goals (rename_i hc; try simp [*])))) | ((with_reducible refine T.ret ?_); refine fin_pure ?_; simp [*]; try (change Hold _)) | (with_reducible refine T.block ?_) | ((with_reducible refine T.skip ?_); simp [*]) | ((with_reducible refine T.exit ?_); simp [*]) | ((with_reducible refine T.br fun K1 K2 hK1 hK2 => ?_); simp [*]; try ((refine Br.intro (fun hc => ?_) (fun hc => ?_)) <;> (try simp at hc))) | (with_reducible refine Cont.go (by assumption) _ ?_) | (with_reducible refine Cnt.go (by assumption) ?_))
  refine T.range (gf := 110) (caps := [.cptr (encC e) 0]) (by simp) (iter_nodes e) (plain_caps e) (fun x hx => by obtain ⟨y, _, rfl⟩ := List.mem_map.1 hx; rfl) (fun n σ' => σ'.M (0 :: 5 :: q) = some (.cells [.int .i64 n]) ∧ n ≤ 1000) (by simp) ?_ ?_
  · rintro l n x σ' hx ⟨hM, hn⟩ hg
    have hw : IntKind.i64.wrap (↑n + 1) = (n : Int) + 1 := wrap64 (by omega) (by omega)
    have hnn : n < nodesN e := by have := (List.getElem?_eq_some_iff.1 hx).1; simpa [nodesN] using this
    obtain ⟨y, _, rfl⟩ := List.mem_map.1 (List.mem_of_getElem? hx)
    simp only [encP]
    repeat' (first | (with_reducible refine T.sq fun K hK => ?_) | ((first | ((with_reducible refine T.reg hE ?hd ?_); (case hd => kernel_rfl)) | ((with_reducible refine T.any hE mixed ?hd ?hok ?_); (case hd => kernel_rfl); (case hok => kernel_rfl))); simp [*]; (repeat' (split; all_goals (rename_i hc; try simp [*])))) | ((with_reducible refine T.ret ?_); refine fin_pure ?_; simp [*]; try (change Hold _)) | (with_reducible refine T.block ?_) | ((with_reducible refine T.skip ?_); simp [*]) | ((with_reducible refine T.exit ?_); simp [*]) | ((with_reducible refine T.br fun K1 K2 hK1 hK2 => ?_); simp [*]; try ((refine Br.intro (fun hc => ?_) (fun hc => ?_)) <;> (try simp at hc))) | (with_reducible refine Cont.go (by assumption) _ ?_) | (with_reducible refine Cnt.go (by assumption) ?_))
    all_goals first | omega | (unfold Hold; omega)
  · rintro σ' ⟨hM, hn⟩ hg
    simp
    repeat' (first | (with_reducible refine T.sq fun K hK => ?_) | ((first | ((with_reducible refine T.reg hE ?hd ?_); (case hd => kernel_rfl)) | ((with_reducible refine T.any hE mixed ?hd ?hok ?_); (case hd => kernel_rfl); (case hok => kernel_rfl))); simp [*]; (repeat' (split; all_goals (rename_i hc; try simp [*])))) | ((with_reducible refine T.ret ?_); refine fin_pure ?_; simp [*]; try (change Hold _)) | (with_reducible refine T.block ?_) | ((with_reducible refine T.skip ?_); simp [*]) | ((with_reducible refine T.exit ?_); simp [*]) | ((with_reducible refine T.br fun K1 K2 hK1 hK2 => ?_); simp [*]; try ((refine Br.intro (fun hc => ?_) (fun hc => ?_)) <;> (try simp at hc))) | (with_reducible refine Cont.go (by assumption) _ ?_) | (with_reducible refine Cnt.go (by assumption) ?_))
    all_goals (unfold Hold; simp [nodesN] at *; omega)

@[simp] def gDepth : List V → Option V := f1 kE fun e => some (.int .i64 (min (depE e) 101 : Nat))
set_option maxHeartbeats 400000 in
theorem ok_Depth : PureOk Tryd.prog 74 gDepth := by
  intro args r h
  obtain ⟨e, rfl, ⟨⟩⟩ := f1_inv h
  clear h
  have hE := ((EnvOk.nil (P := Tryd.prog) (eq := fun _ => false) (own := fun _ => false) (mem := fun _ => false) EqOk.none).addf ok_nodes)
  refine ⟨⟨Tryd.f74, Tryd.func74, by decide, rfl⟩, pure_of_T Tryd.func74 rfl (by simp [Tryd.ntmps74]) fun q => ?_⟩
  repeat' (first | (with_reducible refine T.sq fun K hK => ?_) | ((first | ((with_reducible refine T.reg hE ?hd ?_); (case hd => kernel_rfl)) | ((with_reducible refine T.any hE mixed ?hd ?hok ?_); (case hd => kernel_rfl); (case hok => kernel_rfl))); simp [*]; (repeat' (split; all_goals (rename_i hc; try simp [*])))) | ((with_reducible refine T.ret ?_); refine fin_pure ?_; simp [*]; try (change Hold _)) | (with_reducible refine T.block ?_) | ((with_reducible refine T.skip ?_); simp [*]) | ((with_reducible refine T.exit ?_); simp [*]) | ((with_reducible refine T.br fun K1 K2 hK1 hK2 => ?_); simp [*]; try ((refine Br.intro (fun hc => ?_) (fun hc => ?_)) <;> (try simp at hc))) | (with_reducible refine Cont.go (by assumption) _ ?_) | (with_reducible refine Cnt.go (by assumption) ?_))
  refine T.range (gf := 110) (caps := [.cptr (encC e) 0]) (by simp) (iter_nodes e) (plain_caps e) (fun x hx => by obtain ⟨y, _, rfl⟩ := List.mem_map.1 hx; rfl) (fun n σ' => ∃ m : Nat, σ'.M (0 :: 5 :: q) = some (.cells [.int .i64 m]) ∧ m = maxl 0 ((preN e 1).take n) ∧ m ≤ 100) ⟨0, by simp [maxl]⟩ ?_ ?_
  · rintro l n x σ' hx ⟨m, hM, hm, hn⟩ hg
    rw [List.getElem?_map] at hx
    obtain ⟨⟨y1, y⟩, hy, rfl⟩ := Option.map_eq_some_iff.1 hx
    obtain ⟨d, h1, h2, h3, h4⟩ := dep_at e n _ hy (by omega)
    simp only at h1
    subst h1
    rw [← hm] at h3 h4
    simp only [encP]
    repeat' (first | (with_reducible refine T.sq fun K hK => ?_) | ((first | ((with_reducible refine T.reg hE ?hd ?_); (case hd => kernel_rfl)) | ((with_reducible refine T.any hE mixed ?hd ?hok ?_); (case hd => kernel_rfl); (case hok => kernel_rfl))); simp [*]; (repeat' (split; all_goals (rename_i hc; try simp [*])))) | ((with_reducible refine T.ret ?_); refine fin_pure ?_; simp [*]; try (change Hold _)) | (with_reducible refine T.block ?_) | ((with_reducible refine T.skip ?_); simp [*]) | ((with_reducible refine T.exit ?_); simp [*]) | ((with_reducible refine T.br fun K1 K2 hK1 hK2 => ?_); simp [*]; try ((refine Br.intro (fun hc => ?_) (fun hc => ?_)) <;> (try simp at hc))) | (with_reducible refine Cont.go (by assumption) _ ?_) | (with_reducible refine Cnt.go (by assumption) ?_))
    all_goals first | (unfold Hold; omega) | exact ⟨d, rfl, by omega, by omega⟩ | exact ⟨_, rfl, by omega, by omega⟩ | exact ⟨m, by simpa using hM, by omega, by omega⟩
  · rintro σ' ⟨m, hM, hm, hn⟩ hg
    have h1 := dep_done e
    simp at hm
    rw [← hm] at h1
    simp
    repeat' (first | (with_reducible refine T.sq fun K hK => ?_) | ((first | ((with_reducible refine T.reg hE ?hd ?_); (case hd => kernel_rfl)) | ((with_reducible refine T.any hE mixed ?hd ?hok ?_); (case hd => kernel_rfl); (case hok => kernel_rfl))); simp [*]; (repeat' (split; all_goals (rename_i hc; try simp [*])))) | ((with_reducible refine T.ret ?_); refine fin_pure ?_; simp [*]; try (change Hold _)) | (with_reducible refine T.block ?_) | ((with_reducible refine T.skip ?_); simp [*]) | ((with_reducible refine T.exit ?_); simp [*]) | ((with_reducible refine T.br fun K1 K2 hK1 hK2 => ?_); simp [*]; try ((refine Br.intro (fun hc => ?_) (fun hc => ?_)) <;> (try simp at hc))) | (with_reducible refine Cont.go (by assumption) _ ?_) | (with_reducible refine Cnt.go (by assumption) ?_))
    all_goals (unfold Hold; omega)
end
section
open Go Go.Proofs

def mostOf (k : Int) : Int := if k = 1 ∨ k = 7 ∨ k = 10 then 63 else if k = 2 ∨ k = 3 then 99 else 0
def shapedX (e : Ex) : Bool := decide (0 ≤ e.i) && decide (e.i ≤ mostOf e.k) &&
  if e.k = 1 then decide (e.kids.length = 0) else if e.k = 2 ∨ e.k = 3 then kidsAre e 0 4 true else if e.k = 4 then kidsAre e 2 2 true else if e.k = 5 ∨ e.k = 7 ∨ e.k = 10 then kidsAre e 1 1 false
  else if e.k = 6 ∨ e.k = 8 ∨ e.k = 9 then kidsAre e 2 2 false else false
theorem kidsAre_mk (k i : Int) (e : Ex) (a b : Int) (t : Bool) : kidsAre (.mk k i e.kids) a b t = kidsAre e a b t := rfl
@[simp] def gShaped : List V → Option V := f1 kE fun e => some (.bool (shapedX e))
set_option maxHeartbeats 1000000 in
theorem ok_shaped : PureOk Tryd.prog 76 gShaped := by
  intro args r h
  obtain ⟨e, rfl, ⟨⟩⟩ := f1_inv h
  clear h
  have hE := ((EnvOk.nil (P := Tryd.prog) (eq := fun _ => false) (own := fun _ => false) (mem := fun _ => false) EqOk.none).addf ok_kidsAre)
  refine ⟨⟨Tryd.f76, Tryd.func76, by decide, rfl⟩, pure_of_T Tryd.func76 rfl (by simp [Tryd.ntmps76]) fun q => ?_⟩
  repeat' (first | (with_reducible refine T.sq fun K hK => ?_) | ((first | ((with_reducible refine T.reg hE ?hd ?_); (case hd => kernel_rfl)) | ((with_reducible refine T.any hE mixed ?hd ?hok ?_); (case hd => kernel_rfl); (case hok => kernel_rfl))); simp [*]; (repeat' (split; all_goals (rename_i hc; try simp [*])))) | ((with_reducible refine T.ret ?_); refine fin_pure ?_; simp [*]; try (change Hold _)) | (with_reducible refine T.block ?_) | ((with_reducible refine T.skip ?_); simp [*]) | ((with_reducible refine T.exit ?_); simp [*]) | ((with_reducible refine T.br fun K1 K2 hK1 hK2 => ?_); simp [*]; try ((refine Br.intro (fun hc => ?_) (fun hc => ?_)) <;> (try simp at hc))) | (with_reducible refine Cont.go (by assumption) _ ?_) | (with_reducible refine Cnt.go (by assumption) ?_))
  all_goals first | (exfalso; omega) | (unfold Hold; simp [shapedX, mostOf, *]; done) | (unfold Hold; simp [shapedX, mostOf, kidsAre_mk, *]; done) | (unfold Hold; simp [shapedX, mostOf, kidsAre_mk, *]; omega) | (unfold Hold; simp [shapedX, mostOf, kidsAre_mk, *]; intros; omega)

/-- Which error, if any. -/
def rightE (e : Ex) : Int := if nodesN e > 1000 then 20 else if depE e > 100 then 21 else if (preE e 1).all fun x => shapedX x.2 then 0 else 22
@[simp] def gRight : List V → Option V := f1 kE fun e => some (.int .i64 (rightE e))
set_option maxHeartbeats 1000000 in
theorem ok_Right : PureOk Tryd.prog 36 gRight := by
  intro args r h
  obtain ⟨e, rfl, ⟨⟩⟩ := f1_inv h
  clear h
  have hE := (((((EnvOk.nil (P := Tryd.prog) (eq := fun _ => false) (own := fun _ => false) (mem := fun _ => false) EqOk.none).addf ok_nodes).addf ok_Size).addf ok_Depth).addf ok_shaped)
  refine ⟨⟨Tryd.f36, Tryd.func36, by decide, rfl⟩, pure_of_T Tryd.func36 rfl (by simp [Tryd.ntmps36]) fun q => ?_⟩
  repeat' (first | (with_reducible refine T.sq fun K hK => ?_) | ((first | ((with_reducible refine T.reg hE ?hd ?_); (case hd => kernel_rfl)) | ((with_reducible refine T.any hE mixed ?hd ?hok ?_); (case hd => kernel_rfl); (case hok => kernel_rfl))); simp [*]; (repeat' (split; all_goals (rename_i hc; try simp [*])))) | ((with_reducible refine T.ret ?_); refine fin_pure ?_; simp [*]; try (change Hold _)) | (with_reducible refine T.block ?_) | ((with_reducible refine T.skip ?_); simp [*]) | ((with_reducible refine T.exit ?_); simp [*]) | ((with_reducible refine T.br fun K1 K2 hK1 hK2 => ?_); simp [*]; try ((refine Br.intro (fun hc => ?_) (fun hc => ?_)) <;> (try simp at hc))) | (with_reducible refine Cont.go (by assumption) _ ?_) | (with_reducible refine Cnt.go (by assumption) ?_))
  all_goals first | (exfalso; omega) | (unfold Hold; simp [rightE, *]; done) | (unfold Hold; simp [rightE, *]; omega) | skip
  refine T.range (gf := 110) (caps := [.cptr (encC e) 0]) (by simp) (iter_nodes e) (plain_caps e) (fun x hx => by obtain ⟨y, _, rfl⟩ := List.mem_map.1 hx; rfl) (fun n σ' => σ'.M (0 :: 4 :: q) = some (.cells [.int .i64 0]) ∧ ((preE e 1).take n).all (fun x => shapedX x.2) = true) (by simp) ?_ ?_
  · rintro l n x σ' hx ⟨hM, hn⟩ hg
    rw [List.getElem?_map] at hx
    obtain ⟨⟨y1, y⟩, hy, rfl⟩ := Option.map_eq_some_iff.1 hx
    simp only [encP]
    repeat' (first | (with_reducible refine T.sq fun K hK => ?_) | ((first | ((with_reducible refine T.reg hE ?hd ?_); (case hd => kernel_rfl)) | ((with_reducible refine T.any hE mixed ?hd ?hok ?_); (case hd => kernel_rfl); (case hok => kernel_rfl))); simp [*]; (repeat' (split; all_goals (rename_i hc; try simp [*])))) | ((with_reducible refine T.ret ?_); refine fin_pure ?_; simp [*]; try (change Hold _)) | (with_reducible refine T.block ?_) | ((with_reducible refine T.skip ?_); simp [*]) | ((with_reducible refine T.exit ?_); simp [*]) | ((with_reducible refine T.br fun K1 K2 hK1 hK2 => ?_); simp [*]; try ((refine Br.intro (fun hc => ?_) (fun hc => ?_)) <;> (try simp at hc))) | (with_reducible refine Cont.go (by assumption) _ ?_) | (with_reducible refine Cnt.go (by assumption) ?_))
    · have hs : shapedX y = false := by assumption
      have ha : ((preE e 1).all fun x => shapedX x.2) = false := List.all_eq_false.2 ⟨(y1, y), List.mem_of_getElem? hy, by simp [hs]⟩
      unfold Hold rightE
      rw [if_neg (by omega), if_neg (by omega), ha]; rfl
    · have hs : shapedX y = true := by assumption
      have := all_take_succ (preE e 1) (fun x => shapedX x.2) n (List.getElem?_eq_some_iff.1 hy).1
      rw [hn, (List.getElem?_eq_some_iff.1 hy).2] at this
      simpa [hs] using this
  · rintro σ' ⟨hM, hn⟩ hg
    rw [List.length_map, List.take_length] at hn
    simp
    repeat' (first | (with_reducible refine T.sq fun K hK => ?_) | ((first | ((with_reducible refine T.reg hE ?hd ?_); (case hd => kernel_rfl)) | ((with_reducible refine T.any hE mixed ?hd ?hok ?_); (case hd => kernel_rfl); (case hok => kernel_rfl))); simp [*]; (repeat' (split; all_goals (rename_i hc; try simp [*])))) | ((with_reducible refine T.ret ?_); refine fin_pure ?_; simp [*]; try (change Hold _)) | (with_reducible refine T.block ?_) | ((with_reducible refine T.skip ?_); simp [*]) | ((with_reducible refine T.exit ?_); simp [*]) | ((with_reducible refine T.br fun K1 K2 hK1 hK2 => ?_); simp [*]; try ((refine Br.intro (fun hc => ?_) (fun hc => ?_)) <;> (try simp at hc))) | (with_reducible refine Cont.go (by assumption) _ ?_) | (with_reducible refine Cnt.go (by assumption) ?_))
    unfold Hold rightE
    rw [if_neg (by omega), if_neg (by omega), hn]; rfl
end
end Go.Proofs.YtaacfmakfkaddaaDoor.Ax
