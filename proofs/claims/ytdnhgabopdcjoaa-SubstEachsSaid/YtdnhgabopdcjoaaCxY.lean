/- Contracts: several terms put in, by the program. -/
import Derived.Test.YtdnhgabopdcjoaaCxV
set_option linter.unusedVariables false
set_option linter.unusedSimpArgs false
namespace Go.Proofs.Ytdnhgabopdcjoaa.Ax
section
open Go

section
variable {F : Fence} {n : Nat} {P : Program} {Q : Exit → Act → World → Prop} {a : Act} {w : World} {b : Frame} {k : List Item} {cs : List Frame}
theorem stepR_scope {c : Code} : step P (lone (b.atR a (.code (.scope c) :: k)) cs w) = .next (lone (b.atR a (.code c :: .inScope c :: k)) cs w) :=
  step_lone_go (by simp [stepG, stepG.exec, Frame.atR])
theorem stepR_inScope {c : Code} : step P (lone (b.atR a (.inScope c :: k)) cs w) = .next (lone (b.atR a k) cs w) :=
  step_lone_go (by simp [stepG, stepG.exec, Frame.atR])
def ngW (Q : Exit → Act → World → Prop) : Exit → Act → World → Prop
  | .goto _, _, _ => False
  | e, a, w => Q e a w
/-- A scope through which the run goes without a jump. -/
theorem wpIn_scope {c : Code} (h : c.wpIn F n P (ngW Q) a w) : (Code.scope c).wpIn F n P Q a w := by
  intro b k cs hro hb hr
  have h0 : (lone (b.atR a (.code (.scope c) :: k)) cs w).fenced P F := fenced_calm hb hr rfl
  obtain ⟨e, a₁, w₁, hq, harr⟩ := h b (.inScope c :: k) cs hro hb hr
  cases e with
  | normal => exact ⟨.normal, a₁, w₁, hq, .head h0 stepR_scope (StepsIn.trans harr (.one (fenced_calm hb hr rfl) stepR_inScope))⟩
  | exit id =>
    have hx : exitTo id (.inScope c :: k) = exitTo id k := by simp [exitTo]
    exact ⟨.exit id, a₁, w₁, hq, fun k' hk => .head h0 stepR_scope (harr.1 k' (by rw [hx]; exact hk)),
      fun hr' hk => let ⟨k₁, h1, h2⟩ := harr.2 hr' (by rw [hx]; exact hk); ⟨k₁, h1, .head h0 stepR_scope h2⟩⟩
  | goto l => exact hq.elim
  | ret => exact ⟨_, a₁, w₁, hq, .of_steps (.one h0 stepR_scope) harr⟩
  | panic ch => exact ⟨_, a₁, w₁, hq, .of_steps (.one h0 stepR_scope) harr⟩
  | outgrown => exact ⟨_, a₁, w₁, hq, .of_steps (.one h0 stepR_scope) harr⟩
end
def ng (Q : Post) : Post
  | .goto _, _ => False
  | e, σ => Q e σ
theorem T.scope {P : Program} {ro : Option Nat} {N : Nat} {p : Path} {σ : St} {Q : Post} {c : Code} (h : T P ro N p c σ (ng Q)) : T P ro N p (.scope c) σ Q := by
  intro ds G a w hR
  refine wpIn_scope (wpIn_mono (h ds G a w hR) ?_)
  rintro e a' w' ⟨ds', G', σ', h0, h1, h2, h3⟩
  cases e with
  | goto l => exact h3.elim
  | _ => exact ⟨ds', G', σ', h0, h1, h2, h3⟩
attribute [simp] ng
end
section
open Go Go.Proofs

theorem vars_take {l : List (Int × Ex)} (h : VarsP l) (j : Nat) : VarsP (l.take j) :=
  ⟨fun p hp => h.1 p (List.mem_of_mem_take hp), by rw [List.map_take]; exact h.2.sublist (List.take_sublist _ _)⟩
theorem vars_snoc {l : List (Int × Ex)} {p : Int × Ex} : VarsP (l ++ [p]) ↔ VarsP l ∧ (0 ≤ p.1 ∧ p.1 ≤ 63) ∧ ¬ ∃ q ∈ l, q.1 = p.1 := by
  unfold VarsP
  rw [List.map_append, List.nodup_append]
  constructor
  · rintro ⟨h1, h2, _, h3⟩
    refine ⟨⟨fun q hq => h1 q (by simp [hq]), h2⟩, h1 p (by simp), fun ⟨q, hq, e⟩ => h3 q.1 (List.mem_map.2 ⟨q, hq, rfl⟩) p.1 (by simp) e⟩
  · rintro ⟨⟨h1, h2⟩, h3, h4⟩
    refine ⟨fun q hq => ?_, h2, by simp, fun x hx y hy e => ?_⟩
    · rcases List.mem_append.1 hq with hq | hq
      · exact h1 q hq
      · obtain rfl : q = p := by simpa using hq
        exact h3
    · obtain ⟨q, hq, rfl⟩ := List.mem_map.1 hx
      obtain rfl : y = p.1 := by simpa using hy
      exact h4 ⟨q, hq, e⟩
theorem take_snoc {α : Type} (l : List α) (j : Nat) (h : j < l.length) : l.take (j + 1) = l.take j ++ [l[j]] := by
  rw [List.take_add_one, List.getElem?_eq_getElem h]; rfl
noncomputable instance (l : List (Int × Ex)) : Decidable (VarsP l) := Classical.propDecidable _
def sndL (l : List (Int × Ex)) : List Ex := l.map (·.2)
def allT (l : List Ex) : Bool := l.all isT
def badT (l : List (Int × Ex)) : Int := if allT (sndL l) = true then 0 else 40
noncomputable def eachErr (a : Ex) (l : List (Int × Ex)) : Int := if VarsP l then (if rightE a ≠ 0 then rightE a else if firstBad (sndL l) ≠ 0 then firstBad (sndL l) else if allT (sndL l) = true then 0 else 40) else 1
theorem each_ok {a : Ex} {l : List (Int × Ex)} (h : eachErr a l = 0) : VarsP l ∧ rightE a = 0 ∧ ∀ p ∈ l, rightE p.2 = 0 ∧ isT p.2 = true := by
  unfold eachErr at h
  split at h
  · rename_i hv
    split at h
    · rename_i c; exact absurd h c
    · rename_i c
      split at h
      · rename_i d; exact absurd h d
      · rename_i d
        split at h
        · rename_i t
          refine ⟨hv, by omega, fun p hp => ?_⟩
          have hm : p.2 ∈ sndL l := List.mem_map.2 ⟨p, hp, rfl⟩
          exact ⟨firstBad_all _ (by omega) _ hm, List.all_eq_true.1 t _ hm⟩
        · cases h
  · cases h
theorem each_mk {a : Ex} {l : List (Int × Ex)} (h1 : VarsP l) (h2 : rightE a = 0) (h3 : ∀ p ∈ l, rightE p.2 = 0 ∧ isT p.2 = true) : eachErr a l = 0 := by
  unfold eachErr
  have hb : firstBad (sndL l) = 0 := by
    have : ∀ m : List Ex, (∀ e ∈ m, rightE e = 0) → firstBad m = 0 := by
      intro m
      induction m with
      | nil => intro _; rfl
      | cons e m ih => intro h; rw [firstBad, if_neg (by simpa using h e (by simp)), ih fun x hx => h x (by simp [hx])]
    refine this _ fun e he => ?_
    obtain ⟨p, hp, rfl⟩ := List.mem_map.1 he
    exact (h3 p hp).1
  have ht : allT (sndL l) = true := List.all_eq_true.2 fun e he => by
    obtain ⟨p, hp, rfl⟩ := List.mem_map.1 he
    exact (h3 p hp).2
  rw [if_pos h1, if_neg (by omega), if_neg (by omega), if_pos ht]
noncomputable def eaV (a : Ex) (l : List (Int × Ex)) : V := if eachErr a l = 0 then plV a l else .tup [enc ex0, .int .i64 (eachErr a l)]
theorem eaV_bad {a : Ex} {l : List (Int × Ex)} {n : Int} (h : eachErr a l = n) (hn : n ≠ 0) : eaV a l = .tup [enc ex0, .int .i64 n] := by unfold eaV; rw [h, if_neg hn]
theorem eaV_good {a : Ex} {l : List (Int × Ex)} (h : eachErr a l = 0) : eaV a l = plV a l := if_pos h
theorem plV_tup (a : Ex) (l : List (Int × Ex)) : ∃ z n, plV a l = .tup [enc z, .int .i64 n] := by
  unfold plV
  split
  · exact ⟨_, _, rfl⟩
  · exact ⟨_, _, rfl⟩
theorem snd_drop (l : List (Int × Ex)) (j : Nat) (h : j < l.length) : firstBad (sndL (l.drop j)) = if rightE l[j].2 ≠ 0 then rightE l[j].2 else firstBad (sndL (l.drop (j + 1))) := by
  rw [List.drop_eq_getElem_cons h]; rfl
theorem allT_take (l : List (Int × Ex)) (j : Nat) (h : j < l.length) : allT (sndL (l.take (j + 1))) = (allT (sndL (l.take j)) && isT l[j].2) := by
  unfold sndL allT
  rw [take_snoc l j h, List.map_append, List.all_append]; simp
@[simp] noncomputable def gEach : List V → Option V := f2 kE (kRs rPair) fun a l => some (eaV a l)
set_option maxHeartbeats 4000000 in
theorem ok_Each : PureOk Try.prog 24 gEach := by
  intro args r h
  obtain ⟨a, l, rfl, ⟨⟩⟩ := f2_inv h; clear h
  have hE := (((((((EnvOk.nil (P := Try.prog) (eq := fun _ => false) (own := fun _ => false) (mem := fun _ => false) EqOk.none).addf ok_sIsVar).addf ok_wHas).addf ok_wWith).addf ok_Right).addf ok_IsTerm).addf ok_putL)
  refine ⟨⟨Try.f24, Try.func24, by decide, rfl⟩, pure_of_T Try.func24 rfl (by simp [Try.ntmps24]) fun q => ?_⟩
  refine T.len (t := 1) (els := rPair.encL l) (tk := .no) (by simp [*]) fun hlen => ?_
  rw [Rw.encL_length] at hlen
  refine T.sq fun K0 hK0 => ?_
  refine T.reg hE rfl ?_
  simp
  refine hK0.go _ ?_
  clear hK0
  refine T.scope ?_
  refine T.sq fun K1 hK1 => ?_
  refine T.reg hE rfl ?_
  simp
  refine hK1.go _ ?_
  clear hK1
  refine T.sq fun K2 hK2 => ?_
  refine T.reg hE rfl ?_
  simp
  refine hK2.go _ ?_
  clear hK2
  refine T.sq fun K3 hK3 => ?_
  refine T.label ?_
  simp
  refine hK3.go _ ?_
  clear hK3
  refine T.sq fun K4 hK4 => ?_
  obtain ⟨h4⟩ := hK4
  suffices j4 : ∀ σ : St, (σ.get 7 = .int .i64 (eachErr a l) ∧ σ.get 1 = .sl (rPair.encL l) .no ∧ σ.get 2 = .ptr (0 :: 4 :: q) 0 ∧ σ.M (0 :: 4 :: q) = some (.cells (encC a)) ∧ σ.get 4 = .ptr (0 :: 6 :: q) 0 ∧ (∃ c0 c1 c2, σ.M (0 :: 6 :: q) = some (.cells [c0, c1, c2]))) → K4 σ by
    clear h4
    refine T.block ?_
    refine T.loop (fun n σ => n = 0 ∧ σ.get 1 = .sl (rPair.encL l) .no ∧ σ.get 2 = .ptr (0 :: 4 :: q) 0 ∧ σ.M (0 :: 4 :: q) = some (.cells (encC a)) ∧ σ.get 4 = .ptr (0 :: 6 :: q) 0 ∧ (∃ c0 c1 c2, σ.M (0 :: 6 :: q) = some (.cells [c0, c1, c2])) ∧ σ.get 6 = .int .u64 0) 0 (by simp [encC_eq]) ?_
    rintro n σ ⟨rfl, g1, g2, m1, g3, ⟨c0, c1, c2, m2⟩, g4⟩
    rw [encC_eq] at m1
    repeat' (first
      | (with_reducible refine T.sq fun K hK => ?_)
      | ((first | ((with_reducible refine T.reg hE ?hd ?_); (case hd => kernel_rfl)) | ((with_reducible refine T.any hE mixed ?hd ?hok ?_); (case hd => kernel_rfl); (case hok => kernel_rfl))); simp [*]; (repeat' (split; all_goals (rename_i hc; try simp [*]))))
      | ((with_reducible refine T.ret ?_); refine fin_pure ?_; simp [*]; try (change Hold _))
      | (with_reducible refine T.block ?_)
      | ((with_reducible refine T.skip ?_); simp [*])
      | ((with_reducible refine T.exit ?_); simp [*])
      | ((with_reducible refine T.br fun K1 K2 hK1 hK2 => ?_); simp [*]; try ((refine Br.intro (fun hc => ?_) (fun hc => ?_)) <;> (try simp at hc)))
      | (with_reducible refine Cont.go (by assumption) _ ?_)
      | (with_reducible refine Cnt.go (by assumption) ?_))
    refine T.loop (fun n σ => ∃ j : Nat, n = l.length - j ∧ σ.get 1 = .sl (rPair.encL l) .no ∧ σ.get 2 = .ptr (0 :: 4 :: q) 0 ∧ σ.M (0 :: 4 :: q) = some (.cells (encC a)) ∧ σ.get 4 = .ptr (0 :: 6 :: q) 0 ∧ (∃ c0 c1 c2, σ.M (0 :: 6 :: q) = some (.cells [c0, c1, c2])) ∧ σ.get 6 = .int .u64 (setN (l.take j) : Nat) ∧ σ.get 14 = .sl (rPair.encL l) .no ∧ σ.get 15 = .int .i64 l.length ∧ σ.get 16 = .int .i64 j ∧ j ≤ l.length ∧ Hold (VarsP (l.take j))) l.length ⟨0, by simp, by simp [*], by simp [*], by simp [*, encC_eq], by simp [*], ⟨c0, c1, c2, by simp [*]⟩, by simp [*, setN], by simp [*], by simp [*], by simp [*], by omega, ⟨fun p hp => by simp at hp, by simp⟩⟩ ?_
    clear g1 g2 m1 g3 m2 g4
    rintro n σ ⟨j, rfl, g1, g2, m1, g3, ⟨c0, c1, c2, m2⟩, g4, g5, g6, g7, g8, g9⟩
    rw [encC_eq] at m1
    by_cases hj : j < l.length
    · have hw : IntKind.i64.wrap ((j : Int) + 1) = (j : Int) + 1 := wrap64 (by omega) (by omega)
      have hus := u64_nat (setN_lt (l.take j))
      have htk := (tab_lk _ g9 l[j].1).2
      have hsn : Hold (setN (l.take (j + 1)) = withN (setN (l.take j)) l[j].1) := by unfold Hold; rw [take_snoc l j hj]; exact setN_snoc _ _
      have hvs := vars_snoc (l := l.take j) (p := l[j])
      rw [← take_snoc l j hj] at hvs
      have bad : ¬ VarsP (l.take (j + 1)) → eachErr a l = 1 := fun h => by unfold eachErr; rw [if_neg (fun hv => h (vars_take hv _))]
      by_cases c1 : 0 ≤ l[j].1
      rotate_left
      · have he := bad (fun h => c1 (hvs.1 h).2.1.1)
        clear bad hvs htk
        repeat' (first
          | (with_reducible refine T.sq fun K hK => ?_)
          | ((first | ((with_reducible refine T.reg hE ?hd ?_); (case hd => kernel_rfl)) | ((with_reducible refine T.any hE mixed ?hd ?hok ?_); (case hd => kernel_rfl); (case hok => kernel_rfl))); simp [*]; (repeat' (split; all_goals (rename_i hc; try simp [*]))))
          | ((with_reducible refine T.ret ?_); refine fin_pure ?_; simp [*]; try (change Hold _))
          | (with_reducible refine T.block ?_)
          | ((with_reducible refine T.skip ?_); simp [*])
          | ((with_reducible refine T.exit ?_); simp [*])
          | ((with_reducible refine T.br fun K1 K2 hK1 hK2 => ?_); simp [*]; try ((refine Br.intro (fun hc => ?_) (fun hc => ?_)) <;> (try simp at hc)))
          | (with_reducible refine Cont.go (by assumption) _ ?_)
          | (with_reducible refine Cnt.go (by assumption) ?_))
        all_goals (refine j4 _ ⟨?_, ?_, ?_, ?_, ?_, ?_⟩ <;> simp [*, encC_eq])
      by_cases c2 : l[j].1 ≤ 63
      rotate_left
      · have he := bad (fun h => c2 (hvs.1 h).2.1.2)
        clear bad hvs htk
        repeat' (first
          | (with_reducible refine T.sq fun K hK => ?_)
          | ((first | ((with_reducible refine T.reg hE ?hd ?_); (case hd => kernel_rfl)) | ((with_reducible refine T.any hE mixed ?hd ?hok ?_); (case hd => kernel_rfl); (case hok => kernel_rfl))); simp [*]; (repeat' (split; all_goals (rename_i hc; try simp [*]))))
          | ((with_reducible refine T.ret ?_); refine fin_pure ?_; simp [*]; try (change Hold _))
          | (with_reducible refine T.block ?_)
          | ((with_reducible refine T.skip ?_); simp [*])
          | ((with_reducible refine T.exit ?_); simp [*])
          | ((with_reducible refine T.br fun K1 K2 hK1 hK2 => ?_); simp [*]; try ((refine Br.intro (fun hc => ?_) (fun hc => ?_)) <;> (try simp at hc)))
          | (with_reducible refine Cont.go (by assumption) _ ?_)
          | (with_reducible refine Cnt.go (by assumption) ?_))
        all_goals (refine j4 _ ⟨?_, ?_, ?_, ?_, ?_, ?_⟩ <;> simp [*, encC_eq])
      by_cases c3 : hasB (setN (l.take j)) l[j].1 = true
      · have he := bad (fun h => (hvs.1 h).2.2 (htk.1 c3))
        clear bad hvs htk
        repeat' (first
          | (with_reducible refine T.sq fun K hK => ?_)
          | ((first | ((with_reducible refine T.reg hE ?hd ?_); (case hd => kernel_rfl)) | ((with_reducible refine T.any hE mixed ?hd ?hok ?_); (case hd => kernel_rfl); (case hok => kernel_rfl))); simp [*]; (repeat' (split; all_goals (rename_i hc; try simp [*]))))
          | ((with_reducible refine T.ret ?_); refine fin_pure ?_; simp [*]; try (change Hold _))
          | (with_reducible refine T.block ?_)
          | ((with_reducible refine T.skip ?_); simp [*])
          | ((with_reducible refine T.exit ?_); simp [*])
          | ((with_reducible refine T.br fun K1 K2 hK1 hK2 => ?_); simp [*]; try ((refine Br.intro (fun hc => ?_) (fun hc => ?_)) <;> (try simp at hc)))
          | (with_reducible refine Cont.go (by assumption) _ ?_)
          | (with_reducible refine Cnt.go (by assumption) ?_))
        all_goals (refine j4 _ ⟨?_, ?_, ?_, ?_, ?_, ?_⟩ <;> simp [*, encC_eq])
      · have hn : Hold (VarsP (l.take (j + 1))) := hvs.2 ⟨g9, ⟨c1, c2⟩, fun h => c3 (htk.2 h)⟩
        rw [Bool.not_eq_true] at c3
        clear bad hvs htk
        repeat' (first
          | (with_reducible refine T.sq fun K hK => ?_)
          | ((first | ((with_reducible refine T.reg hE ?hd ?_); (case hd => kernel_rfl)) | ((with_reducible refine T.any hE mixed ?hd ?hok ?_); (case hd => kernel_rfl); (case hok => kernel_rfl))); simp [*]; (repeat' (split; all_goals (rename_i hc; try simp [*]))))
          | ((with_reducible refine T.ret ?_); refine fin_pure ?_; simp [*]; try (change Hold _))
          | (with_reducible refine T.block ?_)
          | ((with_reducible refine T.skip ?_); simp [*])
          | ((with_reducible refine T.exit ?_); simp [*])
          | ((with_reducible refine T.br fun K1 K2 hK1 hK2 => ?_); simp [*]; try ((refine Br.intro (fun hc => ?_) (fun hc => ?_)) <;> (try simp at hc)))
          | (with_reducible refine Cont.go (by assumption) _ ?_)
          | (with_reducible refine Cnt.go (by assumption) ?_))
        exact ⟨_, by omega, j + 1, rfl, by simp [encC_eq], by unfold Hold at hsn; rw [hsn], by omega, by omega, hn⟩
    · have w8 : j = l.length := by omega
      have hv : VarsP l := by unfold Hold at g9; rwa [w8, List.take_length] at g9
      have he0 : Hold (eachErr a l = if rightE a ≠ 0 then rightE a else if firstBad (sndL l) ≠ 0 then firstBad (sndL l) else if allT (sndL l) = true then 0 else 40) := by unfold Hold eachErr; rw [if_pos hv]
      clear hv g9
      by_cases v1 : rightE a = 0
      rotate_left
      · have he : Hold (eachErr a l = rightE a) := by unfold Hold at *; rw [he0, if_pos v1]
        repeat' (first
          | (with_reducible refine T.sq fun K hK => ?_)
          | ((first | ((with_reducible refine T.reg hE ?hd ?_); (case hd => kernel_rfl)) | ((with_reducible refine T.any hE mixed ?hd ?hok ?_); (case hd => kernel_rfl); (case hok => kernel_rfl))); simp [*]; (repeat' (split; all_goals (rename_i hc; try simp [*]))))
          | ((with_reducible refine T.ret ?_); refine fin_pure ?_; simp [*]; try (change Hold _))
          | (with_reducible refine T.block ?_)
          | ((with_reducible refine T.skip ?_); simp [*])
          | ((with_reducible refine T.exit ?_); simp [*])
          | ((with_reducible refine T.br fun K1 K2 hK1 hK2 => ?_); simp [*]; try ((refine Br.intro (fun hc => ?_) (fun hc => ?_)) <;> (try simp at hc)))
          | (with_reducible refine Cont.go (by assumption) _ ?_)
          | (with_reducible refine Cnt.go (by assumption) ?_))
        all_goals (unfold Hold at *; refine j4 _ ⟨?_, ?_, ?_, ?_, ?_, ?_⟩ <;> simp [*, encC_eq])
      have he1 : Hold (eachErr a l = if firstBad (sndL l) ≠ 0 then firstBad (sndL l) else if allT (sndL l) = true then 0 else 40) := by unfold Hold at *; rw [he0, if_neg (by omega)]
      clear he0
      repeat' (first
        | (with_reducible refine T.sq fun K hK => ?_)
        | ((first | ((with_reducible refine T.reg hE ?hd ?_); (case hd => kernel_rfl)) | ((with_reducible refine T.any hE mixed ?hd ?hok ?_); (case hd => kernel_rfl); (case hok => kernel_rfl))); simp [*]; (repeat' (split; all_goals (rename_i hc; try simp [*]))))
        | ((with_reducible refine T.ret ?_); refine fin_pure ?_; simp [*]; try (change Hold _))
        | (with_reducible refine T.block ?_)
        | ((with_reducible refine T.skip ?_); simp [*])
        | ((with_reducible refine T.exit ?_); simp [*])
        | ((with_reducible refine T.br fun K1 K2 hK1 hK2 => ?_); simp [*]; try ((refine Br.intro (fun hc => ?_) (fun hc => ?_)) <;> (try simp at hc)))
        | (with_reducible refine Cont.go (by assumption) _ ?_)
        | (with_reducible refine Cnt.go (by assumption) ?_))
      refine T.loop (fun n σ => ∃ j : Nat, n = l.length - j ∧ σ.get 1 = .sl (rPair.encL l) .no ∧ σ.get 2 = .ptr (0 :: 4 :: q) 0 ∧ σ.M (0 :: 4 :: q) = some (.cells (encC a)) ∧ σ.get 4 = .ptr (0 :: 6 :: q) 0 ∧ (∃ c0 c1 c2, σ.M (0 :: 6 :: q) = some (.cells [c0, c1, c2])) ∧ σ.get 7 = .int .i64 0 ∧ σ.get 39 = .sl (rPair.encL l) .no ∧ σ.get 40 = .int .i64 l.length ∧ σ.get 41 = .int .i64 j ∧ j ≤ l.length ∧ Hold (firstBad (sndL l) = firstBad (sndL (l.drop j)))) l.length ⟨0, by simp, by simp [*], by simp [*], by simp [*, encC_eq], by simp [*], ⟨c0, c1, c2, by simp [*]⟩, by simp [*], by simp [*], by simp [*], by simp [*], by omega, rfl⟩ ?_
      clear g1 g2 m1 g3 m2 g4 g5 g6 g7 g8 hj w8
      rintro n σ ⟨j, rfl, g1, g2, m1, g3, ⟨c0, c1, c2, m2⟩, g4, g5, g6, g7, g8, g9⟩
      rw [encC_eq] at m1
      by_cases hj : j < l.length
      · have hw : IntKind.i64.wrap ((j : Int) + 1) = (j : Int) + 1 := wrap64 (by omega) (by omega)
        have hd := snd_drop l j hj
        by_cases v : rightE l[j].2 = 0
        · rw [if_neg (by omega)] at hd
          have hn : Hold (firstBad (sndL l) = firstBad (sndL (l.drop (j + 1)))) := by unfold Hold at *; rw [g9, hd]
          clear g9 hd
          repeat' (first
            | (with_reducible refine T.sq fun K hK => ?_)
            | ((first | ((with_reducible refine T.reg hE ?hd ?_); (case hd => kernel_rfl)) | ((with_reducible refine T.any hE mixed ?hd ?hok ?_); (case hd => kernel_rfl); (case hok => kernel_rfl))); simp [*]; (repeat' (split; all_goals (rename_i hc; try simp [*]))))
            | ((with_reducible refine T.ret ?_); refine fin_pure ?_; simp [*]; try (change Hold _))
            | (with_reducible refine T.block ?_)
            | ((with_reducible refine T.skip ?_); simp [*])
            | ((with_reducible refine T.exit ?_); simp [*])
            | ((with_reducible refine T.br fun K1 K2 hK1 hK2 => ?_); simp [*]; try ((refine Br.intro (fun hc => ?_) (fun hc => ?_)) <;> (try simp at hc)))
            | (with_reducible refine Cont.go (by assumption) _ ?_)
            | (with_reducible refine Cnt.go (by assumption) ?_))
          exact ⟨_, by omega, j + 1, rfl, by simp [encC_eq], by omega, by omega, hn⟩
        · rw [if_pos v] at hd
          have he : Hold (eachErr a l = rightE l[j].2) := by unfold Hold at *; rw [he1, g9, hd, if_pos v]
          clear g9 hd he1
          repeat' (first
            | (with_reducible refine T.sq fun K hK => ?_)
            | ((first | ((with_reducible refine T.reg hE ?hd ?_); (case hd => kernel_rfl)) | ((with_reducible refine T.any hE mixed ?hd ?hok ?_); (case hd => kernel_rfl); (case hok => kernel_rfl))); simp [*]; (repeat' (split; all_goals (rename_i hc; try simp [*]))))
            | ((with_reducible refine T.ret ?_); refine fin_pure ?_; simp [*]; try (change Hold _))
            | (with_reducible refine T.block ?_)
            | ((with_reducible refine T.skip ?_); simp [*])
            | ((with_reducible refine T.exit ?_); simp [*])
            | ((with_reducible refine T.br fun K1 K2 hK1 hK2 => ?_); simp [*]; try ((refine Br.intro (fun hc => ?_) (fun hc => ?_)) <;> (try simp at hc)))
            | (with_reducible refine Cont.go (by assumption) _ ?_)
            | (with_reducible refine Cnt.go (by assumption) ?_))
          all_goals (unfold Hold at *; refine j4 _ ⟨?_, ?_, ?_, ?_, ?_, ?_⟩ <;> simp [*, encC_eq])
      · have w8 : j = l.length := by omega
        have hz : firstBad (sndL l) = 0 := by unfold Hold at g9; rw [g9, w8, List.drop_length]; rfl
        have he2 : Hold (eachErr a l = badT l) := by unfold Hold badT at *; rw [he1, if_neg (by omega)]
        have hrt : ∀ (j : Nat) (h : j < l.length), rightE l[j].2 = 0 := fun j h => firstBad_all _ hz _ (List.mem_map.2 ⟨l[j], List.getElem_mem h, rfl⟩)
        clear g9 he1 hz
        repeat' (first
          | (with_reducible refine T.sq fun K hK => ?_)
          | ((first | ((with_reducible refine T.reg hE ?hd ?_); (case hd => kernel_rfl)) | ((with_reducible refine T.any hE mixed ?hd ?hok ?_); (case hd => kernel_rfl); (case hok => kernel_rfl))); simp [*]; (repeat' (split; all_goals (rename_i hc; try simp [*]))))
          | ((with_reducible refine T.ret ?_); refine fin_pure ?_; simp [*]; try (change Hold _))
          | (with_reducible refine T.block ?_)
          | ((with_reducible refine T.skip ?_); simp [*])
          | ((with_reducible refine T.exit ?_); simp [*])
          | ((with_reducible refine T.br fun K1 K2 hK1 hK2 => ?_); simp [*]; try ((refine Br.intro (fun hc => ?_) (fun hc => ?_)) <;> (try simp at hc)))
          | (with_reducible refine Cont.go (by assumption) _ ?_)
          | (with_reducible refine Cnt.go (by assumption) ?_))
        refine T.loop (fun n σ => ∃ j : Nat, n = l.length - j ∧ σ.get 1 = .sl (rPair.encL l) .no ∧ σ.get 2 = .ptr (0 :: 4 :: q) 0 ∧ σ.M (0 :: 4 :: q) = some (.cells (encC a)) ∧ σ.get 4 = .ptr (0 :: 6 :: q) 0 ∧ (∃ c0 c1 c2, σ.M (0 :: 6 :: q) = some (.cells [c0, c1, c2])) ∧ σ.get 7 = .int .i64 (badT (l.take j)) ∧ σ.get 51 = .sl (rPair.encL l) .no ∧ σ.get 52 = .int .i64 l.length ∧ σ.get 53 = .int .i64 j ∧ j ≤ l.length) l.length ⟨0, by simp, by simp [*], by simp [*], by simp [*, encC_eq], by simp [*], ⟨c0, c1, c2, by simp [*]⟩, by simp [*, badT, sndL, allT], by simp [*], by simp [*], by simp [*], by omega⟩ ?_
        clear g1 g2 m1 g3 m2 g4 g5 g6 g7 g8 hj w8
        rintro n σ ⟨j, rfl, g1, g2, m1, g3, ⟨c0, c1, c2, m2⟩, g4, g5, g6, g7, g8⟩
        rw [encC_eq] at m1
        by_cases hj : j < l.length
        · have hw : IntKind.i64.wrap ((j : Int) + 1) = (j : Int) + 1 := wrap64 (by omega) (by omega)
          have ht := allT_take l j hj
          have hr := hrt j hj
          clear hrt
          by_cases v : isT l[j].2 = true
          · rw [v, Bool.and_true] at ht
            have hn : Hold (badT (l.take (j + 1)) = badT (l.take j)) := by unfold Hold badT; rw [ht]
            clear ht
            repeat' (first
              | (with_reducible refine T.sq fun K hK => ?_)
              | ((first | ((with_reducible refine T.reg hE ?hd ?_); (case hd => kernel_rfl)) | ((with_reducible refine T.any hE mixed ?hd ?hok ?_); (case hd => kernel_rfl); (case hok => kernel_rfl))); simp [*]; (repeat' (split; all_goals (rename_i hc; try simp [*]))))
              | ((with_reducible refine T.ret ?_); refine fin_pure ?_; simp [*]; try (change Hold _))
              | (with_reducible refine T.block ?_)
              | ((with_reducible refine T.skip ?_); simp [*])
              | ((with_reducible refine T.exit ?_); simp [*])
              | ((with_reducible refine T.br fun K1 K2 hK1 hK2 => ?_); simp [*]; try ((refine Br.intro (fun hc => ?_) (fun hc => ?_)) <;> (try simp at hc)))
              | (with_reducible refine Cont.go (by assumption) _ ?_)
              | (with_reducible refine Cnt.go (by assumption) ?_))
            exact ⟨_, by omega, j + 1, rfl, by simp [encC_eq], by unfold Hold at hn; rw [hn], by omega, by omega⟩
          · rw [Bool.not_eq_true] at v
            rw [v, Bool.and_false] at ht
            have hn : Hold (badT (l.take (j + 1)) = 40) := by unfold Hold badT; rw [ht]; rfl
            clear ht
            repeat' (first
              | (with_reducible refine T.sq fun K hK => ?_)
              | ((first | ((with_reducible refine T.reg hE ?hd ?_); (case hd => kernel_rfl)) | ((with_reducible refine T.any hE mixed ?hd ?hok ?_); (case hd => kernel_rfl); (case hok => kernel_rfl))); simp [*]; (repeat' (split; all_goals (rename_i hc; try simp [*]))))
              | ((with_reducible refine T.ret ?_); refine fin_pure ?_; simp [*]; try (change Hold _))
              | (with_reducible refine T.block ?_)
              | ((with_reducible refine T.skip ?_); simp [*])
              | ((with_reducible refine T.exit ?_); simp [*])
              | ((with_reducible refine T.br fun K1 K2 hK1 hK2 => ?_); simp [*]; try ((refine Br.intro (fun hc => ?_) (fun hc => ?_)) <;> (try simp at hc)))
              | (with_reducible refine Cont.go (by assumption) _ ?_)
              | (with_reducible refine Cnt.go (by assumption) ?_))
            exact ⟨_, by omega, j + 1, rfl, by simp [encC_eq], by unfold Hold at hn; rw [hn], by omega, by omega⟩
        · have w8 : j = l.length := by omega
          rw [w8, List.take_length] at g4
          clear hrt
          repeat' (first
            | (with_reducible refine T.sq fun K hK => ?_)
            | ((first | ((with_reducible refine T.reg hE ?hd ?_); (case hd => kernel_rfl)) | ((with_reducible refine T.any hE mixed ?hd ?hok ?_); (case hd => kernel_rfl); (case hok => kernel_rfl))); simp [*]; (repeat' (split; all_goals (rename_i hc; try simp [*]))))
            | ((with_reducible refine T.ret ?_); refine fin_pure ?_; simp [*]; try (change Hold _))
            | (with_reducible refine T.block ?_)
            | ((with_reducible refine T.skip ?_); simp [*])
            | ((with_reducible refine T.exit ?_); simp [*])
            | ((with_reducible refine T.br fun K1 K2 hK1 hK2 => ?_); simp [*]; try ((refine Br.intro (fun hc => ?_) (fun hc => ?_)) <;> (try simp at hc)))
            | (with_reducible refine Cont.go (by assumption) _ ?_)
            | (with_reducible refine Cnt.go (by assumption) ?_))
          all_goals (unfold Hold at *; refine j4 _ ⟨?_, ?_, ?_, ?_, ?_, ?_⟩ <;> simp [*, encC_eq])
  rintro σ ⟨b7, b1, b2, m1, b4, ⟨c0, c1, c2, m2⟩⟩
  refine h4 σ ?_
  clear h4
  rw [encC_eq] at m1
  by_cases v : eachErr a l = 0
  · obtain ⟨hv, ha, hp⟩ := each_ok v
    have hok : okPL a l := ⟨(right_zero ha).2.2, hv⟩
    obtain ⟨z, n, hpl⟩ := plV_tup a l
    have hn : Hold (eaV a l = .tup [enc z, .int .i64 n]) := by unfold Hold; rw [eaV_good v, hpl]
    clear hp
    repeat' (first
      | (with_reducible refine T.sq fun K hK => ?_)
      | ((first | ((with_reducible refine T.reg hE ?hd ?_); (case hd => kernel_rfl)) | ((with_reducible refine T.any hE mixed ?hd ?hok ?_); (case hd => kernel_rfl); (case hok => kernel_rfl))); simp [*]; (repeat' (split; all_goals (rename_i hc; try simp [*]))))
      | ((with_reducible refine T.ret ?_); refine fin_pure ?_; simp [*]; try (change Hold _))
      | (with_reducible refine T.block ?_)
      | ((with_reducible refine T.skip ?_); simp [*])
      | ((with_reducible refine T.exit ?_); simp [*])
      | ((with_reducible refine T.br fun K1 K2 hK1 hK2 => ?_); simp [*]; try ((refine Br.intro (fun hc => ?_) (fun hc => ?_)) <;> (try simp at hc)))
      | (with_reducible refine Cont.go (by assumption) _ ?_)
      | (with_reducible refine Cnt.go (by assumption) ?_))
    all_goals (unfold Hold at *; rw [hn]; try simp)
  · have hn : Hold (eaV a l = .tup [enc ex0, .int .i64 (eachErr a l)]) := eaV_bad rfl v
    repeat' (first
      | (with_reducible refine T.sq fun K hK => ?_)
      | ((first | ((with_reducible refine T.reg hE ?hd ?_); (case hd => kernel_rfl)) | ((with_reducible refine T.any hE mixed ?hd ?hok ?_); (case hd => kernel_rfl); (case hok => kernel_rfl))); simp [*]; (repeat' (split; all_goals (rename_i hc; try simp [*]))))
      | ((with_reducible refine T.ret ?_); refine fin_pure ?_; simp [*]; try (change Hold _))
      | (with_reducible refine T.block ?_)
      | ((with_reducible refine T.skip ?_); simp [*])
      | ((with_reducible refine T.exit ?_); simp [*])
      | ((with_reducible refine T.br fun K1 K2 hK1 hK2 => ?_); simp [*]; try ((refine Br.intro (fun hc => ?_) (fun hc => ?_)) <;> (try simp at hc)))
      | (with_reducible refine Cont.go (by assumption) _ ?_)
      | (with_reducible refine Cnt.go (by assumption) ?_))
    all_goals (unfold Hold at *; rw [hn]; simp [ex0])
end
end Go.Proofs.Ytdnhgabopdcjoaa.Ax
