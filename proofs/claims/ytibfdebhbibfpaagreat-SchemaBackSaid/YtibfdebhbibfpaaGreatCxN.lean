/- Contracts: sorts looked at; swapped; the laws SchemaSwaps and SchemaTurned, walked. -/
import Derived.Test.YtibfdebhbibfpaaGreatCxC
import Derived.Test.YtibfdebhbibfpaaGreatCxA
import Derived.Test.YtibfdebhbibfpaaGreatCxD
set_option linter.unusedVariables false
set_option linter.unusedSimpArgs false
namespace Go.Proofs.YtibfdebhbibfpaaGreat.Ax
open Go Go.Proofs

section
variable {α β γ δ ε ζ ρ : Type}
def f6 (A : Kd α) (B : Kd β) (C : Kd γ) (D : Kd δ) (E : Kd ε) (Z : Kd ζ) (f : α → β → γ → δ → ε → ζ → Option ρ) : List V → Option ρ
  | [a, b, c, d, e, z] => (A.dec a).bind fun a => (B.dec b).bind fun b => (C.dec c).bind fun c => (D.dec d).bind fun d => (E.dec e).bind fun e => (Z.dec z).bind fun z => f a b c d e z
  | _ => none
variable {A : Kd α} {B : Kd β} {C : Kd γ} {D : Kd δ} {E : Kd ε} {Z : Kd ζ}
@[simp] theorem f6_ap (f : α → β → γ → δ → ε → ζ → Option ρ) (a b c d e z : V) : f6 A B C D E Z f [a, b, c, d, e, z] = (A.dec a).bind fun a => (B.dec b).bind fun b => (C.dec c).bind fun c => (D.dec d).bind fun d => (E.dec e).bind fun e => (Z.dec z).bind fun z => f a b c d e z := rfl
theorem f6_inv {f : α → β → γ → δ → ε → ζ → Option ρ} {args : List V} {r : ρ} (h : f6 A B C D E Z f args = some r) : ∃ a b c d e z, args = [A.enc a, B.enc b, C.enc c, D.enc d, E.enc e, Z.enc z] ∧ f a b c d e z = some r := by
  unfold f6 at h
  split at h
  · obtain ⟨a, ha, h⟩ := Option.bind_eq_some_iff.1 h
    obtain ⟨b, hb, h⟩ := Option.bind_eq_some_iff.1 h
    obtain ⟨c, hc, h⟩ := Option.bind_eq_some_iff.1 h
    obtain ⟨d, hd, h⟩ := Option.bind_eq_some_iff.1 h
    obtain ⟨e, he, h⟩ := Option.bind_eq_some_iff.1 h
    obtain ⟨z, hz, h⟩ := Option.bind_eq_some_iff.1 h
    exact ⟨a, b, c, d, e, z, by rw [A.inv _ _ ha, B.inv _ _ hb, C.inv _ _ hc, D.inv _ _ hd, E.inv _ _ he, Z.inv _ _ hz], h⟩
  · cases h
end
section
variable {P : Program} {f : FuncId} {β γ δ ε ζ : Type} {B : Kd β} {C : Kd γ} {D : Kd δ} {E : Kd ε} {Z : Kd ζ}
theorem rec6 {F : Ex → β → γ → δ → ε → ζ → Option V} (h : ∀ e, PureOk P f (f6 kE B C D E Z fun x b c d g z => if SizeOf.sizeOf x < SizeOf.sizeOf e then F x b c d g z else none) → ∀ b c d g z r, F e b c d g z = some r → Okat P f [enc e, B.enc b, C.enc c, D.enc d, E.enc g, Z.enc z] r) : PureOk P f (f6 kE B C D E Z F) := by
  have main : ∀ (n : Nat) (e : Ex), SizeOf.sizeOf e < n → ∀ b c d g z r, F e b c d g z = some r → Okat P f [enc e, B.enc b, C.enc c, D.enc d, E.enc g, Z.enc z] r := by
    intro n
    induction n with
    | zero => intro e he; omega
    | succ n ih =>
      intro e he b c d g z r hr
      refine h e (fun args r h1 => ?_) b c d g z r hr
      obtain ⟨x, b, c, d, g, z, rfl, h2⟩ := f6_inv h1
      split at h2
      · rename_i hlt; exact ih x (by omega) b c d g z r h2
      · cases h2
  intro args r h1
  obtain ⟨x, b, c, d, g, z, rfl, h2⟩ := f6_inv h1
  exact main _ x (Nat.lt_succ_self _) b c d g z r h2
end

/-! ### Sorts -/
@[simp] def gBad : List V → Option V := f1 kE fun e => some (.bool (decide (rightE e ≠ 0)))
theorem ok_sBad : PureOk Tryz.prog 92 gBad := by
  intro args r h
  obtain ⟨e, rfl, ⟨⟩⟩ := f1_inv h
  clear h
  have hE := ((EnvOk.nil (P := Tryz.prog) (eq := fun _ => false) (own := fun _ => false) (mem := fun _ => false) EqOk.none).addf ok_Right)
  refine ⟨⟨Tryz.f92, Tryz.func92, by decide, rfl⟩, pure_of_T Tryz.func92 rfl (by simp [Tryz.ntmps92]) fun q => ?_⟩
  repeat' (first | (with_reducible refine T.sq fun K hK => ?_) | ((first | ((with_reducible refine T.reg hE ?hd ?_); (case hd => kernel_rfl)) | ((with_reducible refine T.any hE mixed ?hd ?hok ?_); (case hd => kernel_rfl); (case hok => kernel_rfl))); simp [*]; (repeat' (split; all_goals (rename_i hc; try simp [*])))) | ((with_reducible refine T.ret ?_); refine fin_pure ?_; simp [*]; try (change Hold _)) | (with_reducible refine T.block ?_) | ((with_reducible refine T.skip ?_); simp [*]) | ((with_reducible refine T.exit ?_); simp [*]) | ((with_reducible refine T.br fun K1 K2 hK1 hK2 => ?_); simp [*]; try ((refine Br.intro (fun hc => ?_) (fun hc => ?_)) <;> (try simp at hc))) | (with_reducible refine Cont.go (by assumption) _ ?_) | (with_reducible refine Cnt.go (by assumption) ?_))
  all_goals (unfold Hold; simp)
def pickBad : List Ex → Ex
  | [] => ex0
  | e :: l => if rightE e ≠ 0 then e else pickBad l
theorem pickBad_drop (l : List Ex) (j : Nat) (h : j < l.length) : pickBad (l.drop j) = if rightE l[j] ≠ 0 then l[j] else pickBad (l.drop (j + 1)) := by
  rw [List.drop_eq_getElem_cons h, pickBad]
theorem pickBad_right : ∀ l : List Ex, firstBad l ≠ 0 → rightE (pickBad l) = firstBad l
  | [], h => by simp [firstBad] at h
  | e :: l, h => by
    unfold firstBad at h ⊢
    rw [pickBad]
    split
    · rename_i c; rfl
    · rename_i c; rw [if_neg c] at h; exact pickBad_right l h
def pickV (l : List Ex) : V := .tup [enc (pickBad l), .bool (decide (firstBad l ≠ 0))]
@[simp] noncomputable def gPickBad : List V → Option V := fun args => match args with
  | [lv, .fn f cs] => (kL.dec lv).bind fun l => if okOf 92 f cs then some (pickV l) else none
  | _ => none
set_option maxHeartbeats 1000000 in
theorem ok_pickE : PureOk Tryz.prog 91 gPickBad := by
  intro args r h
  simp only [gPickBad] at h
  split at h
  · rename_i lv f cs
    obtain ⟨l, he, h2⟩ := Option.bind_eq_some_iff.1 h
    clear h
    split at h2
    · rename_i hok
      obtain ⟨rfl, rfl⟩ := hok
      obtain rfl := Option.some.inj h2
      obtain rfl := kL.inv _ _ he
      clear he
      have hE := ((EnvOk.nil (P := Tryz.prog) (eq := fun _ => false) (own := fun _ => false) (mem := fun _ => false) EqOk.none).addf ok_sBad)
      refine ⟨⟨Tryz.f91, Tryz.func91, by decide, rfl⟩, pure_of_T Tryz.func91 rfl (by simp [Tryz.ntmps91]) fun q => ?_⟩
      repeat' (first | (with_reducible refine T.sq fun K hK => ?_) | ((first | ((with_reducible refine T.reg hE ?hd ?_); (case hd => kernel_rfl)) | ((with_reducible refine T.any hE mixed ?hd ?hok ?_); (case hd => kernel_rfl); (case hok => kernel_rfl))); simp [*]; (repeat' (split; all_goals (rename_i hc; try simp [*])))) | ((with_reducible refine T.ret ?_); refine fin_pure ?_; simp [*]; try (change Hold _)) | (with_reducible refine T.block ?_) | ((with_reducible refine T.skip ?_); simp [*]) | ((with_reducible refine T.exit ?_); simp [*]) | ((with_reducible refine T.br fun K1 K2 hK1 hK2 => ?_); simp [*]; try ((refine Br.intro (fun hc => ?_) (fun hc => ?_)) <;> (try simp at hc))) | (with_reducible refine Cont.go (by assumption) _ ?_) | (with_reducible refine Cnt.go (by assumption) ?_))
      refine T.len (t := 9) (els := encL l) (tk := .no) (by simp [*]) fun hlen => ?_
      rw [encL_length] at hlen
      refine T.loop (fun n σ => ∃ j : Nat, n = l.length - j ∧ σ.get 1 = .fn 92 [] ∧ σ.get 4 = .ptr (0 :: 6 :: q) 0 ∧ (∃ c0 c1 c2, σ.M (0 :: 6 :: q) = some (.cells [c0, c1, c2])) ∧ σ.get 9 = .sl (encL l) .no ∧ σ.get 10 = .int .i64 l.length ∧ σ.get 11 = .int .i64 j ∧ j ≤ l.length ∧ Hold (pickV l = pickV (l.drop j))) l.length ⟨0, by simp [Hold]⟩ ?_
      rintro n σ ⟨j, rfl, g1, g2, ⟨c0, c1, c2, g3⟩, g4, g5, g6, g7, g8⟩
      by_cases hj : j < l.length
      · have hw := wrap_succ hlen hj
        have hd := firstBad_drop l j hj
        have hp := pickBad_drop l j hj
        by_cases v : rightE l[j] = 0
        · rw [if_neg (by omega)] at hd hp
          have hn : Hold (pickV l = pickV (l.drop (j + 1))) := by unfold Hold pickV at *; rw [g8, hd, hp]
          clear g8 hd hp
          repeat' (first | (with_reducible refine T.sq fun K hK => ?_) | ((first | ((with_reducible refine T.reg hE ?hd ?_); (case hd => kernel_rfl)) | ((with_reducible refine T.any hE mixed ?hd ?hok ?_); (case hd => kernel_rfl); (case hok => kernel_rfl))); simp [*]; (repeat' (split; all_goals (rename_i hc; try simp [*])))) | ((with_reducible refine T.ret ?_); refine fin_pure ?_; simp [*]; try (change Hold _)) | (with_reducible refine T.block ?_) | ((with_reducible refine T.skip ?_); simp [*]) | ((with_reducible refine T.exit ?_); simp [*]) | ((with_reducible refine T.br fun K1 K2 hK1 hK2 => ?_); simp [*]; try ((refine Br.intro (fun hc => ?_) (fun hc => ?_)) <;> (try simp at hc))) | (with_reducible refine Cont.go (by assumption) _ ?_) | (with_reducible refine Cnt.go (by assumption) ?_))
          exact ⟨l.length - (j + 1), by omega, j + 1, rfl, by omega, by omega, hn⟩
        · rw [if_pos v] at hd hp
          have hn : Hold (pickV l = .tup [enc l[j], .bool true]) := by unfold Hold at *; rw [g8]; unfold pickV; rw [hd, hp]; simp [v]
          clear g8 hd hp
          repeat' (first | (with_reducible refine T.sq fun K hK => ?_) | ((first | ((with_reducible refine T.reg hE ?hd ?_); (case hd => kernel_rfl)) | ((with_reducible refine T.any hE mixed ?hd ?hok ?_); (case hd => kernel_rfl); (case hok => kernel_rfl))); simp [*]; (repeat' (split; all_goals (rename_i hc; try simp [*])))) | ((with_reducible refine T.ret ?_); refine fin_pure ?_; simp [*]; try (change Hold _)) | (with_reducible refine T.block ?_) | ((with_reducible refine T.skip ?_); simp [*]) | ((with_reducible refine T.exit ?_); simp [*]) | ((with_reducible refine T.br fun K1 K2 hK1 hK2 => ?_); simp [*]; try ((refine Br.intro (fun hc => ?_) (fun hc => ?_)) <;> (try simp at hc))) | (with_reducible refine Cont.go (by assumption) _ ?_) | (with_reducible refine Cnt.go (by assumption) ?_))
          all_goals (unfold Hold at *; rw [hn]; simp)
      · have w8 : j = l.length := by omega
        have hn : Hold (pickV l = .tup [enc ex0, .bool false]) := by unfold Hold at *; rw [g8, w8, List.drop_length]; rfl
        clear g8
        repeat' (first | (with_reducible refine T.sq fun K hK => ?_) | ((first | ((with_reducible refine T.reg hE ?hd ?_); (case hd => kernel_rfl)) | ((with_reducible refine T.any hE mixed ?hd ?hok ?_); (case hd => kernel_rfl); (case hok => kernel_rfl))); simp [*]; (repeat' (split; all_goals (rename_i hc; try simp [*])))) | ((with_reducible refine T.ret ?_); refine fin_pure ?_; simp [*]; try (change Hold _)) | (with_reducible refine T.block ?_) | ((with_reducible refine T.skip ?_); simp [*]) | ((with_reducible refine T.exit ?_); simp [*]) | ((with_reducible refine T.br fun K1 K2 hK1 hK2 => ?_); simp [*]; try ((refine Br.intro (fun hc => ?_) (fun hc => ?_)) <;> (try simp at hc))) | (with_reducible refine Cont.go (by assumption) _ ?_) | (with_reducible refine Cnt.go (by assumption) ?_))
        all_goals (unfold Hold at *; rw [hn]; simp [ex0])
    · cases h2
  · cases h
set_option maxHeartbeats 1000000 in
theorem ok_sSorted : PureOk Tryz.prog 43 gSorted := by
  intro args r h
  obtain ⟨l, s, rfl, hr⟩ := f2_inv h; clear h
  split at hr
  · rename_i hsz
    cases hr
    have hE := ((((EnvOk.nil (P := Tryz.prog) (eq := fun _ => false) (own := fun _ => false) (mem := fun _ => false) EqOk.none).addf ok_Right).addf ok_IsTerm).addf ok_pickE)
    refine ⟨⟨Tryz.f43, Tryz.func43, by decide, rfl⟩, pure_of_T Tryz.func43 rfl (by simp [Tryz.ntmps43]) fun q => ?_⟩
    have hpo := okOf_mk 92
    have hpv : pickV l = .tup [.agg [.int .i64 (pickBad l).k, .int .i64 (pickBad l).i, .sl (encL (pickBad l).kids) .no], .bool (decide (firstBad l ≠ 0))] := by unfold pickV; rw [enc_eq]
    by_cases h0 : firstBad l = 0
    rotate_left
    · have hb := pickBad_right l h0
      have hn : Hold (sortE l s = firstBad l) := by unfold Hold sortE; rw [if_pos h0]
      repeat' (first | (with_reducible refine T.sq fun K hK => ?_) | ((first | ((with_reducible refine T.reg hE ?hd ?_); (case hd => kernel_rfl)) | ((with_reducible refine T.any hE mixed ?hd ?hok ?_); (case hd => kernel_rfl); (case hok => kernel_rfl))); simp [*]; (repeat' (split; all_goals (rename_i hc; try simp [*])))) | ((with_reducible refine T.ret ?_); refine fin_pure ?_; simp [*]; try (change Hold _)) | (with_reducible refine T.block ?_) | ((with_reducible refine T.skip ?_); simp [*]) | ((with_reducible refine T.exit ?_); simp [*]) | ((with_reducible refine T.br fun K1 K2 hK1 hK2 => ?_); simp [*]; try ((refine Br.intro (fun hc => ?_) (fun hc => ?_)) <;> (try simp at hc))) | (with_reducible refine Cont.go (by assumption) _ ?_) | (with_reducible refine Cnt.go (by assumption) ?_))
      all_goals (unfold Hold at *; rw [hn])
    have hall := firstBad_all l h0
    have hf : Hold (sortE l s = if sortsOk l s.data.toList = true then 0 else 40) := by unfold Hold sortE; rw [if_neg (by omega)]
    refine T.len (t := 0) (els := encL l) (tk := .no) (by simp [*]) fun hlen => ?_
    rw [encL_length] at hlen
    repeat' (first | (with_reducible refine T.sq fun K hK => ?_) | ((first | ((with_reducible refine T.reg hE ?hd ?_); (case hd => kernel_rfl)) | ((with_reducible refine T.any hE mixed ?hd ?hok ?_); (case hd => kernel_rfl); (case hok => kernel_rfl))); simp [*]; (repeat' (split; all_goals (rename_i hc; try simp [*])))) | ((with_reducible refine T.ret ?_); refine fin_pure ?_; simp [*]; try (change Hold _)) | (with_reducible refine T.block ?_) | ((with_reducible refine T.skip ?_); simp [*]) | ((with_reducible refine T.exit ?_); simp [*]) | ((with_reducible refine T.br fun K1 K2 hK1 hK2 => ?_); simp [*]; try ((refine Br.intro (fun hc => ?_) (fun hc => ?_)) <;> (try simp at hc))) | (with_reducible refine Cont.go (by assumption) _ ?_) | (with_reducible refine Cnt.go (by assumption) ?_))
    refine T.loop (fun n σ => ∃ j : Nat, n = l.length - j ∧ σ.get 1 = .str s ∧ σ.get 17 = .sl (encL l) .no ∧ σ.get 18 = .int .i64 l.length ∧ σ.get 19 = .int .i64 j ∧ j ≤ l.length ∧ Hold (sortsOk l s.data.toList = sortsOk (l.drop j) (s.data.toList.drop j))) l.length ⟨0, by simp [*, Hold]⟩ ?_
    clear hpv
    rintro n σ ⟨j, rfl, g1s, g1, g2, g3, g4, g5⟩
    by_cases hj : j < l.length
    · have hw := wrap_succ hlen hj
      have hr := hall l[j] (List.getElem_mem hj)
      have hjs : j < s.data.toList.length := by have h2 : s.data.size = l.length := hsz; rw [Array.length_toList]; omega
      have hby : byteAt s (j : Int) = some s.data.toList[j] := by
        have h1 : j < s.size := by omega
        unfold byteAt
        simp [h1]
        rfl
      have hsd := sorts_drop l s.data.toList j hj hjs
      generalize hc : s.data.toList[j] = c at *
      have hcc : Hold ((c.toNat : Int) = 116 ↔ c = 116) := ⟨fun h => UInt8.toNat_inj.1 (by simpa using Int.ofNat_inj.1 h), fun h => by rw [h]; rfl⟩
      clear hall
      by_cases v : isT l[j] = decide (c = 116)
      · have hn : Hold (sortsOk l s.data.toList = sortsOk (l.drop (j + 1)) (s.data.toList.drop (j + 1))) := by unfold Hold at *; rw [g5, hsd, v]; simp
        clear hsd g5
        by_cases u : c = 116
        · subst u
          have hv : isT l[j] = true := by rw [v]; rfl
          clear v hcc
          repeat' (first | (with_reducible refine T.sq fun K hK => ?_) | ((first | ((with_reducible refine T.reg hE ?hd ?_); (case hd => kernel_rfl)) | ((with_reducible refine T.any hE mixed ?hd ?hok ?_); (case hd => kernel_rfl); (case hok => kernel_rfl))); simp [*]; (repeat' (split; all_goals (rename_i hc; try simp [*])))) | ((with_reducible refine T.ret ?_); refine fin_pure ?_; simp [*]; try (change Hold _)) | (with_reducible refine T.block ?_) | ((with_reducible refine T.skip ?_); simp [*]) | ((with_reducible refine T.exit ?_); simp [*]) | ((with_reducible refine T.br fun K1 K2 hK1 hK2 => ?_); simp [*]; try ((refine Br.intro (fun hc => ?_) (fun hc => ?_)) <;> (try simp at hc))) | (with_reducible refine Cont.go (by assumption) _ ?_) | (with_reducible refine Cnt.go (by assumption) ?_))
          exact ⟨l.length - (j + 1), by omega, j + 1, rfl, by omega, by omega, hn⟩
        · have hv : isT l[j] = false := by rw [v]; simp [u]
          have hu : ¬ (c.toNat : Int) = 116 := fun h => u (hcc.1 h)
          clear v hcc u
          repeat' (first | (with_reducible refine T.sq fun K hK => ?_) | ((first | ((with_reducible refine T.reg hE ?hd ?_); (case hd => kernel_rfl)) | ((with_reducible refine T.any hE mixed ?hd ?hok ?_); (case hd => kernel_rfl); (case hok => kernel_rfl))); simp [*]; (repeat' (split; all_goals (rename_i hc; try simp [*])))) | ((with_reducible refine T.ret ?_); refine fin_pure ?_; simp [*]; try (change Hold _)) | (with_reducible refine T.block ?_) | ((with_reducible refine T.skip ?_); simp [*]) | ((with_reducible refine T.exit ?_); simp [*]) | ((with_reducible refine T.br fun K1 K2 hK1 hK2 => ?_); simp [*]; try ((refine Br.intro (fun hc => ?_) (fun hc => ?_)) <;> (try simp at hc))) | (with_reducible refine Cont.go (by assumption) _ ?_) | (with_reducible refine Cnt.go (by assumption) ?_))
          exact ⟨l.length - (j + 1), by omega, j + 1, rfl, by omega, by omega, hn⟩
      · have hn : Hold (sortE l s = 40) := by
          unfold Hold at *
          rw [hf, g5, hsd]
          have : (isT l[j] == decide (c = 116)) = false := by simpa using v
          rw [this]; rfl
        clear hsd g5
        by_cases u : c = 116
        · subst u
          have hv : isT l[j] = false := by simpa using v
          clear v hcc
          repeat' (first | (with_reducible refine T.sq fun K hK => ?_) | ((first | ((with_reducible refine T.reg hE ?hd ?_); (case hd => kernel_rfl)) | ((with_reducible refine T.any hE mixed ?hd ?hok ?_); (case hd => kernel_rfl); (case hok => kernel_rfl))); simp [*]; (repeat' (split; all_goals (rename_i hc; try simp [*])))) | ((with_reducible refine T.ret ?_); refine fin_pure ?_; simp [*]; try (change Hold _)) | (with_reducible refine T.block ?_) | ((with_reducible refine T.skip ?_); simp [*]) | ((with_reducible refine T.exit ?_); simp [*]) | ((with_reducible refine T.br fun K1 K2 hK1 hK2 => ?_); simp [*]; try ((refine Br.intro (fun hc => ?_) (fun hc => ?_)) <;> (try simp at hc))) | (with_reducible refine Cont.go (by assumption) _ ?_) | (with_reducible refine Cnt.go (by assumption) ?_))
          all_goals (unfold Hold at *; rw [hn])
        · have hv : isT l[j] = true := by simpa [u] using v
          have hu : ¬ (c.toNat : Int) = 116 := fun h => u (hcc.1 h)
          clear v hcc u
          repeat' (first | (with_reducible refine T.sq fun K hK => ?_) | ((first | ((with_reducible refine T.reg hE ?hd ?_); (case hd => kernel_rfl)) | ((with_reducible refine T.any hE mixed ?hd ?hok ?_); (case hd => kernel_rfl); (case hok => kernel_rfl))); simp [*]; (repeat' (split; all_goals (rename_i hc; try simp [*])))) | ((with_reducible refine T.ret ?_); refine fin_pure ?_; simp [*]; try (change Hold _)) | (with_reducible refine T.block ?_) | ((with_reducible refine T.skip ?_); simp [*]) | ((with_reducible refine T.exit ?_); simp [*]) | ((with_reducible refine T.br fun K1 K2 hK1 hK2 => ?_); simp [*]; try ((refine Br.intro (fun hc => ?_) (fun hc => ?_)) <;> (try simp at hc))) | (with_reducible refine Cont.go (by assumption) _ ?_) | (with_reducible refine Cnt.go (by assumption) ?_))
          all_goals (unfold Hold at *; rw [hn])
    · have w8 : j = l.length := by omega
      have hn : Hold (sortE l s = 0) := by
        unfold Hold at *
        rw [hf, g5, w8, List.drop_length, sortsOk]; rfl
      clear g5 hall
      repeat' (first | (with_reducible refine T.sq fun K hK => ?_) | ((first | ((with_reducible refine T.reg hE ?hd ?_); (case hd => kernel_rfl)) | ((with_reducible refine T.any hE mixed ?hd ?hok ?_); (case hd => kernel_rfl); (case hok => kernel_rfl))); simp [*]; (repeat' (split; all_goals (rename_i hc; try simp [*])))) | ((with_reducible refine T.ret ?_); refine fin_pure ?_; simp [*]; try (change Hold _)) | (with_reducible refine T.block ?_) | ((with_reducible refine T.skip ?_); simp [*]) | ((with_reducible refine T.exit ?_); simp [*]) | ((with_reducible refine T.br fun K1 K2 hK1 hK2 => ?_); simp [*]; try ((refine Br.intro (fun hc => ?_) (fun hc => ?_)) <;> (try simp at hc))) | (with_reducible refine Cont.go (by assumption) _ ?_) | (with_reducible refine Cnt.go (by assumption) ?_))
      all_goals (unfold Hold at *; rw [hn])
  · cases hr

/-! ### Swapped -/
mutual
def swE (t u : Ex) (own : Nat) : Ex → Ex → Bool → Bool
  | .mk k i l, b, may => (may && decide (ordE (.mk k i l) t = 0) && decide (ordE b u = 0)) || (decide (k = b.k) && decide (i = b.i) && decide (l.length = b.kids.length) && swL t u own l b.kids (may && !((decide (k = 7) || decide (k = 10)) && hasB own i)))
def swL (t u : Ex) (own : Nat) : List Ex → List Ex → Bool → Bool
  | e :: l, f :: m, w => swE t u own e f w && swL t u own l m w
  | _, _, _ => true
end
theorem swL_eq (t u : Ex) (own : Nat) (w : Bool) : ∀ l m, swL t u own l m w = all2 (fun a b => swE t u own a b w) l m
  | e :: l, f :: m => by rw [swL, all2, swL_eq t u own w l m]
  | [], [] => by simp [swL, all2]
  | [], f :: m => by simp [swL, all2]
  | e :: l, [] => by simp [swL, all2]
def hitB (a b t u : Ex) (may : Bool) : Bool := may && decide (ordE a t = 0) && decide (ordE b u = 0)
def nxM (a : Ex) (own : Nat) (may : Bool) : Bool := may && !(isQ a && hasB own a.i)
theorem swE_eq (t u : Ex) (own : Nat) (a b : Ex) (may : Bool) : swE t u own a b may = (hitB a b t u may || (decide (a.k = b.k) && decide (a.i = b.i) && decide (a.kids.length = b.kids.length) && all2 (fun x y => swE t u own x y (nxM a own may)) a.kids b.kids)) := by
  cases a; rw [swE, swL_eq]; rfl
theorem sw_len_false (t u : Ex) (own : Nat) (a b : Ex) (may : Bool) (hh : hitB a b t u may = false) (h : ¬ b.k = a.k ∨ ¬ b.i = a.i ∨ ¬ b.kids.length = a.kids.length) : swE t u own a b may = false := by
  rw [swE_eq, hh]
  rcases h with h | h | h
  · have : ¬ a.k = b.k := fun e => h e.symm
    simp [this]
  · have : ¬ a.i = b.i := fun e => h e.symm
    simp [this]
  · have : ¬ a.kids.length = b.kids.length := fun e => h e.symm
    simp [this]
theorem sw_kids (t u : Ex) (own : Nat) (a b : Ex) (may : Bool) (hh : hitB a b t u may = false) (h1 : b.k = a.k) (h2 : b.i = a.i) (h3 : b.kids.length = a.kids.length) : swE t u own a b may = all2 (fun x y => swE t u own x y (nxM a own may)) a.kids b.kids := by
  rw [swE_eq, hh]; simp [h1, h2, h3]
def okSw (a : Ex) (own : Int) : Prop := allX a = true ∧ isU64 own
noncomputable instance (a : Ex) (own : Int) : Decidable (okSw a own) := Classical.propDecidable _
@[simp] noncomputable def gSwR : List V → Option V := f6 kE kE kE kE (kI .u64) kB fun a b t u own may => if okSw a own then some (.bool (swE t u own.toNat a b may)) else none
def Hits (a b t u : Ex) (may : Bool) : Prop := may = false ∨ (may = true ∧ ¬ ordE a t = 0) ∨ (may = true ∧ ordE a t = 0 ∧ ¬ ordE b u = 0)
theorem hits_of {a b t u : Ex} {may : Bool} (h : hitB a b t u may = false) : Hits a b t u may := by
  unfold hitB at h
  cases may with
  | false => exact .inl rfl
  | true =>
    by_cases c : ordE a t = 0
    · by_cases d : ordE b u = 0
      · simp [c, d] at h
      · exact .inr (.inr ⟨rfl, c, d⟩)
    · exact .inr (.inl ⟨rfl, c⟩)
set_option maxHeartbeats 4000000 in
theorem ok_rSwap : PureOk Tryz.prog 102 gSwR := by
  refine rec6 fun a ih b t u own may r hr => ?_
  split at hr
  · rename_i hm
    obtain ⟨ha, hu0⟩ := hm
    cases hr
    obtain ⟨own, rfl, hown⟩ := u64_of hu0
    simp only [Int.toNat_natCast] at *
    have hE := (((((EnvOk.nil (P := Tryz.prog) (eq := fun _ => false) (own := fun _ => false) (mem := fun _ => false) EqOk.none).addf ok_rLike).addf ok_rQuant).addf ok_rHas).addf ih)
    refine ⟨⟨Tryz.f102, Tryz.func102, by decide, rfl⟩, pure_of_T Tryz.func102 rfl (by simp [Tryz.ntmps102]) fun q => ?_⟩
    by_cases hh : hitB a b t u may = true
    · have hn : Hold (swE t u own a b may = true) := by unfold Hold; rw [swE_eq, hh]; rfl
      unfold hitB at hh
      simp only [Bool.and_eq_true, decide_eq_true_eq] at hh
      obtain ⟨⟨q1, q2⟩, q3⟩ := hh
      rw [q1] at hn
      repeat' (first | (with_reducible refine T.sq fun K hK => ?_) | ((first | ((with_reducible refine T.reg hE ?hd ?_); (case hd => kernel_rfl)) | ((with_reducible refine T.any hE mixed ?hd ?hok ?_); (case hd => kernel_rfl); (case hok => kernel_rfl))); simp [*]; (repeat' (split; all_goals (rename_i hc; try simp [*])))) | ((with_reducible refine T.ret ?_); refine fin_pure ?_; simp [*]; try (change Hold _)) | (with_reducible refine T.block ?_) | ((with_reducible refine T.skip ?_); simp [*]) | ((with_reducible refine T.exit ?_); simp [*]) | ((with_reducible refine T.br fun K1 K2 hK1 hK2 => ?_); simp [*]; try ((refine Br.intro (fun hc => ?_) (fun hc => ?_)) <;> (try simp at hc))) | (with_reducible refine Cont.go (by assumption) _ ?_) | (with_reducible refine Cnt.go (by assumption) ?_))
      all_goals (unfold Hold at *; rw [hn])
    rw [Bool.not_eq_true] at hh
    have hcase := hits_of hh
    refine T.sq fun K0 hK0 => ?_
    refine T.reg hE rfl ?_
    simp
    refine hK0.go _ ?_
    refine T.sq fun K1 hK1 => ?_
    suffices j1 : ∀ σ : St, (σ.get 25 = .bool false ∧ σ.get 4 = .int .u64 (own : Nat) ∧ σ.get 5 = .bool may ∧ σ.get 6 = .ptr (0 :: 8 :: q) 0 ∧ σ.get 7 = .ptr (0 :: 9 :: q) 0 ∧ σ.get 8 = .ptr (0 :: 10 :: q) 0 ∧ σ.get 9 = .ptr (0 :: 11 :: q) 0 ∧ σ.M (0 :: 8 :: q) = some (.cells (encC a)) ∧ σ.M (0 :: 9 :: q) = some (.cells (encC b)) ∧ σ.M (0 :: 10 :: q) = some (.cells (encC t)) ∧ σ.M (0 :: 11 :: q) = some (.cells (encC u))) → K1 σ by
      clear hK1
      rcases hcase with q1 | ⟨q1, q2⟩ | ⟨q1, q2, q3⟩
      all_goals (
        repeat' (first | (with_reducible refine T.sq fun K hK => ?_) | ((first | ((with_reducible refine T.reg hE ?hd ?_); (case hd => kernel_rfl)) | ((with_reducible refine T.any hE mixed ?hd ?hok ?_); (case hd => kernel_rfl); (case hok => kernel_rfl))); simp [*]; (repeat' (split; all_goals (rename_i hc; try simp [*])))) | ((with_reducible refine T.ret ?_); refine fin_pure ?_; simp [*]; try (change Hold _)) | (with_reducible refine T.block ?_) | ((with_reducible refine T.skip ?_); simp [*]) | ((with_reducible refine T.exit ?_); simp [*]) | ((with_reducible refine T.br fun K1 K2 hK1 hK2 => ?_); simp [*]; try ((refine Br.intro (fun hc => ?_) (fun hc => ?_)) <;> (try simp at hc))) | (with_reducible refine Cont.go (by assumption) _ ?_) | (with_reducible refine Cnt.go (by assumption) ?_))
        all_goals (refine j1 _ ⟨?_, ?_, ?_, ?_, ?_, ?_, ?_, ?_, ?_, ?_, ?_⟩ <;> simp [*, encC_eq]))
    rintro σ ⟨b1, b4, b5, b6, b7, b8, b9, n1, n2, n3, n4⟩
    refine hK1.go σ ?_
    clear hK1 hK0 hcase
    rw [encC_eq] at n1 n2 n3 n4
    by_cases c1 : b.k = a.k
    rotate_left
    · have c1' : ¬ a.k = b.k := fun h => c1 h.symm
      have hn : Hold (swE t u own a b may = false) := sw_len_false t u own a b may hh (.inl c1)
      repeat' (first | (with_reducible refine T.sq fun K hK => ?_) | ((first | ((with_reducible refine T.reg hE ?hd ?_); (case hd => kernel_rfl)) | ((with_reducible refine T.any hE mixed ?hd ?hok ?_); (case hd => kernel_rfl); (case hok => kernel_rfl))); simp [*]; (repeat' (split; all_goals (rename_i hc; try simp [*])))) | ((with_reducible refine T.ret ?_); refine fin_pure ?_; simp [*]; try (change Hold _)) | (with_reducible refine T.block ?_) | ((with_reducible refine T.skip ?_); simp [*]) | ((with_reducible refine T.exit ?_); simp [*]) | ((with_reducible refine T.br fun K1 K2 hK1 hK2 => ?_); simp [*]; try ((refine Br.intro (fun hc => ?_) (fun hc => ?_)) <;> (try simp at hc))) | (with_reducible refine Cont.go (by assumption) _ ?_) | (with_reducible refine Cnt.go (by assumption) ?_))
      all_goals (unfold Hold at *; rw [hn])
    by_cases c2 : b.i = a.i
    rotate_left
    · have c2' : ¬ a.i = b.i := fun h => c2 h.symm
      have hn : Hold (swE t u own a b may = false) := sw_len_false t u own a b may hh (.inr (.inl c2))
      repeat' (first | (with_reducible refine T.sq fun K hK => ?_) | ((first | ((with_reducible refine T.reg hE ?hd ?_); (case hd => kernel_rfl)) | ((with_reducible refine T.any hE mixed ?hd ?hok ?_); (case hd => kernel_rfl); (case hok => kernel_rfl))); simp [*]; (repeat' (split; all_goals (rename_i hc; try simp [*])))) | ((with_reducible refine T.ret ?_); refine fin_pure ?_; simp [*]; try (change Hold _)) | (with_reducible refine T.block ?_) | ((with_reducible refine T.skip ?_); simp [*]) | ((with_reducible refine T.exit ?_); simp [*]) | ((with_reducible refine T.br fun K1 K2 hK1 hK2 => ?_); simp [*]; try ((refine Br.intro (fun hc => ?_) (fun hc => ?_)) <;> (try simp at hc))) | (with_reducible refine Cont.go (by assumption) _ ?_) | (with_reducible refine Cnt.go (by assumption) ?_))
      all_goals (unfold Hold at *; rw [hn])
    by_cases c3 : b.kids.length = a.kids.length
    rotate_left
    · have c3' : ¬ (a.kids.length : Int) = (b.kids.length : Int) := by omega
      have hn : Hold (swE t u own a b may = false) := sw_len_false t u own a b may hh (.inr (.inr c3))
      repeat' (first | (with_reducible refine T.sq fun K hK => ?_) | ((first | ((with_reducible refine T.reg hE ?hd ?_); (case hd => kernel_rfl)) | ((with_reducible refine T.any hE mixed ?hd ?hok ?_); (case hd => kernel_rfl); (case hok => kernel_rfl))); simp [*]; (repeat' (split; all_goals (rename_i hc; try simp [*])))) | ((with_reducible refine T.ret ?_); refine fin_pure ?_; simp [*]; try (change Hold _)) | (with_reducible refine T.block ?_) | ((with_reducible refine T.skip ?_); simp [*]) | ((with_reducible refine T.exit ?_); simp [*]) | ((with_reducible refine T.br fun K1 K2 hK1 hK2 => ?_); simp [*]; try ((refine Br.intro (fun hc => ?_) (fun hc => ?_)) <;> (try simp at hc))) | (with_reducible refine Cont.go (by assumption) _ ?_) | (with_reducible refine Cnt.go (by assumption) ?_))
      all_goals (unfold Hold at *; rw [hn])
    have hn : Hold (swE t u own a b may = all2 (fun x y => swE t u own x y (nxM a own may)) a.kids b.kids) := sw_kids t u own a b may hh c1 c2 c3
    have hokk : ∀ (j : Nat) (hj : j < a.kids.length), okSw a.kids[j] (own : Int) := fun j hj => ⟨allX_kid ha j hj, hu0⟩
    have hq : ∃ W, Hold (W = nxM a own may) ∧ ((isQ a = true ∧ hasB own a.i = true ∧ W = false) ∨ (isQ a = true ∧ hasB own a.i = false ∧ W = may) ∨ (isQ a = false ∧ W = may)) := by
      refine ⟨_, rfl, ?_⟩
      unfold nxM
      cases isQ a <;> cases hasB own a.i <;> cases may <;> simp
    obtain ⟨W, hW, hq⟩ := hq
    obtain ⟨F, hF⟩ : ∃ F : Ex → Ex → Bool, ∀ x y, swE t u own x y W = F x y := ⟨_, fun _ _ => rfl⟩
    have hn2 : Hold (swE t u own a b may = all2 F a.kids b.kids) := by
      unfold Hold at *
      rw [hn, ← hW]
      congr 1
      funext x y; exact hF x y
    clear hn hW hh
    rcases hq with ⟨z1, z2, z3⟩ | ⟨z1, z2, z3⟩ | ⟨z1, z3⟩
    all_goals (
      rw [z3] at hF
      skip
      repeat' (first | (with_reducible refine T.sq fun K hK => ?_) | ((first | ((with_reducible refine T.reg hE ?hd ?_); (case hd => kernel_rfl)) | ((with_reducible refine T.any hE mixed ?hd ?hok ?_); (case hd => kernel_rfl); (case hok => kernel_rfl))); simp [*]; (repeat' (split; all_goals (rename_i hc; try simp [*])))) | ((with_reducible refine T.ret ?_); refine fin_pure ?_; simp [*]; try (change Hold _)) | (with_reducible refine T.block ?_) | ((with_reducible refine T.skip ?_); simp [*]) | ((with_reducible refine T.exit ?_); simp [*]) | ((with_reducible refine T.br fun K1 K2 hK1 hK2 => ?_); simp [*]; try ((refine Br.intro (fun hc => ?_) (fun hc => ?_)) <;> (try simp at hc))) | (with_reducible refine Cont.go (by assumption) _ ?_) | (with_reducible refine Cnt.go (by assumption) ?_))
      refine T.len (t := 57) (els := encL a.kids) (tk := .no) (by simp [*]) fun hlen => ?_
      rw [encL_length] at hlen
      refine T.loop (fun n σ => ∃ (j : Nat), n = a.kids.length - j ∧ σ.get 4 = .int .u64 (own : Nat) ∧ σ.get 13 = .bool W ∧ σ.get 58 = .int .i64 a.kids.length ∧ σ.get 59 = .int .i64 j ∧ σ.get 6 = .ptr (0 :: 8 :: q) 0 ∧ σ.get 7 = .ptr (0 :: 9 :: q) 0 ∧ σ.get 8 = .ptr (0 :: 10 :: q) 0 ∧ σ.get 9 = .ptr (0 :: 11 :: q) 0 ∧ σ.M (0 :: 8 :: q) = some (.cells (encC a)) ∧ σ.M (0 :: 9 :: q) = some (.cells (encC b)) ∧ σ.M (0 :: 10 :: q) = some (.cells (encC t)) ∧ σ.M (0 :: 11 :: q) = some (.cells (encC u)) ∧ j ≤ a.kids.length ∧ Hold (all2 F (a.kids.take j) (b.kids.take j) = true)) a.kids.length ⟨0, by simp [*, encC_eq, Hold, all2]⟩ ?_
      clear z1 c1 c2 b1 b4 b5 b6 b7 b8 b9 n1 n2 n3 n4
      rintro n σ ⟨j, rfl, g0, gw, g1, g2, g3, g4, g5, g6, m1, m2, m3, m4, g10, g11⟩
      rw [encC_eq] at m1 m2 m3 m4
      by_cases hj : j < a.kids.length
      · have hj2 : j < b.kids.length := by omega
        have hw := wrap_succ hlen hj
        have hs := ex_kid_lt a j hj
        have hok := hokk j hj
        have c5 := all2_take F a.kids b.kids j hj hj2
        by_cases v : F a.kids[j] b.kids[j] = true
        · have c6 : Hold (all2 F (a.kids.take (j + 1)) (b.kids.take (j + 1)) = true) := by unfold Hold at *; rw [c5, g11, v]; rfl
          clear c5
          repeat' (first | (with_reducible refine T.sq fun K hK => ?_) | ((first | ((with_reducible refine T.reg hE ?hd ?_); (case hd => kernel_rfl)) | ((with_reducible refine T.any hE mixed ?hd ?hok ?_); (case hd => kernel_rfl); (case hok => kernel_rfl))); simp [*]; (repeat' (split; all_goals (rename_i hc; try simp [*])))) | ((with_reducible refine T.ret ?_); refine fin_pure ?_; simp [*]; try (change Hold _)) | (with_reducible refine T.block ?_) | ((with_reducible refine T.skip ?_); simp [*]) | ((with_reducible refine T.exit ?_); simp [*]) | ((with_reducible refine T.br fun K1 K2 hK1 hK2 => ?_); simp [*]; try ((refine Br.intro (fun hc => ?_) (fun hc => ?_)) <;> (try simp at hc))) | (with_reducible refine Cont.go (by assumption) _ ?_) | (with_reducible refine Cnt.go (by assumption) ?_))
          refine ⟨_, by omega, j + 1, rfl, ?_⟩
          (repeat' apply And.intro) <;> first | omega | exact c6 | (simp [encC_eq, *]; done)
        · rw [Bool.not_eq_true] at v
          have c6 : all2 F a.kids b.kids = false := all2_false _ _ _ j hj hj2 v
          unfold Hold at hn2
          rw [c6] at hn2
          clear c5 c6
          have hn3 : Hold _ := hn2
          clear hn2
          repeat' (first | (with_reducible refine T.sq fun K hK => ?_) | ((first | ((with_reducible refine T.reg hE ?hd ?_); (case hd => kernel_rfl)) | ((with_reducible refine T.any hE mixed ?hd ?hok ?_); (case hd => kernel_rfl); (case hok => kernel_rfl))); simp [*]; (repeat' (split; all_goals (rename_i hc; try simp [*])))) | ((with_reducible refine T.ret ?_); refine fin_pure ?_; simp [*]; try (change Hold _)) | (with_reducible refine T.block ?_) | ((with_reducible refine T.skip ?_); simp [*]) | ((with_reducible refine T.exit ?_); simp [*]) | ((with_reducible refine T.br fun K1 K2 hK1 hK2 => ?_); simp [*]; try ((refine Br.intro (fun hc => ?_) (fun hc => ?_)) <;> (try simp at hc))) | (with_reducible refine Cont.go (by assumption) _ ?_) | (with_reducible refine Cnt.go (by assumption) ?_))
          all_goals (unfold Hold at *; first | (rw [hn3]; done) | (rw [← hF, hn3]; done))
      · have w8 : j = a.kids.length := by omega
        have w9 : a.kids.take j = a.kids := by rw [w8, List.take_length]
        have w10 : b.kids.take j = b.kids := by rw [w8, ← c3, List.take_length]
        rw [w9, w10] at g11
        unfold Hold at hn2 g11
        rw [g11] at hn2
        have hn3 : Hold _ := hn2
        clear w9 w10 hn2
        repeat' (first | (with_reducible refine T.sq fun K hK => ?_) | ((first | ((with_reducible refine T.reg hE ?hd ?_); (case hd => kernel_rfl)) | ((with_reducible refine T.any hE mixed ?hd ?hok ?_); (case hd => kernel_rfl); (case hok => kernel_rfl))); simp [*]; (repeat' (split; all_goals (rename_i hc; try simp [*])))) | ((with_reducible refine T.ret ?_); refine fin_pure ?_; simp [*]; try (change Hold _)) | (with_reducible refine T.block ?_) | ((with_reducible refine T.skip ?_); simp [*]) | ((with_reducible refine T.exit ?_); simp [*]) | ((with_reducible refine T.br fun K1 K2 hK1 hK2 => ?_); simp [*]; try ((refine Br.intro (fun hc => ?_) (fun hc => ?_)) <;> (try simp at hc))) | (with_reducible refine Cont.go (by assumption) _ ?_) | (with_reducible refine Cnt.go (by assumption) ?_))
        all_goals (unfold Hold at *; first | (rw [hn3]; done) | (rw [← hF, hn3]; done)))
  · cases hr
end Go.Proofs.YtibfdebhbibfpaaGreat.Ax
