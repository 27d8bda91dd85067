/- Contracts: what is caught; FreeCatches, walked. -/
import Derived.Test.YtdpphpdjimmpbaaBxX
import Derived.Test.YtdpphpdjimmpbaaPlG
import Derived.Test.YtdpphpdjimmpbaaBxZ
set_option linter.unusedVariables false
set_option linter.unusedSimpArgs false
namespace Go.Proofs.Ytdpphpdjimmpbaa.Ax
section
open Go Go.Proofs

section
variable {P : Program} {f : FuncId} {β γ : Type} {B : Kd β} {C : Kd γ}
theorem recz {F : β → γ → Ex → Option V} (h : ∀ e, PureOk P f (f3 B C kE fun b c x => if SizeOf.sizeOf x < SizeOf.sizeOf e then F b c x else none) → ∀ b c r, F b c e = some r → Okat P f [B.enc b, C.enc c, enc e] r) : PureOk P f (f3 B C kE F) := by
  have main : ∀ (n : Nat) (e : Ex), SizeOf.sizeOf e < n → ∀ b c r, F b c e = some r → Okat P f [B.enc b, C.enc c, enc e] r := by
    intro n
    induction n with
    | zero => intro e he; omega
    | succ n ih =>
      intro e he b c r hr
      refine h e (fun args r h1 => ?_) b c r hr
      obtain ⟨b, c, x, rfl, h2⟩ := f3_inv h1
      split at h2
      · rename_i hlt; exact ih x (by omega) b c r h2
      · cases h2
  intro args r h1
  obtain ⟨b, c, x, rfl, h2⟩ := f3_inv h1
  exact main _ x (Nat.lt_succ_self _) b c r h2
end
def wantT (e : Ex) : Int := if rightE e ≠ 0 then rightE e else if isT e then 0 else 40
@[simp] def gWantT : List V → Option V := f1 kE fun e => some (.int .i64 (wantT e))
theorem ok_rWantT : PureOk Try.prog 48 gWantT := by
  intro args r h
  obtain ⟨e, rfl, ⟨⟩⟩ := f1_inv h
  clear h
  have hE := (((EnvOk.nil (P := Try.prog) (eq := fun _ => false) (own := fun _ => false) (mem := fun _ => false) EqOk.none).addf ok_rRight).addf ok_rTerm)
  refine ⟨⟨Try.f48, Try.func48, by decide, rfl⟩, pure_of_T Try.func48 rfl (by simp [Try.ntmps48]) fun q => ?_⟩
  by_cases v : rightE e = 0
  · by_cases u : isT e = true
    · repeat' (first
        | (with_reducible refine T.sq fun K hK => ?_)
        | ((first | ((with_reducible refine T.reg hE ?hd ?_); (case hd => kernel_rfl)) | ((with_reducible refine T.any hE mixed ?hd ?hok ?_); (case hd => kernel_rfl); (case hok => kernel_rfl))); simp [*]; (repeat' (split; all_goals (rename_i hc; try simp [*]))))
        | ((with_reducible refine T.ret ?_); refine fin_pure ?_; simp [*]; try (change Hold _))
        | (with_reducible refine T.block ?_)
        | ((with_reducible refine T.skip ?_); simp [*])
        | ((with_reducible refine T.exit ?_); simp [*])
        | ((with_reducible refine T.br fun K1 K2 hK1 hK2 => ?_); simp [*]; try ((refine Br.intro (fun hc => ?_) (fun hc => ?_)) <;> (try simp at hc)))
        | (with_reducible refine Cont.go (by assumption) _ ?_)
        | (with_reducible refine Cnt.go (by assumption) ?_))
      all_goals (unfold Hold wantT; simp [v, u])
    · repeat' (first
        | (with_reducible refine T.sq fun K hK => ?_)
        | ((first | ((with_reducible refine T.reg hE ?hd ?_); (case hd => kernel_rfl)) | ((with_reducible refine T.any hE mixed ?hd ?hok ?_); (case hd => kernel_rfl); (case hok => kernel_rfl))); simp [*]; (repeat' (split; all_goals (rename_i hc; try simp [*]))))
        | ((with_reducible refine T.ret ?_); refine fin_pure ?_; simp [*]; try (change Hold _))
        | (with_reducible refine T.block ?_)
        | ((with_reducible refine T.skip ?_); simp [*])
        | ((with_reducible refine T.exit ?_); simp [*])
        | ((with_reducible refine T.br fun K1 K2 hK1 hK2 => ?_); simp [*]; try ((refine Br.intro (fun hc => ?_) (fun hc => ?_)) <;> (try simp at hc)))
        | (with_reducible refine Cont.go (by assumption) _ ?_)
        | (with_reducible refine Cnt.go (by assumption) ?_))
      all_goals (unfold Hold wantT; simp [v, u])
  · repeat' (first
      | (with_reducible refine T.sq fun K hK => ?_)
      | ((first | ((with_reducible refine T.reg hE ?hd ?_); (case hd => kernel_rfl)) | ((with_reducible refine T.any hE mixed ?hd ?hok ?_); (case hd => kernel_rfl); (case hok => kernel_rfl))); simp [*]; (repeat' (split; all_goals (rename_i hc; try simp [*]))))
      | ((with_reducible refine T.ret ?_); refine fin_pure ?_; simp [*]; try (change Hold _))
      | (with_reducible refine T.block ?_)
      | ((with_reducible refine T.skip ?_); simp [*])
      | ((with_reducible refine T.exit ?_); simp [*])
      | ((with_reducible refine T.br fun K1 K2 hK1 hK2 => ?_); simp [*]; try ((refine Br.intro (fun hc => ?_) (fun hc => ?_)) <;> (try simp at hc)))
      | (with_reducible refine Cont.go (by assumption) _ ?_)
      | (with_reducible refine Cnt.go (by assumption) ?_))
    all_goals (unfold Hold wantT; simp [v])
def okCat (own : Int) (e : Ex) : Prop := isU64 own ∧ okX e
noncomputable instance (own : Int) (e : Ex) : Decidable (okCat own e) := Classical.propDecidable _
@[simp] noncomputable def gCat : List V → Option V := f3 (kI .u64) (kI .i64) kE fun own x e => if okCat own e then some (.int .u64 (catE own.toNat x e : Nat)) else none
theorem own_pw {own : Nat} {k i : Int} (hi : 0 ≤ i ∧ i ≤ 63) (hq : k = 7 ∨ k = 10) : own &&& binP k i = if hasB own i = true then pw i.toNat else 0 := by
  unfold binP hasB
  rw [if_pos hq, show pw i.toNat = 2 ^ i.toNat from rfl, and_pow, decide_eq_true hi.1, decide_eq_true (show i < 64 by omega)]
  simp
def ctErr (t : Ex) (x : Int) (a : Ex) : Int := if 0 ≤ x ∧ x ≤ 63 then if bothE t a ≠ 0 then bothE t a else if isT t = true then 0 else 40 else 1
def ctS (t : Ex) (x : Int) (a : Ex) : Nat := if ctErr t x a = 0 then catE (vaE t) x a else 0
theorem ct_good {t : Ex} {x : Int} {a : Ex} (h : ctErr t x a = 0) : ctS t x a = catE (vaE t) x a := by unfold ctS; rw [if_pos h]
theorem ct_bad {t : Ex} {x : Int} {a : Ex} {n : Int} (h : ctErr t x a = n) (hn : n ≠ 0) : ctS t x a = 0 := by unfold ctS; rw [h, if_neg hn]
theorem ct_ok {t : Ex} {x : Int} {a : Ex} (h : ctErr t x a = 0) : (0 ≤ x ∧ x ≤ 63) ∧ rightE t = 0 ∧ rightE a = 0 ∧ isT t = true := by
  unfold ctErr at h
  split at h
  · rename_i hx
    split at h
    · rename_i hb; exact absurd h hb
    · rename_i hb
      have hb : bothE t a = 0 := by omega
      split at h
      · rename_i ht
        unfold bothE at hb
        split at hb
        · rename_i h1; exact absurd hb h1
        · exact ⟨hx, by omega, hb, ht⟩
      · cases h
  · cases h
@[simp] def gAsked : List V → Option V := f3 kE (kI .i64) kE fun t x a => some (.int .i64 (ctErr t x a))
def ctV (t : Ex) (x : Int) (a : Ex) : V := .tup [.int .u64 (ctS t x a : Nat), .int .i64 (ctErr t x a)]
theorem ctV_eq (t : Ex) (x : Int) (a : Ex) : ctV t x a = .tup [.int .u64 (ctS t x a : Nat), .int .i64 (ctErr t x a)] := rfl
@[simp] def gCaught : List V → Option V := f3 kE (kI .i64) kE fun t x a => some (.tup [.int .u64 (ctS t x a : Nat), .int .i64 (ctErr t x a)])
theorem stpC_lt {own : Nat} {y : Int} (ho : own < 18446744073709551616) : ∀ x b s, 0 ≤ x → x ≤ 63 → b < 18446744073709551616 → s < 18446744073709551616 → stpC own y x b s < 18446744073709551616 := fun x b s _ _ _ h4 => by
  unfold stpC
  split
  · exact or_lt h4 (and_lt ho)
  · exact h4
end
section
open Go Go.Proofs

def ffB (t : Ex) (x : Int) (a : Ex) : Bool := decide (ctErr t x a = 0) && decide (ctS t x a = 0)
@[simp] def gFreeFor : List V → Option V := f3 kE (kI .i64) kE fun t x a => some (.tup [.bool (ffB t x a), .int .i64 (ctErr t x a)])
theorem setV_good {F : Ex → Nat} {e : Ex} (h : rightE e = 0) : setV F e = .tup [.int .u64 (F e : Nat), .int .i64 0] := by rw [setV_eq, if_pos h, h]
theorem andNot_zero {a b : Nat} (ha : a < 18446744073709551616) (hb : b < 18446744073709551616) (h : ∀ j, b.testBit j = false → a.testBit j = false) : bits .andNot .u64 (a : Int) (b : Int) = 0 := by
  rw [bits_andNot ha hb, ndiff_dif ha hb]
  have : dif a b = 0 := by
    apply Nat.eq_of_testBit_eq
    intro j
    rw [dif_bit, Nat.zero_testBit]
    cases hj : b.testBit j
    · rw [h j hj]; rfl
    · simp
  rw [this]; rfl
theorem var_right {x : Int} (h : 0 ≤ x ∧ x ≤ 63) : rightE (.mk 1 x []) = 0 := by
  refine right_of ?_ ?_ ?_
  · rw [nodesN_eq, cntE, cntL]; omega
  · rw [depE, depL]; omega
  · rw [allX_eq]
    simp only [Ex.kids_mk]
    rw [show shapedX (.mk 1 x []) = true by unfold shapedX mostOf; simp [h.1, h.2]]
    simp
theorem imp_sets (a b : Ex) : frE (.mk 6 0 [a, b]) = frE a ||| frE b := by
  rw [frE, frL, frL, frL]; simp [binP, dif]
theorem all_fr (a : Ex) (x : Int) : frE (.mk 7 x [a]) = dif (frE a) (pw x.toNat) := by
  rw [frE, frL, frL]; simp [binP]
theorem all_bo (a : Ex) (x : Int) : boE (.mk 7 x [a]) = boE a ||| pw x.toNat := by
  rw [boE, boL, boL]; simp [binP, Nat.or_comm]
theorem all_va (a : Ex) (x : Int) : vaE (.mk 7 x [a]) = vaE a ||| pw x.toNat := by
  unfold vaE
  rw [all_bo, ocE, ocL, ocL]
  apply Nat.eq_of_testBit_eq
  intro j
  simp only [Nat.testBit_or]
  cases (boE a).testBit j <;> cases (pw x.toNat).testBit j <;> cases h : (ocE a).testBit j <;> simp [h]
theorem fr_va (a : Ex) : frE a ||| boE a = vaE a &&& (frE a ||| boE a) := by
  unfold vaE
  apply Nat.eq_of_testBit_eq
  intro j
  have := fr_oc j a
  simp only [Nat.testBit_or, Nat.testBit_and]
  cases h1 : (boE a).testBit j <;> cases h2 : (ocE a).testBit j <;> cases h3 : (frE a).testBit j <;> simp_all
end
end Go.Proofs.Ytdpphpdjimmpbaa.Ax
