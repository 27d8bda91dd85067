/- Words: sets of bits, numbers in sevens; functions that answer a fresh row. -/
import Derived.Test.YtaacfmakfkaddaaDoorAxR
set_option linter.unusedVariables false
set_option linter.unusedSimpArgs false
namespace Go.Proofs.YtaacfmakfkaddaaDoor.Ax
section
open Go

@[simp] theorem suf2 (q : Path) (c d : Nat) : (q <:+ c :: d :: q) = True := eq_true ⟨[c, d], rfl⟩

theorem wrapU {k : IntKind} (hk : k.signed = false) {n : Nat} (h : n < 2 ^ k.bits) : k.wrap (n : Int) = n := by
  unfold IntKind.wrap
  simp only [hk, Bool.false_and, Bool.false_eq_true, if_false]
  exact Int.emod_eq_of_lt (by omega) (by exact_mod_cast h)
theorem wrapU_mod {k : IntKind} (hk : k.signed = false) (n : Nat) : k.wrap (n : Int) = ((n % 2 ^ k.bits : Nat) : Int) := by
  unfold IntKind.wrap
  simp only [hk, Bool.false_and, Bool.false_eq_true, if_false]
  simp
theorem bv_nat {w n : Nat} (h : n < 2 ^ w) : (BitVec.ofInt w (n : Int)).toNat = n := by
  rw [BitVec.ofInt_natCast, BitVec.toNat_ofNat, Nat.mod_eq_of_lt h]
theorem bits_or {k : IntKind} (hk : k.signed = false) {a b : Nat} (ha : a < 2 ^ k.bits) (hb : b < 2 ^ k.bits) : bits .or k (a : Int) (b : Int) = ((a ||| b : Nat) : Int) := by
  unfold bits
  simp only [BitVec.toNat_or, bv_nat ha, bv_nat hb]
  exact wrapU hk (Nat.or_lt_two_pow ha hb)
theorem bits_and {k : IntKind} (hk : k.signed = false) {a b : Nat} (ha : a < 2 ^ k.bits) (hb : b < 2 ^ k.bits) : bits .and k (a : Int) (b : Int) = ((a &&& b : Nat) : Int) := by
  unfold bits
  simp only [BitVec.toNat_and, bv_nat ha, bv_nat hb]
  exact wrapU hk (Nat.and_lt_two_pow _ hb)
/-- a without b. -/
def ndiff (a b : Nat) : Nat := a &&& (18446744073709551616 - (b + 1))
theorem bits_andNot {a b : Nat} (ha : a < 18446744073709551616) (hb : b < 18446744073709551616) : bits .andNot .u64 (a : Int) (b : Int) = ((ndiff a b : Nat) : Int) := by
  unfold bits ndiff
  simp only [BitVec.toNat_and, BitVec.toNat_not]
  rw [bv_nat (w := IntKind.bits .u64) (by simpa [IntKind.bits] using ha), bv_nat (w := IntKind.bits .u64) (by simpa [IntKind.bits] using hb)]
  have e : 2 ^ IntKind.bits .u64 - 1 - b = 18446744073709551616 - (b + 1) := by
    simp only [IntKind.bits]
    omega
  rw [e]
  exact wrapU rfl (Nat.and_lt_two_pow _ (by simp [IntKind.bits]; omega))
theorem ndiff_bit {a b : Nat} (ha : a < 18446744073709551616) (hb : b < 18446744073709551616) (i : Nat) : (ndiff a b).testBit i = (a.testBit i && !b.testBit i) := by
  unfold ndiff
  rw [Nat.testBit_and, show (18446744073709551616 : Nat) = 2 ^ 64 by decide, Nat.testBit_two_pow_sub_succ (by simpa using hb)]
  by_cases h : i < 64
  · simp [h]
  · have : a.testBit i = false := Nat.testBit_lt_two_pow (Nat.lt_of_lt_of_le ha (by rw [show (18446744073709551616 : Nat) = 2 ^ 64 by decide]; exact Nat.pow_le_pow_right (by omega) (by omega)))
    simp [this]

/-! ### Numbers in sevens -/
def sev (n : Nat) : List Int := if 128 ≤ n then ((n : Int) % 128 + 128) :: sev (n / 128) else [(n : Int)]
termination_by n
decreasing_by omega
end
section
open Go

/-! ### Arrays -/
def encA (l : List Int) : List V := l.map (V.int .i64)
def decA : List V → Option (List Int)
  | [] => some []
  | .int k n :: r => if k = .i64 then (decA r).map (n :: ·) else none
  | _ => none
theorem decA_inv : ∀ (cs : List V) (l : List Int), decA cs = some l → cs = encA l
  | [], l, h => by simp [decA] at h; subst h; rfl
  | c :: r, l, h => by
    cases c <;> simp only [decA] at h <;> first | (cases h; done) | skip
    rename_i k n
    split at h
    · rename_i e
      obtain ⟨m, hm, rfl⟩ := Option.map_eq_some_iff.1 h
      rw [decA_inv r m hm, e]; rfl
    · cases h
@[simp] theorem decA_encA (l : List Int) : decA (encA l) = some l := by
  induction l with
  | nil => rfl
  | cons n l ih => show decA (V.int .i64 n :: encA l) = _; simp [decA, ih]
@[simp] theorem encA_length (l : List Int) : (encA l).length = l.length := by simp [encA]
@[simp] theorem encA_cells (l : List Int) : V.cells (.agg (encA l)) = encA l := rfl
@[simp] theorem encA_one (l : List Int) : (encA l).all V.one = true := by simp [encA, List.all_eq_true, V.one]
@[simp] theorem encA_er (l : List Int) : (encA l).map V.er = encA l := by simp [encA, V.er, Function.comp_def]
@[simp] theorem encA_getElem (l : List Int) (i : Nat) (h : i < (encA l).length) : (encA l)[i] = .int .i64 (l[i]'(by simpa using h)) := by simp [encA]
def kA : Kd (List Int) := ⟨fun l => .agg (encA l), fun v => match v with | .agg cs => decA cs | _ => none, fun v a h => by
  split at h
  · rw [decA_inv _ _ h]
  · cases h⟩
@[simp] theorem kA_enc (l : List Int) : kA.enc l = .agg (encA l) := rfl
@[simp] theorem kA_dec (cs : List V) : kA.dec (.agg cs) = decA cs := rfl

section
variable {α β γ δ ε ρ : Type}
def f5 (A : Kd α) (B : Kd β) (C : Kd γ) (D : Kd δ) (E : Kd ε) (f : α → β → γ → δ → ε → Option ρ) : List V → Option ρ
  | [a, b, c, d, e] => (A.dec a).bind fun a => (B.dec b).bind fun b => (C.dec c).bind fun c => (D.dec d).bind fun d => (E.dec e).bind fun e => f a b c d e
  | _ => none
variable {A : Kd α} {B : Kd β} {C : Kd γ} {D : Kd δ} {E : Kd ε}
@[simp] theorem f5_ap (f : α → β → γ → δ → ε → Option ρ) (a b c d e : V) : f5 A B C D E f [a, b, c, d, e] = (A.dec a).bind fun a => (B.dec b).bind fun b => (C.dec c).bind fun c => (D.dec d).bind fun d => (E.dec e).bind fun e => f a b c d e := rfl
end
section
variable {P : Program} {f : FuncId} {β γ δ ε : Type} {B : Kd β} {C : Kd γ} {D : Kd δ} {E : Kd ε}
theorem rec4 {F : Ex → β → γ → δ → Option V} (h : ∀ e, PureOk P f (f4 kE B C D fun x b c d => if SizeOf.sizeOf x < SizeOf.sizeOf e then F x b c d else none) → ∀ b c d r, F e b c d = some r → Okat P f [enc e, B.enc b, C.enc c, D.enc d] r) : PureOk P f (f4 kE B C D F) := by
  have main : ∀ (n : Nat) (e : Ex), SizeOf.sizeOf e < n → ∀ b c d r, F e b c d = some r → Okat P f [enc e, B.enc b, C.enc c, D.enc d] r := by
    intro n
    induction n with
    | zero => intro e he; omega
    | succ n ih =>
      intro e he b c d r hr
      refine h e (fun args r h1 => ?_) b c d r hr
      obtain ⟨x, b, c, d, rfl, h2⟩ := f4_inv h1
      split at h2
      · rename_i hlt; exact ih x (by omega) b c d r h2
      · cases h2
  intro args r h1
  obtain ⟨x, b, c, d, rfl, h2⟩ := f4_inv h1
  exact main _ x (Nat.lt_succ_self _) b c d r h2
end
/-! ### Two lists gone over together -/
end
section
open Go

theorem fin_mem {P : Program} {fn : Func} {σ : St} {x : V} {M' : Mem} {K' : Toks} (h : (resAll P σ fn.results.toList).pre ∧ (resAll P σ fn.results.toList).v.erase = x)
    (hM : ∀ id, M' id ≠ none → M' id = σ.M id) (hK : ∀ t, K' t = true → σ.K t = true) : fin P fn (fun y M1 K1 => y = x ∧ M1 = M' ∧ K1 = K') .ret σ :=
  ⟨h.1, M', K', hM, hK, .inr ⟨h.2, rfl, rfl⟩⟩
theorem fin_mem' {P : Program} {fn : Func} {σ : St} {x : V} {M' : Mem} {K' : Toks} (h : (resAll P σ fn.results.toList).pre ∧ (resAll P σ fn.results.toList).v.erase = x)
    (hM : ∀ id, M' id ≠ none → M' id = σ.M id) (hK : ∀ t, K' t = true → σ.K t = true) : fin P fn (fun y M1 K1 => y = x ∧ M1 = M' ∧ K1 = K') .normal σ :=
  ⟨h.1, M', K', hM, hK, .inr ⟨h.2, rfl, rfl⟩⟩
/-- What is looked at only. -/
def roOk (ro : List (Path × Box)) (M : Mem) : Prop := ∀ r ∈ ro, M r.1 = some r.2
theorem roOk_eq {ro : List (Path × Box)} {M M' : Mem} (h : roOk ro M) (he : ∀ r ∈ ro, M' r.1 = M r.1) : roOk ro M' := fun r hr => by rw [he r hr]; exact h r hr
theorem not_own {q : Path} {M : Mem} {id : Path} (hM : ∀ id, q <:+ id → M id = none) (h : M id ≠ none) (c d : Nat) : ¬ id = c :: d :: q := fun e => h (hM id (by rw [e]; exact ⟨[c, d], rfl⟩))
theorem not_own' {q : Path} {M : Mem} {id : Path} (hM : ∀ id, q <:+ id → M id = none) (h : M id ≠ none) : ¬ q <:+ id := fun e => h (hM id e)
theorem own_suf (q : Path) (c d : Nat) : q <:+ c :: d :: q := ⟨[c, d], rfl⟩
end
end Go.Proofs.YtaacfmakfkaddaaDoor.Ax
