/- More kinds: arrays of numbers; five arguments; two lists gone over together. -/
import Derived.Test.YtiippmhlkcbjmaaAxQ
set_option linter.unusedVariables false
set_option linter.unusedSimpArgs false
namespace Go.Proofs.Ytiippmhlkcbjmaa.Ax
open Go

/-! ### Arrays -/
def encA (l : List Int) : List V := l.map (V.int .i64)
def decA : List V → Option (List Int)
  | [] => some []
  | .int k n :: r => if k = .i64 then (decA r).map (n :: ·) else none
  | _ => none
theorem decA_inv : ∀ (cs : List V) (l : List Int), decA cs = some l → cs = encA l
  | [], l, h => by simp [decA] at h; subst h; rfl
  | c :: r, l, h => by
    cases c <;> simp only [decA] at h <;> first | (cases h; done) | skip
    rename_i k n
    split at h
    · rename_i e
      obtain ⟨m, hm, rfl⟩ := Option.map_eq_some_iff.1 h
      rw [decA_inv r m hm, e]; rfl
    · cases h
@[simp] theorem decA_encA (l : List Int) : decA (encA l) = some l := by
  induction l with
  | nil => rfl
  | cons n l ih => show decA (V.int .i64 n :: encA l) = _; simp [decA, ih]
@[simp] theorem encA_length (l : List Int) : (encA l).length = l.length := by simp [encA]
@[simp] theorem encA_cells (l : List Int) : V.cells (.agg (encA l)) = encA l := rfl
@[simp] theorem encA_one (l : List Int) : (encA l).all V.one = true := by simp [encA, List.all_eq_true, V.one]
@[simp] theorem encA_er (l : List Int) : (encA l).map V.er = encA l := by simp [encA, V.er, Function.comp_def]
theorem encA_get (l : List Int) (i : Nat) (h : i < l.length) : (encA l)[i]?.getD .junk = .int .i64 (l.getD i 0) := by simp [encA, h]
@[simp] theorem encA_getElem (l : List Int) (i : Nat) (h : i < (encA l).length) : (encA l)[i] = .int .i64 (l[i]'(by simpa using h)) := by simp [encA]
theorem encA_set (l : List Int) (i : Nat) (v : Int) (h : i < l.length) : (encA l).take i ++ V.int .i64 v :: (encA l).drop (i + 1) = encA (l.set i v) := by
  unfold encA
  rw [← List.map_take, ← List.map_drop, List.set_eq_take_append_cons_drop, if_pos h, List.map_append, List.map_cons]
def kA : Kd (List Int) := ⟨fun l => .agg (encA l), fun v => match v with | .agg cs => decA cs | _ => none, fun v a h => by
  split at h
  · rw [decA_inv _ _ h]
  · cases h⟩
@[simp] theorem kA_enc (l : List Int) : kA.enc l = .agg (encA l) := rfl
@[simp] theorem kA_dec (cs : List V) : kA.dec (.agg cs) = decA cs := rfl

section
variable {α β γ δ ε ρ : Type}
def f5 (A : Kd α) (B : Kd β) (C : Kd γ) (D : Kd δ) (E : Kd ε) (f : α → β → γ → δ → ε → Option ρ) : List V → Option ρ
  | [a, b, c, d, e] => (A.dec a).bind fun a => (B.dec b).bind fun b => (C.dec c).bind fun c => (D.dec d).bind fun d => (E.dec e).bind fun e => f a b c d e
  | _ => none
variable {A : Kd α} {B : Kd β} {C : Kd γ} {D : Kd δ} {E : Kd ε}
@[simp] theorem f5_ap (f : α → β → γ → δ → ε → Option ρ) (a b c d e : V) : f5 A B C D E f [a, b, c, d, e] = (A.dec a).bind fun a => (B.dec b).bind fun b => (C.dec c).bind fun c => (D.dec d).bind fun d => (E.dec e).bind fun e => f a b c d e := rfl
theorem f5_inv {f : α → β → γ → δ → ε → Option ρ} {args : List V} {r : ρ} (h : f5 A B C D E f args = some r) : ∃ a b c d e, args = [A.enc a, B.enc b, C.enc c, D.enc d, E.enc e] ∧ f a b c d e = some r := by
  unfold f5 at h
  split at h
  · obtain ⟨a, ha, h⟩ := Option.bind_eq_some_iff.1 h
    obtain ⟨b, hb, h⟩ := Option.bind_eq_some_iff.1 h
    obtain ⟨c, hc, h⟩ := Option.bind_eq_some_iff.1 h
    obtain ⟨d, hd, h⟩ := Option.bind_eq_some_iff.1 h
    obtain ⟨e, he, h⟩ := Option.bind_eq_some_iff.1 h
    exact ⟨a, b, c, d, e, by rw [A.inv _ _ ha, B.inv _ _ hb, C.inv _ _ hc, D.inv _ _ hd, E.inv _ _ he], h⟩
  · cases h
end
section
variable {P : Program} {f : FuncId} {β γ δ ε : Type} {B : Kd β} {C : Kd γ} {D : Kd δ} {E : Kd ε}
theorem rec4 {F : Ex → β → γ → δ → Option V} (h : ∀ e, PureOk P f (f4 kE B C D fun x b c d => if SizeOf.sizeOf x < SizeOf.sizeOf e then F x b c d else none) → ∀ b c d r, F e b c d = some r → Okat P f [enc e, B.enc b, C.enc c, D.enc d] r) : PureOk P f (f4 kE B C D F) := by
  have main : ∀ (n : Nat) (e : Ex), SizeOf.sizeOf e < n → ∀ b c d r, F e b c d = some r → Okat P f [enc e, B.enc b, C.enc c, D.enc d] r := by
    intro n
    induction n with
    | zero => intro e he; omega
    | succ n ih =>
      intro e he b c d r hr
      refine h e (fun args r h1 => ?_) b c d r hr
      obtain ⟨x, b, c, d, rfl, h2⟩ := f4_inv h1
      split at h2
      · rename_i hlt; exact ih x (by omega) b c d r h2
      · cases h2
  intro args r h1
  obtain ⟨x, b, c, d, rfl, h2⟩ := f4_inv h1
  exact main _ x (Nat.lt_succ_self _) b c d r h2
theorem rec5 {F : Ex → β → γ → δ → ε → Option V} (h : ∀ e, PureOk P f (f5 kE B C D E fun x b c d z => if SizeOf.sizeOf x < SizeOf.sizeOf e then F x b c d z else none) → ∀ b c d z r, F e b c d z = some r → Okat P f [enc e, B.enc b, C.enc c, D.enc d, E.enc z] r) : PureOk P f (f5 kE B C D E F) := by
  have main : ∀ (n : Nat) (e : Ex), SizeOf.sizeOf e < n → ∀ b c d z r, F e b c d z = some r → Okat P f [enc e, B.enc b, C.enc c, D.enc d, E.enc z] r := by
    intro n
    induction n with
    | zero => intro e he; omega
    | succ n ih =>
      intro e he b c d z r hr
      refine h e (fun args r h1 => ?_) b c d z r hr
      obtain ⟨x, b, c, d, z, rfl, h2⟩ := f5_inv h1
      split at h2
      · rename_i hlt; exact ih x (by omega) b c d z r h2
      · cases h2
  intro args r h1
  obtain ⟨x, b, c, d, z, rfl, h2⟩ := f5_inv h1
  exact main _ x (Nat.lt_succ_self _) b c d z r h2
end
/-! ### Two lists gone over together -/
def all2 {α : Type} (f : α → α → Bool) : List α → List α → Bool
  | a :: l, b :: m => f a b && all2 f l m
  | _, _ => true
theorem all2_take {α : Type} (f : α → α → Bool) : ∀ (l m : List α) (j : Nat) (h : j < l.length) (h' : j < m.length), all2 f (l.take (j + 1)) (m.take (j + 1)) = (all2 f (l.take j) (m.take j) && f l[j] m[j])
  | a :: l, b :: m, 0, _, _ => by simp [all2]
  | a :: l, b :: m, j + 1, h, h' => by
    simp only [List.take_succ_cons, all2, List.getElem_cons_succ]
    rw [all2_take f l m j (by simpa using h) (by simpa using h'), Bool.and_assoc]
theorem all2_false {α : Type} (f : α → α → Bool) : ∀ (l m : List α) (j : Nat) (h : j < l.length) (h' : j < m.length), f l[j] m[j] = false → all2 f l m = false
  | a :: l, b :: m, 0, _, _, hf => by simp only [List.getElem_cons_zero] at hf; simp [all2, hf]
  | a :: l, b :: m, j + 1, h, h', hf => by
    simp only [List.getElem_cons_succ] at hf
    simp [all2, all2_false f l m j (by simpa using h) (by simpa using h') hf]
end Go.Proofs.Ytiippmhlkcbjmaa.Ax
