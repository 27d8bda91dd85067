/- Contracts: terms in the place of variables, by the program. -/
import Derived.Test.YtaacfmakfkaddaaDoorPlL
set_option linter.unusedVariables false
set_option linter.unusedSimpArgs false
namespace Go.Proofs.YtaacfmakfkaddaaDoor.Ax
open Go Go.Proofs

/-- Expressions in the cells of an array. -/
def encXs (l : List Ex) : List V := l.flatMap encC
def decXs : List V → Option (List Ex)
  | [] => some []
  | a :: b :: c :: r => (decC [a, b, c]).bind fun e => (decXs r).map (e :: ·)
  | _ => none
theorem encXs_cons (e : Ex) (l : List Ex) : encXs (e :: l) = .int .i64 e.k :: .int .i64 e.i :: .sl (encL e.kids) .no :: encXs l := by
  unfold encXs
  rw [List.flatMap_cons, encC_eq]; rfl
theorem decXs_inv : ∀ (cs : List V) (l : List Ex), decXs cs = some l → cs = encXs l
  | [], l, h => by simp [decXs] at h; subst h; rfl
  | [a], l, h => by simp [decXs] at h
  | [a, b], l, h => by simp [decXs] at h
  | a :: b :: c :: r, l, h => by
    rw [decXs] at h
    obtain ⟨e, he, h⟩ := Option.bind_eq_some_iff.1 h
    obtain ⟨m, hm, rfl⟩ := Option.map_eq_some_iff.1 h
    have h1 := decC_inv _ _ he
    rw [encC_eq] at h1
    simp only [List.cons.injEq, and_true] at h1
    obtain ⟨rfl, rfl, rfl⟩ := h1
    rw [encXs_cons, decXs_inv r m hm]
@[simp] theorem decXs_encXs (l : List Ex) : decXs (encXs l) = some l := by
  induction l with
  | nil => rfl
  | cons e l ih => rw [encXs_cons, decXs, ih]; simp
@[simp] theorem encXs_er (l : List Ex) : (encXs l).map V.er = encXs l := by
  induction l with
  | nil => rfl
  | cons e l ih => rw [encXs_cons]; simp [ih, V.er]
def kT : Kd (Int × List Ex) := ⟨fun x => .cptr (.int .u64 x.1 :: encXs x.2) 0, fun v => match v with | .cptr (.int .u64 s :: r) 0 => (decXs r).map (s, ·) | _ => none, fun v a h => by
  split at h
  · obtain ⟨l, hl, rfl⟩ := Option.map_eq_some_iff.1 h
    rw [decXs_inv _ _ hl]
  · cases h⟩
@[simp] theorem kT_enc (x : Int × List Ex) : kT.enc x = .cptr (.int .u64 x.1 :: encXs x.2) 0 := rfl
@[simp] theorem kT_dec (s : Int) (r : List V) : kT.dec (.cptr (.int .u64 s :: r) 0) = (decXs r).map (s, ·) := rfl
/-! ### How many nodes there would be -/
mutual
def cuE (s : Nat) (l : List Ex) (b : Nat) : Ex → Nat → Nat
  | .mk k i m, n => if k = 1 ∧ hasB (ndiff s b) i = true then n + min (cntE (l.getD i.toNat ex0)) 1001 else cuL s l (if k = 7 ∨ k = 10 then withN b i else b) m (n + 1)
def cuL (s : Nat) (l : List Ex) (b : Nat) : List Ex → Nat → Nat
  | [], n => n
  | e :: m, n => if 1000 < n then n else cuL s l b m (cuE s l b e n)
end
theorem ok_wWith : PureOk Tryd.prog 69 gWith := by
  intro args r h
  obtain ⟨s, n, rfl, hr⟩ := f2_inv h; clear h
  split at hr
  · rename_i hs
    cases hr
    obtain ⟨s, rfl, hb⟩ := u64_of hs
    simp only [Int.toNat_natCast] at *
    have hE := ((EnvOk.nil (P := Tryd.prog) (eq := fun _ => false) (own := fun _ => false) (mem := fun _ => false) EqOk.none).addf ok_wBit)
    refine ⟨⟨Tryd.f69, Tryd.func69, by decide, rfl⟩, pure_of_T Tryd.func69 rfl (by simp [Tryd.ntmps69]) fun q => ?_⟩
    by_cases c : 0 ≤ n ∧ n < 64
    · have hv : bitV n = .tup [.int .u64 (pw n.toNat : Nat), .bool true] := by unfold bitV; rw [if_pos c]
      have hh : Hold (withN s n = s ||| pw n.toNat) := by unfold Hold withN; rw [if_pos c]
      have ha := bits_or (k := .u64) rfl (a := s) (b := pw n.toNat) (by simpa [IntKind.bits] using hb) (by simpa [IntKind.bits] using pw_lt (n := n.toNat) (by omega))
      clear c
      repeat' (first | (with_reducible refine T.sq fun K hK => ?_) | ((first | ((with_reducible refine T.reg hE ?hd ?_); (case hd => kernel_rfl)) | ((with_reducible refine T.any hE mixed ?hd ?hok ?_); (case hd => kernel_rfl); (case hok => kernel_rfl))); simp [*]; (repeat' (split; all_goals (rename_i hc; try simp [*])))) | ((with_reducible refine T.ret ?_); refine fin_pure ?_; simp [*]; try (change Hold _)) | (with_reducible refine T.block ?_) | ((with_reducible refine T.skip ?_); simp [*]) | ((with_reducible refine T.exit ?_); simp [*]) | ((with_reducible refine T.br fun K1 K2 hK1 hK2 => ?_); simp [*]; try ((refine Br.intro (fun hc => ?_) (fun hc => ?_)) <;> (try simp at hc))) | (with_reducible refine Cont.go (by assumption) _ ?_) | (with_reducible refine Cnt.go (by assumption) ?_))
      all_goals (unfold Hold at *; rw [hh])
    · have hv : bitV n = .tup [.int .u64 0, .bool false] := by unfold bitV; rw [if_neg c]
      have hh : Hold (withN s n = s) := by unfold Hold withN; rw [if_neg c]
      have ha := bits_or (k := .u64) rfl (a := s) (b := 0) (by simpa [IntKind.bits] using hb) (by simp [IntKind.bits])
      rw [show ((0 : Nat) : Int) = 0 from rfl, Nat.or_zero] at ha
      clear c
      repeat' (first | (with_reducible refine T.sq fun K hK => ?_) | ((first | ((with_reducible refine T.reg hE ?hd ?_); (case hd => kernel_rfl)) | ((with_reducible refine T.any hE mixed ?hd ?hok ?_); (case hd => kernel_rfl); (case hok => kernel_rfl))); simp [*]; (repeat' (split; all_goals (rename_i hc; try simp [*])))) | ((with_reducible refine T.ret ?_); refine fin_pure ?_; simp [*]; try (change Hold _)) | (with_reducible refine T.block ?_) | ((with_reducible refine T.skip ?_); simp [*]) | ((with_reducible refine T.exit ?_); simp [*]) | ((with_reducible refine T.br fun K1 K2 hK1 hK2 => ?_); simp [*]; try ((refine Br.intro (fun hc => ?_) (fun hc => ?_)) <;> (try simp at hc))) | (with_reducible refine Cont.go (by assumption) _ ?_) | (with_reducible refine Cnt.go (by assumption) ?_))
      all_goals (unfold Hold at *; rw [hh])
  · cases hr
def okCu (e : Ex) (s : Int) (l : List Ex) (b n : Int) : Prop := allX e = true ∧ isU64 s ∧ l.length = 64 ∧ isU64 b ∧ 0 ≤ n ∧ n ≤ 1000
noncomputable instance (e : Ex) (s : Int) (l : List Ex) (b n : Int) : Decidable (okCu e s l b n) := Classical.propDecidable _
@[simp] noncomputable def gCount : List V → Option V := f4 kE kT (kI .u64) (kI .i64) fun e t b n => if okCu e t.1 t.2 b n then some (.int .i64 (cuE t.1.toNat t.2 b.toNat e n.toNat : Nat)) else none
end Go.Proofs.YtaacfmakfkaddaaDoor.Ax
