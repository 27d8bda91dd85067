/- Contracts: Which; SchemaParts, SchemaWhich. -/
import Derived.Test.YtibfdebhbibfpaaGreatDxM
set_option linter.unusedVariables false
set_option linter.unusedSimpArgs false
namespace Go.Proofs.YtibfdebhbibfpaaGreat.Ax
open Go Go.Proofs

def okPP (p q : List Ex × Int) : Prop := p = q ∧ p.1.length ≤ 1000
noncomputable instance (p q : List Ex × Int) : Decidable (okPP p q) := Classical.propDecidable _
@[simp] noncomputable def gSameP : List V → Option V := f2 kPa kPa fun p q => if okPP p q then some (.bool true) else none
set_option maxHeartbeats 1000000 in
theorem ok_sameP : PureOk Tryz.prog 24 gSameP := by
  intro args r h
  obtain ⟨⟨l, x⟩, p2, rfl, hr⟩ := f2_inv h; clear h
  split at hr
  · rename_i hm
    obtain ⟨rfl, hl⟩ := hm
    simp only at hl
    cases hr
    have hE := ((EnvOk.nil (P := Tryz.prog) (eq := fun _ => false) (own := fun _ => false) (mem := fun _ => false) EqOk.none).addf ok_rLike)
    refine ⟨⟨Tryz.f24, Tryz.func24, by decide, rfl⟩, pure_of_T Tryz.func24 rfl (by simp [Tryz.ntmps24]) fun q => ?_⟩
    repeat' (first
      | (with_reducible refine T.sq fun K hK => ?_)
      | ((first | ((with_reducible refine T.reg hE ?hd ?_); (case hd => kernel_rfl)) | ((with_reducible refine T.any hE mixed ?hd ?hok ?_); (case hd => kernel_rfl); (case hok => kernel_rfl))); simp [*]; (repeat' (split; all_goals (rename_i hc; try simp [*]))))
      | ((with_reducible refine T.ret ?_); refine fin_pure ?_; simp [*]; try (change Hold _))
      | (with_reducible refine T.block ?_)
      | ((with_reducible refine T.skip ?_); simp [*])
      | ((with_reducible refine T.exit ?_); simp [*])
      | ((with_reducible refine T.br fun K1 K2 hK1 hK2 => ?_); simp [*]; try ((refine Br.intro (fun hc => ?_) (fun hc => ?_)) <;> (try simp at hc)))
      | (with_reducible refine Cont.go (by assumption) _ ?_)
      | (with_reducible refine Cnt.go (by assumption) ?_))
    refine T.loop (fun n σ => ∃ j : Nat, n = l.length - j ∧ σ.get 2 = .ptr (0 :: 4 :: q) 0 ∧ σ.M (0 :: 4 :: q) = some (.cells [.sl (encL l) .no, .int .i64 x]) ∧ σ.get 3 = .ptr (0 :: 5 :: q) 0 ∧ σ.M (0 :: 5 :: q) = some (.cells [.sl (encL l) .no, .int .i64 x]) ∧ σ.get 22 = .int .i64 l.length ∧ σ.get 23 = .int .i64 j ∧ j ≤ l.length) l.length ⟨0, by simp, by simp [*], by simp [*], by simp [*], by simp [*], by simp [*], by simp [*], by omega⟩ ?_
    rintro n σ ⟨j, rfl, g1, m1, g2, m2, g3, g4, g5⟩
    by_cases hj : j < l.length
    · have hw : IntKind.i64.wrap ((j : Int) + 1) = (j : Int) + 1 := wrap64 (by omega) (by omega)
      have ho := ordE_self l[j]
      repeat' (first
        | (with_reducible refine T.sq fun K hK => ?_)
        | ((first | ((with_reducible refine T.reg hE ?hd ?_); (case hd => kernel_rfl)) | ((with_reducible refine T.any hE mixed ?hd ?hok ?_); (case hd => kernel_rfl); (case hok => kernel_rfl))); simp [*]; (repeat' (split; all_goals (rename_i hc; try simp [*]))))
        | ((with_reducible refine T.ret ?_); refine fin_pure ?_; simp [*]; try (change Hold _))
        | (with_reducible refine T.block ?_)
        | ((with_reducible refine T.skip ?_); simp [*])
        | ((with_reducible refine T.exit ?_); simp [*])
        | ((with_reducible refine T.br fun K1 K2 hK1 hK2 => ?_); simp [*]; try ((refine Br.intro (fun hc => ?_) (fun hc => ?_)) <;> (try simp at hc)))
        | (with_reducible refine Cont.go (by assumption) _ ?_)
        | (with_reducible refine Cnt.go (by assumption) ?_))
      exact ⟨_, by omega, j + 1, rfl, by omega, by omega⟩
    · have w8 : j = l.length := by omega
      subst w8
      repeat' (first
        | (with_reducible refine T.sq fun K hK => ?_)
        | ((first | ((with_reducible refine T.reg hE ?hd ?_); (case hd => kernel_rfl)) | ((with_reducible refine T.any hE mixed ?hd ?hok ?_); (case hd => kernel_rfl); (case hok => kernel_rfl))); simp [*]; (repeat' (split; all_goals (rename_i hc; try simp [*]))))
        | ((with_reducible refine T.ret ?_); refine fin_pure ?_; simp [*]; try (change Hold _))
        | (with_reducible refine T.block ?_)
        | ((with_reducible refine T.skip ?_); simp [*])
        | ((with_reducible refine T.exit ?_); simp [*])
        | ((with_reducible refine T.br fun K1 K2 hK1 hK2 => ?_); simp [*]; try ((refine Br.intro (fun hc => ?_) (fun hc => ?_)) <;> (try simp at hc)))
        | (with_reducible refine Cont.go (by assumption) _ ?_)
        | (with_reducible refine Cnt.go (by assumption) ?_))
  · cases hr
def okSI (l m : List Int) : Prop := l = m ∧ l.length ≤ 1000
noncomputable instance (l m : List Int) : Decidable (okSI l m) := Classical.propDecidable _
@[simp] noncomputable def gSameI : List V → Option V := f2 (kIs .i64) (kIs .i64) fun l m => if okSI l m then some (.bool true) else none
/-! ### Which -/
def whN (e : Ex) : Nat → List Int
  | 0 => []
  | j + 1 => whN e j ++ (if validB ((j : Int) + 1) e = true then [(j : Int) + 1] else [])
def whV (e : Ex) : V := if wantF e = 0 then .tup [.sl (encI .i64 (whN e 7)) .no, .int .i64 0] else .tup [.sl [] .no, .int .i64 (wantF e)]
@[simp] def gWhich : List V → Option V := f1 kE fun e => some (whV e)
theorem gs_len (k : Int) (e : Ex) : (gs k e).1.length ≤ 1000 := by
  unfold gs
  repeat' split
  all_goals simp
set_option maxHeartbeats 1000000 in
theorem ok_SchemaParts : PureOk Tryz.prog 6 (f2 (kI .i64) kE fun _ _ => some (.bool true)) := by
  intro args r h
  obtain ⟨k, e, rfl, ⟨⟩⟩ := f2_inv h; clear h
  have hE := ((((((EnvOk.nil (P := Tryz.prog) (eq := fun _ => false) (own := fun _ => false) (mem := fun _ => false) EqOk.none).addf ok_PartsS).addf ok_rPartsS).addf ok_IsS).addf ok_rIsS).addf ok_sameP)
  refine ⟨⟨Tryz.f6, Tryz.func6, by decide, rfl⟩, pure_of_T Tryz.func6 rfl (by simp [Tryz.ntmps6]) fun q => ?_⟩
  obtain ⟨l, x, n, hp, hl⟩ : ∃ l x n, ptRes k e = .tup [.agg [.sl (encL l) .no, .int .i64 x], .int .i64 n] ∧ l.length ≤ 1000 := by
    refine ⟨_, _, _, rfl, ?_⟩
    unfold ptP; split
    · exact gs_len k e
    · simp
  obtain ⟨b, m, hi⟩ : ∃ b m, isR k e = .tup [.bool b, .int .i64 m] := ⟨_, _, rfl⟩
  have hok : okPP (l, x) (l, x) := ⟨rfl, hl⟩
  repeat' (first
    | (with_reducible refine T.sq fun K hK => ?_)
    | ((first | ((with_reducible refine T.reg hE ?hd ?_); (case hd => kernel_rfl)) | ((with_reducible refine T.any hE mixed ?hd ?hok ?_); (case hd => kernel_rfl); (case hok => kernel_rfl))); simp [*]; (repeat' (split; all_goals (rename_i hc; try simp [*]))))
    | ((with_reducible refine T.ret ?_); refine fin_pure ?_; simp [*]; try (change Hold _))
    | (with_reducible refine T.block ?_)
    | ((with_reducible refine T.skip ?_); simp [*])
    | ((with_reducible refine T.exit ?_); simp [*])
    | ((with_reducible refine T.br fun K1 K2 hK1 hK2 => ?_); simp [*]; try ((refine Br.intro (fun hc => ?_) (fun hc => ?_)) <;> (try simp at hc)))
    | (with_reducible refine Cont.go (by assumption) _ ?_)
    | (with_reducible refine Cnt.go (by assumption) ?_))
  all_goals (unfold Hold; first | rfl | (simp [*]; done))
end Go.Proofs.YtibfdebhbibfpaaGreat.Ax
